/-
  Fx, part 7: the pure operations, one by one.
-/
import Derived.Test.YtlfffpkfipdboaaDoorFxOps
import Derived.Laws.Runes
set_option linter.unusedSimpArgs false
set_option linter.unusedVariables false
namespace Go.Fx
theorem cell_own {w : World} {b : Nat} {c : Array Value} {ty : TypeId} (h : w.heap[b]? = some (.cells c ty (0, 0))) {j : Nat} : w.cell? ⟨b, j, none⟩ = c[j]? := by
  simp [World.cell?, h]
/-- What is read behind an address. -/
theorem SV.ld_rel {P : Program} {t : TypeId} {d : TypeDesc} {i : TypeInfo} (hu : P.underlying t = some d) (hi : P.info? t = some i) (h1 : isAggT P t = false → P.cellsOf t = 1)
    {B : Base} {ρ : Env} {h : Heap} {own : List OB} {w : World} (s : Sat B ρ h own w) {x : SV} {v : Value} (hx : x.rel ρ h v) (hp : (x.ld own (isAggT P t) (P.cellsOf t)).1) :
    ∃ u, (Instr.loadAt t v).run P w = .ok u w ∧ (x.ld own (isAggT P t) (P.cellsOf t)).2.rel ρ h u := by
  cases x
  case p x => exact PV.ld_rel hu hi h1 s.sub hx hp
  case ptr id off =>
    obtain ⟨b, h2, rfl⟩ := hx
    simp only [SV.ld] at hp ⊢
    split at hp
    · rename_i ty cs e
      obtain ⟨b', c, e', h3, h4⟩ := (s.look h2 e (by simp)).2
      cases e'
      have ho : off + P.cellsOf t ≤ cs.length := hp
      obtain ⟨l1, l2⟩ := SV.relL_get h4
      dsimp only
      refine ⟨_, loadAt_run hu hi h1 (vs := (c.toList.drop off).take (P.cellsOf t)) (by rw [List.length_take, List.length_drop]; omega) (fun j' v' e => ?_), ?_⟩
      · have hlt : j' < P.cellsOf t := by
          have := (List.getElem?_eq_some_iff.1 e).1
          rw [List.length_take] at this
          omega
        rw [take_drop_get hlt] at e
        rw [cell_own h3]
        simpa using e
      · split
        · refine aggS_rel (SV.relL_of (by rw [List.length_take, List.length_drop, List.length_take, List.length_drop, l1]) fun j' x v' a b => ?_)
          have hlt : j' < P.cellsOf t := by
            have := (List.getElem?_eq_some_iff.1 b).1
            rw [List.length_take] at this
            omega
          rw [take_drop_get hlt] at a b
          exact l2 _ _ _ a b
        · rename_i hb
          have hb : isAggT P t = false := by simpa using hb
          have e1 := h1 hb
          rw [e1] at ho ⊢
          have hlt : off < c.toList.length := by omega
          have hlt' : off < cs.length := by omega
          refine l2 off _ _ (getD_some _ hlt') ?_
          rw [List.getD_eq_getElem?_getD, take_drop_get (by omega), Nat.add_zero, List.getElem?_eq_getElem hlt]
          rfl
    · exact hp.elim
  case rptr id w0 j o =>
    obtain ⟨b, len, cap, h2, rfl⟩ := hx
    simp only [SV.ld] at hp ⊢
    split at hp
    · rename_i ty k nil ex l e
      obtain ⟨ha, rfl, rfl, hj⟩ := hp
      dsimp only
      rcases (s.look h2 e (by simp)).2 with ⟨_, _, e'⟩ | ⟨hn, b', c, cap', e', h3, h4, h5, h6, h7⟩
      · cases e'
      cases e'
      refine ⟨_, loadAt_run hu hi h1 (vs := [.int k (l.getD j 0)]) (by simp [h1 ha]) (fun j' v' e => ?_), ?_⟩
      · cases j' with
        | zero => cases e; rw [cell_own h5]; rw [← h7 j hj]; congr 1; omega
        | succ => simp at e
      · simp [ha, SV.rel, PV.rel]
    · rename_i ty w' nil ex es e
      obtain ⟨rfl, hj, ho⟩ := hp
      dsimp only
      rcases (s.look h2 e (by simp)).2 with ⟨_, _, e'⟩ | ⟨hn, b', c, cap', vs, e', h3, h4, h5, h6, h7, h8⟩
      · cases e'
      cases e'
      obtain ⟨u, g1, g2, g3⟩ := PV.relE_get j h7 hj
      have hcs := PV.cells_rel g1
      obtain ⟨l1, l2⟩ := PV.relL_get hcs
      have hul : u.cells.toList.length = w0 := by simpa using g2
      refine ⟨_, loadAt_run hu hi h1 (vs := (u.cells.toList.drop o).take (P.cellsOf t)) (by rw [List.length_take, List.length_drop, hul]; omega) (fun j' v' e => ?_), ?_⟩
      · have hlt : j' < P.cellsOf t := by
          have := (List.getElem?_eq_some_iff.1 e).1
          rw [List.length_take] at this
          omega
        rw [take_drop_get hlt] at e
        rw [cell_own h5, show j * w0 + o + j' = j * w0 + (o + j') by omega]
        exact h8 _ _ (g3 _ _ e)
      · simp only [SV.rel]
        split
        · refine ⟨_, rfl, PV.relL_of (by rw [List.length_take, List.length_drop, List.length_take, List.length_drop, l1]) fun j' x v' a b => ?_⟩
          have hlt : j' < P.cellsOf t := by
            have := (List.getElem?_eq_some_iff.1 b).1
            rw [List.length_take] at this
            omega
          rw [take_drop_get hlt] at a b
          exact l2 _ _ _ a b
        · rename_i hb
          have hb : isAggT P t = false := by simpa using hb
          have e1 := h1 hb
          rw [e1] at ho ⊢
          have hlt : o < u.cells.toList.length := by omega
          have hlt' : o < (es.getD j .nilSl).cells.length := by omega
          refine l2 o _ _ (getD_some _ hlt') ?_
          rw [List.getD_eq_getElem?_getD, take_drop_get (by omega), Nat.add_zero, List.getElem?_eq_getElem hlt]
          rfl
    · exact hp.elim
  all_goals exact hp.elim
def pvVal : PV → Value
  | .int k n => .int k n
  | .bool b => .bool b
  | _ => undef
theorem binOp_int {P : Program} {op : BinOp} {t : TypeId} {k k' : IntKind} {a b : Int} (w : World) (hsh : op ≠ .shl ∧ op ≠ .shr) (hk : k = k') (hp : (binV op k a b).1) :
    ∃ u, (binOp op t (.int k a) (.int k' b)).run P w = .ok u w ∧ ∀ h, (binV op k a b).2.rel h u := by
  subst hk
  refine ⟨pvVal (binV op k a b).2, ?_, fun h => ?_⟩
  · cases op <;> simp at hsh <;> simp only [binV] at hp <;> simp [binOp, Op.intArith, Op.intBits, Op.intCmp, Op.intDiv, binV, bAnd, bOr, bXor, bAndNot, pvVal, hp]
  · cases op <;> simp at hsh <;> rfl
theorem binOp_sh {P : Program} {op : BinOp} {t : TypeId} {k k' : IntKind} {a b : Int} (w : World) (hsh : op = .shl ∨ op = .shr) (hp : (shV op k a b).1) :
    ∃ u, (binOp op t (.int k a) (.int k' b)).run P w = .ok u w ∧ ∀ h, (shV op k a b).2.rel h u := by
  refine ⟨pvVal (shV op k a b).2, ?_, fun h => ?_⟩
  · rcases hsh with rfl | rfl
    · have hb : ¬ b < 0 := by simp only [shV] at hp; omega
      simp [binOp, Op.shift, hb, shV, pvVal]
    · have hb : ¬ b < 0 := by simp only [shV] at hp; omega
      simp only [binOp, Op.shift, hb, shV, pvVal, if_false, Sem.run_pure]
      rw [Int.fdiv_eq_ediv_of_nonneg _ (Int.pow_nonneg (by decide))]
  · rcases hsh with rfl | rfl <;> rfl
theorem eqGuard_int {P : Program} {op : BinOp} {t : TypeId} {x y : Operand} {k k' : IntKind} {a b : Int} (w : World) : (eqGuard op t x y (.int k a) (.int k' b)).run P w = .ok () w := by
  unfold eqGuard; cases op <;> simp
theorem eqGuard_bool {P : Program} {op : BinOp} {t : TypeId} {x y : Operand} {a b : Bool} (w : World) : (eqGuard op t x y (.bool a) (.bool b)).run P w = .ok () w := by
  unfold eqGuard; cases op <;> simp
theorem eqGuard_str {P : Program} {op : BinOp} {t : TypeId} {x y : Operand} {a b : ByteArray} (w : World) : (eqGuard op t x y (.string a) (.string b)).run P w = .ok () w := by
  unfold eqGuard; cases op <;> simp
theorem eqGuard_slice {P : Program} {op : BinOp} {t : TypeId} {x y : Operand} {a b : Option Addr} {l c l' c' : Nat} (w : World) : (eqGuard op t x y (.slice a l c) (.slice b l' c')).run P w = .ok () w := by
  unfold eqGuard; cases op <;> simp
theorem bin_run {P : Program} {op : BinOp} {t : TypeId} {x y : Operand} {u v r : Value} {w : World} (hg : (eqGuard op t x y u v).run P w = .ok () w) (hb : (binOp op t u v).run P w = .ok r w) :
    (do eqGuard op t x y u v; binOp op t u v : Sem Value).run P w = .ok r w := by
  simp only [Sem.run_bind, hg, Result.andThen_ok, hb]
theorem toNat_inj {a b : List UInt8} (h : a.map (fun b => (b.toNat : Int)) = b.map (fun b => (b.toNat : Int))) : a = b := by
  induction a generalizing b with
  | nil => cases b with
    | nil => rfl
    | cons => simp at h
  | cons x a ih => cases b with
    | nil => simp at h
    | cons y b =>
      simp only [List.map_cons, List.cons.injEq] at h
      obtain ⟨h1, h2⟩ := h
      have h3 : x = y := UInt8.toNat_inj.1 (by omega)
      rw [ih h2, h3]
theorem binOp_str {P : Program} {op : BinOp} {t : TypeId} {p q : Operand} {a b : List Int} {x y : Value} {h : Heap} (w : World) (hx : (PV.str a).rel h x) (hy : (PV.str b).rel h y) (hp : (strV op a b).1) :
    ∃ u, (do eqGuard op t p q x y; binOp op t x y : Sem Value).run P w = .ok u w ∧ (strV op a b).2.rel h u := by
  obtain ⟨s, rfl, rfl⟩ := hx
  obtain ⟨r, rfl, rfl⟩ := hy
  have heq : (s.toList == r.toList) = (s.data.toList.map (fun b => (b.toNat : Int)) == r.data.toList.map (fun b => (b.toNat : Int))) := by
    rw [ByteArray.toList_eq, ByteArray.toList_eq, Bool.eq_iff_iff, beq_iff_eq, beq_iff_eq]
    exact ⟨fun e => by rw [e], toNat_inj⟩
  cases op <;> simp only [strV] at hp
  case add =>
    refine ⟨.string (s ++ r), bin_run (eqGuard_str w) ?_, s ++ r, rfl, ?_⟩
    · have : ¬ ((s.size + r.size : Nat) : Int) > IntKind.i64.max := by
        have h1 : s.data.toList.length = s.size := rfl
        have h2 : r.data.toList.length = r.size := rfl
        simp only [List.length_map, h1, h2] at hp
        have : IntKind.i64.max = 9223372036854775807 := by decide
        rw [this]; omega
      simp only [binOp, Op.stringOp, if_neg this, Sem.run_pure]
    · simp
  case eql => exact ⟨_, bin_run (eqGuard_str w) (by simp only [binOp, Op.stringOp, Sem.run_pure]; rfl), by rw [heq]; rfl⟩
  case neq => exact ⟨_, bin_run (eqGuard_str w) (by simp only [binOp, Op.stringOp, Sem.run_pure]; rfl), by rw [heq]; rfl⟩
  all_goals exact hp.elim
theorem OpdsOk.rel {ρ : Env} {h : Heap} {e : Opd → SV} {ev : Operand → Value} : ∀ {xs : List Operand} {ys : List Opd}, OpdsOk xs ys → (∀ x y, OpdOk x y → y ∈ ys → (e y).rel ρ h (ev x)) →
    SV.relL ρ h (ys.map e) (xs.map ev)
  | _, _, .nil, _ => rfl
  | _, _, .cons a b, g => ⟨_, _, rfl, g _ _ a (List.mem_cons_self ..), OpdsOk.rel b fun x y hxy hy => g x y hxy (List.mem_cons_of_mem _ hy)⟩
theorem fieldAt_run {P : Program} {s : TypeId} {fs : Array Field} {j : Nat} {f : Field} {i : TypeInfo} (hu : P.underlying s = some (.struct fs)) (hf : fs[j]? = some f)
    (hi : P.info? f.type = some i) (hn : P.cellsOf f.type ≠ 0) (w : World) (b o : Nat) :
    (Instr.fieldAt s (.pointer (some ⟨b, o, none⟩)) j).run P w = .ok (.pointer (some ⟨b, o + f.offset, none⟩)) w := by
  simp only [Instr.fieldAt, Sem.run_bind, run_underlying hu, Result.andThen_ok, hf, Instr.sureAddr, Sem.run_pure, fieldPlace, run_sizeOf w hi, if_neg hn, addOff]
theorem indexAt_run {P : Program} {t e : TypeId} {d : TypeInfo} (hu : P.underlying t = some (.slice e)) (hi : P.info? e = some d) (w : World) {k : IntKind} {n : Int} {b o l c : Nat}
    (h0 : 0 ≤ n) (h1 : n < l) :
    (Instr.indexAt t (.slice (some ⟨b, o, none⟩) l c) (.int k n)).run P w = .ok (.pointer (some ⟨b, o + n.toNat * P.cellsOf e, none⟩)) w := by
  simp only [Instr.indexAt, Sem.run_bind, asIntOf, Sem.run_pure, Result.andThen_ok, run_underlying hu, h0, h1, and_self, if_true, run_sizeOf w hi, addOff]
theorem equalIn_bool {P : Program} {t : TypeId} (hu : P.underlying t = some .bool) (w : World) (a b : Bool) (d : Nat) : (Op.equalIn (d + 1) t (.bool a) (.bool b)).run P w = .ok (a == b) w := by
  simp only [Op.equalIn, Sem.run_bind, run_underlying hu, Result.andThen_ok, Sem.run_pure]
theorem equal_bool {P : Program} {t : TypeId} (hu : P.underlying t = some .bool) (w : World) (a b : Bool) : (Op.equal t (.bool a) (.bool b)).run P w = .ok (a == b) w :=
  equalIn_bool hu w a b 9999
theorem equalIn_slice {P : Program} {t el : TypeId} (hu : P.underlying t = some (.slice el)) (w : World) {x y : Option Addr} (l c l' c' : Nat) (hn : x = none ∨ y = none) (d : Nat) :
    (Op.equalIn (d + 1) t (.slice x l c) (.slice y l' c')).run P w = .ok (x.isNone == y.isNone) w := by
  cases x <;> cases y <;> simp at hn <;> simp only [Op.equalIn, Sem.run_bind, run_underlying hu, Result.andThen_ok, Sem.run_pure] <;> rfl
theorem equal_slice {P : Program} {t el : TypeId} (hu : P.underlying t = some (.slice el)) (w : World) {x y : Option Addr} (l c l' c' : Nat) (hn : x = none ∨ y = none) :
    (Op.equal t (.slice x l c) (.slice y l' c')).run P w = .ok (x.isNone == y.isNone) w := equalIn_slice hu w l c l' c' hn 9999
theorem binOp_bool {P : Program} {t : TypeId} (hu : P.underlying t = some .bool) (w : World) (a b neg : Bool) :
    (binOp (if neg = true then .neq else .eql) t (.bool a) (.bool b)).run P w = .ok (.bool (if neg then !(a == b) else a == b)) w := by
  cases neg
  · show (binOp .eql t (.bool a) (.bool b)).run P w = _
    simp only [binOp, Sem.run_bind, equal_bool hu, Result.andThen_ok, Sem.run_pure]; rfl
  · show (binOp .neq t (.bool a) (.bool b)).run P w = _
    simp only [binOp, Sem.run_bind, equal_bool hu, Result.andThen_ok, Sem.run_pure]; rfl
theorem binOp_slice {P : Program} {t el : TypeId} (hu : P.underlying t = some (.slice el)) (w : World) {x y : Option Addr} (l c l' c' : Nat) (hn : x = none ∨ y = none) (neg : Bool) :
    (binOp (if neg = true then .neq else .eql) t (.slice x l c) (.slice y l' c')).run P w = .ok (.bool (if neg then !(x.isNone == y.isNone) else x.isNone == y.isNone)) w := by
  cases neg
  · show (binOp .eql t _ _).run P w = _
    simp only [binOp, Sem.run_bind, equal_slice hu w l c l' c' hn, Result.andThen_ok, Sem.run_pure]; rfl
  · show (binOp .neq t _ _).run P w = _
    simp only [binOp, Sem.run_bind, equal_slice hu w l c l' c' hn, Result.andThen_ok, Sem.run_pure]; rfl
/-- What a nil that is known says of a slice's value. -/
theorem SV.nil_slice {B : Base} {ρ : Env} {h : Heap} {own : List OB} {w : World} (s : Sat B ρ h own w) {x : SV} {v : Value} (hx : x.rel ρ h v) {n : Bool} (hn : x.isSl own = some n) :
    ∃ a l c, v = .slice a l c ∧ n = a.isNone := by
  cases x
  case p x =>
    simp only [SV.isSl] at hn
    cases x <;> simp only [PV.isSl, Option.some.injEq] at hn <;> first | (cases hn; done) | skip
    case isl nil ex k l' =>
      subst hn
      obtain ⟨a', cap, e, h1, h2, h3, h4⟩ := hx
      refine ⟨_, _, _, e, ?_⟩
      cases a' <;> cases nil <;> simp_all
    case sl nil ex w es =>
      subst hn
      obtain ⟨a', cap, e, h1, h2, h3, h4⟩ := hx
      refine ⟨_, _, _, e, ?_⟩
      cases a' <;> cases nil <;> simp_all
    case nilSl => subst hn; exact ⟨_, _, _, hx, rfl⟩
  case row id =>
    simp only [SV.isSl] at hn
    cases e : own.getD id .gone <;> rw [e] at hn <;> simp only [OB.isNil, Option.some.injEq] at hn <;> first | (cases hn; done) | skip
    case irow ty k nil ex l' =>
      subst hn
      rcases (s.look hx.1 e (by simp)).2 with ⟨h1, h2, h3⟩ | ⟨h1, b, c', cap, h3, _⟩
      · exact ⟨_, _, _, h3, by simp [h1]⟩
      · exact ⟨_, _, _, h3, by simp [h1]⟩
    case row ty k nil ex l' =>
      subst hn
      rcases (s.look hx.1 e (by simp)).2 with ⟨h1, h2, h3⟩ | ⟨h1, b, c', cap, vs, h3, _⟩
      · exact ⟨_, _, _, h3, by simp [h1]⟩
      · exact ⟨_, _, _, h3, by simp [h1]⟩
  all_goals cases hn
/-- **The pure operations do what pev says.** -/
theorem pev_sound {P : Program} {B : Base} {ρ : Env} {h : Heap} {own : List OB} {w : World} (s : Sat B ρ h own w) {o : Oper} {io : Ins} (hc : Comp P o.op io) (hpure : io.calm = true)
    {e : Opd → SV} {a : Act} (he : ∀ x y, OpdOk x y → y ∈ io.opds → (e y).rel ρ h (a.eval x)) (hp : (pev own e io).1) :
    ∃ v, (execOp a.eval o).run P w = .ok (.value v) w ∧ (pev own e io).2.rel ρ h v := by
  obtain ⟨dst, op, type, pos, after, guard⟩ := o
  dsimp only at hc
  cases hc <;> simp only [Ins.calm] at hpure <;> first | (cases hpure; done) | skip
  case move x y hx => exact ⟨_, rfl, he _ _ hx (by simp [Ins.opds])⟩
  case mkI2 t x x' d hu hn hx =>
    have gx := he _ _ hx (by simp [Ins.opds])
    simp only [pev] at hp ⊢
    split at hp
    · rename_i y e1
      rw [e1] at gx
      refine ⟨.iface t (a.eval x), ans_v ?_, ⟨_, rfl, gx⟩⟩
      simp only [Instr.makeInterface, Sem.run_bind, run_underlying hu, Result.andThen_ok]
      cases d <;> first | exact absurd rfl (hn _) | rfl
    · exact hp.elim
  case assign x y hx => exact ⟨_, rfl, he _ _ hx (by simp [Ins.opds])⟩
  case load t x y i d hu hi h1 hx =>
    obtain ⟨u, g1, g2⟩ := SV.ld_rel hu hi h1 s (he _ _ hx (by simp [Ins.opds])) hp
    exact ⟨u, ans_v g1, g2⟩
  case bin op t x y yt x' y' k hu hx hy =>
    have gx := he _ _ hx (by simp [Ins.opds])
    have gy := he _ _ hy (by simp [Ins.opds])
    simp only [pev] at hp ⊢
    split at hp
    · rename_i k1 a1 k2 b1 e1 e2
      rw [e1] at gx; rw [e2] at gy
      have gx' : a.eval x = .int k1 a1 := gx
      have gy' : a.eval y = .int k2 b1 := gy
      rw [show execOp a.eval ⟨dst, .binOp op t x y yt, type, pos, after, guard⟩ = (do pure (Next.value (← (do eqGuard op t x y (a.eval x) (a.eval y); binOp op t (a.eval x) (a.eval y) : Sem Value))) : Sem Next) from rfl, gx', gy']
      by_cases hsh : op = .shl ∨ op = .shr
      · have hp' : (shV op k1 a1 b1).1 := by rcases hsh with rfl | rfl <;> exact hp
        obtain ⟨u, g1, g2⟩ := binOp_sh (P := P) (t := t) (k' := k2) w hsh hp'
        refine ⟨u, ans_v (bin_run (eqGuard_int w) g1), ?_⟩
        rcases hsh with rfl | rfl <;> exact g2 h
      · have hsh' : op ≠ .shl ∧ op ≠ .shr := ⟨fun e => hsh (.inl e), fun e => hsh (.inr e)⟩
        have hp' : k1 = k2 ∧ (binV op k1 a1 b1).1 := by cases op <;> simp at hsh' <;> exact hp
        obtain ⟨u, g1, g2⟩ := binOp_int (P := P) (t := t) w hsh' hp'.1 hp'.2
        refine ⟨u, ans_v (bin_run (eqGuard_int w) g1), ?_⟩
        cases op <;> simp at hsh' <;> exact g2 h
    · exact hp.elim
  case binB t x y yt x' y' hu hx hy neg =>
    have gx := he _ _ hx (by simp [Ins.opds])
    have gy := he _ _ hy (by simp [Ins.opds])
    simp only [pev] at hp ⊢
    split at hp
    · rename_i a1 b1 e1 e2
      rw [e1] at gx; rw [e2] at gy
      have gx' : a.eval x = .bool a1 := gx
      have gy' : a.eval y = .bool b1 := gy
      rw [show execOp a.eval ⟨dst, .binOp (if neg = true then .neq else .eql) t x y yt, type, pos, after, guard⟩ =
        (do pure (Next.value (← (do eqGuard (if neg = true then .neq else .eql) t x y (a.eval x) (a.eval y); binOp (if neg = true then .neq else .eql) t (a.eval x) (a.eval y) : Sem Value))) : Sem Next) from rfl, gx', gy']
      exact ⟨_, ans_v (bin_run (eqGuard_bool w) (binOp_bool hu w a1 b1 neg)), rfl⟩
    · exact hp.elim
  case binS op t x y yt x' y' hu hx hy =>
    have gx := he _ _ hx (by simp [Ins.opds])
    have gy := he _ _ hy (by simp [Ins.opds])
    simp only [pev] at hp ⊢
    split at hp
    · rename_i a1 b1 e1 e2
      rw [e1] at gx; rw [e2] at gy
      obtain ⟨u, g1, g2⟩ := binOp_str (P := P) (t := t) (p := x) (q := y) w gx gy hp
      exact ⟨u, ans_v g1, g2⟩
    · exact hp.elim
  case eqNil t x y yt x' y' el hu hx hy neg =>
    have gx := he _ _ hx (by simp [Ins.opds])
    have gy := he _ _ hy (by simp [Ins.opds])
    simp only [pev] at hp ⊢
    split at hp
    · rename_i n1 n2 e1 e2
      obtain ⟨a1, l1, c1, g1, g2⟩ := SV.nil_slice s gx e1
      obtain ⟨a2, l2, c2, g3, g4⟩ := SV.nil_slice s gy e2
      rw [show execOp a.eval ⟨dst, .binOp (if neg = true then .neq else .eql) t x y yt, type, pos, after, guard⟩ =
        (do pure (Next.value (← (do eqGuard (if neg = true then .neq else .eql) t x y (a.eval x) (a.eval y); binOp (if neg = true then .neq else .eql) t (a.eval x) (a.eval y) : Sem Value))) : Sem Next) from rfl, g1, g3]
      have hn : a1 = none ∨ a2 = none := by
        rcases hp with hp | hp
        · left; rw [hp] at g2; exact Option.isNone_iff_eq_none.1 g2.symm
        · right; rw [hp] at g4; exact Option.isNone_iff_eq_none.1 g4.symm
      refine ⟨_, ans_v (bin_run (eqGuard_slice w) (binOp_slice hu w l1 c1 l2 c2 hn neg)), ?_⟩
      subst g2; subst g4
      exact rfl
    · exact hp.elim
  case un op t x x' hx =>
    have gx := he _ _ hx (by simp [Ins.opds])
    simp only [pev] at hp ⊢
    rw [show execOp a.eval ⟨dst, .unOp op t x, type, pos, after, guard⟩ = (do pure (Next.value (← Op.unary op (a.eval x))) : Sem Next) from rfl]
    split at hp
    · rename_i k n e1
      rw [e1] at gx
      have gx' : a.eval x = .int k n := gx
      rw [gx']
      exact ⟨_, ans_v (by simp only [Op.unary, Op.intArith, Sem.run_pure]), rfl⟩
    · rename_i b e1
      rw [e1] at gx
      have gx' : a.eval x = .bool b := gx
      rw [gx']
      exact ⟨_, ans_v (by simp only [Op.unary, Sem.run_pure]), rfl⟩
    · rename_i k n e1
      rw [e1] at gx
      have gx' : a.eval x = .int k n := gx
      rw [gx']
      exact ⟨_, ans_v (by simp only [Op.unary, Op.intBits, Sem.run_pure, bXor]), rfl⟩
    · exact hp.elim
  case cvtI sT dT x x' k ds hd hs hx =>
    have gx := he _ _ hx (by simp [Ins.opds])
    simp only [pev] at hp ⊢
    rw [show execOp a.eval ⟨dst, .convert sT dT x, type, pos, after, guard⟩ = (do pure (Next.value (← convert sT dT (a.eval x))) : Sem Next) from rfl]
    split at hp
    · rename_i k1 n e1
      rw [e1] at gx
      have gx' : a.eval x = .int k1 n := gx
      rw [gx']
      exact ⟨_, ans_v (by simp only [convert, Sem.run_bind, run_underlying hs, run_underlying hd, Result.andThen_ok, Conv.intToInt, Sem.run_pure]), rfl⟩
    · exact hp.elim
  case mkFn f caps caps' hx =>
    have gx := OpdsOk.rel (ρ := ρ) (h := h) (e := e) (ev := a.eval) hx fun x y a b => he x y a (by simpa [Ins.opds] using b)
    refine ⟨.func (.func f) #[] (caps.toList.map a.eval).toArray, ?_, ?_⟩
    · simp only [execOp, Instr.makeFunc, Sem.run_bind, Sem.run_pure, Result.andThen_ok, Array.map_empty]
      congr 3
      apply Array.ext'
      simp
    · simp only [pev]
      cases caps' with
      | nil =>
        cases hc : caps.toList with
        | nil => exact ⟨[], rfl, rfl⟩
        | cons => rw [hc] at hx; cases hx
      | cons c cs => exact ⟨_, rfl, gx⟩
  case fldA sT x x' j fs f i hu hf hi hn hx =>
    have gx := he _ _ hx (by simp [Ins.opds])
    simp only [pev] at hp ⊢
    rw [show execOp a.eval ⟨dst, .fieldAddr sT x j, type, pos, after, guard⟩ = (do pure (Next.value (← Instr.fieldAt sT (a.eval x) j)) : Sem Next) from rfl]
    split at hp
    · rename_i id o e1
      rw [e1] at gx
      obtain ⟨b, g1, g2⟩ := gx
      rw [g2]
      exact ⟨_, ans_v (fieldAt_run hu hf hi hn w b o), b, g1, rfl⟩
    · rename_i o cs e1
      rw [e1] at gx
      obtain ⟨b, g1, g2⟩ := gx
      rw [g1]
      exact ⟨_, ans_v (fieldAt_run hu hf hi hn w b o), b, rfl, g2⟩
    · rename_i w0 es i o e1
      rw [e1] at gx
      obtain ⟨b, o0, g1, g2⟩ := gx
      rw [g1]
      exact ⟨_, ans_v (fieldAt_run hu hf hi hn w b _), b, o0, by rw [Nat.add_assoc], g2⟩
    · rename_i id w0 i o e1
      rw [e1] at gx
      obtain ⟨b, l, c, g1, g2⟩ := gx
      rw [g2]
      exact ⟨_, ans_v (fieldAt_run hu hf hi hn w b _), b, l, c, g1, by rw [Nat.add_assoc]⟩
    · exact hp.elim
  case ixA t x i x' i' el d hu hi hx hi' =>
    have gx := he _ _ hx (by simp [Ins.opds])
    have gi := he _ _ hi' (by simp [Ins.opds])
    simp only [pev] at hp ⊢
    rw [show execOp a.eval ⟨dst, .indexAddr t x i, type, pos, after, guard⟩ = (do pure (Next.value (← Instr.indexAt t (a.eval x) (a.eval i))) : Sem Next) from rfl]
    split at hp
    · rename_i nil ex k l k2 n e1 e2
      rw [e1] at gx; rw [e2] at gi
      have gi' : a.eval i = .int k2 n := gi
      obtain ⟨ad, cap, g1, g2, g3, g4, g5, g6⟩ := gx
      obtain ⟨hw, h0, h1⟩ := hp
      cases ad with
      | none => have := g5 rfl; omega
      | some ad =>
        obtain ⟨g7, g8⟩ := g6 ad rfl
        obtain ⟨b, o, sp⟩ := ad
        dsimp only at g7 g8
        have g7 := g7 (by omega)
        subst g7
        rw [g1, gi']
        exact ⟨_, ans_v (indexAt_run hu hi w h0 h1), b, o, by rw [hw, Nat.mul_one], g8⟩
    · rename_i nil ex w' es k2 n e1 e2
      rw [e1] at gx; rw [e2] at gi
      have gi' : a.eval i = .int k2 n := gi
      obtain ⟨ad, cap, g1, g2, g3, g4, g5, vs, g6, g6'⟩ := gx
      obtain ⟨hw, h0, h1⟩ := hp
      cases ad with
      | none => have := g5 rfl; omega
      | some ad =>
        obtain ⟨g7, g8⟩ := g6' ad rfl
        obtain ⟨b, o, sp⟩ := ad
        dsimp only at g7 g8
        have g7 := g7 (by omega)
        subst g7
        rw [g1, gi']
        refine ⟨_, ans_v (indexAt_run hu hi w h0 h1), b, o, by simp, vs, ?_, g8⟩
        rw [hw]; exact g6
    · rename_i id k2 n e1 e2
      rw [e1] at gx; rw [e2] at gi
      have gi' : a.eval i = .int k2 n := gi
      have gx' : ρ[id]? = some (a.eval x) := gx.1
      split at hp
      · rename_i ty k nil ex l e3
        obtain ⟨hw, h0, h1⟩ := hp
        rcases (s.look gx' e3 (by simp)).2 with ⟨_, hl, _⟩ | ⟨hn, b, c, cap, g1, g2⟩
        · subst hl; simp at h1; omega
        · rw [g1, gi']
          refine ⟨_, ans_v (indexAt_run hu hi w h0 h1), b, l.length, cap, by rw [gx', g1], by simp [hw]⟩
      · rename_i ty w' nil ex es e3
        obtain ⟨hw, h0, h1⟩ := hp
        rcases (s.look gx' e3 (by simp)).2 with ⟨_, hl, _⟩ | ⟨hn, b, c, cap, vs, g1, g2⟩
        · subst hl; simp at h1; omega
        · rw [g1, gi']
          refine ⟨_, ans_v (indexAt_run hu hi w h0 h1), b, es.length, cap, by rw [gx', g1], by simp⟩
      · exact hp.elim
    · exact hp.elim
  case ext x x' i hx =>
    have gx := he _ _ hx (by simp [Ins.opds])
    simp only [pev] at hp ⊢
    rw [show execOp a.eval ⟨dst, .extract x i, type, pos, after, guard⟩ = (do pure (Next.value (← Instr.extract (a.eval x) i)) : Sem Next) from rfl]
    split at hp
    · rename_i vs e1
      rw [e1] at gx
      obtain ⟨us, g1, g2⟩ := gx
      obtain ⟨l1, l2⟩ := PV.relL_get g2
      have hi : i < us.length := by have : i < vs.length := hp; omega
      rw [g1]
      exact ⟨us[i], ans_v (by simp [Instr.extract, hi]), l2 i _ _ (getD_some _ hp) (List.getElem?_eq_getElem hi)⟩
    · rename_i vs e1
      rw [e1] at gx
      obtain ⟨us, g1, g2⟩ := gx
      obtain ⟨l1, l2⟩ := SV.relL_get g2
      have hi : i < us.length := by have : i < vs.length := hp; omega
      rw [g1]
      exact ⟨us[i], ans_v (by simp [Instr.extract, hi]), l2 i _ _ (getD_some _ hp) (List.getElem?_eq_getElem hi)⟩
    · exact hp.elim
  case len ats x x' el t ht hu hx =>
    have gx := he _ _ hx (by simp [Ins.opds])
    simp only [pev] at hp ⊢
    have hrun : ∀ {ad : Option Addr} {n c : Nat}, a.eval x = .slice ad n c → (execOp a.eval ⟨dst, .call { callee := .builtin .len, args := #[x], argTypes := ats }, type, pos, after, guard⟩).run P w = .ok (.value (.int .i64 n)) w := by
      intro ad n c e
      simp [execOp, resolve, invoke, builtin, Builtin.len_, ht, e, run_underlying hu, goInt]
    split at hp
    · rename_i e1
      rw [e1] at gx
      obtain ⟨ad, cap, g1, g2⟩ := gx
      exact ⟨_, hrun g1, rfl⟩
    · rename_i e1
      rw [e1] at gx
      obtain ⟨ad, cap, g1, g2⟩ := gx
      exact ⟨_, hrun g1, rfl⟩
    · rename_i e1
      rw [e1] at gx
      exact ⟨_, hrun gx, rfl⟩
    · rename_i id e1
      rw [e1] at gx
      have gx' : ρ[id]? = some (a.eval x) := gx.1
      split at hp
      · rename_i ty k nil ex l e3
        rcases (s.look gx' e3 (by simp)).2 with ⟨_, hl, g1⟩ | ⟨hn, b, c, cap, g1, g2⟩
        · subst hl; exact ⟨_, hrun g1, rfl⟩
        · exact ⟨_, hrun g1, rfl⟩
      · rename_i ty w' nil ex es e3
        rcases (s.look gx' e3 (by simp)).2 with ⟨_, hl, g1⟩ | ⟨hn, b, c, cap, vs, g1, g2⟩
        · subst hl; exact ⟨_, hrun g1, rfl⟩
        · exact ⟨_, hrun g1, rfl⟩
      · exact hp.elim
    · exact hp.elim
  case lenS ats x x' t ht hu hx =>
    have gx := he _ _ hx (by simp [Ins.opds])
    simp only [pev] at hp ⊢
    split at hp
    · rename_i l e1
      rw [e1] at gx
      obtain ⟨b, g1, g2⟩ := gx
      refine ⟨.int .i64 b.size, ?_, ?_⟩
      · simp [execOp, resolve, invoke, builtin, Builtin.len_, ht, g1, run_underlying hu, goInt]
      · rw [g2]; simp [SV.rel, PV.rel]
    · exact hp.elim
  case maxs args args' ats hargs =>
    have gx := OpdsOk.rel (ρ := ρ) (h := h) (e := e) (ev := a.eval) hargs fun x y a b => he x y a b
    simp only [pev] at hp ⊢
    split at hp
    · rename_i k n e1
      have := maxs_run (P := P) w e1 gx ats type
      refine ⟨.int k n, ?_, rfl⟩
      rw [show execOp a.eval ⟨dst, .call { callee := .builtin .max, args, argTypes := ats }, type, pos, after, guard⟩ = (do pure (Next.value (← Builtin.max_ ats type (args.map a.eval))) : Sem Next) from rfl,
        show args.map a.eval = (args.toList.map a.eval).toArray from by apply Array.ext'; rw [Array.toList_map]]
      exact ans_v this
    · exact hp.elim
  case mins args args' ats hargs =>
    have gx := OpdsOk.rel (ρ := ρ) (h := h) (e := e) (ev := a.eval) hargs fun x y a b => he x y a b
    simp only [pev] at hp ⊢
    split at hp
    · rename_i k n e1
      have := mins_run (P := P) w e1 gx ats type
      refine ⟨.int k n, ?_, rfl⟩
      rw [show execOp a.eval ⟨dst, .call { callee := .builtin .min, args, argTypes := ats }, type, pos, after, guard⟩ = (do pure (Next.value (← Builtin.min_ ats type (args.map a.eval))) : Sem Next) from rfl,
        show args.map a.eval = (args.toList.map a.eval).toArray from by apply Array.ext'; rw [Array.toList_map]]
      exact ans_v this
    · exact hp.elim
  case build t parts i z place ps hi hz zs hzs hb hps =>
    simp only [pev] at hp ⊢
    split at hp
    · rename_i cs e1
      obtain ⟨cells, g1, g2⟩ := fill_sem (ρ := ρ) (h := h) (ev := a.eval) hps (SV.relL_p (hzs h)) (fun x y hxy hy => he x y hxy (by simpa [Ins.opds] using hy)) e1
      refine ⟨.agg cells, ?_, ?_⟩
      · rw [show execOp a.eval ⟨dst, .build t parts, type, pos, after, guard⟩ = (do pure (Next.value (← Instr.build t (parts.map fun (i, x) => (i, a.eval x)))) : Sem Next) from rfl]
        refine ans_v (build_run hi hz hb w ?_)
        simpa using g1
      · simpa using aggS_rel g2
    · exact hp.elim
  case fld sT x x' j fs f d i hu hf hd hi h1 hx =>
    have gx := he _ _ hx (by simp [Ins.opds])
    simp only [pev] at hp ⊢
    rw [show execOp a.eval ⟨dst, .field sT x j, type, pos, after, guard⟩ = (do pure (Next.value (← Instr.field sT (a.eval x) j)) : Sem Next) from rfl]
    have hrun : ∀ cs : Array Value, a.eval x = .agg cs → f.offset + P.cellsOf f.type ≤ cs.size → (Instr.field sT (a.eval x) j).run P w = .ok (if isAggT P f.type then .agg ((cs.toList.drop f.offset).take (P.cellsOf f.type)).toArray else cs.toList.getD f.offset undef) w := by
      intro cs e2 hl
      simp only [Instr.field, Sem.run_bind, run_underlying hu, Result.andThen_ok, hf, e2, asAgg, Sem.run_pure, part_run hd hi h1 w cs f.offset hl]
    split at hp
    · rename_i cs e1
      rw [e1] at gx
      obtain ⟨vs, g1, g2⟩ := gx
      have l1 := (SV.relL_get g2).1
      have hp : f.offset + P.cellsOf f.type ≤ cs.length := hp
      exact ⟨_, ans_v (hrun _ g1 (by simp; omega)), by simpa using part_rel (P := P) h1 g2 hp⟩
    · rename_i cs e1
      rw [e1] at gx
      obtain ⟨vs, g1, g2⟩ := gx
      have l1 := (PV.relL_get g2).1
      have hp : f.offset + P.cellsOf f.type ≤ cs.length := hp
      exact ⟨_, ans_v (hrun _ g1 (by simp; omega)), by simpa [SV.rel] using part_relP (P := P) h1 g2 hp⟩
    · exact hp.elim
  case ixV t x x' i i' n el d di hu hd hdi h1 hx hi =>
    have gx := he _ _ hx (by simp [Ins.opds])
    have gi := he _ _ hi (by simp [Ins.opds])
    simp only [pev] at hp ⊢
    rw [show execOp a.eval ⟨dst, .index t x i, type, pos, after, guard⟩ = (do pure (Next.value (← Instr.index t (a.eval x) (a.eval i))) : Sem Next) from rfl]
    have hin : ∀ {k : Nat} {m : Nat}, k < n → n * P.cellsOf el = m → k * P.cellsOf el + P.cellsOf el ≤ m := fun {k m} h2 h3 => by
      rw [← h3, ← Nat.succ_mul]; exact Nat.mul_le_mul_right _ h2
    have hrun : ∀ (cs : Array Value) (k : IntKind) (m : Int), a.eval x = .agg cs → a.eval i = .int k m → 0 ≤ m → m < n → n * P.cellsOf el = cs.size →
        (Instr.index t (a.eval x) (a.eval i)).run P w = .ok (if isAggT P el then .agg ((cs.toList.drop (m.toNat * P.cellsOf el)).take (P.cellsOf el)).toArray else cs.toList.getD (m.toNat * P.cellsOf el) undef) w := by
      intro cs k m e2 e3 h2 h3 h4
      have h5 := hin (k := m.toNat) (m := cs.size) (by omega) h4
      simp only [Instr.index, Sem.run_bind, e2, e3, asIntOf, Sem.run_pure, Result.andThen_ok, run_underlying hu, h2, h3, and_self, if_true, run_sizeOf w hdi, part_run hd hdi h1 w cs _ h5]
    have hsel : ∀ m : Int, isAggT P el = false → m.toNat * P.cellsOf el = m.toNat := fun m e => by rw [h1 e, Nat.mul_one]
    split at hp
    · rename_i cs k m e1 e2
      rw [e1] at gx; rw [e2] at gi
      have gi' : a.eval i = .int k m := gi
      obtain ⟨vs, g1, g2⟩ := gx
      have l1 := (SV.relL_get g2).1
      obtain ⟨h2, h3, h4⟩ := hp
      refine ⟨_, ans_v (hrun _ k m g1 gi' h2 h3 (by simp; omega)), ?_⟩
      have := part_rel (P := P) h1 g2 (hin (k := m.toNat) (m := cs.length) (by omega) h4)
      cases hb : isAggT P el
      · rw [hb] at this; simpa [hsel m hb] using this
      · rw [hb] at this; simpa using this
    · rename_i cs k m e1 e2
      rw [e1] at gx; rw [e2] at gi
      have gi' : a.eval i = .int k m := gi
      obtain ⟨vs, g1, g2⟩ := gx
      have l1 := (PV.relL_get g2).1
      obtain ⟨h2, h3, h4⟩ := hp
      refine ⟨_, ans_v (hrun _ k m g1 gi' h2 h3 (by simp; omega)), ?_⟩
      have := part_relP (P := P) h1 g2 (hin (k := m.toNat) (m := cs.length) (by omega) h4)
      cases hb : isAggT P el
      · rw [hb] at this; simpa [SV.rel, hsel m hb] using this
      · rw [hb] at this; simpa [SV.rel] using this
    · exact hp.elim
  case ixS t x x' i i' hu hx hi =>
    have gx := he _ _ hx (by simp [Ins.opds])
    have gi := he _ _ hi (by simp [Ins.opds])
    simp only [pev] at hp ⊢
    rw [show execOp a.eval ⟨dst, .index t x i, type, pos, after, guard⟩ = (do pure (Next.value (← Instr.index t (a.eval x) (a.eval i))) : Sem Next) from rfl]
    split at hp
    · rename_i l k n e1 e2
      rw [e1] at gx; rw [e2] at gi
      have gi' : a.eval i = .int k n := gi
      obtain ⟨b, g1, g2⟩ := gx
      obtain ⟨h0, h1⟩ := hp
      have hlen : l.length = b.size := by rw [g2]; simp
      have hlt : n.toNat < b.size := by omega
      refine ⟨.int .u8 (b[n.toNat]'hlt).toNat, ans_v ?_, ?_⟩
      · simp only [Instr.index, Sem.run_bind, g1, gi', asIntOf, Sem.run_pure, Result.andThen_ok, run_underlying hu, h0, if_true]
        rw [show b[n.toNat]? = some (b[n.toNat]'hlt) by simp [hlt]]
        rfl
      · show Value.int .u8 _ = Value.int .u8 _
        congr 1
        rw [g2, List.getD_eq_getElem?_getD, List.getElem?_map, List.getElem?_eq_getElem (by simpa using hlt)]
        simp
        rfl
    · exact hp.elim
  case ixArr t x i x' i' n el d hu hdi hx hi =>
    have gx := he _ _ hx (by simp [Ins.opds])
    have gi := he _ _ hi (by simp [Ins.opds])
    simp only [pev] at hp ⊢
    rw [show execOp a.eval ⟨dst, .indexAddr t x i, type, pos, after, guard⟩ = (do pure (Next.value (← Instr.indexAt t (a.eval x) (a.eval i))) : Sem Next) from rfl]
    have hrun : ∀ {k : IntKind} {m : Int} {b o : Nat}, a.eval x = .pointer (some ⟨b, o, none⟩) → a.eval i = .int k m → 0 ≤ m → m < n →
        (Instr.indexAt t (a.eval x) (a.eval i)).run P w = .ok (.pointer (some ⟨b, o + m.toNat * P.cellsOf el, none⟩)) w := by
      intro k m b o e1 e2 h2 h3
      simp only [Instr.indexAt, Sem.run_bind, e1, e2, asIntOf, Sem.run_pure, Result.andThen_ok, run_underlying hu, Instr.sureAddr, h2, h3, and_self, if_true, run_sizeOf w hdi, addOff]
    split at hp
    · rename_i k l j k2 m e1 e2
      rw [e1] at gx; rw [e2] at gi
      obtain ⟨b, o, g1, g2⟩ := gx
      obtain ⟨hw, h0, h1⟩ := hp
      exact ⟨_, ans_v (hrun g1 gi h0 h1), b, o, by rw [hw, Nat.mul_one, Nat.add_assoc], g2⟩
    · rename_i o cs k2 m e1 e2
      rw [e1] at gx; rw [e2] at gi
      obtain ⟨b, g1, g2⟩ := gx
      obtain ⟨h0, h1⟩ := hp
      exact ⟨_, ans_v (hrun g1 gi h0 h1), b, rfl, g2⟩
    · rename_i id o k2 m e1 e2
      rw [e1] at gx; rw [e2] at gi
      obtain ⟨b, g1, g2⟩ := gx
      obtain ⟨h0, h1⟩ := hp
      exact ⟨_, ans_v (hrun g2 gi h0 h1), b, g1, rfl⟩
    · exact hp.elim
  case slc t x x' lo lo' hi hi' mx mx' el d hu hdi hx hlo hhi hmx =>
    have gx := he _ _ hx (by simp [Ins.opds])
    have n1 := NumOk.of (ρ := ρ) (h := h) (e := e) (ev := a.eval) hlo fun x y hxy hy => he x y hxy (by simp [Ins.opds]; simp at hy; simp [hy])
    have n2 := NumOk.of (ρ := ρ) (h := h) (e := e) (ev := a.eval) hhi fun x y hxy hy => he x y hxy (by simp [Ins.opds]; simp at hy; simp [hy])
    have n3 := NumOk.of (ρ := ρ) (h := h) (e := e) (ev := a.eval) hmx fun x y hxy hy => he x y hxy (by simp [Ins.opds]; simp at hy; simp [hy])
    simp only [pev] at hp ⊢
    rw [show execOp a.eval ⟨dst, .slice t x lo hi mx, type, pos, after, guard⟩ = (do pure (Next.value (← Instr.sliceAt t (a.eval x) (lo.map a.eval) (hi.map a.eval) (mx.map a.eval))) : Sem Next) from rfl]
    have hsome : hi'.isSome = (hi'.map fun o => (e o).num).isSome := by cases hi' <;> rfl
    split at hp
    · rename_i nil ex k l e1
      rw [e1] at gx
      obtain ⟨hw, hok⟩ := hp
      obtain ⟨u, g1, g2⟩ := slc_isl hu hdi hw w gx n1 n2 n3 hok
      exact ⟨u, ans_v g1, by rw [hsome]; exact g2⟩
    · rename_i nil ex w' l e1
      rw [e1] at gx
      obtain ⟨hw, hok⟩ := hp
      subst hw
      obtain ⟨u, g1, g2⟩ := slc_sl hu hdi w gx n1 n2 n3 hok
      exact ⟨u, ans_v g1, by rw [hsome]; exact g2⟩
    · exact hp.elim
  case slcS t x x' lo lo' hi hi' hu hx hlo hhi =>
    have gx := he _ _ hx (by simp [Ins.opds])
    have n1 := NumOk.of (ρ := ρ) (h := h) (e := e) (ev := a.eval) hlo fun x y hxy hy => he x y hxy (by simp [Ins.opds]; simp at hy; simp [hy])
    have n2 := NumOk.of (ρ := ρ) (h := h) (e := e) (ev := a.eval) hhi fun x y hxy hy => he x y hxy (by simp [Ins.opds]; simp at hy; simp [hy])
    simp only [pev] at hp ⊢
    rw [show execOp a.eval ⟨dst, .slice t x lo hi none, type, pos, after, guard⟩ = (do pure (Next.value (← Instr.sliceAt t (a.eval x) (lo.map a.eval) (hi.map a.eval) none)) : Sem Next) from rfl]
    split at hp
    · rename_i l e1
      rw [e1] at gx
      obtain ⟨u, g1, g2⟩ := slc_str hu w gx n1 n2 hp
      exact ⟨u, ans_v g1, g2⟩
    · exact hp.elim
  case eqAgg t x y yt x' y' ks hpl hx hy neg =>
    have gx := he _ _ hx (by simp [Ins.opds])
    have gy := he _ _ hy (by simp [Ins.opds])
    simp only [pev] at hp ⊢
    rw [show execOp a.eval ⟨dst, .binOp (if neg = true then .neq else .eql) t x y yt, type, pos, after, guard⟩ =
        (do pure (Next.value (← (do eqGuard (if neg = true then .neq else .eql) t x y (a.eval x) (a.eval y); binOp (if neg = true then .neq else .eql) t (a.eval x) (a.eval y) : Sem Value))) : Sem Next) from rfl]
    split at hp
    · rename_i p q e1 e2
      split at hp
      · rename_i r e3
        exact ⟨_, ans_v (eqAgg_run hpl w (SV.pvS_rel s _ _ _ e1 gx) (SV.pvS_rel s _ _ _ e2 gy) e3 x y neg), rfl⟩
      · exact hp.elim
    · exact hp.elim
  case eqNilF t x y yt x' y' p q r hu hx hy neg =>
    have gx := he _ _ hx (by simp [Ins.opds])
    have gy := he _ _ hy (by simp [Ins.opds])
    simp only [pev] at hp ⊢
    rw [show execOp a.eval ⟨dst, .binOp (if neg = true then .neq else .eql) t x y yt, type, pos, after, guard⟩ =
        (do pure (Next.value (← (do eqGuard (if neg = true then .neq else .eql) t x y (a.eval x) (a.eval y); binOp (if neg = true then .neq else .eql) t (a.eval x) (a.eval y) : Sem Value))) : Sem Next) from rfl]
    split at hp
    · rename_i r e1 e2
      rw [e2] at gy
      have gy' : a.eval y = .nilFunc := gy
      rw [gy']
      exact ⟨_, ans_v (eqNilF_run hu w gx e1 x y neg), rfl⟩
    · exact hp.elim
  case eqNilI t x yt x' ms hu hx neg =>
    have gx := he _ _ hx (by simp [Ins.opds])
    simp only [pev] at hp ⊢
    rw [show execOp a.eval ⟨dst, .binOp (if neg = true then .neq else .eql) t x (.const .nilIface) yt, type, pos, after, guard⟩ =
        (do pure (Next.value (← (do eqGuard (if neg = true then .neq else .eql) t x (.const .nilIface) (a.eval x) .nilIface; binOp (if neg = true then .neq else .eql) t (a.eval x) .nilIface : Sem Value))) : Sem Next) from rfl]
    split at hp
    · rename_i e1
      rw [e1] at gx
      have gx : a.eval x = .nilIface := gx
      exact ⟨_, ans_v (eqNilI_run hu w (.inl ⟨gx, rfl⟩) x neg), by cases neg <;> rfl⟩
    · rename_i t' y e1
      rw [e1] at gx
      obtain ⟨u, gx, _⟩ := gx
      exact ⟨_, ans_v (eqNilI_run hu w (.inr ⟨⟨_, _, gx⟩, rfl⟩) x neg), by cases neg <;> rfl⟩
    · exact hp.elim
  case cvtSS sT dT x x' h1 h2 hx =>
    have gx := he _ _ hx (by simp [Ins.opds])
    simp only [pev] at hp ⊢
    rw [show execOp a.eval ⟨dst, .convert sT dT x, type, pos, after, guard⟩ = (do pure (Next.value (← convert sT dT (a.eval x))) : Sem Next) from rfl]
    split at hp
    · rename_i l e1
      rw [e1] at gx
      obtain ⟨b, g1, g2⟩ := gx
      exact ⟨.string b, ans_v (by rw [g1]; simp only [convert, Sem.run_bind, run_underlying h1, run_underlying h2, Result.andThen_ok, Sem.run_pure]), b, rfl, g2⟩
    · exact hp.elim
  case cvtRS sT dT x x' kk h1 h2 hx =>
    have gx := he _ _ hx (by simp [Ins.opds])
    simp only [pev] at hp ⊢
    rw [show execOp a.eval ⟨dst, .convert sT dT x, type, pos, after, guard⟩ = (do pure (Next.value (← convert sT dT (a.eval x))) : Sem Next) from rfl]
    split at hp
    · rename_i k n e1
      rw [e1] at gx
      have gx : a.eval x = .int k n := gx
      exact ⟨.string (Utf8.encode n), ans_v (by rw [gx]; exact run_convert_int_string w sT dT k n (by rw [h1]; rfl) h2), _, rfl, rfl⟩
    · exact hp.elim
  case cvtBS sT dT x x' el h1 h2 h3 hx =>
    have gx := he _ _ hx (by simp [Ins.opds])
    simp only [pev] at hp ⊢
    rw [show execOp a.eval ⟨dst, .convert sT dT x, type, pos, after, guard⟩ = (do pure (Next.value (← convert sT dT (a.eval x))) : Sem Next) from rfl]
    split at hp
    · rename_i nil ex l e1
      obtain ⟨ad, cap, g1, g2⟩ := see_slice s gx e1
      rw [g1]
      obtain ⟨b, g3, g4⟩ := bytes_str (P := P) w g2 hp
      exact ⟨_, ans_v ((run_convert_bytes_string w sT dT el ad l.length cap h1 h2 h3).trans g3), b, rfl, g4⟩
    · exact hp.elim
end Go.Fx
