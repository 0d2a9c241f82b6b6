/-
  Where the document finds frames among bytes; the law ScanStops (plain).
-/
import Derived.Test.YtajphaljpkeecaaDoorWLS2
import Derived.Test.YtajphaljpkeecaaDoorFxRow
set_option linter.unusedSimpArgs false
set_option linter.unusedVariables false
set_option maxRecDepth 100000
namespace Go.Proofs
open Go Go.Fx
end Go.Proofs
set_option linter.unusedSimpArgs false
set_option linter.unusedVariables false
set_option maxRecDepth 100000
namespace Go.Proofs
open Go Go.Fx
theorem given_at (a b c : Int) (d e : Bool) (l : List Int) : go_coupletlaw12_Given a b c d e l = some (a, b, c, d, e, l) := rfl
theorem its_len (s : List Int) : ∀ p, (its p s).length ≤ s.length := its_ind (M := fun s => ∀ p, (its p s).length ≤ s.length) (fun p => by rw [its_nil]; exact Nat.le_refl _) (fun s h ih p => by
  have := ih (p + sizeV s)
  have h1 := h.1
  have h2 := h.2.1
  rw [its_head h, List.length_cons]
  rw [List.length_drop] at this
  omega) (fun c s h ih p => by rw [its_skip h, List.length_cons]; have := ih (p + 1); omega) s.length s (Nat.le_refl _)
end Go.Proofs
set_option linter.unusedSimpArgs false
set_option linter.unusedVariables false
set_option maxRecDepth 100000
namespace Go.Proofs
open Go Go.Fx
theorem val_drop {l : List Int} {k : Nat} (h : k < l.length) : val (l.drop k) = (l[k]).toNat + 256 * val (l.drop (k + 1)) := by
  rw [List.drop_eq_getElem_cons h]; rfl
theorem number_loop (b3 b4 : Bool) (l : List Int) (hl : isB l) (hn : l.length = 8) : ∀ j : Nat, j ≤ 8 →
    iterN (fun x => st_coupletref13_number_0 x.1 x.2.1 x.2.2.1 x.2.2.2.1 x.2.2.2.2) (j + 1) (b3, b4, l, ((val (l.drop j) : Nat) : Int), (j : Int) - 1) = some ((val l : Nat) : Int)
  | 0, _ => by
    have e : st_coupletref13_number_0 b3 b4 l ((val (l.drop 0) : Nat) : Int) (((0 : Nat) : Int) - 1) = some (.inr ((val l : Nat) : Int)) := by
      unfold st_coupletref13_number_0
      rw [decide_eq_false (by omega)]
      rfl
    rw [iterN]; simp only [e]
  | j + 1, h => by
    have hlt : j < l.length := by omega
    have hx := hl _ (List.getElem_mem hlt)
    have hv := val_lt (l.drop (j + 1)) (isB_drop hl _)
    have h7 : 256 ^ 7 = 72057594037927936 := by decide
    have hv2 : 256 ^ (l.drop (j + 1)).length ≤ 256 ^ 7 := Nat.pow_le_pow_right (by decide) (by rw [List.length_drop]; omega)
    rw [h7] at hv2
    have e : st_coupletref13_number_0 b3 b4 l ((val (l.drop (j + 1)) : Nat) : Int) (((j + 1 : Nat) : Int) - 1) = some (.inl (b3, b4, l, ((val (l.drop j) : Nat) : Int), (j : Int) - 1)) := by
      have hw : IntKind.wrap .u64 (IntKind.wrap .u64 (((val (l.drop (j + 1)) : Nat) : Int) * 256) + IntKind.wrap .u64 l[j]) = ((val (l.drop j) : Nat) : Int) := by
        rw [val_drop hlt, IntKind.wrap_u64, IntKind.wrap_u64, IntKind.wrap_u64]
        omega
      unfold st_coupletref13_number_0
      rw [show (((j + 1 : Nat) : Int) - 1) = (j : Int) by omega, Int.toNat_natCast, getD_at hlt, hw, w64 (by omega) (by omega), decide_eq_true (show (j : Int) ≥ 0 by omega), decide_eq_true (show (j : Int) < ((l.length : Nat) : Int) by omega), decide_eq_true hlt]
      rfl
    rw [iterN]
    simp only [e]
    exact number_loop b3 b4 l hl hn j (by omega)
theorem number_at (b0 b1 : Bool) (l : List Int) (hl : isB l) (hn : l.length = 8) : go_coupletref13_number b0 b1 l = some (decide (okF (IntKind.wrap .i64 ((val l : Nat) : Int)))) := by
  have h := number_loop b0 b1 l hl hn 8 (Nat.le_refl _)
  rw [List.drop_eq_nil_of_le (by omega)] at h
  have hv := val_lt l hl
  rw [hn, show 256 ^ 8 = 18446744073709551616 by decide] at hv
  unfold go_coupletref13_number lp_coupletref13_number_0
  have h : iterN (fun x => st_coupletref13_number_0 x.1 x.2.1 x.2.2.1 x.2.2.2.1 x.2.2.2.2) (8 + 1) (b0, b1, l, 0, 7) = some ((val l : Nat) : Int) := h
  rw [loopN_of (8 + 1) (by decide) h, Option.bind_some]
  have hw : okF (IntKind.wrap .i64 ((val l : Nat) : Int)) ↔ (val l ≤ 1125899906842624 ∨ val l ≥ 18445618173802708992) := by
    unfold okF
    rw [IntKind.wrap_i64]
    omega
  by_cases h1 : val l ≤ 1125899906842624
  · rw [decide_eq_true (show ((val l : Nat) : Int) ≤ 1125899906842624 by omega), decide_eq_true (hw.2 (.inl h1))]; rfl
  · rw [decide_eq_false (show ¬ ((val l : Nat) : Int) ≤ 1125899906842624 by omega), cond_false]
    congr 1
    exact decide_eq_decide.2 ⟨fun h => hw.2 (.inr (by omega)), fun h => by have := hw.1 h; omega⟩
theorem rsize_at (b0 b1 : Bool) (l : List Int) (hl : isB l) : go_coupletref13_Size b0 b1 l = some ((sizeV l : Nat) : Int) := by
  have hm := mm_le l
  unfold go_coupletref13_Size sizeV
  by_cases c0 : l.length < 4
  · rw [show decide (((l.length : Nat) : Int) < 4) = true from decide_eq_true (by omega), if_pos (.inl c0)]; rfl
  rw [show decide (((l.length : Nat) : Int) < 4) = false from decide_eq_false (by omega), cond_false, kd_int hl, nn_int hl, rmany_at, mm_int,
    show decide (0 < ((l.length : Nat) : Int)) = true from decide_eq_true (by omega), show decide (0 < l.length) = true from decide_eq_true (by omega), show decide (1 < ((l.length : Nat) : Int)) = true from decide_eq_true (by omega), show decide (1 < l.length) = true from decide_eq_true (by omega),
    show decide (2 < ((l.length : Nat) : Int)) = true from decide_eq_true (by omega), show decide (2 < l.length) = true from decide_eq_true (by omega), show decide (3 < ((l.length : Nat) : Int)) = true from decide_eq_true (by omega), show decide (3 < l.length) = true from decide_eq_true (by omega)]
  simp only [cond_true, Option.bind_some]
  rw [ibne, ibne, ibeq, take2 (by omega)]
  by_cases c1 : l.getD 0 0 = 78
  case neg =>
    rw [decide_eq_false c1, if_pos (.inr (.inl fun e => c1 (List.cons.inj e).1))]; rfl
  rw [decide_eq_true c1, Bool.not_true, cond_false]
  by_cases c2 : l.getD 1 0 = 86
  case neg =>
    rw [decide_eq_false c2, if_pos (.inr (.inl fun e => c2 (List.cons.inj (List.cons.inj e).2).1))]; rfl
  rw [decide_eq_true c2, Bool.not_true, cond_false]
  by_cases c3 : mm l = 0
  · rw [show decide (((mm l : Nat) : Int) = 0) = true from decide_eq_true (by omega), if_pos (.inr (.inr c3))]; rfl
  rw [show decide (((mm l : Nat) : Int) = 0) = false from decide_eq_false (by omega), if_neg (fun h => h.elim c0 fun h => h.elim (fun h => h (by rw [c1, c2])) c3), cond_false, w64 (a := 8 * ((mm l : Nat) : Int)) (by omega) (by omega), w64 (by omega) (by omega)]
  congr 1
def allOk (L : List Int) : Bool := decide (∀ x ∈ L, okF x)
theorem allOk_t {L : List Int} (h : ∀ x ∈ L, okF x) : allOk L = true := decide_eq_true h
theorem allOk_f {L : List Int} (h : ¬ ∀ x ∈ L, okF x) : allOk L = false := decide_eq_false h
theorem num_take {l : List Int} {a n i : Nat} (h : 16 + 8 * i ≤ n) : num ((l.drop a).take n) i = IntKind.wrap .i64 ((val ((l.drop (a + 8 + 8 * i)).take 8) : Nat) : Int) := by
  unfold num
  rw [List.drop_take, List.take_take, List.drop_drop, show min 8 (n - (8 + 8 * i)) = 8 by omega, show a + (8 + 8 * i) = a + 8 + 8 * i by omega]
theorem found1_false (b12 b13 : Bool) (l : List Int) (a n k : Int) (b19 b20 : Bool) (out : List Int) : lp_coupletref13_Found_1 b12 b13 l a n false k b19 b20 out = some (b12, b13, l, a, n, false, b19, b20, out) :=
  loopN_of 1 (by decide) rfl
theorem found1_loop (b12 b13 : Bool) (l : List Int) (hl : isB l) (a m : Nat) (hm : m ≤ 32) (ha : a + (12 + 8 * m) ≤ l.length) (hn : l.length ≤ 10000) (b19 b20 : Bool) (out : List Int) : ∀ (c i : Nat), i + c = m →
    iterN (fun x => st_coupletref13_Found_1 x.1 x.2.1 x.2.2.1 x.2.2.2.1 x.2.2.2.2.1 x.2.2.2.2.2.1 x.2.2.2.2.2.2.1 x.2.2.2.2.2.2.2.1 x.2.2.2.2.2.2.2.2.1 x.2.2.2.2.2.2.2.2.2) (c + 2) (b12, b13, l, (a : Int), ((12 + 8 * m : Nat) : Int), true, ((a + 8 + 8 * i : Nat) : Int), b19, b20, out) =
      some (b12, b13, l, (a : Int), ((12 + 8 * m : Nat) : Int), allOk (nums ((l.drop a).take (12 + 8 * m)) i c), b19, b20, out)
  | 0, i, hi => by
    obtain rfl : i = m := by omega
    have e : st_coupletref13_Found_1 b12 b13 l (a : Int) ((12 + 8 * i : Nat) : Int) true ((a + 8 + 8 * i : Nat) : Int) b19 b20 out = some (.inr (b12, b13, l, (a : Int), ((12 + 8 * i : Nat) : Int), true, b19, b20, out)) := by
      unfold st_coupletref13_Found_1
      rw [w64 (a := (a : Int) + ((12 + 8 * i : Nat) : Int)) (by omega) (by omega), w64 (by omega) (by omega), decide_eq_false (by omega)]
      rfl
    rw [iterN]
    simp only [e]
    rfl
  | c + 1, i, hi => by
    have hnum := number_at b12 false ((l.drop (a + 8 + 8 * i)).take 8) (isB_take (isB_drop hl _) _) (by rw [List.length_take, List.length_drop]; omega)
    have e : st_coupletref13_Found_1 b12 b13 l (a : Int) ((12 + 8 * m : Nat) : Int) true ((a + 8 + 8 * i : Nat) : Int) b19 b20 out = some (.inl (b12, b13, l, (a : Int), ((12 + 8 * m : Nat) : Int), decide (okF (num ((l.drop a).take (12 + 8 * m)) i)), ((a + 8 + 8 * (i + 1) : Nat) : Int), b19, b20, out)) := by
      unfold st_coupletref13_Found_1
      rw [w64 (a := (a : Int) + ((12 + 8 * m : Nat) : Int)) (by omega) (by omega), w64 (a := (a : Int) + ((12 + 8 * m : Nat) : Int) - 4) (by omega) (by omega), w64 (a := ((a + 8 + 8 * i : Nat) : Int) + 8) (by omega) (by omega), Int.toNat_natCast,
        show (((a + 8 + 8 * i : Nat) : Int) + 8 - ((a + 8 + 8 * i : Nat) : Int)).toNat = 8 by omega, hnum, num_take (by omega),
        decide_eq_true (show ((a + 8 + 8 * i : Nat) : Int) < (a : Int) + ((12 + 8 * m : Nat) : Int) - 4 by omega), decide_eq_true (show (0 : Int) ≤ ((a + 8 + 8 * i : Nat) : Int) by omega), decide_eq_true (show ((a + 8 + 8 * i : Nat) : Int) ≤ ((a + 8 + 8 * i : Nat) : Int) + 8 by omega),
        decide_eq_true (show ((a + 8 + 8 * i : Nat) : Int) + 8 ≤ ((l.length : Nat) : Int) by omega), show ((a + 8 + 8 * i : Nat) : Int) + 8 = ((a + 8 + 8 * (i + 1) : Nat) : Int) by omega]
      rfl
    rw [iterN]
    simp only [e]
    by_cases h : okF (num ((l.drop a).take (12 + 8 * m)) i)
    · rw [decide_eq_true h, found1_loop b12 b13 l hl a m hm ha hn b19 b20 out c (i + 1) (by omega)]
      have e2 : allOk (nums ((l.drop a).take (12 + 8 * m)) (i + 1) c) = allOk (nums ((l.drop a).take (12 + 8 * m)) i (c + 1)) := by
        refine decide_eq_decide.2 ?_
        simp only [nums, List.range'_succ, List.map_cons]
        exact ⟨fun h2 x hx => (List.mem_cons.1 hx).elim (fun e => e ▸ h) (h2 x), fun h2 x hx => h2 x (List.mem_cons_of_mem _ hx)⟩
      rw [e2]
    · rw [decide_eq_false h, iterN]
      have e2 : allOk (nums ((l.drop a).take (12 + 8 * m)) i (c + 1)) = false := by
        refine allOk_f fun h2 => h (h2 _ ?_)
        simp only [nums, List.range'_succ, List.map_cons]
        exact List.mem_cons_self ..
      rw [e2]
      rfl
theorem good_iff {d : List Int} (hd : isB d) (h0 : why12 d = 0) : good d ↔ ∀ x ∈ nums d 0 (mm d), okF x := by
  refine ⟨fun h => h.2.2.2.2.2, fun h => ⟨h0, ?_⟩⟩
  have hm : mm d ≠ 0 := fun e => by
    unfold why12 at h0
    split at h0
    · exact absurd h0 (by decide)
    · rw [if_pos (.inr e)] at h0; exact absurd h0 (by decide)
  have hi := mm_int d
  have hv := val_lt _ (isB_take (isB_drop hd 4) 4)
  have h2 : 256 ^ ((d.drop 4).take 4).length ≤ 256 ^ 4 := Nat.pow_le_pow_right (by decide) (by rw [List.length_take]; omega)
  rw [show 256 ^ 4 = 4294967296 by decide] at h2
  refine ⟨by omega, by rw [hi]; simp [nums], by unfold seqN; omega, by unfold seqN; omega, h⟩
theorem mm_take {s : List Int} {n : Nat} (hn : 4 ≤ n) : mm (s.take n) = mm s := by
  have : ∀ k, k < n → (s.take n).getD k 0 = s.getD k 0 := fun k hk => by
    rw [List.getD_eq_getElem?_getD, List.getD_eq_getElem?_getD, List.getElem?_take_of_lt hk]
  unfold mm kd nn
  rw [this 2 (by omega), this 3 (by omega)]
theorem sizeV_pos {s : List Int} (h : 0 < sizeV s) : sizeV s = 12 + 8 * mm s := by
  unfold sizeV at h ⊢
  split
  · rename_i h1; rw [if_pos h1] at h; omega
  · rfl
theorem found_step (b3 b4 : Bool) (l : List Int) (hl : isB l) (hn : l.length ≤ 10000) (p : Nat) (hp : p < l.length) (b7 b8 : Bool) (out : List Int) (ho : out.length ≤ 100000) :
    st_coupletref13_Found_0 b3 b4 l (p : Int) b7 b8 out = some (.inl (open Classical in if heads (l.drop p) then (b3, b4, l, ((p + sizeV (l.drop p) : Nat) : Int), (b7 && false), false, out ++ [(p : Int)]) else (b3, b4, l, ((p + 1 : Nat) : Int), b7, b8, out))) := by
  have hs := isB_drop hl p
  have hlen : (l.drop p).length = l.length - p := List.length_drop
  have hsz := sizeV_le (l.drop p)
  have hm := mm_le (l.drop p)
  unfold st_coupletref13_Found_0
  rw [decide_eq_true (show (p : Int) < ((l.length : Nat) : Int) by omega), decide_eq_true (show (0 : Int) ≤ (p : Int) by omega), decide_eq_true (show (p : Int) ≤ ((l.length : Nat) : Int) by omega), decide_eq_true (Int.le_refl _), show ((((l.length : Nat) : Int) - ((p : Nat) : Int)).toNat) = l.length - p by omega, Int.toNat_natCast,
    show List.take (l.length - p) (l.drop p) = l.drop p from List.take_of_length_le (by omega), rsize_at b3 b4 _ hs, Option.bind_some]
  simp only [cond_true]
  by_cases c0 : 0 < sizeV (l.drop p)
  case neg =>
    have hh : ¬ heads (l.drop p) := fun h => c0 h.1
    rw [decide_eq_false (show ¬ ((sizeV (l.drop p) : Nat) : Int) > 0 by omega), if_neg hh, cond_false, found1_false, Option.bind_some]
    dsimp only
    rw [cond_false, inc64 (by omega)]
  rw [decide_eq_true (show ((sizeV (l.drop p) : Nat) : Int) > 0 by omega), cond_true, w64 (a := ((l.length : Nat) : Int) - (p : Int)) (by omega) (by omega)]
  by_cases c1 : sizeV (l.drop p) ≤ l.length - p
  case neg =>
    have hh : ¬ heads (l.drop p) := fun h => c1 (by have := h.2.1; omega)
    rw [decide_eq_false (show ¬ ((sizeV (l.drop p) : Nat) : Int) ≤ ((l.length : Nat) : Int) - (p : Int) by omega), if_neg hh, cond_false, found1_false, Option.bind_some]
    dsimp only
    rw [cond_false, inc64 (by omega)]
  have hd := isB_take hs (sizeV (l.drop p))
  rw [decide_eq_true (show ((sizeV (l.drop p) : Nat) : Int) ≤ ((l.length : Nat) : Int) - (p : Int) by omega), w64 (a := (p : Int) + ((sizeV (l.drop p) : Nat) : Int)) (by omega) (by omega), decide_eq_true (show (p : Int) ≤ (p : Int) + ((sizeV (l.drop p) : Nat) : Int) by omega), decide_eq_true (show (p : Int) + ((sizeV (l.drop p) : Nat) : Int) ≤ ((l.length : Nat) : Int) by omega),
    show ((p : Int) + ((sizeV (l.drop p) : Nat) : Int) - (p : Int)).toNat = sizeV (l.drop p) by omega, rwhy_at b3 false _ hd (by rw [List.length_take]; omega), Option.bind_some]
  simp only [cond_true]
  rw [ibeq]
  by_cases c2 : why12 ((l.drop p).take (sizeV (l.drop p))) = 0
  case neg =>
    have hh : ¬ heads (l.drop p) := fun h => c2 h.2.2.1
    rw [decide_eq_false c2, if_neg hh, found1_false, Option.bind_some]
    dsimp only
    rw [cond_false, inc64 (by omega)]
  have e1 := sizeV_pos c0
  have hmm := mm_take (s := l.drop p) (n := sizeV (l.drop p)) (by omega)
  have hL := found1_loop b3 b4 l hl p (mm (l.drop p)) hm (by omega) hn b7 b8 out (mm (l.drop p)) 0 (by omega)
  rw [decide_eq_true c2, w64 (a := (p : Int) + 8) (by omega) (by omega)]
  have hL' : lp_coupletref13_Found_1 b3 b4 l (p : Int) ((sizeV (l.drop p) : Nat) : Int) true ((p : Int) + 8) b7 b8 out = some (b3, b4, l, (p : Int), ((sizeV (l.drop p) : Nat) : Int), allOk (nums ((l.drop p).take (sizeV (l.drop p))) 0 (mm (l.drop p))), b7, b8, out) := by
    rw [e1]
    exact loopN_of (mm (l.drop p) + 2) (by omega) hL
  rw [hL', Option.bind_some]
  dsimp only
  have hg := good_iff hd c2
  rw [hmm] at hg
  by_cases c3 : ∀ x ∈ nums ((l.drop p).take (sizeV (l.drop p))) 0 (mm (l.drop p)), okF x
  · have hh : heads (l.drop p) := ⟨c0, by omega, hg.2 c3⟩
    rw [allOk_t c3, if_pos hh, decide_eq_true (show (out.length + 1) * 8 ≤ 140737488355328 by omega), decide_eq_true (show out.length + 1 ≤ 4611686018427387904 by omega), w64 (by omega) (by omega)]
    rfl
  · have hh : ¬ heads (l.drop p) := fun h => c3 (hg.1 h.2.2)
    rw [allOk_f c3, if_neg hh, cond_false, inc64 (by omega)]
theorem found_loop (b3 b4 : Bool) (l : List Int) (hl : isB l) (hn : l.length ≤ 10000) : ∀ (f p : Nat) (u v : Bool) (out : List Int), p ≤ l.length → l.length - p < f → out.length + (l.length - p) ≤ 20000 → ∃ u' v',
    iterN (fun x => st_coupletref13_Found_0 x.1 x.2.1 x.2.2.1 x.2.2.2.1 x.2.2.2.2.1 x.2.2.2.2.2.1 x.2.2.2.2.2.2) f (b3, b4, l, (p : Int), u, v, out) = some (u', v', out ++ (its p (l.drop p)).map fun q => (q.1 : Int))
  | 0, p, u, v, out, _, h, _ => by omega
  | f + 1, p, u, v, out, hp, h, ho => by
    rcases Nat.lt_or_ge p l.length with hlt | hge
    · have e0 : l.drop p = l[p] :: l.drop (p + 1) := List.drop_eq_getElem_cons hlt
      have e := found_step b3 b4 l hl hn p hlt u v out (by omega)
      rw [iterN]
      simp only [e]
      by_cases hh : heads (l.drop p)
      · have h1 := hh.1
        have h2 := hh.2.1
        rw [List.length_drop] at h2
        rw [if_pos hh]
        obtain ⟨u', v', ih⟩ := found_loop b3 b4 l hl hn f (p + sizeV (l.drop p)) (u && false) false (out ++ [(p : Int)]) (by omega) (by omega) (by rw [List.length_append]; simp; omega)
        exact ⟨u', v', by rw [ih, its_head hh, List.map_cons, List.drop_drop, List.append_assoc]; rfl⟩
      · rw [if_neg hh]
        obtain ⟨u', v', ih⟩ := found_loop b3 b4 l hl hn f (p + 1) u v out (by omega) (by omega) (by omega)
        refine ⟨u', v', ?_⟩
        rw [ih]
        rw [e0] at hh ⊢
        rw [its_skip hh]
    · obtain rfl : p = l.length := by omega
      refine ⟨u, v, ?_⟩
      have e : st_coupletref13_Found_0 b3 b4 l ((l.length : Nat) : Int) u v out = some (.inr (u, v, out)) := by
        unfold st_coupletref13_Found_0
        rw [decide_eq_false (Int.lt_irrefl _)]
        rfl
      rw [iterN]
      simp only [e]
      rw [List.drop_length, its_nil, List.map_nil, List.append_nil]
theorem found_at (b0 b1 : Bool) (l : List Int) (hl : isB l) (hn : l.length ≤ 10000) : ∃ u v, go_coupletref13_Found b0 b1 l = some (u, v, (its 0 l).map fun q => (q.1 : Int)) := by
  obtain ⟨u, v, h⟩ := found_loop b0 b1 l hl hn (l.length + 1) 0 true true [] (Nat.zero_le _) (by omega) (by simp; omega)
  rw [List.drop_zero, List.nil_append] at h
  refine ⟨u, v, ?_⟩
  unfold go_coupletref13_Found lp_coupletref13_Found_0
  have h : iterN (fun x => st_coupletref13_Found_0 x.1 x.2.1 x.2.2.1 x.2.2.2.1 x.2.2.2.2.1 x.2.2.2.2.2.1 x.2.2.2.2.2.2) (l.length + 1) (b0, b1, l, 0, true, true, []) = some (u, v, (its 0 l).map fun q => (q.1 : Int)) := h
  rw [loopN_of (l.length + 1) (by omega) h, Option.bind_some]
end Go.Proofs
