import Derived.Test.YtajphaljpkeecaaDoorWGC13
import Derived.Test.YtajphaljpkeecaaDoorWLF5
import Derived.Test.YtajphaljpkeecaaDoorFxRow
/-
  Frames among bytes: where they are, which they are, how many bytes are in none (plain).
-/
set_option linter.unusedSimpArgs false
set_option linter.unusedVariables false
set_option maxRecDepth 100000
namespace Go.Proofs
open Go Go.Fx

abbrev Fr := Int × Int × Int × Bool × Bool × List Int
def frP (r : Fr) : PV := .agg [.int .i64 r.1, .int .i64 r.2.1, .int .i64 r.2.2.1, .isl r.2.2.2.1 r.2.2.2.2.1 .i64 r.2.2.2.2.2]
open Classical in
noncomputable def sizeV (l : List Int) : Nat := if l.length < 4 ∨ ¬ l.take 2 = [78, 86] ∨ mm l = 0 then 0 else 12 + 8 * mm l
theorem sizeV_le (l : List Int) : sizeV l ≤ 300 := by
  have := mm_le l
  unfold sizeV
  split <;> omega
theorem size_at (b0 b1 : Bool) (l : List Int) (hl : isB l) : go_scan_Size b0 b1 l = some ((sizeV l : Nat) : Int) := by
  have hm := mm_le l
  unfold go_scan_Size sizeV
  by_cases c0 : l.length < 4
  · rw [show decide (((l.length : Nat) : Int) < 4) = true from decide_eq_true (by omega), if_pos (.inl c0)]; rfl
  rw [show decide (((l.length : Nat) : Int) < 4) = false from decide_eq_false (by omega), cond_false, show decide (2 ≤ ((l.length : Nat) : Int)) = true from decide_eq_true (by omega), cond_true, List.drop_zero, isB_all (isB_take hl 2), cond_true, lst_beq]
  by_cases c1 : l.take 2 = [78, 86]
  case neg => rw [decide_eq_false c1, if_pos (.inr (.inl c1))]; rfl
  rw [decide_eq_true c1, Bool.not_true, cond_false, kd_int hl, nn_int hl, many_at, mm_int,
    show decide (2 < ((l.length : Nat) : Int)) = true from decide_eq_true (by omega), show decide (2 < l.length) = true from decide_eq_true (by omega), show decide (3 < ((l.length : Nat) : Int)) = true from decide_eq_true (by omega), show decide (3 < l.length) = true from decide_eq_true (by omega)]
  simp only [cond_true, Option.bind_some]
  rw [ibeq]
  by_cases c2 : mm l = 0
  · rw [show decide (((mm l : Nat) : Int) = 0) = true from decide_eq_true (by omega), if_pos (.inr (.inr c2))]; rfl
  rw [show decide (((mm l : Nat) : Int) = 0) = false from decide_eq_false (by omega), if_neg (fun h => h.elim c0 fun h => h.elim (fun h => h c1) c2), cond_false, w64 (a := 8 * ((mm l : Nat) : Int)) (by omega) (by omega), w64 (by omega) (by omega)]
  congr 1

/-- Whether bytes are those of a frame that may be. -/
def good (d : List Int) : Prop := why12 d = 0 ∧ R12 (kd d) (seqN d) (nn d) (nums d 0 (mm d))
noncomputable def fr (d : List Int) : Fr := match go_frame_Decode false true d with
  | some r => (r.1, r.2.1, r.2.2.1, r.2.2.2.1, r.2.2.2.2.1, r.2.2.2.2.2.1)
  | none => (0, 0, 0, true, true, [])
theorem dec_good {d : List Int} (hd : isB d) (hn : d.length ≤ 10000) (h : good d) : ∃ u v, go_frame_Decode false true d = some (kd d, seqN d, nn d, u, v, nums d 0 (mm d), 0) ∧ fr d = (kd d, seqN d, nn d, u, v, nums d 0 (mm d)) := by
  rcases decode_at false true d hd hn with ⟨h1, _⟩ | ⟨_, ⟨_, u, v, h1⟩ | ⟨h1, _⟩⟩
  · exact absurd h.1 h1
  · exact ⟨u, v, h1, by unfold fr; rw [h1]⟩
  · exact absurd h.2 h1
theorem dec_bad {d : List Int} (hd : isB d) (hn : d.length ≤ 10000) (h : ¬ good d) : ∃ r, go_frame_Decode false true d = some r ∧ r.2.2.2.2.2.2 ≠ 0 := by
  rcases decode_at false true d hd hn with ⟨h1, h2⟩ | ⟨h0, ⟨h2, _⟩ | ⟨_, h2⟩⟩
  · exact ⟨_, h2, h1⟩
  · exact absurd ⟨h0, h2⟩ h
  · exact ⟨_, h2, by decide⟩
/-- Whether bytes begin with a frame that may be. -/
def heads (s : List Int) : Prop := 0 < sizeV s ∧ sizeV s ≤ s.length ∧ good (s.take (sizeV s))
open Classical in
noncomputable def its (p : Nat) (s : List Int) : List (Nat × Fr) :=
  if h0 : s = [] then [] else if h : heads s then (p, fr (s.take (sizeV s))) :: its (p + sizeV s) (s.drop (sizeV s)) else its (p + 1) (s.drop 1)
termination_by s.length
decreasing_by
  · have := List.length_pos_iff.2 h0
    have := h.1
    rw [List.length_drop]; omega
  · have := List.length_pos_iff.2 h0
    rw [List.length_drop]; omega
open Classical in
/-- How many bytes are in no frame. -/
noncomputable def lost (s : List Int) : Nat :=
  if h0 : s = [] then 0 else if h : heads s then lost (s.drop (sizeV s)) else 1 + lost (s.drop 1)
termination_by s.length
decreasing_by
  · have := List.length_pos_iff.2 h0
    have := h.1
    rw [List.length_drop]; omega
  · have := List.length_pos_iff.2 h0
    rw [List.length_drop]; omega
theorem its_nil (p : Nat) : its p [] = [] := by rw [its]; exact dif_pos rfl
theorem its_head {s : List Int} (h : heads s) (p : Nat) : its p s = (p, fr (s.take (sizeV s))) :: its (p + sizeV s) (s.drop (sizeV s)) := by
  have h0 : s ≠ [] := fun e => by subst e; have := h.1; have := h.2.1; simp at this; omega
  rw [its, dif_neg h0, dif_pos h]
theorem its_skip {c : Int} {s : List Int} (h : ¬ heads (c :: s)) (p : Nat) : its p (c :: s) = its (p + 1) s := by
  rw [its, dif_neg (by simp), dif_neg h]; rfl
theorem lost_nil : lost [] = 0 := by rw [lost]; exact dif_pos rfl
theorem lost_head {s : List Int} (h : heads s) : lost s = lost (s.drop (sizeV s)) := by
  have h0 : s ≠ [] := fun e => by subst e; have := h.1; have := h.2.1; simp at this; omega
  rw [lost, dif_neg h0, dif_pos h]
theorem lost_skip {c : Int} {s : List Int} (h : ¬ heads (c :: s)) : lost (c :: s) = 1 + lost s := by
  rw [lost, dif_neg (by simp), dif_neg h]; rfl
/-- Going through bytes, by cases. -/
theorem its_ind {M : List Int → Prop} (h0 : M []) (h1 : ∀ s, heads s → M (s.drop (sizeV s)) → M s) (h2 : ∀ c s, ¬ heads (c :: s) → M s → M (c :: s)) : ∀ (n : Nat) (s : List Int), s.length ≤ n → M s
  | 0, s, hs => by
    obtain rfl : s = [] := List.eq_nil_of_length_eq_zero (by omega)
    exact h0
  | n + 1, [], _ => h0
  | n + 1, c :: s, hs => by
    by_cases h : heads (c :: s)
    · refine h1 _ h (its_ind h0 h1 h2 n _ ?_)
      have := h.1
      rw [List.length_drop]
      simp only [List.length_cons] at hs ⊢
      omega
    · exact h2 c s h (its_ind h0 h1 h2 n s (by simpa using hs))
theorem its_shift (a : Nat) (s : List Int) : ∀ p, its (p + a) s = (its p s).map fun q => (q.1 + a, q.2) := by
  refine its_ind (M := fun s => ∀ p, its (p + a) s = (its p s).map fun q => (q.1 + a, q.2)) (fun p => by rw [its_nil, its_nil]; rfl) (fun s h ih p => ?_) (fun c s h ih p => ?_) s.length s (Nat.le_refl _)
  · rw [its_head h, its_head h, List.map_cons, ← ih, show p + a + sizeV s = p + sizeV s + a by omega]
  · rw [its_skip h, its_skip h, ← ih, show p + a + 1 = p + 1 + a by omega]
theorem lost_le (s : List Int) : lost s ≤ s.length := by
  refine its_ind (M := fun s => lost s ≤ s.length) (by rw [lost_nil]; exact Nat.zero_le _) (fun s h ih => ?_) (fun c s h ih => ?_) s.length s (Nat.le_refl _)
  · rw [lost_head h]; rw [List.length_drop] at ih; omega
  · rw [lost_skip h, List.length_cons]; omega

/-! ### the iterator -/
def conv (q : Nat × Fr) : FrIt := ((q.1 : Int), q.2)
theorem frames_its (l : List Int) (hl : isB l) (hn : l.length ≤ 10000) : ∀ (f p : Nat), p ≤ l.length → l.length - p < f → framesGo (fun l => go_scan_Size false false l) (fun l => go_frame_Decode false true l) l f p = some ((its p (l.drop p)).map conv) ∧
    framesGo (fun l => go_scan_Size false true l) (fun l => go_frame_Decode false true l) l f p = some ((its p (l.drop p)).map conv)
  | 0, p, _, h => by omega
  | f + 1, p, hp, h => by
    rcases Nat.lt_or_ge p l.length with hlt | hge
    · have hs := isB_drop hl p
      have hlen : (l.drop p).length = l.length - p := List.length_drop
      have hsz := sizeV_le (l.drop p)
      have hd := isB_take hs (sizeV (l.drop p))
      have step : ∀ ex : Bool, (∀ p', p < p' → p' ≤ l.length → framesGo (fun l => go_scan_Size false ex l) (fun l => go_frame_Decode false true l) l f p' = some ((its p' (l.drop p')).map conv)) →
          framesGo (fun l => go_scan_Size false ex l) (fun l => go_frame_Decode false true l) l (f + 1) p = some ((its p (l.drop p)).map conv) := fun ex ih => by
        have e0 : l.drop p = l[p] :: l.drop (p + 1) := List.drop_eq_getElem_cons hlt
        have key : ¬ heads (l.drop p) → framesGo (fun l => go_scan_Size false ex l) (fun l => go_frame_Decode false true l) l f (p + 1) = some ((its p (l.drop p)).map conv) := fun hh => by
          rw [ih (p + 1) (by omega) (by omega)]
          rw [e0] at hh ⊢
          rw [its_skip hh]
        rw [framesGo, if_pos hlt]
        rw [size_at false ex _ hs]
        dsimp only
        by_cases c1 : ((sizeV (l.drop p) : Nat) : Int) = 0 ∨ ((sizeV (l.drop p) : Nat) : Int) > ((l.length - p : Nat) : Int)
        · rw [if_pos c1]
          exact key fun hh => by
            have := hh.1
            have := hh.2.1
            omega
        rw [if_neg c1, if_neg (by omega), Int.toNat_natCast]
        by_cases hg : good ((l.drop p).take (sizeV (l.drop p)))
        · have hh : heads (l.drop p) := ⟨by omega, by omega, hg⟩
          obtain ⟨u, v, e1, e2⟩ := dec_good hd (by rw [List.length_take]; omega) hg
          rw [e1]
          dsimp only
          rw [if_neg (fun h => h rfl), ih (p + sizeV (l.drop p)) (by omega) (by omega), Option.map_some, its_head hh, List.map_cons, List.drop_drop, e2]
          rfl
        · obtain ⟨r, e1, e2⟩ := dec_bad hd (by rw [List.length_take]; omega) hg
          rw [e1]
          dsimp only
          rw [if_pos e2]
          exact key fun hh => hg hh.2.2
      exact ⟨step false fun p' h1 h2 => (frames_its l hl hn f p' h2 (by omega)).1, step true fun p' h1 h2 => (frames_its l hl hn f p' h2 (by omega)).2⟩
    · have e : l.drop p = [] := List.drop_eq_nil_of_le hge
      rw [framesGo, framesGo, if_neg (by omega), if_neg (by omega), e, its_nil]
      exact ⟨rfl, rfl⟩
theorem it_frames_at (nil ex : Bool) (l : List Int) (hl : isB l) (hn : l.length ≤ 10000) : it_frames nil ex l = some ((its 0 l).map conv) := by
  have h := frames_its l hl hn (l.length + 1) 0 (Nat.zero_le _) (by omega)
  rw [List.drop_zero] at h
  unfold it_frames
  rw [if_pos (by omega)]
  cases ex
  · exact h.1
  · exact h.2

/-! ### all frames -/
theorem all_fold (b4 b5 b7 b8 : Bool) (l : List Int) (hl : isB l) (hn : l.length ≤ 10000) : ∀ (f p : Nat) (n : Int) (u v : Bool) (es : List PV), p ≤ l.length → l.length - p < f → es.length + (l.length - p) ≤ 20000 → 0 ≤ n → n ≤ 100000 → ((l.length - p : Nat) : Int) ≤ n →
    foldS (X := (Bool × Bool × List Int × Bool × Bool × List Int × Int × Bool × Bool × List PV)) (Y := Unit) (fun x i => st_scan_All_0 x.1 x.2.1 x.2.2.1 x.2.2.2.1 x.2.2.2.2.1 x.2.2.2.2.2.1 x.2.2.2.2.2.2.1 x.2.2.2.2.2.2.2.1 x.2.2.2.2.2.2.2.2.1 x.2.2.2.2.2.2.2.2.2 i) ((its p (l.drop p)).map conv) (b4, b5, l, b7, b8, l, n, u, v, es) =
      some (.inl (b4, b5, l, b7, b8, l, n - ((l.length - p : Nat) : Int) + ((lost (l.drop p) : Nat) : Int), (u && (its p (l.drop p)).isEmpty), (v && (its p (l.drop p)).isEmpty), es ++ (its p (l.drop p)).map fun q => frP q.2))
  | 0, p, n, u, v, es, _, h, _, _, _, _ => by omega
  | f + 1, p, n, u, v, es, hp, h, he, n0, n1, hpn => by
    rcases Nat.lt_or_ge p l.length with hlt | hge
    · have e0 : l.drop p = l[p] :: l.drop (p + 1) := List.drop_eq_getElem_cons hlt
      by_cases hh : heads (l.drop p)
      · have hs1 := hh.1
        have hs2 := hh.2.1
        rw [List.length_drop] at hs2
        have hst : st_scan_All_0 b4 b5 l b7 b8 l n u v es (conv (p, fr ((l.drop p).take (sizeV (l.drop p))))) = some (.inl (b4, b5, l, b7, b8, l, n - ((sizeV (l.drop p) : Nat) : Int), (u && false), false, es ++ [frP (fr ((l.drop p).take (sizeV (l.drop p))))])) := by
          unfold st_scan_All_0 conv
          dsimp only
          rw [show ((((l.length : Nat) : Int) - ((p : Nat) : Int)).toNat) = l.length - p by omega, Int.toNat_natCast, show List.take (l.length - p) (l.drop p) = l.drop p from List.take_of_length_le (by rw [List.length_drop]; exact Nat.le_refl _), size_at b7 b8 _ (isB_drop hl p), Option.bind_some,
            decide_eq_true (by omega), decide_eq_true (by omega), decide_eq_true (by omega), decide_eq_true (by omega), decide_eq_true (by omega), w64 (by omega) (by omega)]
          rfl
        rw [its_head hh, lost_head hh, List.map_cons, foldS]
        dsimp only
        rw [hst]
        dsimp only
        have ih := all_fold b4 b5 b7 b8 l hl hn f (p + sizeV (l.drop p)) (n - ((sizeV (l.drop p) : Nat) : Int)) (u && false) false (es ++ [frP (fr ((l.drop p).take (sizeV (l.drop p))))]) (by omega) (by omega) (by rw [List.length_append]; simp; omega) (by omega) (by omega) (by omega)
        rw [List.drop_drop, ih, List.map_cons, List.append_assoc]
        simp only [Bool.and_false, Bool.false_and, List.isEmpty_cons, List.singleton_append]
        rw [show n - ((sizeV (l.drop p) : Nat) : Int) - ((l.length - (p + sizeV (l.drop p)) : Nat) : Int) = n - ((l.length - p : Nat) : Int) by omega]
      · have ih := all_fold b4 b5 b7 b8 l hl hn f (p + 1) n u v es (by omega) (by omega) (by omega) n0 n1 (by omega)
        rw [e0] at hh ⊢
        rw [its_skip hh, lost_skip hh, ih, show n - ((l.length - p : Nat) : Int) + ((1 + lost (l.drop (p + 1)) : Nat) : Int) = n - ((l.length - (p + 1) : Nat) : Int) + ((lost (l.drop (p + 1)) : Nat) : Int) by omega]
    · have e : l.drop p = [] := List.drop_eq_nil_of_le hge
      rw [e, its_nil, lost_nil]
      simp only [List.map_nil, foldS, List.isEmpty_nil, Bool.and_true, List.append_nil]
      rw [show n - ((l.length - p : Nat) : Int) + ((0 : Nat) : Int) = n by omega]
/-- All frames of bytes. -/
theorem all_at (b0 b1 : Bool) (l : List Int) (hl : isB l) (hn : l.length ≤ 10000) : go_scan_All b0 b1 l = some ((its 0 l).isEmpty, (its 0 l).isEmpty, (its 0 l).map (fun q => frP q.2), ((lost l : Nat) : Int)) := by
  have h := all_fold b0 b1 b0 b1 l hl hn (l.length + 1) 0 (l.length : Int) true true [] (Nat.zero_le _) (by omega) (by simp; omega) (by omega) (by omega) (by omega)
  rw [List.drop_zero] at h
  unfold go_scan_All go_scan_Frames lp_scan_All_0 it_scan_All_0
  rw [Option.bind_some]
  dsimp only
  rw [it_frames_at b0 b1 l hl hn, Option.bind_some, h, Option.bind_some]
  simp only [Sum.elim_inl, Bool.true_and, List.nil_append]
  rw [show ((l.length : Nat) : Int) - ((l.length - 0 : Nat) : Int) + ((lost l : Nat) : Int) = ((lost l : Nat) : Int) by omega]
end Go.Proofs

/-
  Frames among bytes: frames that are joined; what the document fixes (plain).
-/
set_option linter.unusedSimpArgs false
set_option linter.unusedVariables false
set_option maxRecDepth 100000
namespace Go.Proofs
open Go Go.Fx

theorem getD_app {l m : List Int} {i : Nat} (h : i < l.length) : (l ++ m).getD i 0 = l.getD i 0 := by
  rw [List.getD_eq_getElem?_getD, List.getD_eq_getElem?_getD, List.getElem?_append_left h]
theorem no_head {c : Int} {s : List Int} (h : c ≠ 78) : ¬ heads (c :: s) := fun hh => by
  have h1 := hh.1
  unfold sizeV at h1
  rw [if_pos] at h1
  · omega
  · refine .inr (.inl fun e => ?_)
    cases s with
    | nil => cases e
    | cons a s => exact h (List.cons.inj e).1
theorem no_head2 {c : Int} {s : List Int} (h : c ≠ 86) (d : Int) : ¬ heads (d :: c :: s) := fun hh => by
  have h1 := hh.1
  unfold sizeV at h1
  rw [if_pos] at h1
  · omega
  · exact .inr (.inl fun e => h (List.cons.inj (List.cons.inj e).2).1)
theorem no_many {s : List Int} (h : mm s = 0) : ¬ heads s := fun hh => by
  have h1 := hh.1
  unfold sizeV at h1
  rw [if_pos (.inr (.inr h))] at h1
  omega
theorem size_bytes {k q n : Int} {L : List Int} (hr : R12 k q n L) (t : List Int) : sizeV (bytes12 k q n L ++ t) = (bytes12 k q n L).length := by
  have hb := read12 hr
  have hl := bytes12_len k q n L
  have h1 := hr.1
  have h2 := hr.2.1
  have ek : kd (bytes12 k q n L ++ t) = kd (bytes12 k q n L) := getD_app (by omega)
  have en : nn (bytes12 k q n L ++ t) = nn (bytes12 k q n L) := getD_app (by omega)
  have em : mm (bytes12 k q n L ++ t) = L.length := by
    rw [← hb.2.2.2.2.1]; unfold mm; rw [ek, en]
  unfold sizeV
  rw [em, if_neg, hl]
  rintro (h | h | h)
  · rw [List.length_append] at h; omega
  · exact h rfl
  · omega
theorem good_bytes {k q n : Int} {L : List Int} (hr : R12 k q n L) : good (bytes12 k q n L) := by
  obtain ⟨h1, h2, h3, h4, h5, h6⟩ := read12 hr
  exact ⟨h1, by rw [h2, h3, h4, h5, h6]; exact hr⟩
theorem heads_bytes {k q n : Int} {L : List Int} (hr : R12 k q n L) (t : List Int) : heads (bytes12 k q n L ++ t) := by
  have hl := bytes12_len k q n L
  have hs := size_bytes hr t
  refine ⟨by omega, by rw [hs, List.length_append]; omega, ?_⟩
  rw [hs, List.take_left]
  exact good_bytes hr
theorem fr_bytes {k q n : Int} {L : List Int} (hr : R12 k q n L) : ∃ u v, fr (bytes12 k q n L) = (k, q, n, u, v, L) := by
  obtain ⟨k1, k2, k3⟩ := R12_b hr
  obtain ⟨u, v, _, h⟩ := dec_good (bytes12_isB (q := q) (L := L) k1 k2) (by rw [bytes12_len]; omega) (good_bytes hr)
  obtain ⟨h1, h2, h3, h4, h5, h6⟩ := read12 hr
  rw [h2, h3, h4, h5, h6] at h
  exact ⟨u, v, h⟩
theorem its_bytes {k q n : Int} {L : List Int} (hr : R12 k q n L) (t : List Int) (p : Nat) : ∃ u v, its p (bytes12 k q n L ++ t) = (p, (k, q, n, u, v, L)) :: its (p + (bytes12 k q n L).length) t := by
  obtain ⟨u, v, h⟩ := fr_bytes hr
  refine ⟨u, v, ?_⟩
  rw [its_head (heads_bytes hr t), size_bytes hr t, List.take_left, List.drop_left, h]
theorem lost_bytes {k q n : Int} {L : List Int} (hr : R12 k q n L) (t : List Int) : lost (bytes12 k q n L ++ t) = lost t := by
  rw [lost_head (heads_bytes hr t), size_bytes hr t, List.drop_left]

/-! ### frames that are joined -/
def RF (f : Fr) : Prop := R12 f.1 f.2.1 f.2.2.1 f.2.2.2.2.2
instance (f : Fr) : Decidable (RF f) := by unfold RF; infer_instance
def bytesF (f : Fr) : List Int := bytes12 f.1 f.2.1 f.2.2.1 f.2.2.2.2.2
def joinB (fs : List Fr) : List Int := fs.flatMap bytesF
/-- The same numbers. -/
def same (a b : Fr) : Prop := a.1 = b.1 ∧ a.2.1 = b.2.1 ∧ a.2.2.1 = b.2.2.1 ∧ a.2.2.2.2.2 = b.2.2.2.2.2
theorem bytesF_len {f : Fr} (h : RF f) : 12 < (bytesF f).length ∧ (bytesF f).length ≤ 268 := by
  have := R12_b h
  have h1 := h.1
  have h2 := h.2.1
  unfold bytesF
  rw [bytes12_len]; omega
theorem bytesF_isB {f : Fr} (h : RF f) : isB (bytesF f) := by
  obtain ⟨k1, k2, k3⟩ := R12_b h
  exact bytes12_isB k1 k2
theorem joinB_isB : ∀ {fs : List Fr}, (∀ f ∈ fs, RF f) → isB (joinB fs)
  | [], _ => isB_nil
  | f :: fs, h => by
    unfold joinB
    rw [List.flatMap_cons, isB_append]
    exact ⟨bytesF_isB (h f (List.mem_cons_self ..)), joinB_isB fun g hg => h g (List.mem_cons_of_mem _ hg)⟩
theorem joinB_len : ∀ {fs : List Fr}, (∀ f ∈ fs, RF f) → (joinB fs).length ≤ 268 * fs.length
  | [], _ => Nat.le_refl _
  | f :: fs, h => by
    have := joinB_len (fs := fs) fun g hg => h g (List.mem_cons_of_mem _ hg)
    have := (bytesF_len (h f (List.mem_cons_self ..))).2
    unfold joinB at *
    rw [List.flatMap_cons, List.length_append, List.length_cons]; omega
/-- Frames that are joined are found, and then what is behind them. -/
theorem its_join (t : List Int) : ∀ (fs : List Fr) (p : Nat), (∀ f ∈ fs, RF f) → ∃ R, its p (joinB fs ++ t) = R ++ its (p + (joinB fs).length) t ∧ R.length = fs.length ∧ ∀ i (h : i < fs.length) (h' : i < R.length), same (R[i]).2 fs[i]
  | [], p, _ => ⟨[], rfl, rfl, fun i h => absurd h (Nat.not_lt_zero _)⟩
  | f :: fs, p, h => by
    have hf := h f (List.mem_cons_self ..)
    obtain ⟨u, v, e⟩ := its_bytes hf (joinB fs ++ t) p
    obtain ⟨R, e1, e2, e3⟩ := its_join t fs (p + (bytesF f).length) fun g hg => h g (List.mem_cons_of_mem _ hg)
    refine ⟨(p, (f.1, f.2.1, f.2.2.1, u, v, f.2.2.2.2.2)) :: R, ?_, by rw [List.length_cons, e2]; rfl, fun i hi hi' => ?_⟩
    · have : joinB (f :: fs) ++ t = bytes12 f.1 f.2.1 f.2.2.1 f.2.2.2.2.2 ++ (joinB fs ++ t) := by
        unfold joinB
        rw [List.flatMap_cons, List.append_assoc]; rfl
      rw [this, e]
      have e1 : its (p + (bytes12 f.1 f.2.1 f.2.2.1 f.2.2.2.2.2).length) (joinB fs ++ t) = _ := e1
      rw [e1, List.cons_append, show (joinB (f :: fs)).length = (bytesF f).length + (joinB fs).length by unfold joinB; rw [List.flatMap_cons, List.length_append], Nat.add_assoc]
    · cases i with
      | zero => exact ⟨rfl, rfl, rfl, rfl⟩
      | succ i => exact e3 i (by simpa using hi) (by simpa using hi')
theorem lost_join (t : List Int) : ∀ (fs : List Fr), (∀ f ∈ fs, RF f) → lost (joinB fs ++ t) = lost t
  | [], _ => rfl
  | f :: fs, h => by
    have : joinB (f :: fs) ++ t = bytes12 f.1 f.2.1 f.2.2.1 f.2.2.2.2.2 ++ (joinB fs ++ t) := by
      unfold joinB
      rw [List.flatMap_cons, List.append_assoc]; rfl
    rw [this, lost_bytes (h f (List.mem_cons_self ..)), lost_join t fs fun g hg => h g (List.mem_cons_of_mem _ hg)]
theorem getD_frP {fs : List Fr} {i : Nat} (h : i < fs.length) : (fs.map frP).getD i .nilSl = frP fs[i] := by
  rw [List.getD_eq_getElem?_getD, List.getElem?_map, List.getElem?_eq_getElem h]; rfl
theorem fl (f : Fr) : decide (List.length (PV.cells (frP f)) = 4) = true := rfl
theorem fo (f : Fr) : Shp.ok (.agg [(.int .i64), (.int .i64), (.int .i64), (.isl .i64)]) (.agg (PV.cells (frP f))) = true := rfl
theorem p1 (f : Fr) : PV.num (List.headD (PV.subs (.agg (PV.cells (frP f)))) .nilSl) = f.1 := rfl
theorem p2 (f : Fr) : PV.num (List.headD (List.tail (PV.subs (.agg (PV.cells (frP f))))) .nilSl) = f.2.1 := rfl
theorem p3 (f : Fr) : PV.num (List.headD (List.tail (List.tail (PV.subs (.agg (PV.cells (frP f)))))) .nilSl) = f.2.2.1 := rfl
theorem p4 (f : Fr) : PV.nl (List.headD (List.tail (List.tail (List.tail (PV.subs (.agg (PV.cells (frP f))))))) .nilSl) = f.2.2.2.1 := rfl
theorem p5 (f : Fr) : PV.ex (List.headD (List.tail (List.tail (List.tail (PV.subs (.agg (PV.cells (frP f))))))) .nilSl) = f.2.2.2.2.1 := rfl
theorem p6 (f : Fr) : PV.ints (List.headD (List.tail (List.tail (List.tail (PV.subs (.agg (PV.cells (frP f))))))) .nilSl) = f.2.2.2.2.2 := rfl
theorem join_loop (b3 b4 : Bool) (fs : List Fr) (hn : fs.length ≤ 100) : ∀ (d j : Nat) (u v : Bool) (acc : List Int), j + d = fs.length → acc.length + 300 * d ≤ 100000 →
    ((∀ f ∈ fs.drop j, RF f) → ∃ u' v', iterN (fun x => st_new_scan_Join_0 x.1 x.2.1 x.2.2.1 x.2.2.2.1 x.2.2.2.2.1 x.2.2.2.2.2.1 x.2.2.2.2.2.2.1 x.2.2.2.2.2.2.2) (d + 1) (b3, b4, fs.map frP, (fs.length : Int), (j : Int), u, v, acc) = some (.inl (u', v', acc ++ joinB (fs.drop j)))) ∧
    ((¬ ∀ f ∈ fs.drop j, RF f) → iterN (fun x => st_new_scan_Join_0 x.1 x.2.1 x.2.2.1 x.2.2.2.1 x.2.2.2.2.1 x.2.2.2.2.2.1 x.2.2.2.2.2.2.1 x.2.2.2.2.2.2.2) (d + 1) (b3, b4, fs.map frP, (fs.length : Int), (j : Int), u, v, acc) = some (.inr (true, true, [], 1)))
  | 0, j, u, v, acc, hj, hb => by
    obtain rfl : j = fs.length := by omega
    have e : st_new_scan_Join_0 b3 b4 (fs.map frP) (fs.length : Int) (fs.length : Int) u v acc = some (.inr (.inl (u, v, acc))) := by
      unfold st_new_scan_Join_0
      rw [decide_eq_false (Int.lt_irrefl _)]
      rfl
    simp only [iterN, e]
    rw [List.drop_length]
    exact ⟨fun _ => ⟨u, v, by simp [joinB]⟩, fun h => absurd (fun f hf => by cases hf) h⟩
  | d + 1, j, u, v, acc, hj, hb => by
    have hlt : j < fs.length := by omega
    have e : st_new_scan_Join_0 b3 b4 (fs.map frP) (fs.length : Int) (j : Int) u v acc = if RF fs[j] then some (.inl (b3, b4, fs.map frP, (fs.length : Int), ((j + 1 : Nat) : Int), (u && (bytesF fs[j]).isEmpty), false, acc ++ bytesF fs[j])) else some (.inr (.inr (true, true, [], 1))) := by
      unfold st_new_scan_Join_0
      rw [Int.toNat_natCast, getD_frP hlt, List.length_map]
      simp only [fl, fo, p1, p2, p3, p4, p5, p6]
      rw [decide_eq_true (show (j : Int) < ((fs.length : Nat) : Int) by omega), decide_eq_true (show (0 : Int) ≤ (j : Int) by omega), decide_eq_true hlt]
      simp only [cond_true]
      by_cases hr : RF fs[j]
      · have hbl := bytesF_len hr
        rw [encode_at _ _ hr, if_pos hr, Option.bind_some]
        dsimp only
        rw [bne_self_eq_false, cond_false]
        have hbl' : (bytes12 fs[j].1 fs[j].2.1 fs[j].2.2.1 fs[j].2.2.2.2.2).length ≤ 268 := hbl.2
        rw [decide_eq_true (by omega), decide_eq_true (by omega), inc64 (by omega)]
        rfl
      · rw [encode_not' _ _ hr, if_neg hr]
        rfl
    have hd : fs.drop j = fs[j] :: fs.drop (j + 1) := List.drop_eq_getElem_cons hlt
    rw [iterN]
    simp only [e]
    rw [hd]
    by_cases hr : RF fs[j]
    · have := bytesF_len hr
      have ih := join_loop b3 b4 fs hn d (j + 1) (u && (bytesF fs[j]).isEmpty) false (acc ++ bytesF fs[j]) (by omega) (by rw [List.length_append]; omega)
      rw [if_pos hr]
      refine ⟨fun h => ?_, fun h => ?_⟩
      · obtain ⟨u', v', h1⟩ := ih.1 fun f hf => h f (List.mem_cons_of_mem _ hf)
        refine ⟨u', v', ?_⟩
        dsimp only
        rw [h1, List.append_assoc]
        rfl
      · exact ih.2 fun h1 => h fun f hf => (List.mem_cons.1 hf).elim (fun e => e ▸ hr) (h1 f)
    · rw [if_neg hr]
      exact ⟨fun h => absurd (h _ (List.mem_cons_self ..)) hr, fun _ => rfl⟩
theorem join_at (b0 b1 : Bool) (fs : List Fr) (hn : fs.length ≤ 100) : ((∀ f ∈ fs, RF f) → ∃ u v, go_new_scan_Join b0 b1 (fs.map frP) = some (u, v, joinB fs, 0)) ∧ ((¬ ∀ f ∈ fs, RF f) → go_new_scan_Join b0 b1 (fs.map frP) = some (true, true, [], 1)) := by
  have h := join_loop b0 b1 fs hn fs.length 0 true true [] (by omega) (by simp; omega)
  rw [List.drop_zero] at h
  unfold go_new_scan_Join lp_new_scan_Join_0
  rw [List.length_map]
  refine ⟨fun hr => ?_, fun hr => ?_⟩
  · obtain ⟨u, v, h1⟩ := h.1 hr
    refine ⟨u, v, ?_⟩
    rw [show (0 : Int) = ((0 : Nat) : Int) from rfl, loopN_of (fs.length + 1) (by omega) h1]
    rfl
  · rw [show (0 : Int) = ((0 : Nat) : Int) from rfl, loopN_of (fs.length + 1) (by omega) (h.2 hr)]
    rfl
theorem awake13 : go_coupletlaw13_awake = some true := by
  have hr : RF (3, 0, 1, false, true, [1, 2, 3]) := by decide
  have hj := (join_at false true [(3, 0, 1, false, true, [1, 2, 3])] (by decide)).1 (fun f hf => by rw [List.mem_singleton.1 hf]; exact hr)
  obtain ⟨u, v, hj⟩ := hj
  have hB := bytesF_isB hr
  have hlen : (bytes12 3 0 1 [1, 2, 3]).length = 36 := bytes12_len 3 0 1 [1, 2, 3]
  have ej : joinB [(3, 0, 1, false, true, [1, 2, 3])] = bytes12 3 0 1 [1, 2, 3] := List.append_nil _
  rw [ej] at hj
  have hB : isB (bytes12 3 0 1 [1, 2, 3]) := hB
  obtain ⟨c, d, hcd⟩ : ∃ c d, bytes12 3 0 1 [1, 2, 3] = 78 :: 86 :: 3 :: c :: d := ⟨_, _, rfl⟩
  have eL : ([120] ++ bytes12 3 0 1 [1, 2, 3]) ++ [78, 86] ++ bytes12 3 0 1 [1, 2, 3] = 120 :: (bytes12 3 0 1 [1, 2, 3] ++ (78 :: 86 :: (bytes12 3 0 1 [1, 2, 3] ++ []))) := by simp
  obtain ⟨u1, v1, i1⟩ := its_bytes hr (78 :: 86 :: (bytes12 3 0 1 [1, 2, 3] ++ [])) 1
  obtain ⟨u2, v2, i2⟩ := its_bytes hr [] 39
  have nm : ¬ heads (78 :: 86 :: (bytes12 3 0 1 [1, 2, 3] ++ [])) := no_many (by rw [hcd]; rfl)
  have hits : its 0 (120 :: (bytes12 3 0 1 [1, 2, 3] ++ (78 :: 86 :: (bytes12 3 0 1 [1, 2, 3] ++ [])))) = [(1, (3, 0, 1, u1, v1, [1, 2, 3])), (39, (3, 0, 1, u2, v2, [1, 2, 3]))] := by
    rw [its_skip (no_head (by decide))]
    have i1 : its (0 + 1) (bytes12 3 0 1 [1, 2, 3] ++ (78 :: 86 :: (bytes12 3 0 1 [1, 2, 3] ++ []))) = _ := i1
    rw [i1]
    have e1 : (1 + (bytes12 3 0 1 [1, 2, 3]).length) = 37 := by rw [hlen]
    have i3 : its (1 + (bytes12 3 0 1 [1, 2, 3]).length) (78 :: 86 :: (bytes12 3 0 1 [1, 2, 3] ++ [])) = [(39, (3, 0, 1, u2, v2, [1, 2, 3]))] := by
      rw [e1, its_skip nm, its_skip (no_head (by decide))]
      have i2 : its (37 + 1 + 1) (bytes12 3 0 1 [1, 2, 3] ++ []) = _ := i2
      rw [i2, its_nil]
    have i3 : its (1 + (bytes12 (3, 0, 1, false, true, [1, 2, 3]).1 (3, 0, 1, false, true, [1, 2, 3]).2.1 (3, 0, 1, false, true, [1, 2, 3]).2.2.1 (3, 0, 1, false, true, [1, 2, 3]).2.2.2.2.2).length) (78 :: 86 :: (bytes12 3 0 1 [1, 2, 3] ++ [])) = _ := i3
    rw [i3]
  have hlost : lost (120 :: (bytes12 3 0 1 [1, 2, 3] ++ (78 :: 86 :: (bytes12 3 0 1 [1, 2, 3] ++ [])))) = 3 := by
    rw [lost_skip (no_head (by decide)), lost_bytes hr, lost_skip nm, lost_skip (no_head (by decide)), lost_bytes hr, lost_nil]
  have hBB : isB (120 :: (bytes12 3 0 1 [1, 2, 3] ++ (78 :: 86 :: (bytes12 3 0 1 [1, 2, 3] ++ [])))) := by
    rw [isB_cons, isB_append, isB_cons, isB_cons, List.append_nil]
    exact ⟨by decide, hB, by decide, by decide, hB⟩
  have hall := all_at ((false && false) && (bytes12 3 0 1 [1, 2, 3]).isEmpty) false _ hBB (by simp; omega)
  rw [hits, hlost] at hall
  have hsz := size_bytes hr []
  rw [List.append_nil] at hsz
  have hsz : sizeV (bytes12 3 0 1 [1, 2, 3]) = 36 := hsz.trans hlen
  have hem : (bytes12 3 0 1 [1, 2, 3]).isEmpty = false := rfl
  unfold go_coupletlaw13_awake
  have hj : go_new_scan_Join false true [(.agg [(.int .i64 3), (.int .i64 0), (.int .i64 1), (.isl false true .i64 [1, 2, 3])])] = some (u, v, bytes12 3 0 1 [1, 2, 3], 0) := hj
  rw [hj, Option.bind_some]
  dsimp only
  rw [eL, hall, hlen, hem, size_at _ _ _ hB, hsz]
  simp only [Option.bind_some, cond_false, Bool.and_false, Bool.false_and]
  simp only [List.map_cons, List.map_nil, List.getD_cons_succ, List.getD_cons_zero, fl, fo, p1, p2, p3, p4, p5, p6]
  rw [same_at _ _ _ _ _ _ _ _ _ _ _ _ (by decide)]
  simp [hlen]
end Go.Proofs

/-
  Laws of layer 13: nothing found, noise, two parts, frames joined (plain).
-/
set_option linter.unusedSimpArgs false
set_option linter.unusedVariables false
set_option maxRecDepth 100000
namespace Go.Proofs
open Go Go.Fx

/-! ### nothing -/
theorem heads_nv {s : List Int} (h : heads s) : 2 ≤ s.length ∧ s.getD 0 0 = 78 ∧ s.getD 1 0 = 86 := by
  have h1 := h.1
  unfold sizeV at h1
  split at h1
  · omega
  · rename_i hc
    have h4 : ¬ s.length < 4 := fun h => hc (.inl h)
    have h2 : s.take 2 = [78, 86] := Classical.byContradiction fun h => hc (.inr (.inl h))
    rw [take2 (by omega)] at h2
    exact ⟨by omega, (List.cons.inj h2).1, (List.cons.inj (List.cons.inj h2).2).1⟩
theorem none_its : ∀ (s : List Int), (∀ i, i + 1 < s.length → ¬ (s.getD i 0 = 78 ∧ s.getD (i + 1) 0 = 86)) → ∀ p, its p s = [] ∧ lost s = s.length
  | [], _, p => ⟨its_nil p, lost_nil⟩
  | c :: s, h, p => by
    have hh : ¬ heads (c :: s) := fun hh => by
      obtain ⟨h1, h2, h3⟩ := heads_nv hh
      exact h 0 h1 ⟨h2, h3⟩
    have ih := none_its s (fun i hi => h (i + 1) (by simpa using hi)) (p + 1)
    rw [its_skip hh, lost_skip hh, ih.1, ih.2, List.length_cons]
    exact ⟨rfl, by omega⟩
theorem none_loop (b4 b5 : Bool) (l : List Int) (hn : l.length ≤ 2000) : ∀ (d k : Nat), 1 ≤ k → l.length ≤ k + d → k ≤ 3000 → ∃ y, iterN (fun x => st_coupletlaw13_ScanNone_0 x.1 x.2.1 x.2.2.1 x.2.2.2) (d + 1) (b4, b5, l, (k : Int)) = some y ∧
    (y = .inr true ∨ (y = .inl (b4, b5, l) ∧ ∀ i, k ≤ i + 1 → i + 1 < l.length → ¬ (l.getD i 0 = 78 ∧ l.getD (i + 1) 0 = 86)))
  | d, k, hk, hd, hk2 => by
    rcases Nat.lt_or_ge k l.length with hlt | hge
    case inr =>
      have e : st_coupletlaw13_ScanNone_0 b4 b5 l (k : Int) = some (.inr (.inl (b4, b5, l))) := by
        unfold st_coupletlaw13_ScanNone_0
        rw [decide_eq_false (by omega)]
        rfl
      exact ⟨_, by rw [iterN]; simp only [e], .inr ⟨rfl, fun i h1 h2 => by omega⟩⟩
    case inl =>
      have e1 : IntKind.wrap .i64 ((k : Int) - 1) = ((k - 1 : Nat) : Int) := by rw [w64 (by omega) (by omega)]; omega
      have hk1 : k - 1 < l.length := by omega
      cases d with
      | zero => omega
      | succ d =>
      have next : st_coupletlaw13_ScanNone_0 b4 b5 l (k : Int) = some (.inl (b4, b5, l, ((k + 1 : Nat) : Int))) → ¬ (l.getD (k - 1) 0 = 78 ∧ l.getD k 0 = 86) → ∃ y, iterN (fun x => st_coupletlaw13_ScanNone_0 x.1 x.2.1 x.2.2.1 x.2.2.2) (d + 1 + 1) (b4, b5, l, (k : Int)) = some y ∧
          (y = .inr true ∨ (y = .inl (b4, b5, l) ∧ ∀ i, k ≤ i + 1 → i + 1 < l.length → ¬ (l.getD i 0 = 78 ∧ l.getD (i + 1) 0 = 86))) := fun e hno => by
        obtain ⟨y, h1, h2⟩ := none_loop b4 b5 l hn d (k + 1) (by omega) (by omega) (by omega)
        refine ⟨y, by rw [iterN]; simp only [e]; exact h1, h2.imp id fun h => ⟨h.1, fun i h3 h4 => ?_⟩⟩
        by_cases hi : i + 1 = k
        · subst hi; exact hno
        · exact h.2 i (by omega) h4
      by_cases c1 : l.getD (k - 1) 0 = 78
      · by_cases c2 : l.getD k 0 = 86
        · have e : st_coupletlaw13_ScanNone_0 b4 b5 l (k : Int) = some (.inr (.inr true)) := by
            unfold st_coupletlaw13_ScanNone_0
            rw [e1, Int.toNat_natCast, Int.toNat_natCast, c1, c2, awake13, decide_eq_true (by omega), decide_eq_true (by omega), decide_eq_true (by omega), decide_eq_true (by omega), decide_eq_true (by omega), decide_eq_true (by omega)]
            rfl
          exact ⟨_, by rw [iterN]; simp only [e], .inl rfl⟩
        · refine next ?_ fun h => c2 h.2
          unfold st_coupletlaw13_ScanNone_0
          rw [e1, Int.toNat_natCast, Int.toNat_natCast, c1, ibeq (l.getD k 0), decide_eq_false c2, decide_eq_true (by omega), decide_eq_true (by omega), decide_eq_true (by omega), decide_eq_true (by omega), decide_eq_true (by omega), decide_eq_true (by omega), inc64 (by omega)]
          rfl
      · refine next ?_ fun h => c1 h.1
        unfold st_coupletlaw13_ScanNone_0
        rw [e1, Int.toNat_natCast, ibeq (l.getD (k - 1) 0), decide_eq_false c1, decide_eq_true (by omega), decide_eq_true (by omega), decide_eq_true (by omega), decide_eq_true (by omega), inc64 (by omega)]
        rfl
theorem law_ScanNone {b0 b1 : Bool} {l2 : List Int} (w0 : l2.length ≤ maxLen) (c0 : ∀ x ∈ l2, (Lit.int .u8 x).wf = true) (g0 : b0 = true → l2 = []) : go_coupletlaw13_ScanNone b0 b1 l2 = some true := by
  unfold go_coupletlaw13_ScanNone
  rw [awake13]
  by_cases s1 : ((l2.length : Nat) : Int) > 1500
  · rw [decide_eq_true s1]; rfl
  have hl := isB_wf c0
  rw [decide_eq_false s1, cond_false]
  obtain ⟨y, h1, h2⟩ := none_loop b0 b1 l2 (by omega) l2.length 1 (Nat.le_refl _) (by omega) (by decide)
  unfold lp_coupletlaw13_ScanNone_0
  rw [show (1 : Int) = ((1 : Nat) : Int) from rfl, loopN_of (l2.length + 1) (by omega) h1, Option.bind_some]
  rcases h2 with rfl | ⟨rfl, h2⟩
  · rfl
  · have h3 := none_its l2 (fun i hi => h2 i (by omega) hi) 0
    have hs : sizeV l2 = 0 := by
      cases l2 with
      | nil => rfl
      | cons c s =>
        unfold sizeV
        rw [if_pos]
        by_cases h4 : (c :: s).length < 4
        · exact .inl h4
        · refine .inr (.inl fun e => ?_)
          rw [take2 (by omega)] at e
          exact h2 0 (by omega) (by omega) ⟨(List.cons.inj e).1, (List.cons.inj (List.cons.inj e).2).1⟩
    simp only [Sum.elim_inl]
    rw [all_at b0 b1 l2 hl (by omega), h3.1, h3.2, Option.bind_some, size_at b0 b1 l2 hl, hs]
    dsimp only
    rw [beq_self_eq_true]
    rfl

/-! ### noise -/
theorem noise_its (b : List Int) : ∀ (a : List Int), (∀ x ∈ a, x ≠ 78) → ∀ p, its p (a ++ b) = its (p + a.length) b ∧ lost (a ++ b) = a.length + lost b
  | [], _, p => ⟨rfl, (Nat.zero_add _).symm⟩
  | c :: a, h, p => by
    have ih := noise_its b a (fun x hx => h x (List.mem_cons_of_mem _ hx)) (p + 1)
    have hh : ¬ heads (c :: (a ++ b)) := no_head (h c (List.mem_cons_self ..))
    rw [List.cons_append, its_skip hh, lost_skip hh, ih.1, ih.2, List.length_cons]
    exact ⟨by rw [show p + 1 + a.length = p + (a.length + 1) by omega], by omega⟩
theorem noise_loop (b8 b9 : Bool) (l10 : List Int) (b11 b12 : Bool) (l13 : List Int) (b14 b15 : Bool) (l : List Int) (hn : l.length ≤ 2000) : ∀ (d k : Nat), k + d = l.length → ∃ y,
    iterN (fun x => st_coupletlaw13_ScanNoise_0 x.1 x.2.1 x.2.2.1 x.2.2.2.1 x.2.2.2.2.1 x.2.2.2.2.2.1 x.2.2.2.2.2.2.1 x.2.2.2.2.2.2.2.1 x.2.2.2.2.2.2.2.2.1 x.2.2.2.2.2.2.2.2.2.1 x.2.2.2.2.2.2.2.2.2.2) (d + 1) (b8, b9, l10, b11, b12, l13, b14, b15, l, (l.length : Int), (k : Int)) = some y ∧
      (y = .inr true ∨ (y = .inl (b8, b9, l10, b11, b12, l13) ∧ ∀ x ∈ l.drop k, x ≠ 78))
  | 0, k, hk => by
    obtain rfl : k = l.length := by omega
    have e : st_coupletlaw13_ScanNoise_0 b8 b9 l10 b11 b12 l13 b14 b15 l (l.length : Int) (l.length : Int) = some (.inr (.inl (b8, b9, l10, b11, b12, l13))) := by
      unfold st_coupletlaw13_ScanNoise_0
      rw [decide_eq_false (Int.lt_irrefl _)]
      rfl
    exact ⟨_, by rw [iterN]; simp only [e], .inr ⟨rfl, by rw [List.drop_length]; exact fun x h => by cases h⟩⟩
  | d + 1, k, hk => by
    have hlt : k < l.length := by omega
    have e : st_coupletlaw13_ScanNoise_0 b8 b9 l10 b11 b12 l13 b14 b15 l (l.length : Int) (k : Int) = if l[k] = 78 then some (.inr (.inr true)) else some (.inl (b8, b9, l10, b11, b12, l13, b14, b15, l, (l.length : Int), ((k + 1 : Nat) : Int))) := by
      unfold st_coupletlaw13_ScanNoise_0
      rw [Int.toNat_natCast, getD_at hlt, awake13, ibeq, decide_eq_true (by omega), decide_eq_true (by omega), decide_eq_true hlt, inc64 (by omega)]
      by_cases h : l[k] = 78
      · rw [if_pos h, decide_eq_true h]; rfl
      · rw [if_neg h, decide_eq_false h]; rfl
    rw [iterN]
    simp only [e]
    rw [List.drop_eq_getElem_cons hlt]
    by_cases h : l[k] = 78
    · rw [if_pos h]
      exact ⟨_, rfl, .inl rfl⟩
    · rw [if_neg h]
      obtain ⟨y, h1, h2⟩ := noise_loop b8 b9 l10 b11 b12 l13 b14 b15 l hn d (k + 1) (by omega)
      exact ⟨y, h1, h2.imp id fun h3 => ⟨h3.1, fun x hx => (List.mem_cons.1 hx).elim (fun e => e ▸ h) (h3.2 x)⟩⟩
/-- The frames that are found have few numbers. -/
theorem its_short (s : List Int) (hs : isB s) (hn : s.length ≤ 10000) : ∀ p, ∀ q ∈ its p s, q.2.2.2.2.2.2.length ≤ 32 := by
  refine its_ind (M := fun s => isB s → s.length ≤ 10000 → ∀ p, ∀ q ∈ its p s, q.2.2.2.2.2.2.length ≤ 32) (fun _ _ p q h => ?_) (fun s h ih hs hn p q hq => ?_) (fun c s h ih hs hn p q hq => ?_) s.length s (Nat.le_refl _) hs hn
  · rw [its_nil] at h; cases h
  · rw [its_head h] at hq
    rcases List.mem_cons.1 hq with rfl | hq
    · obtain ⟨u, v, _, e⟩ := dec_good (isB_take hs _) (by rw [List.length_take]; omega) h.2.2
      dsimp only
      rw [e]
      simp only [nums, List.length_map, List.length_range']
      exact mm_le _
    · exact ih (isB_drop hs _) (by rw [List.length_drop]; omega) _ q hq
  · rw [its_skip h] at hq
    exact ih (isB_cons.1 hs).2 (by simp at hn; omega) _ q hq
theorem cmp_noise (b24 b25 b27 b28 : Bool) (A B : List Fr) (hn : A.length ≤ 10000) (hAB : A.length = B.length) (hL : ∀ f ∈ A, f.2.2.2.2.2.length < 9223372036854775807) (hS : ∀ i (h : i < A.length) (h' : i < B.length), same A[i] B[i]) : ∀ (d k : Nat), k + d = A.length →
    iterN (fun x => st_coupletlaw13_ScanNoise_1 x.1 x.2.1 x.2.2.1 x.2.2.2.1 x.2.2.2.2.1 x.2.2.2.2.2.1 x.2.2.2.2.2.2.1 x.2.2.2.2.2.2.2) (d + 1) (b24, b25, A.map frP, b27, b28, B.map frP, (A.length : Int), (k : Int)) = some (.inl ())
  | 0, k, hk => by
    obtain rfl : k = A.length := by omega
    have e : st_coupletlaw13_ScanNoise_1 b24 b25 (A.map frP) b27 b28 (B.map frP) (A.length : Int) (A.length : Int) = some (.inr (.inl ())) := by
      unfold st_coupletlaw13_ScanNoise_1
      rw [decide_eq_false (Int.lt_irrefl _)]
      rfl
    rw [iterN]; simp only [e]
  | d + 1, k, hk => by
    have h1 : k < A.length := by omega
    have h2 : k < B.length := by omega
    have hs := hS k h1 h2
    have e : st_coupletlaw13_ScanNoise_1 b24 b25 (A.map frP) b27 b28 (B.map frP) (A.length : Int) (k : Int) = some (.inl (b24, b25, A.map frP, b27, b28, B.map frP, (A.length : Int), ((k + 1 : Nat) : Int))) := by
      unfold st_coupletlaw13_ScanNoise_1
      rw [Int.toNat_natCast, getD_frP h1, getD_frP h2, List.length_map, List.length_map]
      simp only [fl, fo, p1, p2, p3, p4, p5, p6]
      rw [same_at _ _ _ _ _ _ _ _ _ _ _ _ (hL _ (List.getElem_mem h1)), decide_eq_true (show A[k].1 = B[k].1 ∧ A[k].2.1 = B[k].2.1 ∧ A[k].2.2.1 = B[k].2.2.1 ∧ A[k].2.2.2.2.2 = B[k].2.2.2.2.2 from hs), inc64 (by omega),
        decide_eq_true (show (k : Int) < (A.length : Int) by omega), decide_eq_true (show (0 : Int) ≤ (k : Int) by omega), decide_eq_true h1, decide_eq_true (show (k : Int) < ((B.length : Nat) : Int) by omega), decide_eq_true h2]
      rfl
    rw [iterN]
    simp only [e]
    exact cmp_noise b24 b25 b27 b28 A B hn hAB hL hS d (k + 1) (by omega)
theorem law_ScanNoise {b0 b1 : Bool} {l2 : List Int} {b3 b4 : Bool} {l5 : List Int} (w0 : l2.length ≤ maxLen) (c0 : ∀ x ∈ l2, (Lit.int .u8 x).wf = true) (g0 : b0 = true → l2 = []) (w1 : l5.length ≤ maxLen) (c1 : ∀ x ∈ l5, (Lit.int .u8 x).wf = true) (g1 : b3 = true → l5 = []) :
    go_coupletlaw13_ScanNoise b0 b1 l2 b3 b4 l5 = some true := by
  unfold go_coupletlaw13_ScanNoise
  rw [awake13]
  by_cases s1 : ((l2.length : Nat) : Int) > 300
  · rw [decide_eq_true s1]; rfl
  by_cases s2 : ((l5.length : Nat) : Int) > 1000
  · rw [decide_eq_false s1, decide_eq_true s2]; rfl
  have hl := isB_wf c0
  have hb := isB_wf c1
  rw [decide_eq_false s1, decide_eq_false s2, cond_false, cond_false]
  obtain ⟨y, h1, h2⟩ := noise_loop b0 b1 l2 b3 b4 l5 b0 b1 l2 (by omega) l2.length 0 (by omega)
  unfold lp_coupletlaw13_ScanNoise_0
  rw [show (0 : Int) = ((0 : Nat) : Int) from rfl, loopN_of (l2.length + 1) (by omega) h1, Option.bind_some]
  rcases h2 with rfl | ⟨rfl, h2⟩
  · rfl
  rw [List.drop_zero] at h2
  obtain ⟨e1, e2⟩ := noise_its l5 l2 h2 0
  have e3 : (its 0 (l2 ++ l5)).map (fun q => frP q.2) = (its 0 l5).map (fun q => frP q.2) := by
    rw [e1, its_shift, List.map_map]; rfl
  have hLB : isB (l2 ++ l5) := isB_append.2 ⟨hl, hb⟩
  have hll := lost_le l5
  simp only [Sum.elim_inl, List.nil_append]
  rw [all_at b3 b4 l5 hb (by omega), Option.bind_some, all_at _ false (l2 ++ l5) hLB (by rw [List.length_append]; omega), Option.bind_some]
  dsimp only
  rw [e3, e2, bne_self_eq_false, cond_false, w64 (by omega) (by omega)]
  rw [show (((l2.length + lost l5 : Nat) : Int) != ((lost l5 : Nat) : Int) + ((l2.length : Nat) : Int)) = false by rw [ibne, Bool.not_eq_false']; exact decide_eq_true (by omega), cond_false]
  have e4 : (its 0 l5).map (fun q => frP q.2) = ((its 0 l5).map (·.2)).map frP := by rw [List.map_map]; rfl
  have hlen : ((its 0 l5).map (·.2)).length ≤ 10000 := by
    have : ∀ (s : List Int) p, (its p s).length ≤ s.length := fun s => its_ind (M := fun s => ∀ p, (its p s).length ≤ s.length) (fun p => by rw [its_nil]; exact Nat.le_refl _) (fun s h ih p => by
      have := ih (p + sizeV s)
      have h1 := h.1
      have h2 := h.2.1
      rw [its_head h, List.length_cons]
      rw [List.length_drop] at this
      omega) (fun c s h ih p => by rw [its_skip h, List.length_cons]; have := ih (p + 1); omega) s.length s (Nat.le_refl _)
    have := this l5 0
    rw [List.length_map]; omega
  have hc := cmp_noise (its 0 l5).isEmpty (its 0 l5).isEmpty (its 0 (l2 ++ l5)).isEmpty (its 0 (l2 ++ l5)).isEmpty ((its 0 l5).map (·.2)) ((its 0 l5).map (·.2)) hlen rfl (fun f hf => by
    obtain ⟨q, hq, rfl⟩ := List.mem_map.1 hf
    have := its_short l5 hb (by omega) 0 q hq
    omega) (fun i _ _ => ⟨rfl, rfl, rfl, rfl⟩) ((its 0 l5).map (·.2)).length 0 (by omega)
  unfold lp_coupletlaw13_ScanNoise_1
  rw [e4, List.length_map, loopN_of (((its 0 l5).map (·.2)).length + 1) (by omega) hc, decide_eq_true (by omega), decide_eq_true (by omega), decide_eq_true (by omega), decide_eq_true (by omega)]
  rfl
end Go.Proofs

/-
  Laws of layer 13: frames that are joined, and what is behind them (plain).
-/
set_option linter.unusedSimpArgs false
set_option linter.unusedVariables false
set_option maxRecDepth 100000
namespace Go.Proofs
open Go Go.Fx

theorem frs_of {es : List PV} (c : ∀ e ∈ es, ∃ ys, e = mkP true ys ∧ TS.fitsL [.int .i64, .int .i64, .int .i64, .isl .i64] ys) : ∃ fs : List Fr, es = fs.map frP := by
  induction es with
  | nil => exact ⟨[], rfl⟩
  | cons e es ih =>
    obtain ⟨fs, rfl⟩ := ih fun x hx => c x (List.mem_cons_of_mem _ hx)
    obtain ⟨ys, rfl, t0⟩ := c e (List.mem_cons_self ..)
    obtain ⟨y0, zs0, rfl, f0, t1⟩ := TS.cons_inv t0
    obtain ⟨y1, zs1, rfl, f1, t2⟩ := TS.cons_inv t1
    obtain ⟨y2, zs2, rfl, f2, t3⟩ := TS.cons_inv t2
    obtain ⟨y3, zs3, rfl, f3, t4⟩ := TS.cons_inv t3
    obtain rfl := TS.nil_inv t4
    obtain ⟨n0, rfl, _⟩ := fits_int f0
    obtain ⟨n1, rfl, _⟩ := fits_int f1
    obtain ⟨n2, rfl, _⟩ := fits_int f2
    obtain ⟨a, b, l, rfl, _⟩ := fits_isl f3
    exact ⟨(n0, n1, n2, a, b, l) :: fs, rfl⟩
theorem given_at (a b c : Int) (d e : Bool) (l : List Int) : go_coupletlaw12_Given a b c d e l = some (a, b, c, d, e, l) := rfl

/-! ### joined -/
theorem joins_loop (b4 b5 b8 b9 : Bool) (fs : List Fr) (hn : fs.length ≤ 10) : ∀ (d j : Nat) (may u v : Bool) (acc : List Int), j + d = fs.length → acc.length + 300 * d ≤ 100000 → ∃ y,
    iterN (fun x => st_coupletlaw13_ScanJoins_0 x.1 x.2.1 x.2.2.1 x.2.2.2.1 x.2.2.2.2.1 x.2.2.2.2.2.1 x.2.2.2.2.2.2.1 x.2.2.2.2.2.2.2.1 x.2.2.2.2.2.2.2.2.1 x.2.2.2.2.2.2.2.2.2.1 x.2.2.2.2.2.2.2.2.2.2.1 x.2.2.2.2.2.2.2.2.2.2.2) (d + 1) (b4, b5, fs.map frP, may, b8, b9, fs.map frP, (fs.length : Int), (j : Int), u, v, acc) = some y ∧
      (y = .inr true ∨ ∃ u' v', y = .inl (b4, b5, fs.map frP, may && (fs.drop j).all (fun f => decide (RF f)), u', v', acc ++ joinB ((fs.drop j).filter fun f => decide (RF f))))
  | 0, j, may, u, v, acc, hj, hb => by
    obtain rfl : j = fs.length := by omega
    have e : st_coupletlaw13_ScanJoins_0 b4 b5 (fs.map frP) may b8 b9 (fs.map frP) (fs.length : Int) (fs.length : Int) u v acc = some (.inr (.inl (b4, b5, fs.map frP, may, u, v, acc))) := by
      unfold st_coupletlaw13_ScanJoins_0
      rw [decide_eq_false (Int.lt_irrefl _)]
      rfl
    refine ⟨.inl (b4, b5, fs.map frP, may, u, v, acc), by rw [iterN]; simp only [e], .inr ⟨u, v, ?_⟩⟩
    rw [List.drop_length, List.all_nil, Bool.and_true, List.filter_nil, joinB, List.flatMap_nil, List.append_nil]
  | d + 1, j, may, u, v, acc, hj, hb => by
    have hlt : j < fs.length := by omega
    have e : st_coupletlaw13_ScanJoins_0 b4 b5 (fs.map frP) may b8 b9 (fs.map frP) (fs.length : Int) (j : Int) u v acc = if fs[j].2.2.2.2.2.length > 40 then some (.inr (.inr true)) else if RF fs[j] then some (.inl (b4, b5, fs.map frP, may, b8, b9, fs.map frP, (fs.length : Int), ((j + 1 : Nat) : Int), (u && (bytesF fs[j]).isEmpty), false, acc ++ bytesF fs[j])) else
        some (.inl (b4, b5, fs.map frP, false, b8, b9, fs.map frP, (fs.length : Int), ((j + 1 : Nat) : Int), u, v, acc)) := by
      unfold st_coupletlaw13_ScanJoins_0
      rw [Int.toNat_natCast, getD_frP hlt, List.length_map, awake13, p6]
      simp only [fl, fo, p1, p2, p3, p4, p5, given_at, Option.bind_some]
      rw [decide_eq_true (show (j : Int) < ((fs.length : Nat) : Int) by omega), decide_eq_true (show (0 : Int) ≤ (j : Int) by omega), decide_eq_true hlt]
      simp only [cond_true]
      by_cases h4 : fs[j].2.2.2.2.2.length > 40
      · rw [if_pos h4, decide_eq_true (by omega)]; rfl
      rw [if_neg h4, decide_eq_false (by omega), cond_false, rfright_at _ _ _ _ _ _ (by omega), Option.bind_some]
      by_cases hr : RF fs[j]
      · have hbl := bytesF_len hr
        have hbl' : (bytes12 fs[j].1 fs[j].2.1 fs[j].2.2.1 fs[j].2.2.2.2.2).length ≤ 268 := hbl.2
        obtain ⟨k1, k2, k3⟩ := R12_b hr
        rw [if_pos hr, decide_eq_true (show R12 fs[j].1 fs[j].2.1 fs[j].2.2.1 fs[j].2.2.2.2.2 from hr), rencode_at _ _ k1 k2 (by omega), Option.bind_some]
        dsimp only
        rw [decide_eq_true (by omega), decide_eq_true (by omega), inc64 (by omega)]
        rfl
      · rw [if_neg hr, decide_eq_false (show ¬ R12 fs[j].1 fs[j].2.1 fs[j].2.2.1 fs[j].2.2.2.2.2 from hr), inc64 (by omega)]
        rfl
    have hd : fs.drop j = fs[j] :: fs.drop (j + 1) := List.drop_eq_getElem_cons hlt
    rw [iterN]
    simp only [e]
    rw [hd]
    by_cases h4 : fs[j].2.2.2.2.2.length > 40
    · rw [if_pos h4]
      exact ⟨_, rfl, .inl rfl⟩
    rw [if_neg h4]
    by_cases hr : RF fs[j]
    · have := bytesF_len hr
      obtain ⟨y, h1, h2⟩ := joins_loop b4 b5 b8 b9 fs hn d (j + 1) may (u && (bytesF fs[j]).isEmpty) false (acc ++ bytesF fs[j]) (by omega) (by rw [List.length_append]; omega)
      rw [if_pos hr]
      refine ⟨y, h1, h2.imp id fun ⟨u', v', h3⟩ => ⟨u', v', ?_⟩⟩
      rw [h3, List.filter_cons, if_pos (decide_eq_true hr), List.all_cons, decide_eq_true hr, Bool.true_and, List.append_assoc]
      rfl
    · obtain ⟨y, h1, h2⟩ := joins_loop b4 b5 b8 b9 fs hn d (j + 1) false u v acc (by omega) (by omega)
      rw [if_neg hr]
      refine ⟨y, h1, h2.imp id fun ⟨u', v', h3⟩ => ⟨u', v', ?_⟩⟩
      rw [h3, List.filter_cons, if_neg (by rw [decide_eq_false hr]; decide), List.all_cons, decide_eq_false hr]
      simp
theorem cmp_joins (b24 b25 b27 b28 : Bool) (A B : List Fr) (hn : A.length ≤ 10000) (hAB : A.length = B.length) (hL : ∀ f ∈ B, f.2.2.2.2.2.length < 9223372036854775807) (hS : ∀ i (h : i < B.length) (h' : i < A.length), same B[i] A[i]) : ∀ (d k : Nat), k + d = A.length →
    iterN (fun x => st_coupletlaw13_ScanJoins_1 x.1 x.2.1 x.2.2.1 x.2.2.2.1 x.2.2.2.2.1 x.2.2.2.2.2.1 x.2.2.2.2.2.2.1 x.2.2.2.2.2.2.2) (d + 1) (b24, b25, A.map frP, b27, b28, B.map frP, (A.length : Int), (k : Int)) = some (.inl ())
  | 0, k, hk => by
    obtain rfl : k = A.length := by omega
    have e : st_coupletlaw13_ScanJoins_1 b24 b25 (A.map frP) b27 b28 (B.map frP) (A.length : Int) (A.length : Int) = some (.inr (.inl ())) := by
      unfold st_coupletlaw13_ScanJoins_1
      rw [decide_eq_false (Int.lt_irrefl _)]
      rfl
    rw [iterN]; simp only [e]
  | d + 1, k, hk => by
    have h1 : k < A.length := by omega
    have h2 : k < B.length := by omega
    have hs := hS k h2 h1
    have e : st_coupletlaw13_ScanJoins_1 b24 b25 (A.map frP) b27 b28 (B.map frP) (A.length : Int) (k : Int) = some (.inl (b24, b25, A.map frP, b27, b28, B.map frP, (A.length : Int), ((k + 1 : Nat) : Int))) := by
      unfold st_coupletlaw13_ScanJoins_1
      rw [Int.toNat_natCast, getD_frP h1, getD_frP h2, List.length_map, List.length_map]
      simp only [fl, fo, p1, p2, p3, p4, p5, p6]
      rw [same_at _ _ _ _ _ _ _ _ _ _ _ _ (hL _ (List.getElem_mem h2)), decide_eq_true (show B[k].1 = A[k].1 ∧ B[k].2.1 = A[k].2.1 ∧ B[k].2.2.1 = A[k].2.2.1 ∧ B[k].2.2.2.2.2 = A[k].2.2.2.2.2 from hs), inc64 (by omega),
        decide_eq_true (show (k : Int) < (A.length : Int) by omega), decide_eq_true (show (0 : Int) ≤ (k : Int) by omega), decide_eq_true h1, decide_eq_true (show (k : Int) < ((B.length : Nat) : Int) by omega), decide_eq_true h2]
      rfl
    rw [iterN]
    simp only [e]
    exact cmp_joins b24 b25 b27 b28 A B hn hAB hL hS d (k + 1) (by omega)
theorem its_frs (s : List Int) (p : Nat) : (its p s).map (fun q => frP q.2) = ((its p s).map (·.2)).map frP := by rw [List.map_map]; rfl
theorem law_ScanJoins {b0 b1 : Bool} {es2 : List PV} (w0 : es2.length ≤ maxLen) (g0 : b0 = true → es2 = []) (c0 : ∀ e ∈ es2, ∃ ys, e = mkP true ys ∧ TS.fitsL [.int .i64, .int .i64, .int .i64, .isl .i64] ys) : go_coupletlaw13_ScanJoins b0 b1 es2 = some true := by
  obtain ⟨fs, rfl⟩ := frs_of c0
  unfold go_coupletlaw13_ScanJoins
  rw [awake13, List.length_map]
  by_cases s1 : ((fs.length : Nat) : Int) > 10
  · rw [decide_eq_true s1]; rfl
  rw [decide_eq_false s1, cond_false]
  obtain ⟨y, h1, h2⟩ := joins_loop b0 b1 b0 b1 fs (by omega) fs.length 0 true true true [] (by omega) (by simp; omega)
  unfold lp_coupletlaw13_ScanJoins_0
  rw [show (0 : Int) = ((0 : Nat) : Int) from rfl, loopN_of (fs.length + 1) (by omega) h1, Option.bind_some]
  rw [show ((0 : Nat) : Int) = (0 : Int) from rfl]
  rcases h2 with rfl | ⟨u, v, rfl⟩
  · rfl
  rw [List.drop_zero, Bool.true_and, List.nil_append]
  simp only [Sum.elim_inl]
  have hj := join_at b0 b1 fs (by omega)
  by_cases hall : ∀ f ∈ fs, RF f
  case neg =>
    rw [hj.2 hall, Option.bind_some]
    rw [show fs.all (fun f => decide (RF f)) = false by rw [Bool.eq_false_iff]; intro h; exact hall fun f hf => of_decide_eq_true (List.all_eq_true.1 h f hf)]
    rfl
  obtain ⟨u1, v1, e1⟩ := hj.1 hall
  have hB := joinB_isB hall
  have hlen := joinB_len hall
  have hf : fs.filter (fun f => decide (RF f)) = fs := List.filter_eq_self.2 fun f hf => decide_eq_true (hall f hf)
  rw [e1, Option.bind_some, hf, show fs.all (fun f => decide (RF f)) = true from List.all_eq_true.2 fun f hf => decide_eq_true (hall f hf)]
  dsimp only
  obtain ⟨R, i1, i2, i3⟩ := its_join [] fs 0 hall
  have i4 := lost_join [] fs hall
  rw [List.append_nil] at i1 i4
  rw [its_nil, List.append_nil] at i1
  rw [lost_nil] at i4
  rw [all_at u1 false _ hB (by omega), i1, i4, Option.bind_some, isB_all hB]
  rw [lst_beq, decide_eq_true rfl, List.length_map, Option.bind_some]
  dsimp only
  rw [List.length_map, i2]
  have e2 : (R.map fun q => frP q.2) = (R.map (·.2)).map frP := by rw [List.map_map]; rfl
  have hc := cmp_joins b0 b1 R.isEmpty R.isEmpty fs (R.map (·.2)) (by omega) (by rw [List.length_map, i2]) (fun f hf => by
    obtain ⟨q, hq, rfl⟩ := List.mem_map.1 hf
    obtain ⟨i, hi, rfl⟩ := List.getElem_of_mem hq
    have h3 := i3 i (by omega) hi
    have h4 := R12_b (hall _ (List.getElem_mem (show i < fs.length by omega)))
    rw [h3.2.2.2]; omega) (fun i h h' => by
    rw [List.getElem_map]
    exact i3 i h' (by rw [List.length_map] at h; exact h)) fs.length 0 (by omega)
  unfold lp_coupletlaw13_ScanJoins_1
  rw [e2, show (0 : Int) = ((0 : Nat) : Int) from rfl, loopN_of (fs.length + 1) (by omega) hc]
  simp only [bne_self_eq_false]
  rfl

/-! ### two parts -/
theorem two_loop (b8 b9 b11 b12 b14 b15 : Bool) (l13 : List Int) (es : List PV) (fs : List Fr) (hn : fs.length ≤ 10) : ∀ (d j : Nat), j + d = fs.length → ∃ y,
    iterN (fun x => st_coupletlaw13_ScanTwo_0 x.1 x.2.1 x.2.2.1 x.2.2.2.1 x.2.2.2.2.1 x.2.2.2.2.2.1 x.2.2.2.2.2.2.1 x.2.2.2.2.2.2.2.1 x.2.2.2.2.2.2.2.2.1 x.2.2.2.2.2.2.2.2.2.1 x.2.2.2.2.2.2.2.2.2.2) (d + 1) (b8, b9, es, b11, b12, l13, b14, b15, fs.map frP, (fs.length : Int), (j : Int)) = some y ∧
      (y = .inr true ∨ (y = .inl (b8, b9, es, b11, b12, l13) ∧ ∀ f ∈ fs.drop j, f.2.2.2.2.2.length ≤ 40))
  | 0, j, hj => by
    obtain rfl : j = fs.length := by omega
    have e : st_coupletlaw13_ScanTwo_0 b8 b9 es b11 b12 l13 b14 b15 (fs.map frP) (fs.length : Int) (fs.length : Int) = some (.inr (.inl (b8, b9, es, b11, b12, l13))) := by
      unfold st_coupletlaw13_ScanTwo_0
      rw [decide_eq_false (Int.lt_irrefl _)]
      rfl
    exact ⟨_, by rw [iterN]; simp only [e], .inr ⟨rfl, by rw [List.drop_length]; exact fun x h => by cases h⟩⟩
  | d + 1, j, hj => by
    have hlt : j < fs.length := by omega
    have e : st_coupletlaw13_ScanTwo_0 b8 b9 es b11 b12 l13 b14 b15 (fs.map frP) (fs.length : Int) (j : Int) = if fs[j].2.2.2.2.2.length > 40 then some (.inr (.inr true)) else some (.inl (b8, b9, es, b11, b12, l13, b14, b15, fs.map frP, (fs.length : Int), ((j + 1 : Nat) : Int))) := by
      unfold st_coupletlaw13_ScanTwo_0
      rw [Int.toNat_natCast, getD_frP hlt, List.length_map, awake13, p6]
      simp only [fl, fo, p1, p2, p3, p4, p5]
      rw [decide_eq_true (show (j : Int) < ((fs.length : Nat) : Int) by omega), decide_eq_true (show (0 : Int) ≤ (j : Int) by omega), decide_eq_true hlt, inc64 (by omega)]
      by_cases h : fs[j].2.2.2.2.2.length > 40
      · rw [if_pos h, decide_eq_true (by omega)]; rfl
      · rw [if_neg h, decide_eq_false (by omega)]; rfl
    rw [iterN]
    simp only [e]
    rw [List.drop_eq_getElem_cons hlt]
    by_cases h : fs[j].2.2.2.2.2.length > 40
    · rw [if_pos h]
      exact ⟨_, rfl, .inl rfl⟩
    · rw [if_neg h]
      obtain ⟨y, h1, h2⟩ := two_loop b8 b9 b11 b12 b14 b15 l13 es fs hn d (j + 1) (by omega)
      exact ⟨y, h1, h2.imp id fun h3 => ⟨h3.1, fun x hx => (List.mem_cons.1 hx).elim (fun e => by rw [e]; omega) (h3.2 x)⟩⟩
theorem cmp_two (b26 b27 b31 b32 : Bool) (A B : List Fr) (hn : A.length ≤ 10000) (hAB : A.length = B.length) (hL : ∀ f ∈ A, f.2.2.2.2.2.length < 9223372036854775807) (hS : ∀ i (h : i < A.length) (h' : i < B.length), same A[i] B[i]) : ∀ (d k : Nat), k + d = A.length →
    iterN (fun x => st_coupletlaw13_ScanTwo_1 x.1 x.2.1 x.2.2.1 x.2.2.2.1 x.2.2.2.2.1 x.2.2.2.2.2.1 x.2.2.2.2.2.2.1 x.2.2.2.2.2.2.2) (d + 1) (b26, b27, A.map frP, (A.length : Int), (k : Int), b31, b32, B.map frP) = some (.inl ())
  | 0, k, hk => by
    obtain rfl : k = A.length := by omega
    have e : st_coupletlaw13_ScanTwo_1 b26 b27 (A.map frP) (A.length : Int) (A.length : Int) b31 b32 (B.map frP) = some (.inr (.inl ())) := by
      unfold st_coupletlaw13_ScanTwo_1
      rw [decide_eq_false (Int.lt_irrefl _)]
      rfl
    rw [iterN]; simp only [e]
  | d + 1, k, hk => by
    have h1 : k < A.length := by omega
    have h2 : k < B.length := by omega
    have hs := hS k h1 h2
    have e : st_coupletlaw13_ScanTwo_1 b26 b27 (A.map frP) (A.length : Int) (k : Int) b31 b32 (B.map frP) = some (.inl (b26, b27, A.map frP, (A.length : Int), ((k + 1 : Nat) : Int), b31, b32, B.map frP)) := by
      unfold st_coupletlaw13_ScanTwo_1
      rw [Int.toNat_natCast, getD_frP h1, getD_frP h2, List.length_map, List.length_map]
      simp only [fl, fo, p1, p2, p3, p4, p5, p6]
      rw [same_at _ _ _ _ _ _ _ _ _ _ _ _ (hL _ (List.getElem_mem h1)), decide_eq_true (show A[k].1 = B[k].1 ∧ A[k].2.1 = B[k].2.1 ∧ A[k].2.2.1 = B[k].2.2.1 ∧ A[k].2.2.2.2.2 = B[k].2.2.2.2.2 from hs), inc64 (by omega),
        decide_eq_true (show (k : Int) < (A.length : Int) by omega), decide_eq_true (show (0 : Int) ≤ (k : Int) by omega), decide_eq_true h1, decide_eq_true (show (k : Int) < ((B.length : Nat) : Int) by omega), decide_eq_true h2]
      rfl
    rw [iterN]
    simp only [e]
    exact cmp_two b26 b27 b31 b32 A B hn hAB hL hS d (k + 1) (by omega)
theorem its_len (s : List Int) : ∀ p, (its p s).length ≤ s.length := its_ind (M := fun s => ∀ p, (its p s).length ≤ s.length) (fun p => by rw [its_nil]; exact Nat.le_refl _) (fun s h ih p => by
  have := ih (p + sizeV s)
  have h1 := h.1
  have h2 := h.2.1
  rw [its_head h, List.length_cons]
  rw [List.length_drop] at this
  omega) (fun c s h ih p => by rw [its_skip h, List.length_cons]; have := ih (p + 1); omega) s.length s (Nat.le_refl _)
theorem scal_frs (fs : List Fr) : List.all (fs.map frP) (fun x => List.all (PV.cells x) (fun y => PV.scal y)) = true := by
  rw [List.all_eq_true]
  intro x hx
  obtain ⟨f, _, rfl⟩ := List.mem_map.1 hx
  rfl
theorem law_ScanTwo {b0 b1 : Bool} {es2 : List PV} {b3 b4 : Bool} {l5 : List Int} (w0 : es2.length ≤ maxLen) (g0 : b0 = true → es2 = []) (c0 : ∀ e ∈ es2, ∃ ys, e = mkP true ys ∧ TS.fitsL [.int .i64, .int .i64, .int .i64, .isl .i64] ys)
    (w1 : l5.length ≤ maxLen) (c1 : ∀ x ∈ l5, (Lit.int .u8 x).wf = true) (g1 : b3 = true → l5 = []) : go_coupletlaw13_ScanTwo b0 b1 es2 b3 b4 l5 = some true := by
  obtain ⟨fs, rfl⟩ := frs_of c0
  unfold go_coupletlaw13_ScanTwo
  rw [awake13, List.length_map]
  by_cases s1 : ((fs.length : Nat) : Int) > 6
  · rw [decide_eq_true s1]; rfl
  by_cases s2 : ((l5.length : Nat) : Int) > 1000
  · rw [decide_eq_false s1, decide_eq_true s2]; rfl
  have hb := isB_wf c1
  rw [decide_eq_false s1, decide_eq_false s2, cond_false, cond_false]
  obtain ⟨y, h1, h2⟩ := two_loop b0 b1 b3 b4 b0 b1 l5 (fs.map frP) fs (by omega) fs.length 0 (by omega)
  unfold lp_coupletlaw13_ScanTwo_0
  rw [show (0 : Int) = ((0 : Nat) : Int) from rfl, loopN_of (fs.length + 1) (by omega) h1, Option.bind_some]
  rw [show ((0 : Nat) : Int) = (0 : Int) from rfl]
  rcases h2 with rfl | ⟨rfl, h2⟩
  · rfl
  rw [List.drop_zero] at h2
  simp only [Sum.elim_inl]
  have hj := join_at b0 b1 fs (by omega)
  by_cases hall : ∀ f ∈ fs, RF f
  case neg =>
    rw [hj.2 hall, Option.bind_some]
    rfl
  obtain ⟨u1, v1, e1⟩ := hj.1 hall
  have hB := joinB_isB hall
  have hlen := joinB_len hall
  have hll := lost_le l5
  have hil := its_len l5
  rw [e1, Option.bind_some]
  dsimp only
  have hBB : isB (joinB fs ++ l5) := isB_append.2 ⟨hB, hb⟩
  obtain ⟨R, i1, i2, i3⟩ := its_join l5 fs 0 hall
  have i4 := lost_join l5 fs hall
  rw [Nat.zero_add] at i1
  rw [bne_self_eq_false, cond_false, List.nil_append, all_at b3 b4 l5 hb (by omega), Option.bind_some, all_at _ false (joinB fs ++ l5) hBB (by rw [List.length_append]; omega), Option.bind_some, i1, i4]
  dsimp only
  have hx := hil 0
  have hy := hil (joinB fs).length
  have hxy : (its (joinB fs).length l5).map (·.2) = (its 0 l5).map (·.2) := by
    have := its_shift (joinB fs).length l5 0
    rw [Nat.zero_add] at this
    rw [this, List.map_map]; rfl
  have hxl : (its (joinB fs).length l5).length = (its 0 l5).length := by
    have := congrArg List.length hxy
    rwa [List.length_map, List.length_map] at this
  rw [decide_eq_true (show (0 + (joinB fs).length) * 1 ≤ 140737488355328 by omega), decide_eq_true (show 0 + (joinB fs).length ≤ 4611686018427387904 by omega), decide_eq_true (show ((joinB fs).length + l5.length) * 1 ≤ 140737488355328 by omega), decide_eq_true (show (joinB fs).length + l5.length ≤ 4611686018427387904 by omega)]
  simp only [cond_true]
  rw [List.length_map, List.length_append, i2, hxl, List.length_map, List.length_map, w64 (by omega) (by omega), show (((fs.length + (its 0 l5).length : Nat) : Int) != (fs.length : Int) + ((its 0 l5).length : Int)) = false by rw [ibne, Bool.not_eq_false']; exact decide_eq_true (by omega), cond_false, bne_self_eq_false, cond_false,
    scal_frs, its_frs, scal_frs, List.nil_append, List.length_map, List.length_append, List.length_map, List.length_map, List.length_map]
  rw [decide_eq_true (show (0 + fs.length) * 48 ≤ 140737488355328 by omega), decide_eq_true (show 0 + fs.length ≤ 4611686018427387904 by omega), decide_eq_true (show (fs.length + (its 0 l5).length) * 48 ≤ 140737488355328 by omega), decide_eq_true (show fs.length + (its 0 l5).length ≤ 4611686018427387904 by omega)]
  simp only [cond_true]
  have eA : ((R ++ its (joinB fs).length l5).map fun q => frP q.2) = (R.map (·.2) ++ (its 0 l5).map (·.2)).map frP := by
    rw [← hxy, List.map_append, List.map_append, List.map_map, List.map_map]; rfl
  have eB : fs.map frP ++ ((its 0 l5).map (·.2)).map frP = (fs ++ (its 0 l5).map (·.2)).map frP := by rw [List.map_append]
  rw [eA, eB]
  have hAl : (R.map (·.2) ++ (its 0 l5).map (·.2)).length = fs.length + (its 0 l5).length := by rw [List.length_append, List.length_map, List.length_map, i2]
  have hc := fun p q r s => cmp_two p q r s (R.map (·.2) ++ (its 0 l5).map (·.2)) (fs ++ (its 0 l5).map (·.2)) (by omega) (by rw [hAl, List.length_append, List.length_map]) (fun f hf => by
    rcases List.mem_append.1 hf with hf | hf
    · obtain ⟨q, hq, rfl⟩ := List.mem_map.1 hf
      obtain ⟨i, hi, rfl⟩ := List.getElem_of_mem hq
      have h3 := i3 i (by omega) hi
      have h4 := R12_b (hall _ (List.getElem_mem (show i < fs.length by omega)))
      rw [h3.2.2.2]; omega
    · obtain ⟨q, hq, rfl⟩ := List.mem_map.1 hf
      have := its_short l5 hb (by omega) 0 q hq
      omega) (fun i h h' => by
    by_cases hi : i < fs.length
    · rw [List.getElem_append_left (by rw [List.length_map]; omega), List.getElem_append_left hi, List.getElem_map]
      exact i3 i hi (by omega)
    · rw [List.getElem_append_right (by rw [List.length_map]; omega), List.getElem_append_right (by omega)]
      simp only [List.length_map, i2]
      exact ⟨rfl, rfl, rfl, rfl⟩) (fs.length + (its 0 l5).length) 0 (by omega)
  unfold lp_coupletlaw13_ScanTwo_1
  rw [hAl] at hc
  rw [show (0 : Int) = ((0 : Nat) : Int) from rfl, loopN_of (fs.length + (its 0 l5).length + 1) (by omega) (hc _ _ _ _)]
  rfl
end Go.Proofs

/-
  Where the document finds frames among bytes; the law ScanStops (plain).
-/
set_option linter.unusedSimpArgs false
set_option linter.unusedVariables false
set_option maxRecDepth 100000
namespace Go.Proofs
open Go Go.Fx

theorem val_drop {l : List Int} {k : Nat} (h : k < l.length) : val (l.drop k) = (l[k]).toNat + 256 * val (l.drop (k + 1)) := by
  rw [List.drop_eq_getElem_cons h]; rfl
theorem number_loop (b3 b4 : Bool) (l : List Int) (hl : isB l) (hn : l.length = 8) : ∀ j : Nat, j ≤ 8 →
    iterN (fun x => st_coupletref13_number_0 x.1 x.2.1 x.2.2.1 x.2.2.2.1 x.2.2.2.2) (j + 1) (b3, b4, l, ((val (l.drop j) : Nat) : Int), (j : Int) - 1) = some ((val l : Nat) : Int)
  | 0, _ => by
    have e : st_coupletref13_number_0 b3 b4 l ((val (l.drop 0) : Nat) : Int) (((0 : Nat) : Int) - 1) = some (.inr ((val l : Nat) : Int)) := by
      unfold st_coupletref13_number_0
      rw [decide_eq_false (by omega)]
      rfl
    rw [iterN]; simp only [e]
  | j + 1, h => by
    have hlt : j < l.length := by omega
    have hx := hl _ (List.getElem_mem hlt)
    have hv := val_lt (l.drop (j + 1)) (isB_drop hl _)
    have h7 : 256 ^ 7 = 72057594037927936 := by decide
    have hv2 : 256 ^ (l.drop (j + 1)).length ≤ 256 ^ 7 := Nat.pow_le_pow_right (by decide) (by rw [List.length_drop]; omega)
    rw [h7] at hv2
    have e : st_coupletref13_number_0 b3 b4 l ((val (l.drop (j + 1)) : Nat) : Int) (((j + 1 : Nat) : Int) - 1) = some (.inl (b3, b4, l, ((val (l.drop j) : Nat) : Int), (j : Int) - 1)) := by
      have hw : IntKind.wrap .u64 (IntKind.wrap .u64 (((val (l.drop (j + 1)) : Nat) : Int) * 256) + IntKind.wrap .u64 l[j]) = ((val (l.drop j) : Nat) : Int) := by
        rw [val_drop hlt, IntKind.wrap_u64, IntKind.wrap_u64, IntKind.wrap_u64]
        omega
      unfold st_coupletref13_number_0
      rw [show (((j + 1 : Nat) : Int) - 1) = (j : Int) by omega, Int.toNat_natCast, getD_at hlt, hw, w64 (by omega) (by omega), decide_eq_true (show (j : Int) ≥ 0 by omega), decide_eq_true (show (j : Int) < ((l.length : Nat) : Int) by omega), decide_eq_true hlt]
      rfl
    rw [iterN]
    simp only [e]
    exact number_loop b3 b4 l hl hn j (by omega)
theorem number_at (b0 b1 : Bool) (l : List Int) (hl : isB l) (hn : l.length = 8) : go_coupletref13_number b0 b1 l = some (decide (okF (IntKind.wrap .i64 ((val l : Nat) : Int)))) := by
  have h := number_loop b0 b1 l hl hn 8 (Nat.le_refl _)
  rw [List.drop_eq_nil_of_le (by omega)] at h
  have hv := val_lt l hl
  rw [hn, show 256 ^ 8 = 18446744073709551616 by decide] at hv
  unfold go_coupletref13_number lp_coupletref13_number_0
  have h : iterN (fun x => st_coupletref13_number_0 x.1 x.2.1 x.2.2.1 x.2.2.2.1 x.2.2.2.2) (8 + 1) (b0, b1, l, 0, 7) = some ((val l : Nat) : Int) := h
  rw [loopN_of (8 + 1) (by decide) h, Option.bind_some]
  have hw : okF (IntKind.wrap .i64 ((val l : Nat) : Int)) ↔ (val l ≤ 1125899906842624 ∨ val l ≥ 18445618173802708992) := by
    unfold okF
    rw [IntKind.wrap_i64]
    omega
  by_cases h1 : val l ≤ 1125899906842624
  · rw [decide_eq_true (show ((val l : Nat) : Int) ≤ 1125899906842624 by omega), decide_eq_true (hw.2 (.inl h1))]; rfl
  · rw [decide_eq_false (show ¬ ((val l : Nat) : Int) ≤ 1125899906842624 by omega), cond_false]
    congr 1
    exact decide_eq_decide.2 ⟨fun h => hw.2 (.inr (by omega)), fun h => by have := hw.1 h; omega⟩
theorem rsize_at (b0 b1 : Bool) (l : List Int) (hl : isB l) : go_coupletref13_Size b0 b1 l = some ((sizeV l : Nat) : Int) := by
  have hm := mm_le l
  unfold go_coupletref13_Size sizeV
  by_cases c0 : l.length < 4
  · rw [show decide (((l.length : Nat) : Int) < 4) = true from decide_eq_true (by omega), if_pos (.inl c0)]; rfl
  rw [show decide (((l.length : Nat) : Int) < 4) = false from decide_eq_false (by omega), cond_false, kd_int hl, nn_int hl, rmany_at, mm_int,
    show decide (0 < ((l.length : Nat) : Int)) = true from decide_eq_true (by omega), show decide (0 < l.length) = true from decide_eq_true (by omega), show decide (1 < ((l.length : Nat) : Int)) = true from decide_eq_true (by omega), show decide (1 < l.length) = true from decide_eq_true (by omega),
    show decide (2 < ((l.length : Nat) : Int)) = true from decide_eq_true (by omega), show decide (2 < l.length) = true from decide_eq_true (by omega), show decide (3 < ((l.length : Nat) : Int)) = true from decide_eq_true (by omega), show decide (3 < l.length) = true from decide_eq_true (by omega)]
  simp only [cond_true, Option.bind_some]
  rw [ibne, ibne, ibeq, take2 (by omega)]
  by_cases c1 : l.getD 0 0 = 78
  case neg =>
    rw [decide_eq_false c1, if_pos (.inr (.inl fun e => c1 (List.cons.inj e).1))]; rfl
  rw [decide_eq_true c1, Bool.not_true, cond_false]
  by_cases c2 : l.getD 1 0 = 86
  case neg =>
    rw [decide_eq_false c2, if_pos (.inr (.inl fun e => c2 (List.cons.inj (List.cons.inj e).2).1))]; rfl
  rw [decide_eq_true c2, Bool.not_true, cond_false]
  by_cases c3 : mm l = 0
  · rw [show decide (((mm l : Nat) : Int) = 0) = true from decide_eq_true (by omega), if_pos (.inr (.inr c3))]; rfl
  rw [show decide (((mm l : Nat) : Int) = 0) = false from decide_eq_false (by omega), if_neg (fun h => h.elim c0 fun h => h.elim (fun h => h (by rw [c1, c2])) c3), cond_false, w64 (a := 8 * ((mm l : Nat) : Int)) (by omega) (by omega), w64 (by omega) (by omega)]
  congr 1

/-! ### one place -/
def allOk (L : List Int) : Bool := decide (∀ x ∈ L, okF x)
theorem allOk_t {L : List Int} (h : ∀ x ∈ L, okF x) : allOk L = true := decide_eq_true h
theorem allOk_f {L : List Int} (h : ¬ ∀ x ∈ L, okF x) : allOk L = false := decide_eq_false h
theorem num_take {l : List Int} {a n i : Nat} (h : 16 + 8 * i ≤ n) : num ((l.drop a).take n) i = IntKind.wrap .i64 ((val ((l.drop (a + 8 + 8 * i)).take 8) : Nat) : Int) := by
  unfold num
  rw [List.drop_take, List.take_take, List.drop_drop, show min 8 (n - (8 + 8 * i)) = 8 by omega, show a + (8 + 8 * i) = a + 8 + 8 * i by omega]
theorem found1_false (b12 b13 : Bool) (l : List Int) (a n k : Int) (b19 b20 : Bool) (out : List Int) : lp_coupletref13_Found_1 b12 b13 l a n false k b19 b20 out = some (b12, b13, l, a, n, false, b19, b20, out) :=
  loopN_of 1 (by decide) rfl
theorem found1_loop (b12 b13 : Bool) (l : List Int) (hl : isB l) (a m : Nat) (hm : m ≤ 32) (ha : a + (12 + 8 * m) ≤ l.length) (hn : l.length ≤ 10000) (b19 b20 : Bool) (out : List Int) : ∀ (c i : Nat), i + c = m →
    iterN (fun x => st_coupletref13_Found_1 x.1 x.2.1 x.2.2.1 x.2.2.2.1 x.2.2.2.2.1 x.2.2.2.2.2.1 x.2.2.2.2.2.2.1 x.2.2.2.2.2.2.2.1 x.2.2.2.2.2.2.2.2.1 x.2.2.2.2.2.2.2.2.2) (c + 2) (b12, b13, l, (a : Int), ((12 + 8 * m : Nat) : Int), true, ((a + 8 + 8 * i : Nat) : Int), b19, b20, out) =
      some (b12, b13, l, (a : Int), ((12 + 8 * m : Nat) : Int), allOk (nums ((l.drop a).take (12 + 8 * m)) i c), b19, b20, out)
  | 0, i, hi => by
    obtain rfl : i = m := by omega
    have e : st_coupletref13_Found_1 b12 b13 l (a : Int) ((12 + 8 * i : Nat) : Int) true ((a + 8 + 8 * i : Nat) : Int) b19 b20 out = some (.inr (b12, b13, l, (a : Int), ((12 + 8 * i : Nat) : Int), true, b19, b20, out)) := by
      unfold st_coupletref13_Found_1
      rw [w64 (a := (a : Int) + ((12 + 8 * i : Nat) : Int)) (by omega) (by omega), w64 (by omega) (by omega), decide_eq_false (by omega)]
      rfl
    rw [iterN]
    simp only [e]
    rfl
  | c + 1, i, hi => by
    have hnum := number_at b12 false ((l.drop (a + 8 + 8 * i)).take 8) (isB_take (isB_drop hl _) _) (by rw [List.length_take, List.length_drop]; omega)
    have e : st_coupletref13_Found_1 b12 b13 l (a : Int) ((12 + 8 * m : Nat) : Int) true ((a + 8 + 8 * i : Nat) : Int) b19 b20 out = some (.inl (b12, b13, l, (a : Int), ((12 + 8 * m : Nat) : Int), decide (okF (num ((l.drop a).take (12 + 8 * m)) i)), ((a + 8 + 8 * (i + 1) : Nat) : Int), b19, b20, out)) := by
      unfold st_coupletref13_Found_1
      rw [w64 (a := (a : Int) + ((12 + 8 * m : Nat) : Int)) (by omega) (by omega), w64 (a := (a : Int) + ((12 + 8 * m : Nat) : Int) - 4) (by omega) (by omega), w64 (a := ((a + 8 + 8 * i : Nat) : Int) + 8) (by omega) (by omega), Int.toNat_natCast,
        show (((a + 8 + 8 * i : Nat) : Int) + 8 - ((a + 8 + 8 * i : Nat) : Int)).toNat = 8 by omega, hnum, num_take (by omega),
        decide_eq_true (show ((a + 8 + 8 * i : Nat) : Int) < (a : Int) + ((12 + 8 * m : Nat) : Int) - 4 by omega), decide_eq_true (show (0 : Int) ≤ ((a + 8 + 8 * i : Nat) : Int) by omega), decide_eq_true (show ((a + 8 + 8 * i : Nat) : Int) ≤ ((a + 8 + 8 * i : Nat) : Int) + 8 by omega),
        decide_eq_true (show ((a + 8 + 8 * i : Nat) : Int) + 8 ≤ ((l.length : Nat) : Int) by omega), show ((a + 8 + 8 * i : Nat) : Int) + 8 = ((a + 8 + 8 * (i + 1) : Nat) : Int) by omega]
      rfl
    rw [iterN]
    simp only [e]
    by_cases h : okF (num ((l.drop a).take (12 + 8 * m)) i)
    · rw [decide_eq_true h, found1_loop b12 b13 l hl a m hm ha hn b19 b20 out c (i + 1) (by omega)]
      have e2 : allOk (nums ((l.drop a).take (12 + 8 * m)) (i + 1) c) = allOk (nums ((l.drop a).take (12 + 8 * m)) i (c + 1)) := by
        refine decide_eq_decide.2 ?_
        simp only [nums, List.range'_succ, List.map_cons]
        exact ⟨fun h2 x hx => (List.mem_cons.1 hx).elim (fun e => e ▸ h) (h2 x), fun h2 x hx => h2 x (List.mem_cons_of_mem _ hx)⟩
      rw [e2]
    · rw [decide_eq_false h, iterN]
      have e2 : allOk (nums ((l.drop a).take (12 + 8 * m)) i (c + 1)) = false := by
        refine allOk_f fun h2 => h (h2 _ ?_)
        simp only [nums, List.range'_succ, List.map_cons]
        exact List.mem_cons_self ..
      rw [e2]
      rfl
theorem good_iff {d : List Int} (hd : isB d) (h0 : why12 d = 0) : good d ↔ ∀ x ∈ nums d 0 (mm d), okF x := by
  refine ⟨fun h => h.2.2.2.2.2, fun h => ⟨h0, ?_⟩⟩
  have hm : mm d ≠ 0 := fun e => by
    unfold why12 at h0
    split at h0
    · exact absurd h0 (by decide)
    · rw [if_pos (.inr e)] at h0; exact absurd h0 (by decide)
  have hi := mm_int d
  have hv := val_lt _ (isB_take (isB_drop hd 4) 4)
  have h2 : 256 ^ ((d.drop 4).take 4).length ≤ 256 ^ 4 := Nat.pow_le_pow_right (by decide) (by rw [List.length_take]; omega)
  rw [show 256 ^ 4 = 4294967296 by decide] at h2
  refine ⟨by omega, by rw [hi]; simp [nums], by unfold seqN; omega, by unfold seqN; omega, h⟩
theorem mm_take {s : List Int} {n : Nat} (hn : 4 ≤ n) : mm (s.take n) = mm s := by
  have : ∀ k, k < n → (s.take n).getD k 0 = s.getD k 0 := fun k hk => by
    rw [List.getD_eq_getElem?_getD, List.getD_eq_getElem?_getD, List.getElem?_take_of_lt hk]
  unfold mm kd nn
  rw [this 2 (by omega), this 3 (by omega)]
theorem sizeV_pos {s : List Int} (h : 0 < sizeV s) : sizeV s = 12 + 8 * mm s := by
  unfold sizeV at h ⊢
  split
  · rename_i h1; rw [if_pos h1] at h; omega
  · rfl
theorem found_step (b3 b4 : Bool) (l : List Int) (hl : isB l) (hn : l.length ≤ 10000) (p : Nat) (hp : p < l.length) (b7 b8 : Bool) (out : List Int) (ho : out.length ≤ 100000) :
    st_coupletref13_Found_0 b3 b4 l (p : Int) b7 b8 out = some (.inl (open Classical in if heads (l.drop p) then (b3, b4, l, ((p + sizeV (l.drop p) : Nat) : Int), (b7 && false), false, out ++ [(p : Int)]) else (b3, b4, l, ((p + 1 : Nat) : Int), b7, b8, out))) := by
  have hs := isB_drop hl p
  have hlen : (l.drop p).length = l.length - p := List.length_drop
  have hsz := sizeV_le (l.drop p)
  have hm := mm_le (l.drop p)
  unfold st_coupletref13_Found_0
  rw [decide_eq_true (show (p : Int) < ((l.length : Nat) : Int) by omega), decide_eq_true (show (0 : Int) ≤ (p : Int) by omega), decide_eq_true (show (p : Int) ≤ ((l.length : Nat) : Int) by omega), decide_eq_true (Int.le_refl _), show ((((l.length : Nat) : Int) - ((p : Nat) : Int)).toNat) = l.length - p by omega, Int.toNat_natCast,
    show List.take (l.length - p) (l.drop p) = l.drop p from List.take_of_length_le (by omega), rsize_at b3 b4 _ hs, Option.bind_some]
  simp only [cond_true]
  by_cases c0 : 0 < sizeV (l.drop p)
  case neg =>
    have hh : ¬ heads (l.drop p) := fun h => c0 h.1
    rw [decide_eq_false (show ¬ ((sizeV (l.drop p) : Nat) : Int) > 0 by omega), if_neg hh, cond_false, found1_false, Option.bind_some]
    dsimp only
    rw [cond_false, inc64 (by omega)]
  rw [decide_eq_true (show ((sizeV (l.drop p) : Nat) : Int) > 0 by omega), cond_true, w64 (a := ((l.length : Nat) : Int) - (p : Int)) (by omega) (by omega)]
  by_cases c1 : sizeV (l.drop p) ≤ l.length - p
  case neg =>
    have hh : ¬ heads (l.drop p) := fun h => c1 (by have := h.2.1; omega)
    rw [decide_eq_false (show ¬ ((sizeV (l.drop p) : Nat) : Int) ≤ ((l.length : Nat) : Int) - (p : Int) by omega), if_neg hh, cond_false, found1_false, Option.bind_some]
    dsimp only
    rw [cond_false, inc64 (by omega)]
  have hd := isB_take hs (sizeV (l.drop p))
  rw [decide_eq_true (show ((sizeV (l.drop p) : Nat) : Int) ≤ ((l.length : Nat) : Int) - (p : Int) by omega), w64 (a := (p : Int) + ((sizeV (l.drop p) : Nat) : Int)) (by omega) (by omega), decide_eq_true (show (p : Int) ≤ (p : Int) + ((sizeV (l.drop p) : Nat) : Int) by omega), decide_eq_true (show (p : Int) + ((sizeV (l.drop p) : Nat) : Int) ≤ ((l.length : Nat) : Int) by omega),
    show ((p : Int) + ((sizeV (l.drop p) : Nat) : Int) - (p : Int)).toNat = sizeV (l.drop p) by omega, rwhy_at b3 false _ hd (by rw [List.length_take]; omega), Option.bind_some]
  simp only [cond_true]
  rw [ibeq]
  by_cases c2 : why12 ((l.drop p).take (sizeV (l.drop p))) = 0
  case neg =>
    have hh : ¬ heads (l.drop p) := fun h => c2 h.2.2.1
    rw [decide_eq_false c2, if_neg hh, found1_false, Option.bind_some]
    dsimp only
    rw [cond_false, inc64 (by omega)]
  have e1 := sizeV_pos c0
  have hmm := mm_take (s := l.drop p) (n := sizeV (l.drop p)) (by omega)
  have hL := found1_loop b3 b4 l hl p (mm (l.drop p)) hm (by omega) hn b7 b8 out (mm (l.drop p)) 0 (by omega)
  rw [decide_eq_true c2, w64 (a := (p : Int) + 8) (by omega) (by omega)]
  have hL' : lp_coupletref13_Found_1 b3 b4 l (p : Int) ((sizeV (l.drop p) : Nat) : Int) true ((p : Int) + 8) b7 b8 out = some (b3, b4, l, (p : Int), ((sizeV (l.drop p) : Nat) : Int), allOk (nums ((l.drop p).take (sizeV (l.drop p))) 0 (mm (l.drop p))), b7, b8, out) := by
    rw [e1]
    exact loopN_of (mm (l.drop p) + 2) (by omega) hL
  rw [hL', Option.bind_some]
  dsimp only
  have hg := good_iff hd c2
  rw [hmm] at hg
  by_cases c3 : ∀ x ∈ nums ((l.drop p).take (sizeV (l.drop p))) 0 (mm (l.drop p)), okF x
  · have hh : heads (l.drop p) := ⟨c0, by omega, hg.2 c3⟩
    rw [allOk_t c3, if_pos hh, decide_eq_true (show (out.length + 1) * 8 ≤ 140737488355328 by omega), decide_eq_true (show out.length + 1 ≤ 4611686018427387904 by omega), w64 (by omega) (by omega)]
    rfl
  · have hh : ¬ heads (l.drop p) := fun h => c3 (hg.1 h.2.2)
    rw [allOk_f c3, if_neg hh, cond_false, inc64 (by omega)]
theorem found_loop (b3 b4 : Bool) (l : List Int) (hl : isB l) (hn : l.length ≤ 10000) : ∀ (f p : Nat) (u v : Bool) (out : List Int), p ≤ l.length → l.length - p < f → out.length + (l.length - p) ≤ 20000 → ∃ u' v',
    iterN (fun x => st_coupletref13_Found_0 x.1 x.2.1 x.2.2.1 x.2.2.2.1 x.2.2.2.2.1 x.2.2.2.2.2.1 x.2.2.2.2.2.2) f (b3, b4, l, (p : Int), u, v, out) = some (u', v', out ++ (its p (l.drop p)).map fun q => (q.1 : Int))
  | 0, p, u, v, out, _, h, _ => by omega
  | f + 1, p, u, v, out, hp, h, ho => by
    rcases Nat.lt_or_ge p l.length with hlt | hge
    · have e0 : l.drop p = l[p] :: l.drop (p + 1) := List.drop_eq_getElem_cons hlt
      have e := found_step b3 b4 l hl hn p hlt u v out (by omega)
      rw [iterN]
      simp only [e]
      by_cases hh : heads (l.drop p)
      · have h1 := hh.1
        have h2 := hh.2.1
        rw [List.length_drop] at h2
        rw [if_pos hh]
        obtain ⟨u', v', ih⟩ := found_loop b3 b4 l hl hn f (p + sizeV (l.drop p)) (u && false) false (out ++ [(p : Int)]) (by omega) (by omega) (by rw [List.length_append]; simp; omega)
        exact ⟨u', v', by rw [ih, its_head hh, List.map_cons, List.drop_drop, List.append_assoc]; rfl⟩
      · rw [if_neg hh]
        obtain ⟨u', v', ih⟩ := found_loop b3 b4 l hl hn f (p + 1) u v out (by omega) (by omega) (by omega)
        refine ⟨u', v', ?_⟩
        rw [ih]
        rw [e0] at hh ⊢
        rw [its_skip hh]
    · obtain rfl : p = l.length := by omega
      refine ⟨u, v, ?_⟩
      have e : st_coupletref13_Found_0 b3 b4 l ((l.length : Nat) : Int) u v out = some (.inr (u, v, out)) := by
        unfold st_coupletref13_Found_0
        rw [decide_eq_false (Int.lt_irrefl _)]
        rfl
      rw [iterN]
      simp only [e]
      rw [List.drop_length, its_nil, List.map_nil, List.append_nil]
theorem found_at (b0 b1 : Bool) (l : List Int) (hl : isB l) (hn : l.length ≤ 10000) : ∃ u v, go_coupletref13_Found b0 b1 l = some (u, v, (its 0 l).map fun q => (q.1 : Int)) := by
  obtain ⟨u, v, h⟩ := found_loop b0 b1 l hl hn (l.length + 1) 0 true true [] (Nat.zero_le _) (by omega) (by simp; omega)
  rw [List.drop_zero, List.nil_append] at h
  refine ⟨u, v, ?_⟩
  unfold go_coupletref13_Found lp_coupletref13_Found_0
  have h : iterN (fun x => st_coupletref13_Found_0 x.1 x.2.1 x.2.2.1 x.2.2.2.1 x.2.2.2.2.1 x.2.2.2.2.2.1 x.2.2.2.2.2.2) (l.length + 1) (b0, b1, l, 0, true, true, []) = some (u, v, (its 0 l).map fun q => (q.1 : Int)) := h
  rw [loopN_of (l.length + 1) (by omega) h, Option.bind_some]

/-! ### gone through as far as it is asked -/
theorem stops_fold (b7 b8 : Bool) (l9 : List Int) (s : Nat) (hs : s ≤ 255) (b11 b12 b13 : Bool) (I : List (Nat × Fr)) (hI : I.length ≤ 10000) : ∀ (d j : Nat), j + d = I.length → j ≤ s →
    foldS (X := (Bool × Bool × List Int × Int × Bool × Bool × Bool × List Int × Int)) (Y := (Bool) ⊕ ((Int × Bool × Bool × Bool × List Int × Int))) (fun x i => st_coupletlaw13_ScanStops_0 x.1 x.2.1 x.2.2.1 x.2.2.2.1 x.2.2.2.2.1 x.2.2.2.2.2.1 x.2.2.2.2.2.2.1 x.2.2.2.2.2.2.2.1 x.2.2.2.2.2.2.2.2 i) ((I.drop j).map conv) (b7, b8, l9, (s : Int), b11, b12, b13, I.map (fun q => (q.1 : Int)), (j : Int)) =
      some (if s < I.length then .inr (.inr ((s : Int), b11, b12, b13, I.map (fun q => (q.1 : Int)), ((s + 1 : Nat) : Int))) else .inl (b7, b8, l9, (s : Int), b11, b12, b13, I.map (fun q => (q.1 : Int)), (I.length : Int)))
  | 0, j, hj, hjs => by
    obtain rfl : j = I.length := by omega
    rw [List.drop_length, List.map_nil, foldS, if_neg (by omega)]
  | d + 1, j, hj, hjs => by
    have hlt : j < I.length := by omega
    have hml : (I.map (fun q => (q.1 : Int))).length = I.length := List.length_map ..
    have e : st_coupletlaw13_ScanStops_0 b7 b8 l9 (s : Int) b11 b12 b13 (I.map (fun q => (q.1 : Int))) (j : Int) (conv I[j]) = if j = s then some (.inr (.inr ((s : Int), b11, b12, b13, I.map (fun q => (q.1 : Int)), ((j + 1 : Nat) : Int)))) else some (.inl (b7, b8, l9, (s : Int), b11, b12, b13, I.map (fun q => (q.1 : Int)), ((j + 1 : Nat) : Int))) := by
      unfold st_coupletlaw13_ScanStops_0
      rw [hml, Int.toNat_natCast, inc64 (by omega), w64 (a := (s : Int)) (by omega) (by omega), decide_eq_false (show ¬ (j : Int) ≥ ((I.length : Nat) : Int) by omega), decide_eq_true (show (0 : Int) ≤ (j : Int) by omega), decide_eq_true (show (j : Int) < ((I.length : Nat) : Int) by omega), decide_eq_true hlt,
        getD_at (l := I.map (fun q => (q.1 : Int))) (by rw [hml]; exact hlt), List.getElem_map, show (conv I[j]).1 = (I[j].1 : Int) from rfl, bne_self_eq_false]
      by_cases h : j = s
      · rw [if_pos h, decide_eq_true (show ((j + 1 : Nat) : Int) > (s : Int) by omega)]; rfl
      · rw [if_neg h, decide_eq_false (show ¬ ((j + 1 : Nat) : Int) > (s : Int) by omega)]; rfl
    rw [List.drop_eq_getElem_cons hlt, List.map_cons, foldS]
    dsimp only
    rw [e]
    by_cases h : j = s
    · subst h
      rw [if_pos rfl, if_pos hlt]
    · rw [if_neg h]
      dsimp only
      exact stops_fold b7 b8 l9 s hs b11 b12 b13 I hI d (j + 1) (by omega) (by omega)
theorem law_ScanStops {b0 b1 : Bool} {l2 : List Int} {n3 : Int} (w0 : l2.length ≤ maxLen) (c0 : ∀ x ∈ l2, (Lit.int .u8 x).wf = true) (g0 : b0 = true → l2 = []) (w1 : (Lit.int .u8 n3).wf = true) : go_coupletlaw13_ScanStops b0 b1 l2 n3 = some true := by
  unfold go_coupletlaw13_ScanStops
  rw [awake13]
  by_cases s1 : ((l2.length : Nat) : Int) > 1500
  · rw [decide_eq_true s1]; rfl
  have hl := isB_wf c0
  have h3 := wf_u8 w1
  obtain ⟨s, rfl⟩ : ∃ s : Nat, n3 = (s : Int) := ⟨n3.toNat, by omega⟩
  rw [decide_eq_false s1, cond_false]
  obtain ⟨u, v, hf⟩ := found_at b0 b1 l2 hl (by omega)
  have hil := its_len l2 0
  have hS := stops_fold b0 b1 l2 s (by omega) false u v (its 0 l2) (by omega) (its 0 l2).length 0 (by omega) (Nat.zero_le _)
  rw [List.drop_zero] at hS
  have hS : foldS (X := (Bool × Bool × List Int × Int × Bool × Bool × Bool × List Int × Int)) (Y := (Bool) ⊕ ((Int × Bool × Bool × Bool × List Int × Int))) (fun x i => st_coupletlaw13_ScanStops_0 x.1 x.2.1 x.2.2.1 x.2.2.2.1 x.2.2.2.2.1 x.2.2.2.2.2.1 x.2.2.2.2.2.2.1 x.2.2.2.2.2.2.2.1 x.2.2.2.2.2.2.2.2 i) ((its 0 l2).map conv) (b0, b1, l2, (s : Int), false, u, v, (its 0 l2).map (fun q => (q.1 : Int)), 0) = _ := hS
  rw [hf, Option.bind_some]
  unfold go_scan_Frames lp_coupletlaw13_ScanStops_0 it_coupletlaw13_ScanStops_0
  rw [Option.bind_some]
  dsimp only
  rw [it_frames_at b0 b1 l2 hl (by omega), Option.bind_some, hS, Option.bind_some]
  by_cases h : s < (its 0 l2).length
  · rw [if_pos h]
    simp only [Sum.elim_inr, List.length_map]
    rw [w64 (a := (s : Int)) (by omega) (by omega), w64 (by omega) (by omega), ibeq, decide_eq_true (by omega)]
    rfl
  · rw [if_neg h]
    simp only [Sum.elim_inl, List.length_map]
    rw [w64 (a := (s : Int)) (by omega) (by omega), w64 (by omega) (by omega), ibeq, decide_eq_true (by omega)]
    rfl
end Go.Proofs

