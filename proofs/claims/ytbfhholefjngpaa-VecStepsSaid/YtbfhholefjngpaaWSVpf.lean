/-
  vec.Pairs' iterators over whole numbers and fractions, as dec.py's texts ask for them.
-/
import Derived.Test.YtbfhholefjngpaaFxRng
import Derived.RangeFuncBox
import Derived.RangeFuncLeaves
import Derived.Shelf.Abstract
import Derived.WalkKit
import Derived.OwnWalkIn
import Derived.TacticsInMore
import Derived.LoopNIn
import Derived.LoopIn
import Derived.Stop.RegionWithIn
import Derived.Test.YtbfhholefjngpaaChecked
namespace Go.Proofs
open Go Go.Fx
def GG : Glob := fun _ => none
end Go.Proofs
set_option linter.unusedVariables false
set_option linter.unusedSimpArgs false
namespace Go.Proofs
open Go Go.RowKit Go.Shelf Go.Fx
attribute [local go_sem] Oper.semAt_some
end Go.Proofs
set_option linter.unusedVariables false
set_option linter.unusedSimpArgs false
namespace Go.Proofs
open Go Go.RowKit Go.Shelf Go.Fx
attribute [local go_sem] Oper.semAt_some
abbrev pFV := Int × Int × Bool
def pFP (r : pFV) : PV := .agg [.int .i64 r.1, .int .i64 r.2.1, .bool r.2.2]
def ix_pairspF (r : pFV × pFV) : List PV := [pFP r.1, pFP r.2]
theorem pF_at {h : Heap} {A : List pFV} {vs : List Value} (hr : PV.relE h 3 (A.map pFP) vs) {k : Nat} (hk : k < A.length) : vs[k * 3 + 0]? = some (.int .i64 A[k].1) ∧ vs[k * 3 + 1]? = some (.int .i64 A[k].2.1) ∧ vs[k * 3 + 2]? = some (.bool A[k].2.2) := by
  obtain ⟨u, h1, h2, h3⟩ := PV.relE_get k hr (by rw [List.length_map]; exact hk)
  rw [List.getD_eq_getElem?_getD, List.getElem?_map, List.getElem?_eq_getElem hk] at h1
  obtain ⟨us, rfl, h4⟩ := h1
  obtain ⟨y0, ys0, rfl, e0, y1, ys1, rfl, e1, y2, ys2, rfl, e2, e9⟩ := h4
  obtain rfl : y0 = .int .i64 A[k].1 := e0
  obtain rfl : y1 = .int .i64 A[k].2.1 := e1
  obtain rfl : y2 = .bool A[k].2.2 := e2
  obtain rfl : ys2 = [] := e9
  exact ⟨h3 0 _ rfl, h3 1 _ rfl, h3 2 _ rfl⟩
set_option maxRecDepth 100000 in
set_option maxHeartbeats 4000000 in
theorem pairspF_in {GG : Glob} (n1 x1 : Bool) (l1 : List pFV) (n2 x2 : Bool) (l2 : List pFV) (hlen : l1.length ≤ 1000000000) :
    SeqEq Try.prog GG 124 [.ref 0 [.sl n1 x1 3 (l1.map pFP)], .ref 0 [.sl n2 x2 3 (l2.map pFP)]] ((l1.zip l2).map ix_pairspF) := by
  refine ⟨by kernel_rfl, fun w hp vs hs hG hv l0 J Jx hJ0 hround => ?_⟩
  obtain ⟨v0, vs0, rfl, ⟨B1, rfl, cs1, ⟨sv1, cs1', rfl, hsv1, hcs1⟩, hC1⟩, v1, vs1, rfl, ⟨B2, rfl, cs2, ⟨sv2, cs2', rfl, hsv2, hcs2⟩, hC2⟩, hv0⟩ := hv
  obtain rfl : cs1' = [] := hcs1
  obtain rfl : cs2' = [] := hcs2
  obtain rfl : vs1 = [] := hv0
  obtain ⟨a1, cap1, rfl, hcap1, hex1, hnil1, hnone1, ws1, hrs1, hcells1⟩ := hsv1
  rw [List.length_map] at hC1 hcap1 hex1
  obtain ⟨a2, cap2, rfl, hcap2, hex2, hnil2, hnone2, ws2, hrs2, hcells2⟩ := hsv2
  rw [List.length_map] at hC2 hcap2 hex2
  have hcell1 : ∀ W : World, hp ≤ full W → W.cell? ⟨B1, 0, none⟩ = some (.slice a1 l1.length cap1) := fun W hW => by
    obtain ⟨c, ty, fz, g1, g2⟩ := hC1 0 _ rfl
    have g3 := hW _ _ g1
    simp only [full] at g3
    simp [World.cell?, g3]
    simpa using g2
  have hcell2 : ∀ W : World, hp ≤ full W → W.cell? ⟨B2, 0, none⟩ = some (.slice a2 l2.length cap2) := fun W hW => by
    obtain ⟨c, ty, fz, g1, g2⟩ := hC2 0 _ rfl
    have g3 := hW _ _ g1
    simp only [full] at g3
    simp [World.cell?, g3]
    simpa using g2
  have hB1 := hcell1 w hs
  have hB2 := hcell2 w hs
  have hil : (l1.zip l2).length = min l1.length l2.length := List.length_zip
  refine callsIn_of_wp Try.func124 rfl trivial ?_ rfl
  simp only [Try.ntmps124, List.size_toArray, List.length_cons, List.length_nil, Nat.reduceAdd, Nat.reduceSub, Array.replicate_succ, Array.replicate_zero, List.push_toArray, List.append_toArray, List.nil_append, List.cons_append]
  have hmin : min (l1.length : Int) (l2.length : Int) = ((min l1.length l2.length : Nat) : Int) := by omega
  gi_wp2
  all_goals
    gi_loopw [10] (fun i wr => ∃ (at_ : Nat) (h0 : Heap) (W0 : World), i = .int .i64 (at_ : Int) ∧ at_ ≤ l1.length ∧ at_ ≤ l2.length ∧ J at_ h0 W0 ∧ Grows W0 wr ∧ hp ≤ h0 ∧ h0 ≤ full W0)
      (fun i _ => l1.length - (intOf i).toNat)
    case atStart => exact ⟨0, hp, w, rfl, Nat.zero_le _, Nat.zero_le _, hJ0, Grows.refl w, Heap.le_refl _, hs⟩
    case round =>
      obtain ⟨at_, h0, W0, rfl, hat1, hat2, hJ, hgr, hph, hfu⟩ := hrel
      have hfur : h0 ≤ full wr := fun b o e => (hgr.2.1 b (Array.getElem?_eq_some_iff.1 (hfu b o e)).1).trans (hfu b o e)
      have hpr : hp ≤ full wr := Heap.le_trans hph hfur
      have hBs1 := hcell1 wr hpr
      have hBs2 := hcell2 wr hpr
      by_cases hlt : at_ < min l1.length l2.length
      · have hlt1 : at_ < l1.length := by omega
        have hlt2 : at_ < l2.length := by omega
        obtain ⟨b1, o1, rfl⟩ : ∃ bb oo, a1 = some ⟨bb, oo, none⟩ := by
          cases a1 with
          | none => have := hnone1 rfl; omega
          | some ad =>
            obtain ⟨h1, _⟩ := hcells1 ad rfl
            have := h1 (by omega)
            exact ⟨ad.block, ad.off, by cases ad; simp_all⟩
        obtain ⟨b2, o2, rfl⟩ : ∃ bb oo, a2 = some ⟨bb, oo, none⟩ := by
          cases a2 with
          | none => have := hnone2 rfl; omega
          | some ad =>
            obtain ⟨h1, _⟩ := hcells2 ad rfl
            have := h1 (by omega)
            exact ⟨ad.block, ad.off, by cases ad; simp_all⟩
        have hy1 := pF_at hrs1 hlt1
        have hz1 : ∀ (j : Nat) v, ws1[at_ * 3 + j]? = some v → wr.cell? ⟨b1, o1 + at_ * 3 + j, none⟩ = some v := fun j v hv => by
          obtain ⟨c, ty, fz, g1, g2⟩ := (hcells1 _ rfl).2 (at_ * 3 + j) v hv
          have g3 := hpr _ _ g1
          simp only [full] at g3
          simp [World.cell?, g3]
          rw [Nat.add_assoc]
          exact g2
        have hx10 : wr.cell? ⟨b1, o1 + at_ * 3, none⟩ = some (.int .i64 l1[at_].1) := hz1 0 _ hy1.1
        have hx11 : wr.cell? ⟨b1, o1 + at_ * 3 + 1, none⟩ = some (.int .i64 l1[at_].2.1) := hz1 1 _ hy1.2.1
        have hx12 : wr.cell? ⟨b1, o1 + at_ * 3 + 2, none⟩ = some (.bool l1[at_].2.2) := hz1 2 _ hy1.2.2
        clear hy1 hz1
        have hy2 := pF_at hrs2 hlt2
        have hz2 : ∀ (j : Nat) v, ws2[at_ * 3 + j]? = some v → wr.cell? ⟨b2, o2 + at_ * 3 + j, none⟩ = some v := fun j v hv => by
          obtain ⟨c, ty, fz, g1, g2⟩ := (hcells2 _ rfl).2 (at_ * 3 + j) v hv
          have g3 := hpr _ _ g1
          simp only [full] at g3
          simp [World.cell?, g3]
          rw [Nat.add_assoc]
          exact g2
        have hx20 : wr.cell? ⟨b2, o2 + at_ * 3, none⟩ = some (.int .i64 l2[at_].1) := hz2 0 _ hy2.1
        have hx21 : wr.cell? ⟨b2, o2 + at_ * 3 + 1, none⟩ = some (.int .i64 l2[at_].2.1) := hz2 1 _ hy2.2.1
        have hx22 : wr.cell? ⟨b2, o2 + at_ * 3 + 2, none⟩ = some (.bool l2[at_].2.2) := hz2 2 _ hy2.2.2
        clear hy2 hz2
        have hc1 : (at_ : Int) < (l1.length : Int) := by omega
        have hc2 : (at_ : Int) < (l2.length : Int) := by omega
        have hik : ((l1.zip l2).map ix_pairspF)[at_]? = some (ix_pairspF (l1[at_], l2[at_])) := by
          rw [List.getElem?_map, List.getElem?_eq_getElem (by omega), List.getElem_zip]
          rfl
        obtain ⟨fn, tmps, assign, body, hy, hR⟩ := hround at_ h0 (grow h0 W0 wr.drew) W0 wr.drew _ [.agg #[.int .i64 l1[at_].1, .int .i64 l1[at_].2.1, .bool l1[at_].2.2], .agg #[.int .i64 l2[at_].1, .int .i64 l2[at_].2.1, .bool l2[at_].2.2]] hJ hgr (le_grow hfu wr.drew) (fun b o e => by
            simp only [grow] at e
            split at e
            · exact hfur b o e
            · exact e) (fun b hb => by simp only [grow]; rw [if_pos hb]) hik ⟨_, _, rfl, ⟨_, rfl, _, _, rfl, rfl, _, _, rfl, rfl, _, _, rfl, rfl, rfl⟩, _, _, rfl, ⟨_, rfl, _, _, rfl, rfl, _, _, rfl, rfl, _, _, rfl, rfl, rfl⟩, rfl⟩
        have hy : (Instr.yield l0 #[.agg #[.int .i64 l1[at_].1, .int .i64 l1[at_].2.1, .bool l1[at_].2.2], .agg #[.int .i64 l2[at_].1, .int .i64 l2[at_].2.1, .bool l2[at_].2.2]]).run Try.prog wr.drew = .ok (.round l0 fn tmps assign body) wr.drew := hy
        clear hcells1 hcells2 hC1 hC2 hik hround hrs1 hrs2
        gi_wp2
        have hR2 := hR.mono (R' := fun e W' => ∃ bb, e = .returned (.bool bb) ∧ ((bb = true ∧ J (at_ + 1) (grow h0 W0 wr.drew) W' ∧ grow h0 W0 wr.drew ≤ full W') ∨ (bb = false ∧ Jx (at_ + 1) (grow h0 W0 wr.drew) W'))) (fun e W' h =>
          h.elim (fun h => ⟨true, h.1, .inl ⟨rfl, h.2.1, h.2.2.1⟩⟩) (fun h => ⟨false, h.1, .inr ⟨rfl, h.2⟩⟩))
        clear hR
        gi_region_with (refine hR2.mono ?_; rintro e W3 ⟨bb, rfl, hen⟩)
        all_goals
          rcases hen with ⟨rfl, hJ3, hk3⟩ | ⟨rfl, hJx3⟩
          · gi_wp2
            refine ⟨⟨at_ + 1, grow h0 W0 wr.drew, W3, ?_, by omega, by omega, hJ3, Grows.refl W3, Heap.le_trans hph (le_grow hfu wr.drew), hk3⟩, ?_⟩
            · congr 1
            · simp only [intOf]
              omega
          · gi_wp2
            try simp only [jumpTo]
            refine bodyPost_ret (results_none rfl _ _ _) rfl ?_
            exact ⟨⟨_, rfl⟩, grow h0 W0 wr.drew, W3, Grows.refl W3, .inr ⟨at_ + 1, by rw [List.length_map]; omega, hJx3⟩⟩
      · have hke : at_ = (l1.zip l2).length := by omega
        gi_wp2
        try simp only [jumpTo]
        refine bodyPost_end (results_none rfl _ _ _) rfl ?_
        exact ⟨⟨_, rfl⟩, h0, W0, hgr, .inl (by rw [List.length_map, ← hke]; exact hJ)⟩
end Go.Proofs
set_option linter.unusedVariables false
set_option maxRecDepth 100000
noncomputable section
namespace Go.Proofs
open Go Go.Fx
def pFof (e : PV) : pFV := ((e.subs.headD .nilSl).num, (e.subs.tail.headD .nilSl).num, (e.subs.tail.tail.headD .nilSl).tru)
def pFok (e : PV) : Bool := Shp.ok (.agg [(.int .i64), (.int .i64), .bool]) e
theorem pFof_ok {e : PV} (h : pFok e = true) : e = pFP (pFof e) := (Shp.build_eq (s := .agg [(.int .i64), (.int .i64), .bool]) h).symm
theorem pFall {es : List PV} (h : es.all pFok = true) : es = (es.map pFof).map pFP := by
  induction es with
  | nil => rfl
  | cons e es ih =>
    rw [List.all_cons, Bool.and_eq_true] at h
    rw [List.map_cons, List.map_cons, ← ih h.2, ← pFof_ok h.1]
abbrev pFIt := Int × Int × Bool × Int × Int × Bool
def ie_pairspF (r : pFIt) : List PV := [.agg [.int .i64 r.1, .int .i64 r.2.1, .bool r.2.2.1], .agg [.int .i64 r.2.2.2.1, .int .i64 r.2.2.2.2.1, .bool r.2.2.2.2.2]]
def it_pairspF (n1 x1 : Bool) (es1 : List PV) (n2 x2 : Bool) (es2 : List PV) : Option (List pFIt) :=
  bif es1.all pFok && es2.all pFok && decide (es1.length ≤ 1000000000) then some (((es1.map pFof).zip (es2.map pFof)).map fun q => (q.1.1, q.1.2.1, q.1.2.2, q.2.1, q.2.2.1, q.2.2.2)) else none
theorem sq_pairspF (n1 x1 : Bool) (es1 : List PV) (n2 x2 : Bool) (es2 : List PV) (is : List pFIt) (h : it_pairspF n1 x1 es1 n2 x2 es2 = some is) : SeqEq Try.prog GG 124 [.ref 0 [.sl n1 x1 3 es1], .ref 0 [.sl n2 x2 3 es2]] (is.map ie_pairspF) := by
  unfold it_pairspF at h
  rcases hc : (es1.all pFok && es2.all pFok && decide (es1.length ≤ 1000000000)) with _ | _
  · rw [hc] at h; cases h
  rw [hc, cond_true] at h
  cases h
  simp only [Bool.and_eq_true, decide_eq_true_eq] at hc
  have := pairspF_in (GG := GG) n1 x1 (es1.map pFof) n2 x2 (es2.map pFof) (by rw [List.length_map]; exact hc.2)
  rw [← pFall hc.1.1, ← pFall hc.1.2] at this
  rw [List.map_map]
  exact this
end Go.Proofs
end
