/-
  scan.Frames' iterator, as dec.py's texts ask for it.
-/
import Derived.Test.YtajphaljpkeecaaDoorWWire
import Derived.Test.YtajphaljpkeecaaDoorWSPb
import Derived.Test.YtajphaljpkeecaaDoorWGC0
import Derived.Test.YtajphaljpkeecaaDoorWGC12
import Derived.Test.YtajphaljpkeecaaDoorFxRng
import Derived.Test.YtajphaljpkeecaaDoorChecked
import Derived.RangeFuncBox
import Derived.RangeFuncLeaves
import Derived.Shelf.Abstract
import Derived.WalkKit
import Derived.OwnWalkIn
import Derived.TacticsInMore
import Derived.LoopNIn
import Derived.LoopIn
set_option linter.unusedVariables false
set_option maxRecDepth 100000
noncomputable section
namespace Go.Proofs
open Go Go.Fx
def xr_scan_Size : XR := (.seq (.ops false [⟨⟨(some 2), (.mv (.c (.int .i64 (0)))), none⟩, none⟩]) (.seq (.seq (.ops false [⟨⟨(some 4), (.mv (.tmp 0)), none⟩, none⟩, ⟨⟨(some 5), (.len (.tmp 4)), none⟩, none⟩, ⟨⟨(some 6), (.bin .lss (.tmp 5) (.c (.int .i64 (4)))), none⟩, none⟩, ⟨⟨(some 7), (.mv (.tmp 6)), none⟩, none⟩, ⟨⟨(some 8), (.mv (.tmp 0)), (some (7, false))⟩, none⟩, ⟨⟨(some 9), (.slc 1 (.tmp 8) none (some (.c (.int .i64 (2)))) none), (some (7, false))⟩, none⟩, ⟨⟨(some 10), (.cvtBS (.tmp 9)), (some (7, false))⟩, none⟩, ⟨⟨(some 11), (.binS .neq (.tmp 10) (.c (.str [(78), (86)]))), (some (7, false))⟩, none⟩, ⟨⟨(some 12), (.pick (.tmp 7) (.c (.bool true)) (.tmp 11)), none⟩, none⟩]) (.cond (.tmp 12) (.seq (.ops false [⟨⟨(some 2), (.mv (.c (.int .i64 (0)))), none⟩, none⟩]) .ret) .skip)) (.seq (.ops true [⟨⟨(some 13), (.mv (.tmp 0)), none⟩, none⟩, ⟨⟨(some 14), (.ixA 1 (.tmp 13) (.c (.int .i64 (2)))), none⟩, none⟩, ⟨⟨(some 15), (.ld false 1 (.tmp 14)), none⟩, (some (.int .u8))⟩, ⟨⟨(some 16), (.cvtI .i64 (.tmp 15)), none⟩, none⟩, ⟨⟨(some 17), (.mv (.tmp 0)), none⟩, none⟩, ⟨⟨(some 18), (.ixA 1 (.tmp 17) (.c (.int .i64 (3)))), none⟩, none⟩, ⟨⟨(some 19), (.ld false 1 (.tmp 18)), none⟩, (some (.int .u8))⟩, ⟨⟨(some 20), (.cvtI .i64 (.tmp 19)), none⟩, none⟩, ⟨⟨(some 21), (.call (.func 22) [(.tmp 16), (.tmp 20)]), none⟩, none⟩, ⟨⟨(some 3), (.mv (.tmp 21)), none⟩, none⟩]) (.seq (.seq (.ops false [⟨⟨(some 22), (.mv (.tmp 3)), none⟩, none⟩, ⟨⟨(some 23), (.bin .eql (.tmp 22) (.c (.int .i64 (0)))), none⟩, none⟩]) (.cond (.tmp 23) (.seq (.ops false [⟨⟨(some 2), (.mv (.c (.int .i64 (0)))), none⟩, none⟩]) .ret) .skip)) (.seq (.ops false [⟨⟨(some 24), (.mv (.tmp 3)), none⟩, none⟩, ⟨⟨(some 25), (.bin .mul (.c (.int .i64 (8))) (.tmp 24)), none⟩, none⟩, ⟨⟨(some 26), (.bin .add (.c (.int .i64 (12))) (.tmp 25)), none⟩, none⟩, ⟨⟨(some 2), (.mv (.tmp 26)), none⟩, none⟩]) .ret)))))
def rs_scan_Size : List ResultVar := [(.tmp 2)]
theorem ir_scan_Size : compCode Tryd.prog (Tryd.f45.body.getD .skip) [] = some (xr_scan_Size.erase, []) := by kernel_rfl
def gm_scan_Size : Gam := (Gam.fn 22 as_frame_Many ga_frame_Many em_frame_Many Gam.bot)
theorem gk_scan_Size : GamOk Tryd.prog GG gm_scan_Size := (GamOk.fn at_frame_Many GamOk.bot)
def lm_scan_Size : Lam := fun _ j S kn ke => match j with
  | _ => .fail
def go_scan_Size (b0 : Bool) (b1 : Bool) (l2 : List Int) : Option Int :=
  bif (decide ((((List.length l2) : Nat) : Int) < 4)) then
   some 0
  else
   bif (decide (2 ≤ (((List.length l2) : Nat) : Int))) then
    bif (List.all (List.take 2 (List.drop 0 l2)) (fun x4 => (decide ((0 ≤ x4) ∧ (x4 < 256))))) then
     bif (!((List.take 2 (List.drop 0 l2)) == [78, 86])) then
      some 0
     else
      bif (decide (2 < (((List.length l2) : Nat) : Int))) then
       bif (decide (2 < (List.length l2))) then
        bif (decide (3 < (((List.length l2) : Nat) : Int))) then
         bif (decide (3 < (List.length l2))) then
          (go_frame_Many (IntKind.wrap .i64 (List.getD l2 2 0)) (IntKind.wrap .i64 (List.getD l2 3 0))).bind fun r3 =>
          bif (r3 == 0) then
           some 0
          else
           some (IntKind.wrap .i64 (12 + (IntKind.wrap .i64 (8 * r3))))
         else none
        else none
       else none
      else none
    else none
   else none
def em_scan_Size (r : Int) : PV := (.int .i64 r)
def rh_scan_Size : Shp := (.int .i64)
def ra_scan_Size (v : PV) : Int := v.num
def kf_scan_Size (v : PV) : Tree Int := .chk (rh_scan_Size.ok v) (.leaf (ra_scan_Size v))
theorem rn_scan_Size (b0 : Bool) (b1 : Bool) (l2 : List Int) : (ev GG gm_scan_Size lm_scan_Size xr_scan_Size ⟨slots 27 0 [(0, .p (.isl b0 b1 .u8 l2))], []⟩ (fun S => finT Tryd.prog rs_scan_Size S kf_scan_Size) (retT Tryd.prog rs_scan_Size kf_scan_Size)).run = go_scan_Size b0 b1 l2 := by kernel_rfl
theorem ok_scan_Size (b0 : Bool) (b1 : Bool) (l2 : List Int) (r : Int) (h : go_scan_Size b0 b1 l2 = some r) : FunEq Tryd.prog GG 45 [(.isl b0 b1 .u8 l2)] (em_scan_Size r) :=
  fun_of_ev (x := xr_scan_Size) (Λ := lm_scan_Size) gk_scan_Size [] Tryd.func45 rfl (by kernel_rfl) ir_scan_Size (by kernel_rfl) (congrArg Array.toList Tryd.results45) Tryd.ntmps45 (⟨trivial, ⟨⟨trivial, ⟨⟨trivial, trivial⟩, trivial⟩⟩, ⟨trivial, ⟨⟨trivial, ⟨⟨trivial, trivial⟩, trivial⟩⟩, ⟨trivial, trivial⟩⟩⟩⟩⟩) (leaf_of fun v => (by kernel_rfl : rh_scan_Size.build v = em_scan_Size (ra_scan_Size v))) (by kernel_rfl) ((rn_scan_Size b0 b1 l2).trans h)
def as_scan_Size : List Shp := [(.isl .u8)]
def ga_scan_Size (vs : List PV) : Option Int := go_scan_Size ((tls 0 vs).headD .nilSl).nl ((tls 0 vs).headD .nilSl).ex ((tls 0 vs).headD .nilSl).ints
theorem at_scan_Size : FnAt Tryd.prog GG 45 as_scan_Size ga_scan_Size em_scan_Size := fun vs h r hr => by
  have e : Shp.buildL as_scan_Size vs = [(.isl ((tls 0 vs).headD .nilSl).nl ((tls 0 vs).headD .nilSl).ex .u8 ((tls 0 vs).headD .nilSl).ints)] := by kernel_rfl
  rw [← Shp.buildL_eq _ h, e]
  exact .inl ⟨by decide, ok_scan_Size _ _ _ r hr⟩
def xr_scan_Frames : XR := (.seq (.ops false [⟨⟨(some 1), (.box 26 (.tmp 0)), none⟩, none⟩, ⟨⟨(some 2), (.mv (.c .nilFn)), none⟩, none⟩]) (.seq (.ops false [⟨⟨(some 3), (.mkFn 64 [(.tmp 1)]), none⟩, none⟩, ⟨⟨(some 2), (.mv (.tmp 3)), none⟩, none⟩]) .ret))
def rs_scan_Frames : List ResultVar := [(.tmp 2)]
theorem ir_scan_Frames : compCode Tryd.prog (Tryd.f42.body.getD .skip) [] = some (xr_scan_Frames.erase, []) := by kernel_rfl
def gm_scan_Frames : Gam := Gam.bot
theorem gk_scan_Frames : GamOk Tryd.prog GG gm_scan_Frames := GamOk.bot
def lm_scan_Frames : Lam := fun _ j S kn ke => match j with
  | _ => .fail
def go_scan_Frames (b0 : Bool) (b1 : Bool) (l2 : List Int) : Option (Bool × Bool × List Int) :=
  some (b0, b1, l2)
def em_scan_Frames (r : (Bool × Bool × List Int)) : PV := (.fn 64 [(.ref 0 [(.isl r.1 r.2.1 .u8 r.2.2)])])
def rh_scan_Frames : Shp := (.fn 64 [(.ref 0 [(.isl .u8)])])
def ra_scan_Frames (v : PV) : (Bool × Bool × List Int) := (((v.subs.headD .nilSl).subs.headD .nilSl).nl, ((v.subs.headD .nilSl).subs.headD .nilSl).ex, ((v.subs.headD .nilSl).subs.headD .nilSl).ints)
def kf_scan_Frames (v : PV) : Tree (Bool × Bool × List Int) := .chk (rh_scan_Frames.ok v) (.leaf (ra_scan_Frames v))
theorem rn_scan_Frames (b0 : Bool) (b1 : Bool) (l2 : List Int) : (ev GG gm_scan_Frames lm_scan_Frames xr_scan_Frames ⟨slots 4 0 [(0, .p (.isl b0 b1 .u8 l2))], []⟩ (fun S => finT Tryd.prog rs_scan_Frames S kf_scan_Frames) (retT Tryd.prog rs_scan_Frames kf_scan_Frames)).run = go_scan_Frames b0 b1 l2 := by kernel_rfl
theorem ok_scan_Frames (b0 : Bool) (b1 : Bool) (l2 : List Int) (r : (Bool × Bool × List Int)) (h : go_scan_Frames b0 b1 l2 = some r) : FunEq Tryd.prog GG 42 [(.isl b0 b1 .u8 l2)] (em_scan_Frames r) :=
  fun_of_ev (x := xr_scan_Frames) (Λ := lm_scan_Frames) gk_scan_Frames [] Tryd.func42 rfl (by kernel_rfl) ir_scan_Frames (by kernel_rfl) (congrArg Array.toList Tryd.results42) Tryd.ntmps42 (⟨trivial, ⟨trivial, trivial⟩⟩) (leaf_of fun v => (by kernel_rfl : rh_scan_Frames.build v = em_scan_Frames (ra_scan_Frames v))) (by kernel_rfl) ((rn_scan_Frames b0 b1 l2).trans h)
def as_scan_Frames : List Shp := [(.isl .u8)]
def ga_scan_Frames (vs : List PV) : Option (Bool × Bool × List Int) := go_scan_Frames ((tls 0 vs).headD .nilSl).nl ((tls 0 vs).headD .nilSl).ex ((tls 0 vs).headD .nilSl).ints
theorem at_scan_Frames : FnAt Tryd.prog GG 42 as_scan_Frames ga_scan_Frames em_scan_Frames := fun vs h r hr => by
  have e : Shp.buildL as_scan_Frames vs = [(.isl ((tls 0 vs).headD .nilSl).nl ((tls 0 vs).headD .nilSl).ex .u8 ((tls 0 vs).headD .nilSl).ints)] := by kernel_rfl
  rw [← Shp.buildL_eq _ h, e]
  exact .inl ⟨by decide, ok_scan_Frames _ _ _ r hr⟩
end Go.Proofs
end
set_option linter.unusedVariables false
set_option linter.unusedSimpArgs false
namespace Go.Proofs
open Go Go.RowKit Go.Shelf Go.Fx
attribute [local go_sem] Oper.semAt_some
abbrev FrIt := Int × Int × Int × Int × Bool × Bool × List Int
abbrev FrR := Int × Int × Int × Bool × Bool × List Int × Int
def framesGo (sz : List Int → Option Int) (dc : List Int → Option FrR) (l : List Int) : Nat → Nat → Option (List FrIt)
  | 0, _ => none
  | f + 1, p => if p < l.length then
      match sz (l.drop p) with
      | none => none
      | some n => if n = 0 ∨ n > ((l.length - p : Nat) : Int) then framesGo sz dc l f (p + 1)
        else if n < 0 then none else match dc ((l.drop p).take n.toNat) with
          | none => none
          | some r => if r.2.2.2.2.2.2 ≠ 0 then framesGo sz dc l f (p + 1)
            else (framesGo sz dc l f (p + n.toNat)).map ((((p : Nat) : Int), r.1, r.2.1, r.2.2.1, r.2.2.2.1, r.2.2.2.2.1, r.2.2.2.2.2.1) :: ·)
    else some []
theorem framesGo_lt {sz : List Int → Option Int} {dc : List Int → Option FrR} {l : List Int} {f p : Nat} (h : p < l.length) {R : List FrIt} (e : framesGo sz dc l f p = some R) : ∃ g n, f = g + 1 ∧ sz (l.drop p) = some n ∧
    (((n = 0 ∨ n > ((l.length - p : Nat) : Int)) ∧ framesGo sz dc l g (p + 1) = some R) ∨ (¬ (n = 0 ∨ n > ((l.length - p : Nat) : Int)) ∧ 0 ≤ n ∧ ∃ r, dc ((l.drop p).take n.toNat) = some r ∧
      ((r.2.2.2.2.2.2 ≠ 0 ∧ framesGo sz dc l g (p + 1) = some R) ∨ (r.2.2.2.2.2.2 = 0 ∧ ∃ R', R = (((p : Nat) : Int), r.1, r.2.1, r.2.2.1, r.2.2.2.1, r.2.2.2.2.1, r.2.2.2.2.2.1) :: R' ∧ framesGo sz dc l g (p + n.toNat) = some R')))) := by
  cases f with
  | zero => cases e
  | succ g =>
    rw [framesGo, if_pos h] at e
    split at e
    · cases e
    rename_i n hn
    refine ⟨g, n, rfl, hn, ?_⟩
    by_cases hc : n = 0 ∨ n > ((l.length - p : Nat) : Int)
    · rw [if_pos hc] at e; exact .inl ⟨hc, e⟩
    rw [if_neg hc] at e
    by_cases hn0 : n < 0
    · rw [if_pos hn0] at e; cases e
    rw [if_neg hn0] at e
    split at e
    · cases e
    rename_i r hr
    refine .inr ⟨hc, by omega, r, hr, ?_⟩
    by_cases he : r.2.2.2.2.2.2 ≠ 0
    · rw [if_pos he] at e; exact .inl ⟨he, e⟩
    rw [if_neg he] at e
    obtain ⟨R', h1, h2⟩ := Option.map_eq_some_iff.1 e
    exact .inr ⟨by simpa using he, R', h2.symm, h1⟩
theorem framesGo_ge {sz : List Int → Option Int} {dc : List Int → Option FrR} {l : List Int} {f p : Nat} (h : ¬ p < l.length) {R : List FrIt} (e : framesGo sz dc l f p = some R) : R = [] := by
  cases f with
  | zero => cases e
  | succ g => rw [framesGo, if_neg h] at e; exact (Option.some.inj e).symm
def ie_frames (r : FrIt) : List PV := [.int .i64 r.1, .agg [.int .i64 r.2.1, .int .i64 r.2.2.1, .int .i64 r.2.2.2.1, .isl r.2.2.2.2.1 r.2.2.2.2.2.1 .i64 r.2.2.2.2.2.2]]
def frPV (r : FrR) : PV := .tup [.agg [.int .i64 r.1, .int .i64 r.2.1, .int .i64 r.2.2.1, .isl r.2.2.2.1 r.2.2.2.2.1 .i64 r.2.2.2.2.2.1], .int .i64 r.2.2.2.2.2.2]
theorem call_of {P : Program} {G : Glob} {f : FuncId} {args : List PV} {r : PV} (hf : FunEq P G f args r) {w : World} {h : Heap} {vs : List Value} (hs : h ≤ full w) (hG : GlobOk G h) (hrel : PV.relL h args vs) :
    CallsIn (FR none) 0 P f vs.toArray w fun e w' => ∃ v, e = .returned v ∧ r.rel (grow h w w') v ∧ Grows w w' :=
  callsIn_fr ((hf.2 w h vs hs hG hrel).mono fun e w' ⟨v, h1, h2, h3, h4, h5⟩ => ⟨v, h1, h2, h3, h4, h5⟩)
set_option maxRecDepth 100000 in
set_option maxHeartbeats 4000000 in
theorem frames_in {GG : Glob} (nil ex : Bool) (l : List Int) {sz : List Int → Option Int} {dc : List Int → Option FrR} (hsz : ∀ l n, sz l = some n → FunEq Tryd.prog GG 45 [.isl false ex .u8 l] (.int .i64 n)) (hdc : ∀ l r, dc l = some r → FunEq Tryd.prog GG 27 [.isl false true .u8 l] (frPV r))
    (is : List FrIt) {f0 : Nat} (hlen : l.length ≤ 1000000000) (hit : framesGo sz dc l f0 0 = some is) : SeqEq Tryd.prog GG 64 [.ref 0 [.isl nil ex .u8 l]] (is.map ie_frames) := by
  refine ⟨by kernel_rfl, fun w hp vs hs hG hv l0 J Jx hJ0 hround => ?_⟩
  obtain ⟨v0, vs0, rfl, ⟨B, rfl, cs, ⟨sv, cs', rfl, hsv, hcs⟩, hC⟩, hv0⟩ := hv
  obtain rfl : cs' = [] := hcs
  obtain rfl : vs0 = [] := hv0
  obtain ⟨a, cap, rfl, hcap, hex, hnil, hnone, hcells⟩ := hsv
  refine callsIn_of_wp Tryd.func64 rfl trivial ?_ rfl
  simp only [Tryd.ntmps64, List.size_toArray, List.length_cons, List.length_nil, Nat.reduceAdd, Nat.reduceSub, Array.replicate_succ, Array.replicate_zero, List.push_toArray, List.append_toArray, List.nil_append, List.cons_append]
  refine wpIn_scope 0 (fun _ _ => False) (fun _ _ => 0) rfl ?_ (fun a w h => h.elim)
  gi_wp2
  refine wpIn_label ?_
  gi_wp2
  gi_loopw [3] (fun i wr => ∃ (at_ k : Nat) (h0 : Heap) (W0 : World), i = .int .i64 (at_ : Int) ∧ at_ ≤ l.length ∧ (∃ f, framesGo sz dc l f at_ = some (is.drop k)) ∧ k ≤ is.length ∧ J k h0 W0 ∧ Grows W0 wr ∧ hp ≤ h0 ∧ h0 ≤ full W0)
    (fun i _ => l.length - (intOf i).toNat)
  case atStart => exact ⟨0, 0, hp, w, rfl, Nat.zero_le _, ⟨_, by rw [List.drop_zero]; exact hit⟩, Nat.zero_le _, hJ0, Grows.refl w, Heap.le_refl _, hs⟩
  case round =>
    obtain ⟨at_, k, h0, W0, rfl, hat, ⟨f, hf⟩, hk, hJ, hgr, hph, hfu⟩ := hrel
    have hcell : ∀ W : World, h0 ≤ full W → W.cell? ⟨B, 0, none⟩ = some (.slice a l.length cap) := fun W hW => by
      obtain ⟨c, ty, fz, g1, g2⟩ := hC 0 _ rfl
      have g3 := hW _ _ (hph _ _ g1)
      simp only [full] at g3
      simp [World.cell?, g3]
      simpa using g2
    have hfur : h0 ≤ full wr := fun b o e => (hgr.2.1 b (Array.getElem?_eq_some_iff.1 (hfu b o e)).1).trans (hfu b o e)
    have hBs := hcell wr hfur
    rcases Nat.lt_or_ge at_ l.length with hlt | hge
    · obtain ⟨bb, oo, rfl⟩ : ∃ bb oo, a = some ⟨bb, oo, none⟩ := by
        cases a with
        | none => have := hnone rfl; omega
        | some ad =>
          obtain ⟨h1, _⟩ := hcells ad rfl
          have := h1 (by omega)
          exact ⟨ad.block, ad.off, by cases ad; simp_all⟩
      have hGl : GlobOk GG h0 := fun g x e => ⟨PV.rel_mono hph _ _ (hG g x e).1, tabOk_mono hph (hG g x e).2⟩
      have hnil' : nil = false := by cases hb : nil with
        | false => rfl
        | true => have := hnil.1 hb; cases this
      subst hnil'
      obtain ⟨_, hcs⟩ := hcells _ rfl
      have hrelS : PV.relL h0 [.isl false ex .u8 (l.drop at_)] [.slice (some ⟨bb, oo + at_, none⟩) (l.length - at_) (cap - at_)] := by
        refine ⟨_, [], rfl, ⟨some ⟨bb, oo + at_, none⟩, cap - at_, by rw [List.length_drop], by rw [List.length_drop]; omega, fun e => by rw [List.length_drop, hex e], by simp, (fun e => by cases e), fun ad e => ?_⟩, rfl⟩
        cases e
        refine ⟨fun _ => rfl, fun j u hj => ?_⟩
        obtain ⟨c, ty, fz, g1, g2⟩ := hcs (at_ + j) u (by rw [List.map_drop, List.getElem?_drop] at hj; exact hj)
        exact ⟨c, ty, fz, hph _ _ g1, by rw [Nat.add_assoc]; exact g2⟩
      clear hcells hC
      obtain ⟨g, n, rfl, hn, hcase⟩ := framesGo_lt hlt hf
      have hS := call_of (hsz (l.drop at_) n hn) hfur hGl hrelS
      clear hrelS hf
      have hc1 : (at_ : Int) < (l.length : Int) := by omega
      have hgrow : ∀ {W : World}, Grows wr W → Grows W0 W := fun {W} h => ⟨Nat.le_trans hgr.1 h.1, fun b hb => (h.2.1 b (Nat.lt_of_lt_of_le hb hgr.1)).trans (hgr.2.1 b hb), hgr.2.2.trans h.2.2⟩
      have hend : ∀ (W : World), Grows wr W → framesGo sz dc l g (at_ + 1) = some (is.drop k) → (∃ (at__1 : Nat) (k : Nat) (h0 : Heap) (W0 : World), Value.int IntKind.i64 ((at_ : Int) + 1) = Value.int IntKind.i64 (at__1 : Int) ∧ at__1 ≤ l.length ∧ (∃ f, framesGo sz dc l f at__1 = some (List.drop k is)) ∧
            k ≤ is.length ∧ J k h0 W0 ∧ Grows W0 W ∧ hp ≤ h0 ∧ h0 ≤ full W0) ∧ l.length - (intOf (Value.int IntKind.i64 ((at_ : Int) + 1))).toNat < l.length - (intOf (Value.int IntKind.i64 (at_ : Int))).toNat := fun W hW hf' => by
        have hw1 : (at_ : Int) + 1 = ((at_ + 1 : Nat) : Int) := by omega
        refine ⟨⟨at_ + 1, k, h0, W0, by rw [hw1], hlt, ⟨g, hf'⟩, hk, hJ, hgrow hW, hph, hfu⟩, ?_⟩
        rw [hw1]
        simp only [intOf, Int.toNat_natCast]
        omega
      by_cases hn0 : n = 0
      · subst hn0
        have hf' := hcase.resolve_right (fun h => h.1 (.inl rfl))
        clear hcase
        gi_wp2_with (gi_at_call 45; refine hS.mono ?_; rintro e w1 ⟨v, rfl, hv, hg1⟩; obtain rfl : v = .int .i64 0 := hv)
        exact hend w1 hg1 hf'.2
      by_cases hn1 : n > ((l.length - at_ : Nat) : Int)
      · have hf' := hcase.resolve_right (fun h => h.1 (.inr hn1))
        clear hcase
        have hw2 : wrap64 ((l.length : Int) - (at_ : Int)) = ((l.length - at_ : Nat) : Int) := by unfold wrap64; omega
        gi_wp2_with (gi_at_call 45; refine hS.mono ?_; rintro e w1 ⟨v, rfl, hv, hg1⟩; obtain rfl : v = .int .i64 n := hv; have hBs1 := hcell w1 (fun b o e => (hg1.2.1 b (Array.getElem?_eq_some_iff.1 (hfur b o e)).1).trans (hfur b o e)))
        exact hend w1 hg1 hf'.2
      · have hcase := hcase.resolve_left (fun h => h.1.elim hn0 hn1)
        obtain ⟨_, hnn, r, hr, hcase⟩ := hcase
        obtain ⟨m, rfl⟩ : ∃ m : Nat, n = (m : Int) := ⟨n.toNat, by omega⟩
        rw [Int.toNat_natCast] at hr hcase
        have hm0 : 0 < m := by omega
        have hml : m ≤ l.length - at_ := by omega
        have hw2 : wrap64 ((l.length : Int) - (at_ : Int)) = ((l.length - at_ : Nat) : Int) := by unfold wrap64; omega
        have hw3 : wrap64 ((at_ : Int) + (m : Int)) = ((at_ + m : Nat) : Int) := by unfold wrap64; omega
        gi_wp2_with (gi_at_call 45; refine hS.mono ?_; rintro e w1 ⟨v, rfl, hv, hg1⟩; obtain rfl : v = .int .i64 (m : Int) := hv; have hBs1 := hcell w1 (fun b o e => (hg1.2.1 b (Array.getElem?_eq_some_iff.1 (hfur b o e)).1).trans (hfur b o e)))
        case roundEnd =>
          rename_i hh
          exfalso
          rcases hh with hh | hh
          · have := beq_iff_eq.1 hh; omega
          · omega
        have hfur1 : h0 ≤ full w1 := fun b o e => (hg1.2.1 b (Array.getElem?_eq_some_iff.1 (hfur b o e)).1).trans (hfur b o e)
        have hrelD : PV.relL h0 [.isl false true .u8 ((l.drop at_).take m)] [.slice (some ⟨bb, oo + at_, none⟩) m m] := by
          have hl2 : ((l.drop at_).take m).length = m := by rw [List.length_take, List.length_drop]; omega
          refine ⟨_, [], rfl, ⟨some ⟨bb, oo + at_, none⟩, m, by rw [hl2], by rw [hl2]; exact Nat.le_refl _, fun e => hl2.symm, by simp, (fun e => by cases e), fun ad e => ?_⟩, rfl⟩
          cases e
          refine ⟨fun _ => rfl, fun j u hj => ?_⟩
          have hjm : j < m := by
            have := (List.getElem?_eq_some_iff.1 hj).1
            rw [List.length_map, hl2] at this
            exact this
          obtain ⟨c, ty, fz, g1, g2⟩ := hcs (at_ + j) u (by rw [List.map_take, List.map_drop, List.getElem?_take_of_lt hjm, List.getElem?_drop] at hj; exact hj)
          exact ⟨c, ty, fz, hph _ _ g1, by rw [Nat.add_assoc]; exact g2⟩
        refine (call_of (hdc _ r hr) hfur1 hGl hrelD).mono ?_
        rintro e w2 ⟨v, rfl, hv, hg2⟩
        obtain ⟨us, rfl, u1, us1, rfl, ⟨xs, rfl, hx⟩, u2, us2, rfl, hu2, hus2⟩ := hv
        obtain rfl : us2 = [] := hus2
        obtain rfl : u2 = .int .i64 r.2.2.2.2.2.2 := hu2
        have hxr := hx
        obtain ⟨x1, _, rfl, hx1, x2, _, rfl, hx2, x3, _, rfl, hx3, x4, _, rfl, ⟨a4, cap4, rfl, hx4⟩, hx5⟩ := hx
        obtain rfl := hx5
        obtain rfl : x1 = .int .i64 r.1 := hx1
        obtain rfl : x2 = .int .i64 r.2.1 := hx2
        obtain rfl : x3 = .int .i64 r.2.2.1 := hx3
        clear hx4 hrelD
        by_cases he : r.2.2.2.2.2.2 = 0
        case neg =>
          have hf' := hcase.resolve_right (fun h => he h.1)
          gi_wp2
          refine hend _ ?_ hf'.2
          exact ⟨by rw [World.size_alloc]; have := hg1.1; have := hg2.1; omega, fun b hb => (Below.heap_alloc _ _ _ (by have := hg1.1; have := hg2.1; omega)).trans ((hg2.2.1 b (by have := hg1.1; omega)).trans (hg1.2.1 b hb)), hg1.2.2.trans hg2.2.2⟩
        case pos =>
          obtain ⟨_, R', hR', hf'⟩ := hcase.resolve_left (fun h => h.1 he)
          have hik : (is.map ie_frames)[k]? = some (ie_frames (((at_ : Nat) : Int), r.1, r.2.1, r.2.2.1, r.2.2.2.1, r.2.2.2.2.1, r.2.2.2.2.2.1)) := by
            rw [List.getElem?_map]
            have : (is.drop k)[0]? = some (((at_ : Nat) : Int), r.1, r.2.1, r.2.2.1, r.2.2.2.1, r.2.2.2.2.1, r.2.2.2.2.2.1) := by rw [hR']; rfl
            rw [List.getElem?_drop] at this
            rw [show k = k + 0 from rfl, this]
            rfl
          have hdk : is.drop (k + 1) = R' := by rw [← List.drop_drop, hR']; rfl
          have hks : k + 1 ≤ is.length := by
            have := (List.getElem?_eq_some_iff.1 hik).1
            rw [List.length_map] at this
            omega
          obtain ⟨WY, hWY⟩ : ∃ WY, WY = w2.alloc (Obj.cells #[.int .i64 r.1, .int .i64 r.2.1, .int .i64 r.2.2.1, .slice a4 r.2.2.2.2.2.1.length cap4] 24) := ⟨_, rfl⟩
          have hg3 : Grows w2 WY := by rw [hWY]; exact ⟨by rw [World.size_alloc]; omega, fun b hb => Below.heap_alloc _ _ _ hb, ⟨rfl, rfl⟩⟩
          have hkW : grow h0 w1 w2 ≤ full WY := fun b o e => by
            simp only [grow] at e
            split at e
            · rename_i hb
              have := hfur1 b o e
              exact (hg3.2.1 b (by have := hg2.1; omega)).trans ((hg2.2.1 b hb).trans this)
            · exact (hg3.2.1 b (Array.getElem?_eq_some_iff.1 e).1).trans e
          obtain ⟨fn, tmps, assign, body, hy, hR⟩ := hround k h0 (grow h0 w1 w2) W0 WY _ [.int .i64 (at_ : Int), .agg #[.int .i64 r.1, .int .i64 r.2.1, .int .i64 r.2.2.1, .slice a4 r.2.2.2.2.2.1.length cap4]] hJ
            (hgrow ⟨by have := hg1.1; have := hg2.1; have := hg3.1; omega, fun b hb => (hg3.2.1 b (by have := hg1.1; have := hg2.1; omega)).trans ((hg2.2.1 b (by have := hg1.1; omega)).trans (hg1.2.1 b hb)), (hg1.2.2.trans hg2.2.2).trans hg3.2.2⟩)
            (le_grow hfur1 w2) hkW (fun b hb => by
              have h1 := hgr.1
              have h2 := hg1.1
              simp only [grow]
              rw [if_pos (by omega)]) hik ⟨_, _, rfl, rfl, _, [], rfl, ⟨_, rfl, hxr⟩, rfl⟩
          have hy : (Instr.yield l0 #[.int .i64 (at_ : Int), .agg #[.int .i64 r.1, .int .i64 r.2.1, .int .i64 r.2.2.1, .slice a4 r.2.2.2.2.2.1.length cap4]]).run Tryd.prog WY = .ok (.round l0 fn tmps assign body) WY := hy
          rw [hWY] at hy
          have hw4 : wrap64 ((at_ : Int) + ((m : Int) - 1)) = ((at_ + m : Nat) : Int) - 1 := by unfold wrap64; omega
          rw [hWY] at hR
          clear hxr hcase hik hkW
          gi_wp2
          refine hR.mono ?_
          rintro e W3 (⟨rfl, hJ3, hk3, hs3, ho3⟩ | ⟨rfl, hJx3⟩)
          · gi_wp2
            refine ⟨⟨at_ + m, k + 1, grow h0 w1 w2, W3, ?_, by omega, ⟨g, by rw [hdk]; exact hf'⟩, hks, hJ3, Grows.refl W3, Heap.le_trans hph (le_grow hfur1 w2), hk3⟩, ?_⟩
            · rw [show (at_ : Int) + ((m : Int) - 1) + 1 = ((at_ + m : Nat) : Int) by omega]
            · rw [show (at_ : Int) + ((m : Int) - 1) + 1 = ((at_ + m : Nat) : Int) by omega]
              simp only [intOf, Int.toNat_natCast]
              omega
          · gi_wp2
            simp only [jumpTo]
            refine bodyPost_ret (results_none rfl _ _ _) rfl ?_
            exact ⟨⟨_, rfl⟩, grow h0 w1 w2, W3, Grows.refl W3, .inr ⟨k + 1, by rw [List.length_map]; exact hks, hJx3⟩⟩
    · have hk0 := framesGo_ge (Nat.not_lt.2 hge) hf
      have hke : k = is.length := by
        have := congrArg List.length hk0
        simp only [List.length_drop, List.length_nil] at this
        omega
      gi_wp2
      simp only [jumpTo]
      refine bodyPost_end (results_none rfl _ _ _) rfl ?_
      exact ⟨⟨_, rfl⟩, h0, W0, hgr, .inl (by rw [List.length_map, ← hke]; exact hJ)⟩
end Go.Proofs
set_option linter.unusedVariables false
set_option maxRecDepth 100000
noncomputable section
namespace Go.Proofs
open Go Go.Fx
def it_frames (nil ex : Bool) (l : List Int) : Option (List FrIt) :=
  if l.length ≤ 1000000000 then framesGo (fun l => go_scan_Size false ex l) (fun l => go_frame_Decode false true l) l (l.length + 1) 0 else none
theorem sq_frames (nil ex : Bool) (l : List Int) (is : List FrIt) (h : it_frames nil ex l = some is) : SeqEq Tryd.prog GG 64 [.ref 0 [.isl nil ex .u8 l]] (is.map ie_frames) := by
  unfold it_frames at h
  split at h
  · rename_i hl
    exact frames_in nil ex l (fun l n h => ok_scan_Size false ex l n h) (fun l r h => ok_frame_Decode false true l r h) is hl h
  · cases h
end Go.Proofs
end
