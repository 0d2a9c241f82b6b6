/-
  frame.get: the number of bytes, gone through from the last one on.
-/
import Derived.RangeFuncBox
import Derived.RangeFuncLeaves
import Derived.Shelf.Abstract
import Derived.WalkKit
import Derived.OwnWalkIn
import Derived.TacticsInMore
import Derived.LoopNIn
import Derived.LoopIn
import Derived.Test.YtajphaljpkeecaaDoorChecked
set_option linter.unusedVariables false
set_option linter.unusedSimpArgs false
namespace Go.Proofs
open Go Go.RowKit Go.Shelf

attribute [local go_sem] Oper.semAt_some

/-- What has come when k rounds are over. -/
def bkUpto {α : Type} (f : Nat → α) (k : Nat) : List α := (List.range k).map f
theorem bkUpto_succ {α : Type} (f : Nat → α) (k : Nat) : bkUpto f (k + 1) = bkUpto f k ++ [f k] := by simp [bkUpto, List.range_succ]
theorem bkUpto_length {α : Type} (f : Nat → α) (k : Nat) : (bkUpto f k).length = k := by simp [bkUpto]
/-- (A fact that the walk's own simp shall not turn.) -/
def BkKp (Bs n₀ : Nat) (A B : World) : Prop := Below n₀ A B ∧ ∀ v, A.cell? ⟨Bs, 0, none⟩ = some v → B.cell? ⟨Bs, 0, none⟩ = some v
def BkEq (j k len : Nat) : Prop := j + k + 1 = len
def bkAt (zs : List Int) (len k : Nat) : Nat × Int := (len - 1 - k, zs[len - 1 - k]?.getD 0)

set_option maxRecDepth 100000 in
set_option maxHeartbeats 4000000 in
theorem back1_in (F : Fence) (n : Nat) (h7 : F.fn 71) (hro : F.round = none) (hn : 1 ≤ n) (l Bs n₀ b off len cap : Nat) (zs : List Int) (hreach : len * 8 ≤ 140737488351232) (hb : b < n₀) (J Jx : List (Nat × Int) → World → Prop)
    (hY : ∀ pre x W, J pre W → pre.length < len → YieldAt F (n - 1) Tryd.prog l #[.int .i64 (x.1 : Int), .int .u8 x.2] W fun e W' =>
      (e = .returned (.bool true) ∧ J (pre ++ [x]) W' ∧ BkKp Bs n₀ W W') ∨ (e = .returned (.bool false) ∧ Jx (pre ++ [x]) W'))
    (W : World) (hBs : W.cell? ⟨Bs, 0, none⟩ = some (.slice (some ⟨b, off, none⟩) len cap)) (hc : ∀ j, j < len → W.cell? ⟨b, off + j, none⟩ = some (.int .u8 (zs[j]?.getD 0))) (h0 : J [] W) :
    CallsIn F n Tryd.prog 71 #[.func (.yield l) #[] #[], .pointer (some ⟨Bs, 0, none⟩)] W fun e W' => (∃ v, e = .returned v) ∧
      ((∃ ys, ys = bkUpto (bkAt zs len) len ∧ J ys W') ∨ (∃ pre, (∃ k, k ≤ len ∧ pre = bkUpto (bkAt zs len) k) ∧ Jx pre W')) := by
  refine callsIn_of_wp Tryd.func71 rfl h7 ?_ hro
  simp only [Tryd.ntmps71, List.size_toArray, List.length_cons, List.length_nil, Nat.reduceAdd, Nat.reduceSub, Array.replicate_succ, Array.replicate_zero, List.push_toArray, List.append_toArray, List.nil_append, List.cons_append]
  have hw1 : wrap64 ((len : Int) - 1) = (len : Int) - 1 := by unfold wrap64; omega
  gi_wp2
  gi_loopw [3] (fun i wr => ∃ r : Nat, r ≤ len ∧ i = .int .i64 ((r : Int) - 1) ∧ J (bkUpto (bkAt zs len) (len - r)) wr ∧ BkKp Bs n₀ W wr)
    (fun i _ => (intOf i + 1).toNat)
  case atStart => exact ⟨len, Nat.le_refl _, rfl, by rw [Nat.sub_self]; exact h0, Below.refl _ _, fun _ h => h⟩
  case round =>
    obtain ⟨r, hk, rfl, hJs, hnx⟩ := hrel
    have hBs' : wr.cell? ⟨Bs, 0, none⟩ = some (.slice (some ⟨b, off, none⟩) len cap) := hnx.2 _ hBs
    cases r with
    | succ j =>
      rw [show ((j + 1 : Nat) : Int) - 1 = (j : Int) by omega]
      have hjl : j < len := by omega
      have hcx' : wr.cell? ⟨b, off + j, none⟩ = some (.int .u8 (zs[j]?.getD 0)) := (hnx.1.cell (p := ⟨b, off + j, none⟩) hb).trans (hc j hjl)
      obtain ⟨fn, tmps, assign, body, hy, hR⟩ := hY _ (j, zs[j]?.getD 0) wr hJs (by rw [bkUpto_length]; omega)
      dsimp only at hy
      have hs : bkUpto (bkAt zs len) (len - (j + 1)) ++ [(j, zs[j]?.getD 0)] = bkUpto (bkAt zs len) (len - j) := by
        rw [show len - j = (len - (j + 1)) + 1 by omega, bkUpto_succ]
        unfold bkAt
        rw [show len - 1 - (len - (j + 1)) = j by omega]
      rw [hs] at hR
      have hjle : j ≤ len := by omega
      have hw2 : wrap64 ((j : Int) - 1) = (j : Int) - 1 := by unfold wrap64; omega
      clear hs hk hw1
      gi_wp2
      refine hR.mono ?_
      rintro e W3 (⟨rfl, hJ3, hk3⟩ | ⟨rfl, hJx3⟩)
      · gi_wp2
        go_roundw
        case rel => exact ⟨j, hjle, rfl, hJ3, hnx.1.trans hk3.1, fun v h => hk3.2 v (hnx.2 v h)⟩
        case measure => simp [intOf]
      · gi_wp2
        refine bodyPost_ret (results_none rfl _ _ _) rfl ?_
        exact ⟨⟨_, rfl⟩, .inr ⟨_, ⟨len - j, Nat.sub_le _ _, rfl⟩, hJx3⟩⟩
    | zero =>
      rw [show ((0 : Nat) : Int) - 1 = -1 by omega]
      gi_wp2
      go_end0
      exact ⟨⟨_, rfl⟩, .inl ⟨_, rfl, hJs⟩⟩

set_option maxRecDepth 100000 in
set_option maxHeartbeats 1000000 in
/-- .. of no bytes: no round. -/
theorem back1_nil_in (F : Fence) (n : Nat) (h7 : F.fn 71) (hro : F.round = none) (l Bs cap : Nat) (a : Option Addr) (J : List (Nat × Int) → World → Prop) (W : World) (hBs : W.cell? ⟨Bs, 0, none⟩ = some (.slice a 0 cap)) (h0 : J [] W) :
    CallsIn F n Tryd.prog 71 #[.func (.yield l) #[] #[], .pointer (some ⟨Bs, 0, none⟩)] W fun e W' => (∃ v, e = .returned v) ∧ J [] W' := by
  refine callsIn_of_wp Tryd.func71 rfl h7 ?_ hro
  simp only [Tryd.ntmps71, List.size_toArray, List.length_cons, List.length_nil, Nat.reduceAdd, Nat.reduceSub, Array.replicate_succ, Array.replicate_zero, List.push_toArray, List.append_toArray, List.nil_append, List.cons_append]
  gi_wp2
  gi_loopw [3] (fun i wr => i = .int .i64 (-1) ∧ J [] wr) (fun _ _ => 0)
  case atStart => exact ⟨rfl, h0⟩
  case round =>
    obtain ⟨rfl, hJs⟩ := hrel
    gi_wp2
    go_end0
    exact ⟨⟨_, rfl⟩, hJs⟩

set_option maxHeartbeats 1000000 in
theorem back_in (F : Fence) (n : Nat) (h5 : F.fn 67) (hro : F.round = none) (a : Option Addr) (len cap : Nat) (w : World) :
    CallsIn F n Tryd.prog 67 #[.slice a len cap] w fun e w' => e = .returned (.func (.func 71) #[] #[.pointer (some ⟨w.heap.size, 0, none⟩)]) ∧ w' = w.alloc (.cells #[.slice a len cap] 26) := by
  refine callsIn_of_wp Tryd.func67 rfl h5 ?_ hro
  simp only [Tryd.ntmps67, List.size_toArray, List.length_cons, List.length_nil, Nat.reduceAdd, Nat.reduceSub, Array.replicate_succ, Array.replicate_zero, List.push_toArray, List.append_toArray, List.nil_append, List.cons_append]
  gi_wp2
  go_ret
  exact ⟨rfl, rfl⟩

/-- The slice holds these bytes, in a block below n₀; or there are none. -/
def BkInts (n₀ : Nat) (W : World) (sv : Value) (zs : List Int) : Prop :=
  (∃ a cap, sv = .slice a 0 cap ∧ zs = []) ∨ ∃ b off cap, sv = .slice (some ⟨b, off, none⟩) zs.length cap ∧ b < n₀ ∧ ∀ j, j < zs.length → W.cell? ⟨b, off + j, none⟩ = some (.int .u8 (zs[j]?.getD 0))
theorem BkInts.below {n₀ : Nat} {A B : World} (h : Below n₀ A B) {sv : Value} {zs : List Int} : BkInts n₀ A sv zs → BkInts n₀ B sv zs
  | .inl e => .inl e
  | .inr ⟨b, off, cap, e, hb, hc⟩ => .inr ⟨b, off, cap, e, hb, fun j hj => (h.cell (p := ⟨b, off + j, none⟩) hb).trans (hc j hj)⟩
theorem BkInts.mono {n₀ n₁ : Nat} {A : World} (h : n₀ ≤ n₁) {sv : Value} {zs : List Int} : BkInts n₀ A sv zs → BkInts n₁ A sv zs
  | .inl e => .inl e
  | .inr ⟨b, off, cap, e, hb, hc⟩ => .inr ⟨b, off, cap, e, by omega, hc⟩

theorem back_stops (F : Fence) (n : Nat) (h7 : F.fn 71) (hro : F.round = none) (hn : 1 ≤ n) (Bs n₀ : Nat) (sv : Value) (zs : List Int) (hreach : zs.length * 8 ≤ 140737488351232) (w : World) (hBs : Bs < w.heap.size) (hn₀ : n₀ ≤ w.heap.size)
    (hc : w.cell? ⟨Bs, 0, none⟩ = some sv) (hI : BkInts n₀ w sv zs) :
    SeqStopsK F n Tryd.prog 71 #[.pointer (some ⟨Bs, 0, none⟩)] (fun x : Nat × Int => #[Value.int .i64 (x.1 : Int), Value.int .u8 x.2]) (BkKp Bs n₀) (fun ys => ys = bkUpto (bkAt zs zs.length) zs.length)
      (fun pre => ∃ k, k ≤ zs.length ∧ pre = bkUpto (bkAt zs zs.length) k) zs.length w := fun l J Jx W hW _ _ hY h0 => by
  have hc' := (hW.cell (p := ⟨Bs, 0, none⟩) hBs).trans hc
  rcases hI.below (hW.mono hn₀) with ⟨a, cap, rfl, rfl⟩ | ⟨b, off, cap, rfl, hb, hcs⟩
  · exact (back1_nil_in F n h7 hro l Bs cap a J W hc' h0).mono fun e W' ⟨he, hj⟩ => ⟨he, .inl ⟨_, rfl, hj⟩⟩
  · exact back1_in F n h7 hro hn l Bs n₀ b off zs.length cap zs hreach hb J Jx hY W hc' hcs h0

def bkStep (s : Int) (x : Nat × Int) : Int := bits BinOp.or IntKind.u64 (IntKind.u64.wrap (s * 256)) (IntKind.u64.wrap x.2)
def bkV (pre : List (Nat × Int)) : Int := pre.foldl bkStep 0

set_option maxRecDepth 100000 in
set_option maxHeartbeats 2000000 in
theorem get_in (F : Fence) (n : Nat) (h3 : F.fn 53) (h5 : F.fn 67) (h7 : F.fn 71) (hro : F.round = none) (hn : 3 ≤ n) (a : Option Addr) (len cap : Nat) (zs : List Int) (hreach : zs.length * 8 ≤ 140737488351232) (w : World) (hI : BkInts w.heap.size w (.slice a len cap) zs) :
    CallsIn F n Tryd.prog 53 #[.slice a len cap] w fun e W' => e = .returned (.int .i64 (wrap64 (bkV (bkUpto (bkAt zs zs.length) zs.length)))) ∧ Below w.heap.size w W' := by
  have h1 : 1 ≤ n := by omega
  refine callsIn_of_wp_marks Tryd.func53 rfl h3 ?_ hro
  simp only [Tryd.ntmps53, List.size_toArray, List.length_cons, List.length_nil, Nat.reduceAdd, Nat.reduceSub, Array.replicate_succ, Array.replicate_zero, List.push_toArray, List.append_toArray, List.nil_append, List.cons_append]
  gi_wp2_with (gi_at_call 67; refine (back_in F (n - 1) h5 hro _ _ _ _).mono ?_; rintro e w' ⟨rfl, rfl⟩)
  have bS := Boxed.new w 74 (.int .u64 0)
  have bN := Boxed.new (w.alloc (.cells #[.int .u64 0] 74)) 26 (.slice a len cap)
  rw [World.size_alloc] at bN
  have hB0 : Below w.heap.size w ((w.alloc (.cells #[.int .u64 0] 74)).alloc (.cells #[.slice a len cap] 26)) := ((Below.refl _ w).alloc (Nat.le_refl _) _).alloc (by simp) _
  refine wpIn_rangeFunc_ownG hro h1 (gf := 71) (lb := #[.pointer (some ⟨w.heap.size + 1, 0, none⟩)]) rfl h7 (enters_of Tryd.func71 (by kernel_rfl) rfl)
    (back_stops F (n - 1) h7 hro (by omega) (w.heap.size + 1) w.heap.size _ zs hreach _ (by simp) (by simp; omega) bN.cell (hI.below hB0)) (fun h1 h2 => ⟨h1.1.trans h2.1, fun v h => h2.2 v (h1.2 v h)⟩)
    (fun W l o o' hl ho hc hw => ⟨belowK_b (n₀ := w.heap.size) (by simp; omega) W l o o' hl ho hc hw, fun v h => ((belowK_b (n₀ := w.heap.size + 2) (by simp) W l o o' hl ho hc hw).cell (p := ⟨w.heap.size + 1, 0, none⟩) (by simp)).trans h⟩) (Below.refl _ _) (fun _ => rfl)
    (fun pre W => (W.cell? ⟨w.heap.size, 0, none⟩ = some (.int .u64 (bkV pre)) ∧ W.frozen? ⟨w.heap.size, 0, none⟩ = false) ∧ Below w.heap.size w W)
    (fun _ _ _ => False)
    (OwnFrom.and (Own.from (fun s A B row hs hg hr => ⟨cell_kept hs.1 hg hr, (frozen_kept hs.1 hg hr).trans hs.2⟩) _) (ownFrom_below (Nat.le_refl _) (by simp; omega)))
    (fun _ _ _ _ _ hs _ _ => hs)
    ⟨⟨(bS.alloc _).cell, (bS.alloc _).frozen⟩, hB0⟩
    (fun x => { tmps := #[.slice a len cap, undef, .int .i64 0, .pointer (some ⟨w.heap.size, 0, none⟩), undef, .int .u8 x.2, .slice a len cap, .func (.func 71) #[] #[.pointer (some ⟨w.heap.size + 1, 0, none⟩)], .int .i64 (x.1 : Int), .int .u8 x.2, undef, undef, undef, undef, undef, undef, undef], defers := [] }) ?assign ?body ?done ?stop
  case assign =>
    intro l x W K hK
    gi_wp2
    exact hK
  case body =>
    rintro l pre x W ⟨⟨hc, hf⟩, hB⟩ _
    gi_wp2
    have hne : (⟨w.heap.size, 0, none⟩ : Addr) ≠ ⟨w.heap.size + 1, 0, none⟩ := by simp
    exact ⟨(KeepsOthers.setCell _ _ _).from _, ⟨(Below.refl w.heap.size W).setCell (p := ⟨w.heap.size, 0, none⟩) (Nat.le_refl _) _, fun v h => (World.cell?_setCell_other _ _ _ _ hne).trans h⟩,
      ⟨by rw [show bkV (pre ++ [x]) = bkStep (bkV pre) x by simp [bkV]]; exact World.cell?_setCell_same' _ _ _ (by rw [hc]; rfl), by rw [World.frozen?_setCell]; exact hf⟩, hB.setCell (p := ⟨w.heap.size, 0, none⟩) (Nat.le_refl _) _⟩
  case done =>
    rintro D ys W hD rfl ⟨⟨hc, _⟩, hB⟩ hK
    gi_wp2
    refine ⟨by simp, .inl ⟨_, _, rfl, run_takeDeferred hK, ?_⟩⟩
    exact ⟨_, results_tmp rfl _ _ _, rfl, hB.trans (belowK_b (w := w) (Nat.le_refl _) W D _ _ (by simp at hD; omega) hK rfl rfl)⟩
  case stop =>
    rintro D c pre W _ _ h _
    exact h.elim
end Go.Proofs
