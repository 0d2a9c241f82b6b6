import Derived.Test.YtajphaljpkeecaaDoorWWire
import Derived.Test.YtajphaljpkeecaaDoorFxRun
import Derived.Test.YtajphaljpkeecaaDoorChecked
import Derived.Test.YtajphaljpkeecaaDoorFxFin
set_option linter.unusedVariables false
set_option linter.unusedSimpArgs false
namespace Go.Proofs
open Go Go.Fx Go.RowKit
theorem fn_get0 (G : Glob) (nil ex : Bool) (l : List Int) (hl : l.length ≤ 1000000) : FunEq Tryd.prog G 53 [.isl nil ex .u8 l] (.int .i64 (wrap64 (bkV (bkUpto (bkAt l l.length) l.length)))) := by
  refine ⟨by kernel_rfl, fun w h vs hs hg hv => ?_⟩
  obtain ⟨v0, vs0, rfl, ⟨a, cap, rfl, h1, h2, h3, h4, hC⟩, rfl⟩ := hv
  have hI : BkInts w.heap.size w (.slice a l.length cap) l := by
    by_cases h0 : l.length = 0
    · exact .inl ⟨a, cap, by rw [h0], List.eq_nil_of_length_eq_zero h0⟩
    · cases a with
      | none => have := h4 rfl; omega
      | some ad =>
        obtain ⟨hsp, hcells⟩ := hC ad rfl
        obtain ⟨b, o, sp⟩ := ad
        have hsp : sp = none := hsp (by omega)
        subst hsp
        have key : ∀ j, j < l.length → ∃ c ty fz, w.heap[b]? = some (.cells c ty fz) ∧ c[o + j]? = some (.int .u8 (l[j]?.getD 0)) := fun j hj => by
          obtain ⟨c, ty, fz, g1, g2⟩ := hcells j (.int .u8 (l[j]?.getD 0)) (by rw [List.getElem?_map, List.getElem?_eq_getElem hj]; rfl)
          exact ⟨c, ty, fz, hs _ _ g1, g2⟩
        refine .inr ⟨b, o, cap, rfl, ?_, fun j hj => ?_⟩
        · obtain ⟨c, ty, fz, g1, _⟩ := key 0 (by omega)
          exact (Array.getElem?_eq_some_iff.1 g1).1
        · obtain ⟨c, ty, fz, g1, g2⟩ := key j hj
          simp [World.cell?, g1, g2]
  refine (callsIn_wide.1 (get_in Fence.wide 3 trivial trivial trivial rfl (by omega) a l.length cap l (by omega) w hI)).mono fun e w' ⟨he, hw⟩ => ?_
  exact ⟨_, he, rfl, hw.size, hw.block, hw.os, hw.output⟩
theorem bits_or {a b : Nat} (ha : a < 18446744073709551616) (hb : b < 18446744073709551616) : bits BinOp.or IntKind.u64 (a : Int) (b : Int) = ((a ||| b : Nat) : Int) := by
  rw [← bOr64 ha hb]
  rfl
theorem bkV_val (l : List Int) (hl : isB l) (h8 : l.length ≤ 8) : ∀ k, k ≤ l.length → bkV (bkUpto (bkAt l l.length) k) = ((val (l.drop (l.length - k)) : Nat) : Int)
  | 0, _ => by rw [Nat.sub_zero, List.drop_length]; rfl
  | k + 1, hk => by
    have hj : l.length - (k + 1) < l.length := by omega
    have hx := hl _ (List.getElem_mem hj)
    have hv := val_lt _ (isB_drop hl (l.length - k))
    rw [List.length_drop, show l.length - (l.length - k) = k by omega] at hv
    have hp : 256 ^ k ≤ 72057594037927936 := Nat.pow_le_pow_right (by decide) (by omega : k ≤ 7)
    rw [bkUpto_succ]
    show (bkUpto (bkAt l l.length) k ++ [bkAt l l.length k]).foldl bkStep 0 = _
    rw [List.foldl_append]
    show bkStep (bkV (bkUpto (bkAt l l.length) k)) (bkAt l l.length k) = _
    rw [bkV_val l hl h8 k (by omega), List.drop_eq_getElem_cons hj, show l.length - (k + 1) + 1 = l.length - k by omega]
    unfold bkStep bkAt
    dsimp only
    rw [show l.length - 1 - k = l.length - (k + 1) by omega, List.getElem?_eq_getElem hj]
    show bits BinOp.or IntKind.u64 (IntKind.u64.wrap (((val (l.drop (l.length - k)) : Nat) : Int) * 256)) (IntKind.u64.wrap l[l.length - (k + 1)]) = _
    rw [show val (l[l.length - (k + 1)] :: l.drop (l.length - k)) = l[l.length - (k + 1)].toNat + 256 * val (l.drop (l.length - k)) from rfl]
    generalize val (l.drop (l.length - k)) = v at *
    have e1 : IntKind.u64.wrap ((v : Int) * 256) = ((256 * v : Nat) : Int) := by
      rw [show (v : Int) * 256 = ((256 * v : Nat) : Int) by omega]
      exact wrap_u64_nat (by omega)
    have e2 : IntKind.u64.wrap l[l.length - (k + 1)] = ((l[l.length - (k + 1)].toNat : Nat) : Int) := by
      conv => lhs; rw [show l[l.length - (k + 1)] = ((l[l.length - (k + 1)].toNat : Nat) : Int) by omega]
      exact wrap_u64_nat (by omega)
    rw [e1, e2, bits_or (by omega) (by omega)]
    congr 1
    have := Nat.two_pow_add_eq_or_of_lt (i := 8) (b := l[l.length - (k + 1)].toNat) (by omega) v
    rw [show (256 : Nat) = 2 ^ 8 from rfl, ← this, Nat.add_comm]
theorem fn_get (G : Glob) {nil ex : Bool} {l : List Int} (h : isB l ∧ l.length ≤ 8) : FunEq Tryd.prog G 53 [.isl nil ex .u8 l] (.int .i64 (IntKind.wrap .i64 ((val l : Nat) : Int))) := by
  have := fn_get0 G nil ex l (by omega)
  rw [bkV_val l h.1 h.2 l.length (Nat.le_refl _), Nat.sub_self, List.drop_zero] at this
  rw [IntKind.wrap_i64]
  unfold wrap64 at this
  exact this
end Go.Proofs
set_option linter.unusedVariables false
set_option linter.unusedSimpArgs false
set_option maxRecDepth 100000
namespace Go.Proofs
open Go Go.Fx
open Classical in
noncomputable def go_frame_get (bn : Bool) (be : Bool) (b : List Int) : Option Int := if isB b ∧ b.length ≤ 8 then some (IntKind.wrap .i64 ((val b : Nat) : Int)) else none
def em_frame_get (r : Int) : PV := (.int .i64 r)
def as_frame_get : List Shp := [(.isl .u8)]
noncomputable def ga_frame_get (vs : List PV) : Option Int := go_frame_get ((tls 0 vs).headD .nilSl).nl ((tls 0 vs).headD .nilSl).ex ((tls 0 vs).headD .nilSl).ints
theorem fe_frame_get (bn : Bool) (be : Bool) (b : List Int) (r : Int) (hr : go_frame_get bn be b = some r) : FunEq Tryd.prog GG 53 [(.isl bn be .u8 b)] (em_frame_get r) := by
  unfold go_frame_get at hr
  split at hr
  · rename_i h
    cases hr
    exact fn_get GG h
  · cases hr
theorem at_frame_get : FnAt Tryd.prog GG 53 as_frame_get ga_frame_get em_frame_get := fun vs h r hr => by
  have e : Shp.buildL as_frame_get vs = [(.isl ((tls 0 vs).headD .nilSl).nl ((tls 0 vs).headD .nilSl).ex .u8 ((tls 0 vs).headD .nilSl).ints)] := by kernel_rfl
  rw [← Shp.buildL_eq _ h, e]
  exact .inl ⟨by decide, fe_frame_get _ _ _ r hr⟩
end Go.Proofs
