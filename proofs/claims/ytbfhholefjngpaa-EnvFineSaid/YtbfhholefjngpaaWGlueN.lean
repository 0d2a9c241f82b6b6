/-
  Arguments that are enclosed numbers (a struct of three integers and a bool), opened and shut.
-/
import Derived.ProofKit
import Derived.Test.YtbfhholefjngpaaChecked
import Derived.Test.YtbfhholefjngpaaWE4
namespace Go.Proofs
open Go Go.Fx Go.ChangeShapes Go.WideShapes Go.ChangeAt Go.RowKit
set_option maxRecDepth 100000

theorem cells3 : Try.prog.cellsOf 3 = 1 := by kernel_rfl
theorem cells4 : Try.prog.cellsOf 4 = 1 := by kernel_rfl

section
variable {H : Type} {enc : TypeId × Value → H} {w : World} {base : Nat} {spare : Nat → Bool} {held : Bool}

/-- An enclosed number, as a value, and as data. -/
def Nm.val (x : Nm) : Value := .agg #[.int .i64 x.v, .int .i64 x.lo, .int .i64 x.hi, .bool x.bad]
def Nm.data (H : Type) (x : Nm) : DataW H := .agg [.lit (.int .i64 x.v), .lit (.int .i64 x.lo), .lit (.int .i64 x.hi), .lit (.bool x.bad)]
def Nm.wf (x : Nm) : Prop := (Lit.int .i64 x.v).wf = true ∧ (Lit.int .i64 x.lo).wf = true ∧ (Lit.int .i64 x.hi).wf = true

theorem open_num {r : Reach} {b0 : Nat} {v : Value} {d : DataW H} {ps : List MemPlace} (hval : Value.okWide Try.prog w r b0 36 v) (hd : DataW.Trod enc Try.prog w base spare held 36 v d ps) :
    ∃ x : Nm, v = x.val ∧ d = x.data H ∧ ps = [] ∧ x.wf := by
  obtain ⟨cs, rfl, hs⟩ := okWide_struct Try.underlying36 hval
  obtain ⟨fuel, hf⟩ := hd
  obtain ⟨xs, n, _, hx, hl, hlen, hfs⟩ := DataW.trod_struct Try.underlying36 hf
  have hc : (Value.agg cs).cells.toList = cs.toList := rfl
  rw [hc] at hl hfs
  rw [cells36] at hl
  obtain ⟨l, rfl⟩ : ∃ l : List Value, cs = l.toArray := ⟨cs.toList, rfl⟩
  match l, hl with
  | [c0, c1, c2, c3], _ =>
    match xs, hlen with
    | [y0, y1, y2, y3], _ =>
      have g0 := hfs 0 _ rfl
      have g1 := hfs 1 _ rfl
      have g2 := hfs 2 _ rfl
      have g3 := hfs 3 _ rfl
      simp only [cells3, cells4, List.drop_zero, List.drop_succ_cons, List.take_succ_cons, List.take_zero] at g0 g1 g2 g3
      obtain ⟨n0, e0, z0, w0⟩ := DataW.trod_int Try.underlying3 g0
      obtain ⟨n1, e1, z1, w1⟩ := DataW.trod_int Try.underlying3 g1
      obtain ⟨n2, e2, z2, w2⟩ := DataW.trod_int Try.underlying3 g2
      obtain ⟨b, e3, z3⟩ := DataW.trod_bool Try.underlying4 g3
      cases e0; cases e1; cases e2; cases e3
      subst z0 z1 z2 z3
      simp only [List.map_cons, List.map_nil, List.flatMap_cons, List.flatMap_nil, List.append_nil, List.nil_append, Prod.mk.injEq] at hx
      exact ⟨⟨n0, n1, n2, b⟩, rfl, hx.1, hx.2, w0, w1, w2⟩

theorem shut_num {x : Nm} (h : x.wf) : DataW.Trod enc Try.prog w base spare held 36 x.val (x.data H) [] := by
  refine ⟨2, ?_⟩
  have := trod_struct_mk (enc := enc) (w := w) (base := base) (spare := spare) (held := held) (n := 1) (cs := [.int .i64 x.v, .int .i64 x.lo, .int .i64 x.hi, .bool x.bad])
    (xs := [(.lit (.int .i64 x.v), []), (.lit (.int .i64 x.lo), []), (.lit (.int .i64 x.hi), []), (.lit (.bool x.bad), [])]) Try.underlying36 (by rw [cells36]; rfl)
    (by simp [cells3, cells4, DataW.trod, Try.underlying3, Try.underlying4, h.1, h.2.1, h.2.2])
  exact this

theorem wf_i64N {x : Nm} (h : x.wf) : i64N x := by
  obtain ⟨h0, h1, h2⟩ := h
  simp only [Lit.wf, Bool.and_eq_true, decide_eq_true_eq] at h0 h1 h2
  exact ⟨⟨h0.1, h0.2⟩, ⟨h1.1, h1.2⟩, ⟨h2.1, h2.2⟩⟩
end

theorem rel_num (h : Heap) (x : Nm) : x.pv.rel h x.val := ⟨[.int .i64 x.v, .int .i64 x.lo, .int .i64 x.hi, .bool x.bad], rfl, _, _, rfl, rfl, _, _, rfl, rfl, _, _, rfl, rfl, _, _, rfl, rfl, rfl⟩

end Go.Proofs
