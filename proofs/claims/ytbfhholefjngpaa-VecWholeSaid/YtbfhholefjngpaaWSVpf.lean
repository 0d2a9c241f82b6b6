/-
  vec.Pairs' iterators over whole numbers and fractions, as dec.py's texts ask for them.
-/
import Derived.Test.YtbfhholefjngpaaWSVG
import Derived.Test.YtbfhholefjngpaaWSVi
import Derived.Test.YtbfhholefjngpaaWSVf
set_option linter.unusedVariables false
set_option maxRecDepth 100000
noncomputable section
namespace Go.Proofs
open Go Go.Fx

def it_pairsI (n1 x1 : Bool) (l1 : List Int) (n2 x2 : Bool) (l2 : List Int) : Option (List (Int × Int)) := bif decide (l1.length ≤ 1000000000) then some (l1.zip l2) else none
theorem sq_pairsI (n1 x1 : Bool) (l1 : List Int) (n2 x2 : Bool) (l2 : List Int) (is : List (Int × Int)) (h : it_pairsI n1 x1 l1 n2 x2 l2 = some is) : SeqEq Try.prog GG 96 [.ref 0 [.isl n1 x1 .i64 l1], .ref 0 [.isl n2 x2 .i64 l2]] (is.map ie_pairsI) := by
  unfold it_pairsI at h
  rcases hc : decide (l1.length ≤ 1000000000) with _ | _
  · rw [hc] at h; cases h
  rw [hc, cond_true] at h
  cases h
  exact pairsI_in n1 x1 l1 n2 x2 l2 (of_decide_eq_true hc)

def pFof (e : PV) : pFV := ((e.subs.headD .nilSl).num, (e.subs.tail.headD .nilSl).num, (e.subs.tail.tail.headD .nilSl).tru)
def pFok (e : PV) : Bool := Shp.ok (.agg [(.int .i64), (.int .i64), .bool]) e
theorem pFof_ok {e : PV} (h : pFok e = true) : e = pFP (pFof e) := (Shp.build_eq (s := .agg [(.int .i64), (.int .i64), .bool]) h).symm
theorem pFall {es : List PV} (h : es.all pFok = true) : es = (es.map pFof).map pFP := by
  induction es with
  | nil => rfl
  | cons e es ih =>
    rw [List.all_cons, Bool.and_eq_true] at h
    rw [List.map_cons, List.map_cons, ← ih h.2, ← pFof_ok h.1]
abbrev pFIt := Int × Int × Bool × Int × Int × Bool
def ie_pairspF (r : pFIt) : List PV := [.agg [.int .i64 r.1, .int .i64 r.2.1, .bool r.2.2.1], .agg [.int .i64 r.2.2.2.1, .int .i64 r.2.2.2.2.1, .bool r.2.2.2.2.2]]
def it_pairspF (n1 x1 : Bool) (es1 : List PV) (n2 x2 : Bool) (es2 : List PV) : Option (List pFIt) :=
  bif es1.all pFok && es2.all pFok && decide (es1.length ≤ 1000000000) then some (((es1.map pFof).zip (es2.map pFof)).map fun q => (q.1.1, q.1.2.1, q.1.2.2, q.2.1, q.2.2.1, q.2.2.2)) else none
theorem sq_pairspF (n1 x1 : Bool) (es1 : List PV) (n2 x2 : Bool) (es2 : List PV) (is : List pFIt) (h : it_pairspF n1 x1 es1 n2 x2 es2 = some is) : SeqEq Try.prog GG 124 [.ref 0 [.sl n1 x1 3 es1], .ref 0 [.sl n2 x2 3 es2]] (is.map ie_pairspF) := by
  unfold it_pairspF at h
  rcases hc : (es1.all pFok && es2.all pFok && decide (es1.length ≤ 1000000000)) with _ | _
  · rw [hc] at h; cases h
  rw [hc, cond_true] at h
  cases h
  simp only [Bool.and_eq_true, decide_eq_true_eq] at hc
  have := pairspF_in (GG := GG) n1 x1 (es1.map pFof) n2 x2 (es2.map pFof) (by rw [List.length_map]; exact hc.2)
  rw [← pFall hc.1.1, ← pFall hc.1.2] at this
  rw [List.map_map]
  exact this
end Go.Proofs
