/-
  The laws on flights, as the rows ask for them.
-/
import Derived.Test.YtlfffpkfipdboaaDoorFxRow
import Derived.Test.YtlfffpkfipdboaaDoorWLQ3
set_option linter.unusedVariables false
noncomputable section
namespace Go.Proofs
open Go Go.Fx
theorem wf_u8 {n : Int} (h : (Lit.int .u8 n).wf = true) : 0 ≤ n ∧ n < 256 := by
  simp only [Lit.wf, Bool.and_eq_true, decide_eq_true_eq] at h
  have h1 : 0 ≤ n := h.1
  have h2 : n ≤ 255 := h.2
  exact ⟨h1, by omega⟩
theorem wf_in64 {n : Int} (h : (Lit.int .i64 n).wf = true) : in64 n := by
  simp only [Lit.wf, Bool.and_eq_true, decide_eq_true_eq] at h
  exact ⟨h.1, h.2⟩
theorem do_of {e : PV} (h : ∃ ys, e = mkP true ys ∧ TS.fitsL [.str, .isl .u8, .int .i64, .int .i64, .int .i64] ys) : ∃ d : DX, e = doX d ∧ isB d.1 ∧ isB d.2.2.2.1 ∧ in64 d.2.2.2.2.1 ∧ in64 d.2.2.2.2.2.1 ∧ in64 d.2.2.2.2.2.2 := by
  obtain ⟨ys, rfl, t0⟩ := h
  obtain ⟨y0, zs0, rfl, f0, t1⟩ := TS.cons_inv t0
  obtain ⟨l0, rfl, w0, c0⟩ := fits_str f0
  obtain ⟨y1, zs1, rfl, f1, t2⟩ := TS.cons_inv t1
  obtain ⟨b1, d1, l1, rfl, w1, c1, g1⟩ := fits_isl f1
  obtain ⟨y2, zs2, rfl, f2, t3⟩ := TS.cons_inv t2
  obtain ⟨n2, rfl, w2⟩ := fits_int f2
  obtain ⟨y3, zs3, rfl, f3, t4⟩ := TS.cons_inv t3
  obtain ⟨n3, rfl, w3⟩ := fits_int f3
  obtain ⟨y4, zs4, rfl, f4, t5⟩ := TS.cons_inv t4
  obtain ⟨n4, rfl, w4⟩ := fits_int f4
  obtain rfl := TS.nil_inv t5
  exact ⟨(l0, b1, d1, l1, n2, n3, n4), rfl, c0, fun x hx => wf_u8 (c1 x hx), wf_in64 w2, wf_in64 w3, wf_in64 w4⟩
theorem dos_of : ∀ {es : List PV}, (∀ e ∈ es, ∃ ys, e = mkP true ys ∧ TS.fitsL [.str, .isl .u8, .int .i64, .int .i64, .int .i64] ys) → ∃ ds : List DX, es = ds.map doX ∧ ∀ d ∈ ds, isB d.1 ∧ isB d.2.2.2.1 ∧ in64 d.2.2.2.2.1 ∧ in64 d.2.2.2.2.2.1 ∧ in64 d.2.2.2.2.2.2
  | [], _ => ⟨[], rfl, fun d hd => absurd hd List.not_mem_nil⟩
  | e :: r, h => by
    obtain ⟨d, rfl, hd⟩ := do_of (h e (List.mem_cons_self ..))
    obtain ⟨ds, rfl, hds⟩ := dos_of (es := r) (fun x hx => h x (List.mem_cons_of_mem _ hx))
    refine ⟨d :: ds, rfl, fun x hx => ?_⟩
    rcases List.mem_cons.1 hx with rfl | hx
    · exact hd
    · exact hds x hx
theorem law_FlightPrints {nl ex : Bool} {es : List PV} (w : es.length ≤ maxLen) (g : nl = true → es = []) (c : ∀ e ∈ es, ∃ ys, e = mkP true ys ∧ TS.fitsL [.str, .isl .u8, .int .i64, .int .i64, .int .i64] ys) : go_coupletlaw20_FlightPrints nl ex es = some true := by
  obtain ⟨ds, rfl, h⟩ := dos_of c
  exact true_FlightPrints h nl ex
end Go.Proofs
end
