/-
  Layer 3: the laws of the generated functions EnvHolds, EnvTells, EnvDoes.
-/
import Derived.Test.YtbfhholefjngpaaWGE1
import Derived.Test.YtbfhholefjngpaaWLh
import Derived.Test.YtbfhholefjngpaaWHoldlaw
set_option linter.unusedSimpArgs false
set_option linter.unusedVariables false
set_option maxRecDepth 100000
namespace Go.Proofs
open Go Go.Fx Go.Mdlaw Go.Rootlaw Go.Cmplaw

theorem wf64 {n : Int} (h : (Lit.int .i64 n).wf = true) : i64 n := by
  simp only [Lit.wf, Bool.and_eq_true, decide_eq_true_eq] at h
  exact ⟨h.1, h.2⟩
theorem okF_64 {n : Int} (h : okF n) : i64 n := by unfold okF at h; unfold i64; omega
theorem pt_64 {n : Int} (h : okF n) : i64N (pt n) := ⟨okF_64 h, okF_64 h, okF_64 h⟩

theorem go_Add (a b : Nm) (ha : i64N a) (hb : i64N b) : go_env_Num_Add a.v a.lo a.hi a.bad b.v b.lo b.hi b.bad = some ((nAdd a b).v, (nAdd a b).lo, (nAdd a b).hi, (nAdd a b).bad) := if_pos ⟨ha, hb⟩
theorem go_Sub (a b : Nm) (ha : i64N a) (hb : i64N b) : go_env_Num_Sub a.v a.lo a.hi a.bad b.v b.lo b.hi b.bad = some ((nSub a b).v, (nSub a b).lo, (nSub a b).hi, (nSub a b).bad) := if_pos ⟨ha, hb⟩
theorem go_Mul (a b : Nm) (ha : i64N a) (hb : i64N b) : go_env_Num_Mul a.v a.lo a.hi a.bad b.v b.lo b.hi b.bad = some ((nMul a b).v, (nMul a b).lo, (nMul a b).hi, (nMul a b).bad) := if_pos ⟨ha, hb⟩
theorem go_Div (a b : Nm) (ha : i64N a) (hb : i64N b) : go_env_Num_Div a.v a.lo a.hi a.bad b.v b.lo b.hi b.bad = some ((nDiv a b).v, (nDiv a b).lo, (nDiv a b).hi, (nDiv a b).bad) := if_pos ⟨ha, hb⟩
theorem go_Root (a : Nm) (ha : i64N a) : go_env_Num_Root a.v a.lo a.hi a.bad = some ((nRoot a).v, (nRoot a).lo, (nRoot a).hi, (nRoot a).bad) := if_pos ha
theorem go_Neg (a : Nm) (ha : i64N a) : go_env_Num_Neg a.v a.lo a.hi a.bad = some ((nSub (point 0) a).v, (nSub (point 0) a).lo, (nSub (point 0) a).hi, (nSub (point 0) a).bad) := if_pos ha

theorem go_within (i o : Nm) (h : wi i o) : go_coupletlaw03_EnvHolds_1 i.v i.lo i.hi i.bad o.v o.lo o.hi o.bad = some true := by
  unfold go_coupletlaw03_EnvHolds_1
  rcases h with h | ⟨h1, h2, h3⟩
  · rw [h]; rfl
  · cases o.bad
    · simp [h1, h2, h3]
    · rfl

theorem law_EnvHolds {n0 n1 n2 : Int} {b3 : Bool} {n4 n5 n6 : Int} {b7 : Bool} {n8 n9 : Int} (w0 : (Lit.int .i64 n0).wf = true) (w1 : (Lit.int .i64 n1).wf = true) (w2 : (Lit.int .i64 n2).wf = true) (w4 : (Lit.int .i64 n4).wf = true) (w5 : (Lit.int .i64 n5).wf = true) (w6 : (Lit.int .i64 n6).wf = true) (w8 : (Lit.int .i64 n8).wf = true) (w9 : (Lit.int .i64 n9).wf = true) :
    go_coupletlaw03_EnvHolds n0 n1 n2 b3 n4 n5 n6 b7 n8 n9 = some true := by
  have ha : i64N ⟨n0, n1, n2, b3⟩ := ⟨wf64 w0, wf64 w1, wf64 w2⟩
  have hb : i64N ⟨n4, n5, n6, b7⟩ := ⟨wf64 w4, wf64 w5, wf64 w6⟩
  obtain ⟨a, ea⟩ : ∃ a : Nm, a = ⟨n0, n1, n2, b3⟩ := ⟨_, rfl⟩
  obtain ⟨b, eb⟩ : ∃ b : Nm, b = ⟨n4, n5, n6, b7⟩ := ⟨_, rfl⟩
  rw [← ea] at ha
  rw [← eb] at hb
  obtain rfl : a.v = n0 := by rw [ea]
  obtain rfl : a.lo = n1 := by rw [ea]
  obtain rfl : a.hi = n2 := by rw [ea]
  obtain rfl : a.bad = b3 := by rw [ea]
  obtain rfl : b.v = n4 := by rw [eb]
  obtain rfl : b.lo = n5 := by rw [eb]
  obtain rfl : b.hi = n6 := by rw [eb]
  obtain rfl : b.bad = b7 := by rw [eb]
  clear ea eb w0 w1 w2 w4 w5 w6 w8 w9
  unfold go_coupletlaw03_EnvHolds
  have f1 : go_env_Num_Fine a.v a.lo a.hi a.bad = some (fine a) := rfl
  have f2 : go_env_Num_Fine b.v b.lo b.hi b.bad = some (fine b) := rfl
  have aw : go_coupletlaw03_awake = some true := rfl
  rw [f1, f2, aw]
  simp only [Option.bind_some]
  cases hf : fine a
  · rfl
  cases hg : fine b
  · rfl
  have fa := fine_okF hf
  have fb := fine_okF hg
  obtain ⟨x, hx⟩ : ∃ x, x = min (max n8 a.lo) a.hi := ⟨_, rfl⟩
  obtain ⟨y, hy⟩ : ∃ y, y = min (max n9 b.lo) b.hi := ⟨_, rfl⟩
  rw [← hx, ← hy]
  have x1 : a.lo ≤ x := by omega
  have x2 : x ≤ a.hi := by omega
  have y1 : b.lo ≤ y := by omega
  have y2 : y ≤ b.hi := by omega
  have ox : okF x := by have := fa.1; have := fa.2.1; unfold okF at *; omega
  have oy : okF y := by have := fb.1; have := fb.2.1; unfold okF at *; omega
  clear hx hy
  have p1 : go_env_Point x = some ((pt x).v, (pt x).lo, (pt x).hi, (pt x).bad) := by
    show some ((point x).v, (point x).lo, (point x).hi, (point x).bad) = _; rw [point_pt ox]
  have p2 : go_env_Point y = some ((pt y).v, (pt y).lo, (pt y).hi, (pt y).bad) := by
    show some ((point y).v, (point y).lo, (point y).hi, (point y).bad) = _; rw [point_pt oy]
  have px := pt_64 ox
  have py := pt_64 oy
  rw [p1, p2]
  simp only [Option.bind_some, Bool.not_true, cond_false, go_Add _ _ px py, go_Add _ _ ha hb, go_within _ _ (within_add a b ox oy x1 x2 y1 y2), cond_true, go_Sub _ _ px py, go_Sub _ _ ha hb, go_within _ _ (within_sub a b ox oy x1 x2 y1 y2),
    go_Mul _ _ px py, go_Mul _ _ ha hb, go_within _ _ (within_mul a b ox oy x1 x2 y1 y2), go_Div _ _ px py, go_Div _ _ ha hb, go_within _ _ (within_div a b ox oy x1 x2 y1 y2),
    go_Root _ px, go_Root _ ha, go_within _ _ (within_root a ox x1 x2), go_Neg _ px, go_Neg _ ha, go_within _ _ (within_neg a ox x1 x2)]
end Go.Proofs
