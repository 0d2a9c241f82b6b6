/-
  slices.Grow of nil, as a function that gives a row.
-/
import Derived.Test.YtajphaljpkeecaaDoorFxRun
import Derived.Test.YtajphaljpkeecaaDoorWSGl
import Derived.Test.YtajphaljpkeecaaDoorChecked
set_option linter.unusedVariables false
set_option linter.unusedSimpArgs false
namespace Go.Proofs
open Go Go.Fx

theorem infoInt : (Tryd.prog.info? 3).map (fun i => (i.zero, i.size, i.bytes)) = some (some (.int .i64 0), 1, 8) := by kernel_rfl
theorem fn_Grow (G : Glob) (ex : Bool) (n : Nat) (hn : n ≤ 1000000) : FunRow Tryd.prog G 70 3 .i64 true ex [] [.int .i64 n] (decide (n = 0)) [] := by
  refine ⟨by kernel_rfl, fun w h v vs hs hG hsat hone hap hargs => ?_⟩
  obtain ⟨_, _, rfl, e1, e2⟩ := hargs
  have e1 : _ = Value.int .i64 n := e1
  subst e1
  have e2 : _ = ([] : List Value) := e2
  subst e2
  rcases hsat with ⟨_, _, rfl⟩ | ⟨h1, _⟩
  · by_cases h0 : n = 0
    · subst h0
      refine (Any8.slices_Grow_room Tryd.lays70 none 0 0 0 w (by omega) (by omega) (by omega) (by omega)).mono fun e w' ⟨he, hw⟩ => ?_
      subst hw
      exact ⟨_, he, .inl ⟨rfl, rfl, rfl⟩, rfl, fun b hb => (by cases hb), Nat.le_refl _, fun _ _ _ => rfl, Out.refl⟩
    · obtain ⟨i0, hi, hh⟩ : ∃ i0, Tryd.prog.info? 3 = some i0 ∧ (i0.zero, i0.size, i0.bytes) = (some (.int .i64 0), 1, 8) := by
        have := infoInt
        cases e : Tryd.prog.info? 3 with
        | none => rw [e] at this; cases this
        | some i0 => rw [e] at this; exact ⟨i0, rfl, Option.some.inj this⟩
      simp only [Prod.mk.injEq] at hh
      obtain ⟨hz, hsz, hby⟩ := hh
      have hc := grownCap_ge w (0 + n) 0 3
      refine (Any8.slices_Grow_grow Tryd.lays70 i0 (.int .i64 0) hi hz (by omega) none 0 0 n [] w (by omega) (by omega) (by rw [hby]; omega) (by omega) (by simp) (fun _ => rfl) (fun a e => by cases e)).mono fun e w' ⟨he, hw⟩ => ?_
      have hcz : ∀ k, (Builtin.zeroCells (Value.int .i64 0).cells k).size = k := fun k => by
        rw [size_zeroCells]
        exact Nat.mul_one k
      have hd : decide (n = 0) = false := decide_eq_false h0
      refine ⟨_, he, ?_⟩
      subst hw
      refine ⟨.inr ⟨hd, w.heap.size, _, _, rfl, Nat.zero_le _, (fun e => by cases e), push_new w.drew _, ?_, fun j hj => absurd hj (Nat.not_lt_zero _)⟩, rfl, fun b hb => ?_, by rw [push_size]; show w.heap.size ≤ w.heap.size + 1; omega, fun b hb _ => push_old w.drew _ hb, rfl, rfl⟩
      · simp only [Array.size_append, hcz, List.size_toArray, List.length_nil]
        show 0 + (0 + n - 0) + (grownCap w (0 + n) 0 3 - (0 + n)) = grownCap w (0 + n) 0 3
        omega
      · cases hb
        exact .inr (Nat.le_refl _)
  · cases h1
theorem grow_at {G : Glob} {nil ex : Bool} {l : List Int} {n : Int} (hb : nil = true) (hl : l = []) (h0 : 0 ≤ n) (h1 : n ≤ 1000000) : FunRow Tryd.prog G 70 3 .i64 nil ex l [.int .i64 n] (decide (n = 0)) [] := by
  subst hb
  subst hl
  obtain ⟨m, rfl⟩ := Int.eq_ofNat_of_zero_le h0
  have := fn_Grow G ex m (by omega)
  rw [show decide ((m : Int) = 0) = decide (m = 0) from decide_eq_decide.2 (by omega)]
  exact this
end Go.Proofs
