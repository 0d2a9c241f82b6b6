/-
  From the rows' condition on the tables to what the walks ask of them (seat c).
-/
import Derived.Test.YtajphaljpkeecaaDoorRows
import Derived.Lib.LaidTab
import Derived.LaidMore
import Derived.MakeChecks
import Derived.Stop.LaidErr
import Derived.Stop.Joined
import Derived.Test.YtajphaljpkeecaaDoorFxRow
import Derived.Test.YtajphaljpkeecaaDoorWSPa
set_option linter.unusedVariables false
set_option maxRecDepth 100000
namespace Go.Proofs
open Go Go.Fx

theorem glob_of_tab {P : Program} {g : Nat} {name : String} {k : IntKind} {zs : List Int} {W : World} (hn : P.globalNamed name = some g) (h : Lib.TabIs P W name k zs) :
    (PV.iref k zs 0).rel (full W) (.pointer (some ⟨g, 0, none⟩)) ∧ tabOk (full W) g (.iref k zs 0) := by
  unfold Lib.TabIs World.var? at h
  rw [hn] at h
  simp only [Option.bind_some] at h
  split at h
  · rename_i cs ty fz e
    have h := Option.some.inj h
    refine ⟨⟨g, 0, rfl, fun j x hj => ⟨cs, ty, fz, e, ?_⟩⟩, cs, ty, fz, e, by rw [h]; simp⟩
    rw [h, Nat.zero_add, List.getElem?_toArray]
    exact hj
  · cases h
/-- What a law says at all arguments, in any world whose tables are laid. -/
theorem funEqG_true {P : Program} {G : Glob} {f : FuncId} {args : List PV} {vs : List Value} (h : FunEq P G f args (.bool true)) (w : World) (hG : GlobOk G (full w)) (hv : PV.relL (full w) args vs) :
    Calls P f vs.toArray w fun e w' => e = .returned (.bool true) ∧ Left' w w' :=
  (h.2 w (full w) vs (fun _ _ e => e) hG hv).mono fun e w' ⟨v, he, hr, hz, hk, ho⟩ => by
    have hv : v = .bool true := hr
    subst hv
    exact ⟨he, hz, hk, ho⟩

namespace YtajphaljpkeecaaDoor
def laid5 : List (String × DataW Unit) := Rows.reportEncodesRow.laid
theorem nib_data : Rows.laid_couplet_sum_nibbles = Lib.tabData (H := Unit) .u32 nibTab := by kernel_rfl
theorem nib_laid : laid5 = (Tryd.prog.globals[0]!.name, Lib.tabData (H := Unit) .u32 nibTab) :: [] := by kernel_rfl
theorem glob_laid {W : World} (h : laidMetH Tryd.prog laid5 W) : GlobOk GG (full W) := by
  rw [MakeChecks.laidMetH_plain _ _ _ (by kernel_rfl), nib_laid] at h
  have t0 := Lib.tabIs_of_head (g := 0) (t := 91) (e := 69) (n := 16) (by kernel_rfl) (by kernel_rfl) (by kernel_rfl) (by kernel_rfl) (by kernel_rfl) (by kernel_rfl) h
  intro g x e
  unfold GG at e
  split at e
  · cases e; exact glob_of_tab (by kernel_rfl) t0
  · cases e
/-- The heap that the program's own start leaves meets the condition. -/
theorem door_met (os : Os) (args : Array Value) : laidMetH Tryd.prog laid5 ((World.doorLaid Tryd.prog 4000 os).forCall (fun _ _ => 0) ⟨#[], args, []⟩).memory :=
  laidMetH_of_parts3 (fuel := 8) (laidMet_of_run' 8 (by kernel_rfl) (by kernel_rfl)) (by kernel_rfl) (by kernel_rfl)
end YtajphaljpkeecaaDoor
end Go.Proofs
