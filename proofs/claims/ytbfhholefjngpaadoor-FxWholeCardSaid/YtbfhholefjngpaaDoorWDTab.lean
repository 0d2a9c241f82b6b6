/-
  From the rows' condition on the tables to what the walks ask of them (seat D).
-/
import Derived.Test.YtbfhholefjngpaaDoorRows
import Derived.Lib.LaidTab
import Derived.LaidMore
import Derived.MakeChecks
import Derived.Stop.LaidErr
import Derived.Stop.Joined
import Derived.Test.YtbfhholefjngpaaDoorFxRow
import Derived.Test.YtbfhholefjngpaaDoorWSDa
set_option linter.unusedVariables false
set_option maxRecDepth 100000
namespace Go.Proofs
open Go Go.Fx

theorem glob_of_tab {P : Program} {g : Nat} {name : String} {k : IntKind} {zs : List Int} {W : World} (hn : P.globalNamed name = some g) (h : Lib.TabIs P W name k zs) :
    (PV.iref k zs 0).rel (full W) (.pointer (some ⟨g, 0, none⟩)) ∧ tabOk (full W) g (.iref k zs 0) := by
  unfold Lib.TabIs World.var? at h
  rw [hn] at h
  simp only [Option.bind_some] at h
  split at h
  · rename_i cs ty fz e
    have h := Option.some.inj h
    refine ⟨⟨g, 0, rfl, fun j x hj => ⟨cs, ty, fz, e, ?_⟩⟩, cs, ty, fz, e, by rw [h]; simp⟩
    rw [h, Nat.zero_add, List.getElem?_toArray]
    exact hj
  · cases h
/-- What a law says at all arguments, in any world whose tables are laid. -/
theorem funEqG_true {P : Program} {G : Glob} {f : FuncId} {args : List PV} {vs : List Value} (h : FunEq P G f args (.bool true)) (w : World) (hG : GlobOk G (full w)) (hv : PV.relL (full w) args vs) :
    Calls P f vs.toArray w fun e w' => e = .returned (.bool true) ∧ Left' w w' :=
  (h.2 w (full w) vs (fun _ _ e => e) hG hv).mono fun e w' ⟨v, he, hr, hz, hk, ho⟩ => by
    have hv : v = .bool true := hr
    subst hv
    exact ⟨he, hz, hk, ho⟩

namespace YtbfhholefjngpaaDoor
def laid5 : List (String × DataW Unit) := [("math/bits.deBruijn32tab", Rows.laid_math_bits_deBruijn32tab), ("math/bits.deBruijn64tab", Rows.laid_math_bits_deBruijn64tab), ("internal/strconv.uint64pow10", Rows.laid_internal_strconv_uint64pow10), ("unicode.White_Space", Rows.laid_unicode_White_Space), ("strings.asciiSpace", Rows.laid_strings_asciiSpace)]
theorem pow_data : Rows.laid_internal_strconv_uint64pow10 = Lib.tabData (H := Unit) .u64 Lib.pow10Tab := by kernel_rfl
theorem space_data : Rows.laid_strings_asciiSpace = Lib.tabData (H := Unit) .u8 Lib.asciiSpaceTab := by kernel_rfl
theorem glob_laid {W : World} (h : laidMetH Tryd.prog laid5 W) : GlobOk GG (full W) := by
  rw [MakeChecks.laidMetH_plain _ _ _ (by kernel_rfl)] at h
  have h4 := laidMet.tail (laidMet.tail h)
  have h0 := laidMet.tail (laidMet.tail h4)
  rw [pow_data] at h4
  rw [space_data] at h0
  have t4 := Lib.tabIs_of_head (g := 4) (t := 98) (e := 39) (n := 20) (by kernel_rfl) (by kernel_rfl) (by kernel_rfl) (by kernel_rfl) (by kernel_rfl) (by kernel_rfl) h4
  have t0 := Lib.tabIs_of_head (g := 0) (t := 57) (e := 5) (n := 256) (by kernel_rfl) (by kernel_rfl) (by kernel_rfl) (by kernel_rfl) (by kernel_rfl) (by kernel_rfl) h0
  intro g x e
  unfold GG at e
  split at e
  · cases e; exact glob_of_tab (by kernel_rfl) t0
  · cases e; exact glob_of_tab (by kernel_rfl) t4
  · cases e
/-- The heap that the program's own start leaves meets the condition. -/
theorem door_met (os : Os) (args : Array Value) : laidMetH Tryd.prog laid5 ((World.doorLaid Tryd.prog 4000 os).forCall (fun _ _ => 0) ⟨#[], args, []⟩).memory :=
  laidMetH_of_parts3 (fuel := 8) (laidMet_of_run' 8 (by kernel_rfl) (by kernel_rfl)) (by kernel_rfl) (by kernel_rfl)
end YtbfhholefjngpaaDoor
end Go.Proofs
