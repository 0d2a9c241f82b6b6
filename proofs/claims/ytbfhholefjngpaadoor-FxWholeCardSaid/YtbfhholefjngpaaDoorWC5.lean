import Derived.Test.YtbfhholefjngpaaDoorFxRun
import Derived.Laws.Bits64
import Derived.Test.YtbfhholefjngpaaDoorWC4
import Derived.Test.YtbfhholefjngpaaDoorWCmplaw
set_option linter.unusedSimpArgs false
set_option linter.unusedVariables false
set_option maxRecDepth 100000
namespace Go.Proofs
open Go Go.Fx Go.Mdlaw Go.Cmplaw

def live_wide_Compare_1 : List (List Nat) := []

def live_wide_Compare : List (List Nat) := [[0, 1, 2, 3, 20, 21]]


theorem fn_Right' (G : Glob) (a : Int) : ∃ r : Bool, FunEq Tryd.prog G 44 [.int .i64 a] (.bool r) ∧ (r = true ↔ okW a) := ⟨_, fn_wide_Right G a, decide_eq_true_iff⟩

/-- A product's sign. -/
def sg (X : Int) : Int := if X < 0 then -1 else if X = 0 then 0 else 1

theorem below_lt {p q : Nat} : decide (((p / 18446744073709551616 : Nat) : Int) < ((q / 18446744073709551616 : Nat) : Int) ∨ ((p / 18446744073709551616 : Nat) : Int) = ((q / 18446744073709551616 : Nat) : Int) ∧ ((p % 18446744073709551616 : Nat) : Int) < ((q % 18446744073709551616 : Nat) : Int)) = decide (p < q) :=
  decide_eq_decide.mpr (by omega)

theorem eq_pair {p q : Nat} : (((p / 18446744073709551616 : Nat) : Int) == ((q / 18446744073709551616 : Nat) : Int) && ((p % 18446744073709551616 : Nat) : Int) == ((q % 18446744073709551616 : Nat) : Int)) = decide (p = q) := by
  rw [Bool.eq_iff_iff]
  simp
  omega

end Go.Proofs
