/- What the contracts proved by hand want, to be told as functions (seat D). -/
import Derived.Test.YtbfhholefjngpaaDoorWC9
import Derived.Test.YtbfhholefjngpaaDoorWC10
import Derived.Test.YtbfhholefjngpaaDoorWE1
set_option linter.unusedVariables false
namespace Go.Proofs
open Go Go.Fx Go.Mdlaw Go.Rootlaw
noncomputable def sqr (a b : Int) : Nat := (exists_root (a.natAbs * b.natAbs)).choose
theorem sqr_le (a b : Int) : sqr a b * sqr a b ≤ a.natAbs * b.natAbs := (exists_root (a.natAbs * b.natAbs)).choose_spec.1
theorem sqr_lt (a b : Int) : a.natAbs * b.natAbs < (sqr a b + 1) * (sqr a b + 1) := (exists_root (a.natAbs * b.natAbs)).choose_spec.2
end Go.Proofs
