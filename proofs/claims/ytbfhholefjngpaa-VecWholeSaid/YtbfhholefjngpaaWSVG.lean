/- No tables are told. -/
import Derived.Test.YtbfhholefjngpaaFxRng
namespace Go.Proofs
open Go Go.Fx
def GG : Glob := fun _ => none
end Go.Proofs
