/- Rows of zeros, a new row written whole. -/
import Derived.Test.YtemioilfedpohaaDoorStm
import Derived.Deep.WholeRow
namespace Go.Proofs.YtemioilfedpohaaDoor
set_option linter.unusedVariables false
open Go.RowKit
/-- so many zeros -/
def zr (n : Nat) : List Nat := List.replicate n 0
end Go.Proofs.YtemioilfedpohaaDoor

