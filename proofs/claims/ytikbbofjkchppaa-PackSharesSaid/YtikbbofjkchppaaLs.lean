/- The contract of gauge.Less; the body-less functions of math that turn bits into floats and back. -/
import Derived.Test.YtikbbofjkchppaaRows
import Derived.WalkKit
import Derived.WalkSpells
import Derived.WalkLawsBesides
import Derived.Lib.Hide
import Derived.Test.YtikbbofjkchppaaFk
namespace Go.Proofs.Ytikbbofjkchppaa
open Go.RowKit FL


theorem tobits (b : Nat) (w : World) : (callFunc 14 #[.float .f64 b]).run Try.prog w = .ok (.value (.int .u64 b)) w := by
  rw [run_callFunc_extern (e := Extern.MathFloatBits.float64bits) Try.func14 (by kernel_rfl) (by kernel_rfl) (by kernel_rfl) (by kernel_rfl)]
  rfl


end Go.Proofs.Ytikbbofjkchppaa
