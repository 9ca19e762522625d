/- The contract of gauge.Less; the body-less functions of math that turn bits into floats and back. -/
import Derived.Test.YtfecgfefchdapaaDoorRows
import Derived.WalkKit
import Derived.WalkSpells
import Derived.WalkLawsBesides
import Derived.Lib.Hide
import Derived.Test.YtfecgfefchdapaaDoorFk
namespace Go.Proofs.YtfecgfefchdapaaDoor
open Go.RowKit FL

theorem frombits (b : Int) (w : World) : (callFunc 11 #[.int .u64 b]).run Tryd.prog w = .ok (.value (.float .f64 b.toNat)) w := by
  rw [run_callFunc_extern (e := Extern.MathFloatBits.float64frombits) Tryd.func11 (by kernel_rfl) (by kernel_rfl) (by kernel_rfl) (by kernel_rfl)]
  rfl

theorem tobits (b : Nat) (w : World) : (callFunc 22 #[.float .f64 b]).run Tryd.prog w = .ok (.value (.int .u64 b)) w := by
  rw [run_callFunc_extern (e := Extern.MathFloatBits.float64bits) Tryd.func22 (by kernel_rfl) (by kernel_rfl) (by kernel_rfl) (by kernel_rfl)]
  rfl

theorem isNaN_any (a : Nat) (wd : World) : Calls Tryd.prog 26 #[.float .f64 a] wd fun e w' => e = .returned (.bool (isn a)) ∧ wd = w' := by
  go_enter Tryd.func26, Tryd.ntmps26
  go_wp2
  all_goals (go_ret; exact ⟨rfl, rfl⟩)

end Go.Proofs.YtfecgfefchdapaaDoor
