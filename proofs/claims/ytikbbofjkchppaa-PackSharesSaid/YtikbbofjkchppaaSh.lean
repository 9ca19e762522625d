/- The contract of gauge.Share. -/
import Derived.Test.YtikbbofjkchppaaRows
import Derived.WalkKit
import Derived.WalkSpells
import Derived.WalkLawsBesides
import Derived.Lib.Hide
import Derived.Test.YtikbbofjkchppaaFc
namespace Go.Proofs.Ytikbbofjkchppaa
open Go.RowKit FL

theorem share_ok (p w : Int) (hp : 0 ≤ p) (hp' : p < 18446744073709551616) (hw : 0 < w) (hw' : w < 18446744073709551616) (wd : World) :
    Calls Try.prog 26 #[.int .u64 p, .int .u64 w] wd fun e w' => e = .returned (.tuple #[.float .f64 (shB p w), .int .i64 0]) ∧ wd = w' := by
  have hop : ∀ t w1, (binOp .quo t (.float .f64 (floatOfInt .f64 p)) (.float .f64 (floatOfInt .f64 w))).run Try.prog w1 = .ok (.float .f64 (shB p w)) w1 :=
    fun t w1 => run_float_arith w1 .quo t .f64 _ _ _ (share_bits p w hp hp' hw hw')
  have hz : (w == 0) = false := by simp; omega
  go_enter Try.func26, Try.ntmps26
  go_wp2_with (simp only [hop])
  go_ret2
  exact ⟨rfl, rfl⟩

theorem share_zero (p : Int) (wd : World) :
    Calls Try.prog 26 #[.int .u64 p, .int .u64 0] wd fun e w' => e = .returned (.tuple #[.float .f64 0, .int .i64 41]) ∧ wd = w' := by
  go_enter Try.func26, Try.ntmps26
  go_wp2
  go_ret2
  exact ⟨rfl, rfl⟩
end Go.Proofs.Ytikbbofjkchppaa
