/- The contract of gauge.Less; the body-less functions of math that turn bits into floats and back. -/
import Derived.Test.YtfecgfefchdapaaRows
import Derived.WalkKit
import Derived.WalkSpells
import Derived.WalkLawsBesides
import Derived.Lib.Hide
import Derived.Test.YtfecgfefchdapaaFk
namespace Go.Proofs.Ytfecgfefchdapaa
open Go.RowKit FL

theorem frombits (b : Int) (w : World) : (callFunc 8 #[.int .u64 b]).run Try.prog w = .ok (.value (.float .f64 b.toNat)) w := by
  rw [run_callFunc_extern (e := Extern.MathFloatBits.float64frombits) Try.func8 (by kernel_rfl) (by kernel_rfl) (by kernel_rfl) (by kernel_rfl)]
  rfl

theorem tobits (b : Nat) (w : World) : (callFunc 13 #[.float .f64 b]).run Try.prog w = .ok (.value (.int .u64 b)) w := by
  rw [run_callFunc_extern (e := Extern.MathFloatBits.float64bits) Try.func13 (by kernel_rfl) (by kernel_rfl) (by kernel_rfl) (by kernel_rfl)]
  rfl

theorem isNaN_any (a : Nat) (wd : World) : Calls Try.prog 14 #[.float .f64 a] wd fun e w' => e = .returned (.bool (isn a)) ∧ wd = w' := by
  go_enter Try.func14, Try.ntmps14
  go_wp2
  all_goals (go_ret; exact ⟨rfl, rfl⟩)

theorem less_any (a b : Nat) (wd : World) : Calls Try.prog 7 #[.float .f64 a, .float .f64 b] wd fun e w' => e = .returned (.bool (lessB a b)) ∧ wd = w' := by
  cases h1 : (FloatKind.f64.format.order a b == some .lt)
  · cases h2 : isn b
    · have fin : lessB a b = false := by unfold lessB; rw [h1, h2]; rfl
      rw [fin]; clear fin
      go_enter Try.func7, Try.ntmps7
      go_wp2_with (go_at_call 14; refine (isNaN_any _ _).mono ?_; rintro e w' ⟨rfl, rfl⟩)
      go_ret
      exact ⟨rfl, rfl⟩
    · have fin : lessB a b = !isn a := by unfold lessB; rw [h1, h2]; simp
      rw [fin]; clear fin
      go_enter Try.func7, Try.ntmps7
      go_wp2_with (go_at_call 14; refine (isNaN_any _ _).mono ?_; rintro e w' ⟨rfl, rfl⟩)
      go_ret
      exact ⟨rfl, rfl⟩
  · have fin : lessB a b = true := by unfold lessB; rw [h1]; rfl
    rw [fin]; clear fin
    go_enter Try.func7, Try.ntmps7
    go_wp2_with fail
    go_ret
    exact ⟨rfl, rfl⟩
end Go.Proofs.Ytfecgfefchdapaa
