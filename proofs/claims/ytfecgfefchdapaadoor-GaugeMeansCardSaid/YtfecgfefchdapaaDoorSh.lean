/- The walk of gauge.shifted. -/
import Derived.Test.YtfecgfefchdapaaDoorLe
namespace Go.Proofs.YtfecgfefchdapaaDoor
set_option linter.unusedVariables false
set_option linter.unusedSimpArgs false
open Go.RowKit FL Go.Shelf

theorem sh_neg (m c : Nat) (V : Int) (wd : World) (hc : c ≤ 2000) (hf : IntKind.u64.wrap ((m : Int) * 2 ^ min c 64) = V) :
    Calls Tryd.prog 32 #[.int .u64 m, .int .i64 (-(c : Int))] wd fun e w' => e = .returned (.int .u64 V) ∧ wd = w' := by
  go_enter Tryd.func32, Tryd.ntmps32
  go_wp2_with fail
  go_ret
  exact ⟨rfl, rfl⟩
theorem sh_far (m : Nat) (b : Int) (wd : World) (hm : m < 18446744073709551616) (hc : 64 < b) (hc2 : b ≤ 2000) :
    Calls Tryd.prog 32 #[.int .u64 m, .int .i64 b] wd fun e w' => e = .returned (.int .u64 0) ∧ wd = w' := by
  go_enter Tryd.func32, Tryd.ntmps32
  go_wp2_with fail
  go_ret
  exact ⟨rfl, rfl⟩
theorem sh_mid (m d R Q : Nat) (wd : World) (hc : 0 < d) (hc2 : d < 64) (hR : IntKind.u64.wrap ((m : Int) * 2 ^ (64 - d)) = (R : Int)) (hQ : (m : Int) / 2 ^ d = (Q : Int)) (hQ2 : Q < 9223372036854775808)
    (h1 : bits .and .u64 (Q : Int) 1 = ((Q % 2 : Nat) : Int)) :
    Calls Tryd.prog 32 #[.int .u64 m, .int .i64 (d : Int)] wd fun e w' => e = .returned (.int .u64 ((if 9223372036854775808 < R ∨ (R = 9223372036854775808 ∧ Q % 2 = 1) then Q + 1 else Q : Nat) : Int)) ∧ wd = w' := by
  go_enter Tryd.func32, Tryd.ntmps32
  go_upto_region 8 with fail
  go_wp2_with fail
  all_goals go_ret
  all_goals first | exact ⟨rfl, rfl⟩ | (exfalso; simp only [beq_iff_eq, beq_eq_false_iff_ne, ne_eq] at *; omega)
theorem sh_64 (m : Nat) (wd : World) (hm : m < 18446744073709551616) :
    Calls Tryd.prog 32 #[.int .u64 m, .int .i64 64] wd fun e w' => e = .returned (.int .u64 (if 9223372036854775808 < m then 1 else 0)) ∧ wd = w' := by
  go_enter Tryd.func32, Tryd.ntmps32
  go_wp2_with fail
  all_goals go_ret
  all_goals exact ⟨rfl, rfl⟩
end Go.Proofs.YtfecgfefchdapaaDoor

