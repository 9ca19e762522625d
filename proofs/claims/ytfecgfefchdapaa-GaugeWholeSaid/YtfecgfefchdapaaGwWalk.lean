/- The walk of the law GaugeWhole: it returns true. -/
import Derived.Test.YtfecgfefchdapaaSh
namespace Go.Proofs.Ytfecgfefchdapaa
open Go.RowKit FL

set_option maxHeartbeats 1000000 in
theorem gw_zero (p q : Int) (wd : World) :
    Calls Try.prog 3 #[.int .u64 p, .int .u64 q, .int .u64 0] wd fun e w' => e = .returned (.bool true) ∧ wd = w' := by
  have f8 := eighth
  have f0 : (FloatKind.f64.format.order 0 0 == some .eq) = true := by decide +kernel
  go_enter Try.func3, Try.ntmps3
  go_wp2_with fail
  refine (share_ok 1 8 (by omega) (by omega) (by omega) (by omega) _).mono ?_; rintro e w' ⟨rfl, rfl⟩
  go_wp2_with fail
  refine (share_zero p _).mono ?_; rintro e w' ⟨rfl, rfl⟩
  go_wp2_with fail
  refine (share_zero q _).mono ?_; rintro e w' ⟨rfl, rfl⟩
  go_wp2_with fail
  go_ret
  exact ⟨rfl, rfl⟩

set_option maxHeartbeats 1000000 in
theorem gw_pos (p q w : Int) (hp : 0 ≤ p) (hp' : p < 18446744073709551616) (hq : 0 ≤ q) (hq' : q < 18446744073709551616) (hw : 0 < w) (hw' : w < 18446744073709551616) (wd : World) :
    Calls Try.prog 3 #[.int .u64 p, .int .u64 q, .int .u64 w] wd fun e w' => e = .returned (.bool true) ∧ wd = w' := by
  have f8 := eighth
  have hz : (w == 0) = false := by simp; omega
  have f1 := not_below p w hp hp' hw
  have f5 := one_of w hw
  have C1 := Lib.hid (share_ok 1 8 (by omega) (by omega) (by omega) (by omega) wd)
  have C2 := Lib.hid (share_ok p w hp hp' hw hw' wd)
  have C3 := Lib.hid (share_ok q w hq hq' hw hw' wd)
  have C4 := Lib.hid (share_ok w w (by omega) hw' hw hw' wd)
  by_cases hpw : p ≤ w
  all_goals by_cases hpq : p ≤ q
  all_goals by_cases hp0 : p = 0
  all_goals try (exfalso; omega)
  all_goals first | (have f2 := not_above p w hp hw hw' hpw) | skip
  all_goals first | (have f3 := not_less p q w hp hq' hw hpq) | skip
  all_goals first | (subst hp0; have f4 := zero_of w hw) | (have f4 := nonzero_of p w (by omega) hp' hw hw'; have f6 : (p == 0) = false := by simpa using hp0)
  all_goals
    go_enter Try.func3, Try.ntmps3
    go_wp2_with fail
    refine C1.out.mono ?_; rintro e w' ⟨rfl, rfl⟩
    go_wp2_with fail
    refine C2.out.mono ?_; rintro e w' ⟨rfl, rfl⟩
    go_wp2_with fail
    refine C3.out.mono ?_; rintro e w' ⟨rfl, rfl⟩
    go_wp2_with fail
    refine C4.out.mono ?_; rintro e w' ⟨rfl, rfl⟩
    go_wp2_with fail
    go_ret
    exact ⟨rfl, rfl⟩
end Go.Proofs.Ytfecgfefchdapaa
