/- The walk of the law GaugeOrders: it returns true. -/
import Derived.Test.YtfecgfefchdapaaLs
namespace Go.Proofs.Ytfecgfefchdapaa
open Go.RowKit FL

theorem isn_neq (a : Nat) : (FloatKind.f64.format.order a a != some .eq) = isn a := rfl
theorem isn_eq (a : Nat) : (FloatKind.f64.format.order a a == some .eq) = !isn a := by unfold isn; simp [bne]

set_option maxHeartbeats 4000000 in
theorem go_walk (a b c : Int) (ha : 0 ≤ a) (ha' : a < 18446744073709551616) (hb : 0 ≤ b) (hb' : b < 18446744073709551616) (hc : 0 ≤ c) (hc' : c < 18446744073709551616) (wd : World) :
    Calls Try.prog 4 #[.int .u64 a, .int .u64 b, .int .u64 c] wd fun e w' => e = .returned (.bool true) ∧ wd = w' := by
  have la : a.toNat < 18446744073709551616 := by omega
  have lb : b.toNat < 18446744073709551616 := by omega
  have lc : c.toNat < 18446744073709551616 := by omega
  have fb := fun (x : Int) (w : World) => frombits x w
  have L12 := less_12
  have L21 := less_21
  have Lff := less_self a.toNat la
  have n1 := isn_neq a.toNat
  have n2 := isn_eq a.toNat
  have n3 := isn_neq b.toNat
  have n4 := isn_eq b.toNat
  have asy := less_asymm a.toNat b.toNat la lb
  have tr := less_trans a.toNat b.toNat c.toNat la lb lc
  have ng := less_neg a.toNat b.toNat c.toNat la lb lc
  have nl := nan_less a.toNat b.toNat la lb
  have ln := less_nan a.toNat b.toNat la lb
  have lu := less_num a.toNat b.toNat
  clear ha ha' hb hb' hc hc' la lb lc
  have go : ∀ (x y z : Bool), lessB a.toNat b.toNat = x → lessB b.toNat c.toNat = y → isn a.toNat = z → ∀ u : Bool, isn b.toNat = u →
      Calls Try.prog 4 #[.int .u64 a, .int .u64 b, .int .u64 c] wd fun e w' => e = .returned (.bool true) ∧ wd = w' := by
    intro x y z hx hy hz u hu
    cases x <;> cases y <;> cases z <;> cases u
    all_goals first | (exfalso; rw [hx] at ln; simp [hz, hu] at ln; done) | (exfalso; rw [hx] at nl; simp [hz] at nl; done) | skip
    all_goals first | (have asy1 := asy hx) | skip
    all_goals first | (have tr' := tr hx hy) | skip
    all_goals first | (have ng' := ng hx hy) | skip
    all_goals first | (have nl' := (nl hz).2; rw [hu] at nl'; simp only [Bool.not_true, Bool.not_false] at nl') | skip
    all_goals first | (have lu' := lu hu; rw [hx] at lu'; have lu'' := lu'.symm; clear lu') | skip
    all_goals rw [hz] at n1 n2
    all_goals rw [hu] at n3 n4
    all_goals simp only [Bool.not_true, Bool.not_false] at n2 n4
    all_goals clear asy tr ng nl ln lu hz hu
    all_goals
      go_enter Try.func4, Try.ntmps4
      go_wp2_with (go_at_call 7; refine (less_any _ _ _).mono ?_; rintro e w' ⟨rfl, rfl⟩)
      go_ret
      exact ⟨rfl, rfl⟩
  exact go _ _ _ rfl rfl rfl _ rfl
end Go.Proofs.Ytfecgfefchdapaa
