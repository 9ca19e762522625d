/- Plain facts on the floats of the model: integers turned into floats, quotients, the order. No program in sight. -/
import Derived.Test.YtfecgfefchdapaaDoorFb
import Derived.Laws.FloatArith
namespace Go.Proofs.YtfecgfefchdapaaDoor.FL
open Ieee

theorem foi (p : Int) (h : 0 ≤ p) : floatOfInt .f64 p = rn p.toNat := by
  unfold floatOfInt FloatKind.nearest FloatKind.encode
  have e : FloatKind.format .f64 = double := rfl
  rw [e]
  unfold Format.write
  simp only
  rw [nearest_rung, if_neg (by simp; omega), show p.natAbs = p.toNat by omega]
  rfl

/-- the bits of a share -/
def shB (p w : Int) : Nat := quo (rn p.toNat) (rn w.toNat)

theorem share_bits (p w : Int) (hp : 0 ≤ p) (hp' : p < 18446744073709551616) (hw : 0 < w) (hw' : w < 18446744073709551616) :
    floatBits .quo .f64 (floatOfInt .f64 p) (floatOfInt .f64 w) = some (shB p w) := by
  rw [foi p hp, foi w (by omega)]
  unfold floatBits shB
  have e : FloatKind.format .f64 = double := rfl
  simp only
  rw [e]
  exact div_pos _ _ (rn_lt _ 64 (by omega) (by omega)) (rn_lt _ 64 (by omega) (by omega)) (rn_pos _ (by omega))

theorem ord (a b : Nat) (ha : a < 9218868437227405312) (hb : b < 9218868437227405312) : FloatKind.f64.format.order a b = some (compare a b) := order_pos a b ha hb

theorem shB_lt (p w : Int) (hw : 0 < w) (hpw : p ≤ w) (hw' : w < 18446744073709551616) : shB p w ≤ 4607182418800017408 := by
  unfold shB
  have h0 := rn_pos w.toNat (by omega)
  have h1 := quo_mono (rn p.toNat) (rn w.toNat) (rn w.toNat) h0 (rn_le_of _ _ (by omega))
  rw [quo_self _ h0] at h1
  exact h1

theorem shB_fin (p w : Int) (_hp : 0 ≤ p) (hp' : p < 18446744073709551616) (hw : 0 < w) : shB p w < 9218868437227405312 := by
  -- the quotient of a number below 2 ^ 64 by one that is at least 1
  unfold shB
  have h0 := rn_pos w.toNat (by omega)
  have h1 : rn p.toNat ≤ pw 64 := by
    have := rn_le_of p.toNat (2 ^ 64) (by omega)
    rw [rn_pow 64 (by omega)] at this; exact this
  have h2 : pw 0 ≤ rn w.toNat := by
    have := rn_le_of (2 ^ 0) w.toNat (by omega)
    rw [rn_pow 0 (by omega)] at this; exact this
  rcases Nat.lt_or_ge (pw 64) (quo (rn p.toNat) (rn w.toNat)) with h | h
  · have h3 := (quo_cut _ _ (pw 64) h0 (by unfold pw; omega)).1 h
    unfold CutQ at h3
    have h4 := vv_le h1
    have h5 := vv_le h2
    have h6 := mid_gt (Nat.le_refl (pw 64))
    have e0 : vv (pw 0) = big := by rw [vv_pw, Nat.pow_zero, Nat.one_mul]
    rw [e0] at h5
    have h7 : 2 * vv (pw 64) * big < (2 * sg (pw 64) + 1) * 2 ^ pl (pw 64) * vv (rn w.toNat) :=
      Nat.lt_of_lt_of_le (Nat.mul_lt_mul_of_pos_right h6 big_pos) (Nat.mul_le_mul_left _ h5)
    have h8 : vv (rn p.toNat) * big ≤ vv (pw 64) * big := Nat.mul_le_mul_right _ h4
    rw [Nat.mul_assoc] at h7
    omega
  · have : pw 64 < 9218868437227405312 := by unfold pw; omega
    omega

/-- the tests of GaugeWhole, in the walk's own form -/
theorem not_below (p w : Int) (hp : 0 ≤ p) (hp' : p < 18446744073709551616) (hw : 0 < w) : (FloatKind.f64.format.order (shB p w) 0 == some .lt) = false := by
  rw [ord _ _ (shB_fin p w hp hp' hw) (by omega)]
  rcases Nat.eq_zero_or_pos (shB p w) with h | h
  · rw [h]; decide
  · rw [Nat.compare_eq_gt.2 h]; decide

theorem not_above (p w : Int) (hp : 0 ≤ p) (hw : 0 < w) (hw' : w < 18446744073709551616) (h : p ≤ w) : (FloatKind.f64.format.order (shB p w) 4607182418800017408 == some .gt) = false := by
  rw [ord _ _ (shB_fin p w hp (by omega) hw) (by omega)]
  have h1 := shB_lt p w hw h hw'
  rcases Nat.lt_or_ge (shB p w) 4607182418800017408 with h2 | h2
  · rw [Nat.compare_eq_lt.2 h2]; decide
  · rw [Nat.compare_eq_eq.2 (by omega)]; decide

theorem not_less (p q w : Int) (hp : 0 ≤ p) (hq' : q < 18446744073709551616) (hw : 0 < w) (h : p ≤ q) : (FloatKind.f64.format.order (shB q w) (shB p w) == some .lt) = false := by
  rw [ord _ _ (shB_fin q w (by omega) hq' hw) (shB_fin p w hp (by omega) hw)]
  have h1 : shB p w ≤ shB q w := quo_mono _ _ _ (rn_pos _ (by omega)) (rn_le_of _ _ (by omega))
  rcases Nat.lt_or_ge (shB p w) (shB q w) with h2 | h2
  · rw [Nat.compare_eq_gt.2 h2]; decide
  · rw [Nat.compare_eq_eq.2 (by omega)]; decide

theorem zero_of (w : Int) (hw : 0 < w) : (FloatKind.f64.format.order (shB 0 w) 0 == some .eq) = true := by
  have e : shB 0 w = 0 := by
    unfold shB
    have : rn (0 : Int).toNat = 0 := rn_zero
    rw [this, quo_zero _ (rn_pos _ (by omega))]
  rw [e]; decide +kernel

theorem nonzero_of (p w : Int) (hp : 0 < p) (hp' : p < 18446744073709551616) (hw : 0 < w) (hw' : w < 18446744073709551616) : (FloatKind.f64.format.order (shB p w) 0 == some .eq) = false := by
  rw [ord _ _ (shB_fin p w (by omega) hp' hw) (by omega)]
  have h : 0 < shB p w := by
    unfold shB
    have h1 : pw 0 ≤ rn p.toNat := by
      have := rn_le_of (2 ^ 0) p.toNat (by omega)
      rw [rn_pow 0 (by omega)] at this; exact this
    have h2 : rn w.toNat ≤ pw 64 := by
      have := rn_le_of w.toNat (2 ^ 64) (by omega)
      rw [rn_pow 64 (by omega)] at this; exact this
    exact quo_pos _ _ 64 h1 (rn_pos _ (by omega)) h2 (by omega)
  rw [Nat.compare_eq_gt.2 h]; decide

theorem one_of (w : Int) (hw : 0 < w) : (FloatKind.f64.format.order (shB w w) 4607182418800017408 == some .eq) = true := by
  have e : shB w w = 4607182418800017408 := quo_self _ (rn_pos _ (by omega))
  rw [e]; decide +kernel

theorem eighth : (FloatKind.f64.format.order (shB 1 8) 4593671619917905920 != some .eq) = false := by decide +kernel
end Go.Proofs.YtfecgfefchdapaaDoor.FL
