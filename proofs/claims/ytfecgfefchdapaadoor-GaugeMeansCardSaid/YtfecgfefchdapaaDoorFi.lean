/- Plain facts: a float turned into an integer, its fraction cut off. No program in sight. -/
import Derived.Test.YtfecgfefchdapaaDoorFk
namespace Go.Proofs.YtfecgfefchdapaaDoor.FL
open Ieee

/-- m * 2 ^ e without its fraction -/
def trc (m : Nat) (e : Int) : Nat := m * 2 ^ e.toNat / 2 ^ (-e).toNat

theorem trc_shift (o t : Nat) (a : Int) : trc (o * 2 ^ t) a = trc o (a + t) := by
  unfold trc
  rcases Int.le_total 0 a with h | h
  · rw [show (-a).toNat = 0 by omega, show (-(a + t)).toNat = 0 by omega, show (a + (t : Int)).toNat = t + a.toNat by omega, Nat.pow_add, Nat.mul_assoc]
  · rw [show a.toNat = 0 by omega, Nat.pow_zero, Nat.mul_one]
    rcases Int.le_total 0 (a + t) with h2 | h2
    · rw [show (-(a + (t : Int))).toNat = 0 by omega, Nat.pow_zero, Nat.div_one, show t = (a + (t : Int)).toNat + (-a).toNat by omega, Nat.pow_add, ← Nat.mul_assoc, Nat.mul_div_cancel _ (Nat.two_pow_pos _),
        show (a + (((a + (t : Int)).toNat + (-a).toNat : Nat) : Int)).toNat = (a + (t : Int)).toNat by omega]
    · rw [show (a + (t : Int)).toNat = 0 by omega, Nat.pow_zero, Nat.mul_one, show (-a).toNat = (-(a + (t : Int))).toNat + t by omega, Nat.pow_add, Nat.mul_div_mul_right _ _ (Nat.two_pow_pos _)]

theorem trc_vv (r : Nat) : trc (sg r) ((pl r : Int) - 1074) = vv r / big := by
  unfold trc vv big
  rcases Nat.le_total ofs (pl r) with h | h
  · have h' : 1074 ≤ pl r := h
    rw [show (-((pl r : Int) - 1074)).toNat = 0 by omega, Nat.pow_zero, Nat.div_one, show ((pl r : Int) - 1074).toNat = pl r - ofs by rw [ofs_eq]; omega]
    have e : pl r = (pl r - ofs) + ofs := by omega
    rw [show sg r * 2 ^ pl r = sg r * 2 ^ (pl r - ofs) * 2 ^ ofs by rw [Nat.mul_assoc, ← Nat.pow_add, ← e], Nat.mul_div_cancel _ (Nat.two_pow_pos _)]
  · have h' : pl r ≤ 1074 := h
    rw [show ((pl r : Int) - 1074).toNat = 0 by omega, Nat.pow_zero, Nat.mul_one, show (-((pl r : Int) - 1074)).toNat = ofs - pl r by rw [ofs_eq]; omega]
    have e : ofs = (ofs - pl r) + pl r := by omega
    rw [show (2 : Nat) ^ ofs = 2 ^ (ofs - pl r) * 2 ^ pl r by rw [← Nat.pow_add, ← e], Nat.mul_div_mul_right _ _ (Nat.two_pow_pos _)]

/-- what ToInt gives of a word: the number, the error's number -/
def toIV (w : Nat) : Int × Int :=
  match double.read w with
  | .nan _ _ => (0, 40)
  | .infinity _ => (0, 1)
  | .number s m e => if -9223372036854775808 ≤ (if s then -(trc m e : Int) else trc m e) ∧ (if s then -(trc m e : Int) else trc m e) < 9223372036854775808 then (if s then -(trc m e : Int) else trc m e, 0) else (0, 1)

theorem cut_zero (neg : Bool) (n d : Nat) : Toward.zero.cut neg n d = n / 2 ^ d := by
  unfold Toward.cut
  simp only [Bool.toNat_false, Nat.add_zero, Nat.shiftLeft_eq, Nat.one_mul]
  rcases Nat.le_total d (n.log2 + 2) with h | h
  · rw [Nat.min_eq_left h]
  · rw [Nat.min_eq_right h]
    have hlt : n < 2 ^ (n.log2 + 1) := Nat.lt_log2_self
    have h1 : 2 ^ (n.log2 + 1) ≤ 2 ^ (n.log2 + 2) := Nat.pow_le_pow_right (by omega) (by omega)
    have h2 : 2 ^ (n.log2 + 2) ≤ 2 ^ d := Nat.pow_le_pow_right (by omega) h
    rw [Nat.div_eq_of_lt (by omega), Nat.div_eq_of_lt (by omega)]

theorem toInt_num (s : Bool) (m : Nat) (e : Int) : (Datum.number s m e).toInt .zero = some (if s then -(trc m e : Int) else trc m e) := by
  unfold Datum.toInt Datum.integral signed trc
  simp only [cut_zero, Nat.shiftLeft_eq, Nat.pow_zero, Nat.mul_one]

theorem wf63 : IntKind.i64.min = -9223372036854775808 ∧ IntKind.i64.max = 9223372036854775807 := by decide

/-- 2 ^ 63 and its opposite, as words -/
theorem key_up : key 4890909195324358656 = some 4890909195324358656 := by decide
theorem key_down : key 14114281232179134464 = some (-4890909195324358656) := by decide
theorem p63 : (2 : Nat) ^ 63 = 9223372036854775808 := by decide
theorem pw63 : pw 63 = 4890909195324358656 := by decide

theorem ge_key (v : Nat) (hv : v < 18446744073709551616) :
    (FloatKind.f64.format.order v 4890909195324358656 == some .gt || FloatKind.f64.format.order v 4890909195324358656 == some .eq) = match key v with | some a => decide (4890909195324358656 ≤ a) | none => false := by
  rw [ord_key v _ hv (by omega), key_up]
  cases key v with
  | none => rfl
  | some a =>
    simp only [cmpKey]
    rcases Int.lt_trichotomy a 4890909195324358656 with h | h | h
    · rw [Int.compare_eq_lt.2 h, decide_eq_false (by omega)]; rfl
    · rw [Int.compare_eq_eq.2 h, decide_eq_true (by omega)]; rfl
    · rw [Int.compare_eq_gt.2 h, decide_eq_true (by omega)]; rfl

theorem below_key (v : Nat) (hv : v < 18446744073709551616) :
    (FloatKind.f64.format.order v 14114281232179134464 == some .lt) = match key v with | some a => decide (a < -4890909195324358656) | none => false := by
  rw [lt_key v _ hv (by omega), key_down]
  cases key v <;> rfl

/-- the ways of gauge.ToInt -/
theorem toI_nan (w : Nat) (hw : w < 18446744073709551616) (h : isn w = true) : toIV w = (0, 40) := by
  rw [isn_key w hw] at h
  unfold toIV
  rcases word_cases w hw with ⟨k1, s1, f1, r1⟩ | ⟨s1, k1, r1⟩ | ⟨s1, a, ha, k1, r1⟩
  · rw [r1]
  · rw [k1] at h; cases h
  · rw [k1] at h; cases h

theorem trc_hi (r : Nat) (h : 4890909195324358656 ≤ r) : 9223372036854775808 ≤ vv r / big := by
  rw [Nat.le_div_iff_mul_le big_pos]
  have h1 := vv_le h
  have h2 := vv_pw 63
  rw [pw63, p63] at h2
  rw [h2] at h1
  exact h1

theorem trc_hi2 (r : Nat) (h : 4890909195324358656 < r) : 9223372036854775809 ≤ vv r / big := by
  rw [Nat.le_div_iff_mul_le big_pos]
  have h1 := vv_le (show 4890909195324358656 + 1 ≤ r from h)
  rw [vv_succ] at h1
  have h2 := vv_pw 63
  rw [pw63, p63] at h2
  have h3 : pl 4890909195324358656 = ofs + 11 := by decide
  rw [h2, h3] at h1
  have h4 : big ≤ 2 ^ (ofs + 11) := by unfold big; exact Nat.pow_le_pow_right (by omega) (by omega)
  have e : 9223372036854775809 * big = 9223372036854775808 * big + big := by omega
  rw [e]
  exact Nat.le_trans (Nat.add_le_add_left h4 _) h1

theorem trc_lo (r : Nat) (h : r < 4890909195324358656) : vv r / big < 9223372036854775808 := by
  rw [Nat.div_lt_iff_lt_mul big_pos]
  have h1 := vv_lt h
  have h2 := vv_pw 63
  rw [pw63, p63] at h2
  rw [h2] at h1
  exact h1

theorem trc_eq63 : vv 4890909195324358656 / big = 9223372036854775808 := by
  have h2 := vv_pw 63
  rw [pw63, p63] at h2
  rw [h2, Nat.mul_div_cancel _ big_pos]

theorem toI_range (w : Nat) (hw : w < 18446744073709551616) (h : isn w = false)
    (h2 : (FloatKind.f64.format.order w 4890909195324358656 == some .gt || FloatKind.f64.format.order w 4890909195324358656 == some .eq) = true ∨ (FloatKind.f64.format.order w 14114281232179134464 == some .lt) = true) : toIV w = (0, 1) := by
  rw [isn_key w hw] at h
  rw [ge_key w hw, below_key w hw] at h2
  unfold toIV
  rcases word_cases w hw with ⟨k1, s1, f1, r1⟩ | ⟨s1, k1, r1⟩ | ⟨s1, a, ha, k1, r1⟩
  · rw [k1] at h; cases h
  · rw [r1]
  · rw [r1]
    simp only
    rw [k1] at h2
    simp only [decide_eq_true_eq] at h2
    rw [trc_vv]
    refine if_neg ?_
    cases s1
    · simp only [Bool.false_eq_true, if_false] at h2 ⊢
      have := trc_hi a (by omega)
      generalize vv a / big = x at *
      omega
    · simp only [if_true] at h2 ⊢
      have := trc_hi2 a (by omega)
      generalize vv a / big = x at *
      omega

theorem toI_fits (w : Nat) (hw : w < 18446744073709551616) (h : isn w = false)
    (h1 : (FloatKind.f64.format.order w 4890909195324358656 == some .gt || FloatKind.f64.format.order w 4890909195324358656 == some .eq) = false) (h2 : (FloatKind.f64.format.order w 14114281232179134464 == some .lt) = false) :
    floatToIntVal .f64 w .i64 = some (toIV w).1 ∧ (toIV w).2 = 0 := by
  rw [isn_key w hw] at h
  rw [ge_key w hw] at h1
  rw [below_key w hw] at h2
  unfold toIV floatToIntVal
  have e : FloatKind.f64.decode w = double.read w := rfl
  rw [e]
  rcases word_cases w hw with ⟨k1, s1, f1, r1⟩ | ⟨s1, k1, r1⟩ | ⟨s1, a, ha, k1, r1⟩
  · rw [k1] at h; cases h
  · exfalso
    rw [k1] at h1 h2
    simp only [decide_eq_false_iff_not] at h1 h2
    cases s1
    · simp only [Bool.false_eq_true, if_false] at h1; omega
    · simp only [if_true] at h2; omega
  · rw [r1]
    rw [k1] at h1 h2
    simp only [decide_eq_false_iff_not] at h1 h2
    rw [toInt_num]
    simp only
    rw [trc_vv, wf63.1, wf63.2]
    have hin : -9223372036854775808 ≤ (if s1 = true then -((vv a / big : Nat) : Int) else ((vv a / big : Nat) : Int)) ∧ (if s1 = true then -((vv a / big : Nat) : Int) else ((vv a / big : Nat) : Int)) < 9223372036854775808 := by
      cases s1
      · simp only [Bool.false_eq_true, if_false] at h1 ⊢
        have := trc_lo a (by omega)
        generalize vv a / big = x at *
        omega
      · simp only [if_true] at h2 ⊢
        rcases Nat.lt_or_ge a 4890909195324358656 with h3 | h3
        · have := trc_lo a h3
          generalize vv a / big = x at *
          omega
        · obtain rfl : a = 4890909195324358656 := by omega
          rw [trc_eq63]; omega
    rw [if_pos ⟨hin.1, by omega⟩, if_pos hin]
    exact ⟨rfl, rfl⟩

/-- a number, a thousand times -/
def m1000 (s : Nat) : Nat := (FloatKind.f64.format.mul s 4652007308841189376).getD 0
theorem mul_some (a b : Nat) (ha : a < 9218868437227405312) (hb : b < 9218868437227405312) : ∃ r, double.mul a b = some r := by
  unfold Format.mul
  rw [read_pos a ha, read_pos b hb]
  simp only [Datum.product, Option.map_some]
  exact ⟨_, rfl⟩
theorem m1000_is (s : Nat) (hs : s < 9218868437227405312) : floatBits .mul .f64 s 4652007308841189376 = some (m1000 s) ∧ m1000 s < 18446744073709551616 := by
  obtain ⟨r, hr⟩ := mul_some s 4652007308841189376 hs (by omega)
  have hr' : FloatKind.f64.format.mul s 4652007308841189376 = some r := hr
  have e : m1000 s = r := by unfold m1000; rw [hr']; rfl
  rw [e]
  exact ⟨hr', Format.mul_lt _ hr⟩
theorem m1000_eighth : toIV (m1000 (shB 1 8)) = (125, 0) := by decide +kernel
end Go.Proofs.YtfecgfefchdapaaDoor.FL
