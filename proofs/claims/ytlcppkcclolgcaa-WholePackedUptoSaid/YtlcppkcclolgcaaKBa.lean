/- Plain arithmetic of rounding: a number m * 2 ^ e stands above rung r just where it lies above the midpoint behind r (or on it, r odd). No program in sight. Plain arithmetic of rounding, second part: quotients, integers turned into numbers. No program in sight. Plain facts on the floats of the model: integers turned into floats, quotients, the order. No program in sight. The contracts of gauge.Share and pack.Share over two lengths. The walk of pack.four: the four bytes from a place on. The packer's map: of four bytes the place where they stood last. The walks of the packer's note and back. The walk of the packer's back. -/
import Ieee.Arith
import Derived.Laws.FloatArith
import Derived.Test.YtlcppkcclolgcaaPkb
import Derived.Maps.Views
import Derived.DeepKeys4
import Derived.DeepKeys5
namespace Go.Proofs.Ytlcppkcclolgcaa.FL
open Ieee

theorem toNat_or (p q r : Prop) [Decidable p] [Decidable q] [Decidable r] : (decide p || (decide q && decide r)).toNat = if p ∨ (q ∧ r) then 1 else 0 := by
  by_cases hp : p <;> by_cases hq : q <;> by_cases hr : r <;> simp [hp, hq, hr]

theorem cut_even (neg : Bool) (n drop j : Nat) :
    j < Toward.even.cut neg n drop ↔ (2 * j + 1) * 2 ^ drop < 2 * n ∨ ((2 * j + 1) * 2 ^ drop = 2 * n ∧ j % 2 = 1) := by
  unfold Toward.cut
  simp only [Nat.shiftLeft_eq, Nat.one_mul]
  rcases Nat.le_total drop (n.log2 + 2) with h | h
  · rw [Nat.min_eq_left h]
    have hg : 0 < 2 ^ drop := Nat.two_pow_pos _
    generalize 2 ^ drop = g at hg
    have e : g * (n / g) + n % g = n := Nat.div_add_mod n g
    have hr : n % g < g := Nat.mod_lt _ hg
    generalize n / g = low at *
    generalize n % g = rest at *
    rcases Nat.lt_trichotomy j low with hj | hj | hj
    · have h1 : (2 * j + 1) * g < (2 * low) * g := Nat.mul_lt_mul_of_pos_right (by omega) hg
      have h2 : (2 * low) * g = 2 * (g * low) := by rw [Nat.mul_assoc, Nat.mul_comm low g]
      constructor
      · intro _; left; omega
      · intro _; omega
    · subst hj
      have h2 : (2 * j + 1) * g = 2 * (g * j) + g := by rw [Nat.add_mul, Nat.mul_assoc, Nat.mul_comm j g]; omega
      rw [h2]
      have hm : (decide (g < 2 * rest) || g == 2 * rest && j % 2 == 1).toNat = if g < 2 * rest ∨ (g = 2 * rest ∧ j % 2 = 1) then 1 else 0 := by
        exact toNat_or _ _ _
      rw [hm]
      split
      · rename_i c; omega
      · rename_i c; omega
    · have h1 : (2 * low + 3) * g ≤ (2 * j + 1) * g := Nat.mul_le_mul_right g (by omega)
      have h2 : (2 * low + 3) * g = 2 * (g * low) + 3 * g := by rw [Nat.add_mul, Nat.mul_assoc, Nat.mul_comm low g]
      have h3 : ∀ b : Bool, b.toNat ≤ 1 := by intro b; cases b <;> simp
      constructor
      · intro hh; have := h3 (decide (g < 2 * rest) || g == 2 * rest && low % 2 == 1); omega
      · intro hh; omega
  · rw [Nat.min_eq_right h]
    have hlt : n < 2 ^ (n.log2 + 1) := Nat.lt_log2_self
    have h4 : 2 ^ (n.log2 + 2) = 2 * 2 ^ (n.log2 + 1) := by rw [Nat.pow_succ 2 (n.log2 + 1), Nat.mul_comm]
    have h5 : 2 ^ (n.log2 + 2) ≤ 2 ^ drop := Nat.pow_le_pow_right (by omega) h
    have hlow : n / 2 ^ (n.log2 + 2) = 0 := Nat.div_eq_of_lt (by omega)
    have hrest : n % 2 ^ (n.log2 + 2) = n := Nat.mod_eq_of_lt (by omega)
    rw [hlow, hrest]
    have c1 : ¬ 2 ^ (n.log2 + 2) < 2 * n := by omega
    have c2 : ¬ 2 ^ (n.log2 + 2) = 2 * n := by omega
    have h6 : 1 * 2 ^ drop ≤ (2 * j + 1) * 2 ^ drop := Nat.mul_le_mul_right _ (by omega)
    have hm : (decide (2 ^ (n.log2 + 2) < 2 * n) || 2 ^ (n.log2 + 2) == 2 * n && 0 % 2 == 1).toNat = 0 := by simp [c1]
    rw [hm]
    omega

/-- the significand of a rung, and the place of its last digit above the least -/
def sg (r : Nat) : Nat := if r < 4503599627370496 then r else 4503599627370496 + r % 4503599627370496
def pl (r : Nat) : Nat := r / 4503599627370496 - 1

/-- the rung nearest to m * 2 ^ e -/
def rung (m : Nat) (e : Int) : Nat :=
  if m = 0 then 0 else
  min ((max (e + m.log2 - 52) (-1074) + 1074).toNat * 4503599627370496 + Toward.even.cut false (m <<< (e - max (e + m.log2 - 52) (-1074)).toNat) (max (e + m.log2 - 52) (-1074) - e).toNat) 9218868437227405312

theorem d_inf : double.infRung = 9218868437227405312 := by decide
theorem d_bin : double.binade = 4503599627370496 := by decide
theorem d_sgn : double.signWeight = 9223372036854775808 := by decide
theorem d_lst : double.leastPlace = -1074 := by decide
theorem d_frc : double.fractionBits = 52 := rfl
theorem cut_sign (n d : Nat) : Toward.even.cut true n d = Toward.even.cut false n d := rfl

theorem nearest_rung (neg : Bool) (m : Nat) (e : Int) : double.nearest neg m e = if neg then 9223372036854775808 + rung m e else rung m e := by
  unfold Format.nearest rung Format.word
  rw [d_inf, d_bin, d_sgn, d_lst, d_frc]
  by_cases h : m = 0
  · rw [if_pos h, if_pos h]
  · rw [if_neg h, if_neg h]
    cases neg
    · rfl
    · simp only [cut_sign]; rfl

theorem rung_le (m : Nat) (e : Int) : rung m e ≤ 9218868437227405312 := by
  unfold rung; split
  · omega
  · exact Nat.min_le_right ..

theorem sg_lt (r : Nat) : sg r < 9007199254740992 := by
  unfold sg; split <;> omega

theorem le_of_cut {a b : Nat} {p : Prop} (h : a < b ∨ (a = b ∧ p)) : a ≤ b := by
  rcases h with h | ⟨h, _⟩ <;> omega

theorem rung_cut (m : Nat) (e : Int) (k r : Nat) (hk : -1074 - (k : Int) ≤ e) (hr : r < 9218868437227405312) :
    r < rung m e ↔ (2 * sg r + 1) * 2 ^ (pl r + k) < 2 * (m * 2 ^ (e + 1074 + k).toNat) ∨ ((2 * sg r + 1) * 2 ^ (pl r + k) = 2 * (m * 2 ^ (e + 1074 + k).toNat) ∧ r % 2 = 1) := by
  unfold rung
  by_cases hm : m = 0
  · subst hm
    rw [if_pos rfl, Nat.zero_mul]
    have : 0 < (2 * sg r + 1) * 2 ^ (pl r + k) := Nat.mul_pos (by omega) (Nat.two_pow_pos _)
    omega
  · rw [if_neg hm]
    obtain ⟨L, hL⟩ : ∃ L : Nat, max (e + m.log2 - 52) (-1074) = (L : Int) - 1074 := ⟨(max (e + m.log2 - 52) (-1074) + 1074).toNat, by omega⟩
    rw [hL]
    have hLe : e + m.log2 - 52 ≤ (L : Int) - 1074 := by omega
    have hL0 : 0 < L → e + m.log2 - 52 = (L : Int) - 1074 := by omega
    clear hL
    rw [show ((L : Int) - 1074 + 1074).toNat = L by omega, Nat.lt_min, and_iff_left hr, Nat.shiftLeft_eq]
    have kept := cut_even false (m * 2 ^ (e - ((L : Int) - 1074)).toNat) ((L : Int) - 1074 - e).toNat
    generalize Toward.even.cut false (m * 2 ^ (e - ((L : Int) - 1074)).toNat) ((L : Int) - 1074 - e).toNat = K at *
    have scale : ∀ j, ((2 * j + 1) * 2 ^ ((L : Int) - 1074 - e).toNat < 2 * (m * 2 ^ (e - ((L : Int) - 1074)).toNat) ↔ (2 * j + 1) * 2 ^ (L + k) < 2 * (m * 2 ^ (e + 1074 + k).toNat)) ∧
        ((2 * j + 1) * 2 ^ ((L : Int) - 1074 - e).toNat = 2 * (m * 2 ^ (e - ((L : Int) - 1074)).toNat) ↔ (2 * j + 1) * 2 ^ (L + k) = 2 * (m * 2 ^ (e + 1074 + k).toNat)) := by
      intro j
      rcases Int.le_total ((L : Int) - 1074) e with h | h
      · have h1 : ((L : Int) - 1074 - e).toNat = 0 := by omega
        have h2 : (e + 1074 + k).toNat = (e - ((L : Int) - 1074)).toNat + (L + k) := by omega
        have hp : 0 < 2 ^ (L + k) := Nat.two_pow_pos _
        have h3 : 2 * (m * 2 ^ (e + 1074 + k).toNat) = 2 * (m * 2 ^ (e - ((L : Int) - 1074)).toNat) * 2 ^ (L + k) := by
          rw [h2, Nat.pow_add, Nat.mul_assoc 2, Nat.mul_assoc m]
        rw [h1, h3, Nat.pow_zero, Nat.mul_one]
        exact ⟨(Nat.mul_lt_mul_right hp).symm, (Nat.mul_left_inj (Nat.ne_of_gt hp)).symm⟩
      · have h1 : (e - ((L : Int) - 1074)).toNat = 0 := by omega
        have h2 : L + k = ((L : Int) - 1074 - e).toNat + (e + 1074 + k).toNat := by omega
        have hp : 0 < 2 ^ (e + 1074 + k).toNat := Nat.two_pow_pos _
        have h3 : (2 * j + 1) * 2 ^ (L + k) = (2 * j + 1) * 2 ^ ((L : Int) - 1074 - e).toNat * 2 ^ (e + 1074 + k).toNat := by
          rw [h2, Nat.pow_add, Nat.mul_assoc]
        rw [h1, h3, Nat.pow_zero, Nat.mul_one, ← Nat.mul_assoc 2 m]
        exact ⟨(Nat.mul_lt_mul_right hp).symm, (Nat.mul_left_inj (Nat.ne_of_gt hp)).symm⟩
    have kept' : ∀ j, j < K ↔ (2 * j + 1) * 2 ^ (L + k) < 2 * (m * 2 ^ (e + 1074 + k).toNat) ∨ ((2 * j + 1) * 2 ^ (L + k) = 2 * (m * 2 ^ (e + 1074 + k).toNat) ∧ j % 2 = 1) := by
      intro j; rw [kept j, (scale j).1, (scale j).2]
    clear kept scale
    have hlo : 2 ^ m.log2 ≤ m := Nat.log2_self_le hm
    have hhi : m < 2 ^ (m.log2 + 1) := Nat.lt_log2_self
    have hD1 : m * 2 ^ (e + 1074 + k).toNat < 9007199254740992 * 2 ^ (L + k) := by
      have h1 : m * 2 ^ (e + 1074 + k).toNat < 2 ^ (m.log2 + 1) * 2 ^ (e + 1074 + k).toNat := Nat.mul_lt_mul_of_pos_right hhi (Nat.two_pow_pos _)
      rw [← Nat.pow_add] at h1
      have h2 : 2 ^ (m.log2 + 1 + (e + 1074 + k).toNat) ≤ 2 ^ (53 + (L + k)) := Nat.pow_le_pow_right (by omega) (by omega)
      rw [Nat.pow_add 2 53] at h2
      omega
    have hD2 : 0 < L → 4503599627370496 * 2 ^ (L + k) ≤ m * 2 ^ (e + 1074 + k).toNat := by
      intro hpos
      have h0 := hL0 hpos
      have h1 : 2 ^ m.log2 * 2 ^ (e + 1074 + k).toNat ≤ m * 2 ^ (e + 1074 + k).toNat := Nat.mul_le_mul_right _ hlo
      rw [← Nat.pow_add, show m.log2 + (e + 1074 + k).toNat = 52 + (L + k) by omega, Nat.pow_add 2 52] at h1
      omega
    generalize m * 2 ^ (e + 1074 + k).toNat = D at *
    clear hLe hL0 hlo hhi hm hk
    have hP : 0 < 2 ^ (L + k) := Nat.two_pow_pos _
    have hK1 : K ≤ 9007199254740992 := by
      rcases Nat.lt_or_ge 9007199254740992 K with h | h
      · have h1 : (2 * 9007199254740992 + 1) * 2 ^ (L + k) ≤ 2 * D := le_of_cut ((kept' 9007199254740992).1 h)
        generalize 2 ^ (L + k) = P at h1 hD1 hP
        simp only [Nat.reduceMul, Nat.reduceAdd] at h1
        omega
      · exact h
    have hK2 : 0 < L → 4503599627370496 ≤ K := by
      intro hpos
      have h1 := hD2 hpos
      have h3 : (2 * 4503599627370495 + 1) * 2 ^ (L + k) < 2 * D := by
        generalize 2 ^ (L + k) = P at h1 hP
        simp only [Nat.reduceMul, Nat.reduceAdd]
        omega
      have h2 := (kept' 4503599627370495).2 (Or.inl h3)
      omega
    have hs := sg_lt r
    by_cases c1 : pl r = L ∧ (L = 0 ∨ r / 4503599627370496 = L + 1)
    · obtain ⟨c1, c2⟩ := c1
      have hrs : r = L * 4503599627370496 + sg r := by
        unfold pl at c1; unfold sg; split <;> omega
      have hpar : r % 2 = sg r % 2 := by omega
      rw [c1, hpar, ← kept' (sg r)]
      omega
    · by_cases c2 : r / 4503599627370496 < L + 1
      · have hpos : 0 < L := by unfold pl at c1; omega
        have hp : pl r ≤ L - 1 := by unfold pl; omega
        have h1 := hK2 hpos
        have h2 := hD2 hpos
        have h3 : 2 ^ (pl r + k) ≤ 2 ^ (L - 1 + k) := Nat.pow_le_pow_right (by omega) (by omega)
        have h4 : 2 ^ (L + k) = 2 * 2 ^ (L - 1 + k) := by rw [show L + k = (L - 1 + k) + 1 by omega, Nat.pow_succ, Nat.mul_comm]
        have h5 : (2 * sg r + 1) * 2 ^ (pl r + k) ≤ 18014398509481983 * 2 ^ (L - 1 + k) := Nat.mul_le_mul (by omega) h3
        have hP' : 0 < 2 ^ (L - 1 + k) := Nat.two_pow_pos _
        constructor
        · intro _; left; omega
        · intro _; omega
      · have hge : L + 2 ≤ r / 4503599627370496 := by
          unfold pl at c1; omega
        have hp : L + 1 ≤ pl r := by unfold pl; omega
        have hsg : 4503599627370496 ≤ sg r := by unfold sg; split <;> omega
        have h3 : 2 ^ (L + 1 + k) ≤ 2 ^ (pl r + k) := Nat.pow_le_pow_right (by omega) (by omega)
        have h4 : 2 ^ (L + 1 + k) = 2 * 2 ^ (L + k) := by rw [show L + 1 + k = (L + k) + 1 by omega, Nat.pow_succ, Nat.mul_comm]
        have h5 : 9007199254740993 * 2 ^ (L + 1 + k) ≤ (2 * sg r + 1) * 2 ^ (pl r + k) := Nat.mul_le_mul (by omega) h3
        constructor
        · intro _; omega
        · intro h; have h6 := le_of_cut h; omega

/-- the value of a rung, in units of the least place -/
def vv (r : Nat) : Nat := sg r * 2 ^ pl r

theorem vv_succ (r : Nat) : vv (r + 1) = vv r + 2 ^ pl r := by
  unfold vv
  by_cases h : (r + 1) % 4503599627370496 = 0
  · by_cases h0 : r / 4503599627370496 = 0
    · have e1 : sg r = 4503599627370495 := by unfold sg; split <;> omega
      have e2 : sg (r + 1) = 4503599627370496 := by unfold sg; split <;> omega
      have e3 : pl r = 0 := by unfold pl; omega
      have e4 : pl (r + 1) = 0 := by unfold pl; omega
      rw [e1, e2, e3, e4]
    · have e1 : sg r = 9007199254740991 := by unfold sg; split <;> omega
      have e2 : sg (r + 1) = 4503599627370496 := by unfold sg; split <;> omega
      have e4 : pl (r + 1) = pl r + 1 := by unfold pl; omega
      rw [e1, e2, e4, Nat.pow_succ]; omega
  · have e1 : sg (r + 1) = sg r + 1 := by unfold sg; split <;> split <;> omega
    have e4 : pl (r + 1) = pl r := by unfold pl; omega
    rw [e1, e4, Nat.add_mul, Nat.one_mul]

theorem vv_lt {a b : Nat} (h : a < b) : vv a < vv b := by
  induction b with
  | zero => omega
  | succ b ih =>
    have := vv_succ b
    have : 0 < 2 ^ pl b := Nat.two_pow_pos _
    rcases Nat.lt_or_ge a b with h1 | h1
    · have := ih h1; omega
    · obtain rfl : a = b := by omega
      omega

theorem vv_le {a b : Nat} (h : a ≤ b) : vv a ≤ vv b := by
  rcases Nat.lt_or_ge a b with h1 | h1
  · exact Nat.le_of_lt (vv_lt h1)
  · obtain rfl : a = b := by omega
    exact Nat.le_refl _

theorem vv_lt_iff {a b : Nat} : vv a < vv b ↔ a < b := by
  constructor
  · intro h; rcases Nat.lt_or_ge a b with h1 | h1
    · exact h1
    · have := vv_le h1; omega
  · exact vv_lt

theorem vv_inj {a b : Nat} (h : vv a = vv b) : a = b := by
  rcases Nat.lt_trichotomy a b with h1 | h1 | h1
  · have := vv_lt h1; omega
  · exact h1
  · have := vv_lt h1; omega

theorem vv_zero : vv 0 = 0 := by decide

theorem mid_eq (r : Nat) : (2 * sg r + 1) * 2 ^ pl r = 2 * vv r + 2 ^ pl r := by
  unfold vv; rw [Nat.add_mul, Nat.one_mul, Nat.mul_assoc]

/-- the midpoint behind r lies below x just where r does -/
theorem mid_lt {r x : Nat} (h : r < x) : (2 * sg r + 1) * 2 ^ pl r < 2 * vv x := by
  have h1 := vv_le (show r + 1 ≤ x from h)
  have h2 := vv_succ r
  have h3 : 0 < 2 ^ pl r := Nat.two_pow_pos _
  rw [mid_eq]; omega

theorem mid_gt {r x : Nat} (h : x ≤ r) : 2 * vv x < (2 * sg r + 1) * 2 ^ pl r := by
  have h1 := vv_le h
  have h3 : 0 < 2 ^ pl r := Nat.two_pow_pos _
  rw [mid_eq]; omega

theorem mid_mono {r x : Nat} (h : r < x) : (2 * sg r + 1) * 2 ^ pl r < (2 * sg x + 1) * 2 ^ pl x :=
  Nat.lt_trans (mid_lt h) (mid_gt (Nat.le_refl x))

/-- two rungs that stand above the same midpoints are one -/
theorem rung_ext {a b : Nat} (ha : a ≤ 9218868437227405312) (hb : b ≤ 9218868437227405312) (h : ∀ r, r < 9218868437227405312 → (r < a ↔ r < b)) : a = b := by
  rcases Nat.lt_trichotomy a b with h1 | h1 | h1
  · have := (h a (by omega)).2 h1; omega
  · exact h1
  · have := (h b (by omega)).1 h1; omega

/-- words, read -/
theorem read_pos (r : Nat) (h : r < 9218868437227405312) : double.read r = .number false (sg r) ((pl r : Int) - 1074) := by
  unfold Format.read
  rw [d_inf, d_bin, d_sgn, d_lst]
  have e1 : r / 9223372036854775808 = 0 := by omega
  have e2 : r % 9223372036854775808 = r := by omega
  simp only [e1, e2]
  unfold sg pl
  by_cases c : r < 4503599627370496
  · simp only [if_pos c]
    congr 1; omega
  · simp only [if_neg c, if_pos h]
    congr 1

theorem read_neg (r : Nat) (h : r < 9218868437227405312) : double.read (9223372036854775808 + r) = .number true (sg r) ((pl r : Int) - 1074) := by
  unfold Format.read
  rw [d_inf, d_bin, d_sgn, d_lst]
  have e1 : (9223372036854775808 + r) / 9223372036854775808 % 2 = 1 := by omega
  have e2 : (9223372036854775808 + r) % 9223372036854775808 = r := by omega
  simp only [e1, e2]
  unfold sg pl
  by_cases c : r < 4503599627370496
  · simp only [if_pos c]
    congr 1; omega
  · simp only [if_neg c, if_pos h]
    congr 1

/-- the order of two numbers that are not below 0 is that of their rungs -/
theorem order_pos (a b : Nat) (ha : a < 9218868437227405312) (hb : b < 9218868437227405312) : double.order a b = some (compare a b) := by
  unfold Format.order
  rw [read_pos a ha, read_pos b hb]
  simp only [Datum.order, signed, Nat.shiftLeft_eq]
  obtain ⟨t, ht⟩ : ∃ t : Nat, min ((pl a : Int) - 1074) ((pl b : Int) - 1074) = (t : Int) - 1074 := ⟨min (pl a) (pl b), by omega⟩
  rw [ht]
  have e1 : ((pl a : Int) - 1074 - ((t : Int) - 1074)).toNat = pl a - t := by omega
  have e2 : ((pl b : Int) - 1074 - ((t : Int) - 1074)).toNat = pl b - t := by omega
  rw [e1, e2]
  have ha1 : vv a = sg a * 2 ^ (pl a - t) * 2 ^ t := by unfold vv; rw [Nat.mul_assoc, ← Nat.pow_add]; congr 2; omega
  have hb1 : vv b = sg b * 2 ^ (pl b - t) * 2 ^ t := by unfold vv; rw [Nat.mul_assoc, ← Nat.pow_add]; congr 2; omega
  have hp : 0 < 2 ^ t := Nat.two_pow_pos _
  generalize sg a * 2 ^ (pl a - t) = x at *
  generalize sg b * 2 ^ (pl b - t) = y at *
  simp only [Bool.false_eq_true, if_false]
  congr 1
  rcases Nat.lt_trichotomy a b with h | h | h
  · have h1 := vv_lt h
    rw [ha1, hb1] at h1
    have h2 := Nat.lt_of_mul_lt_mul_right h1
    rw [Nat.compare_eq_lt.2 h]
    exact Int.compare_eq_lt.2 (by omega)
  · subst h
    have h2 : x = y := by
      rw [ha1] at hb1
      exact Nat.eq_of_mul_eq_mul_right hp hb1
    subst h2
    rw [Nat.compare_eq_eq.2 rfl]
    exact Int.compare_eq_eq.2 rfl
  · have h1 := vv_lt h
    rw [ha1, hb1] at h1
    have h2 := Nat.lt_of_mul_lt_mul_right h1
    rw [Nat.compare_eq_gt.2 h]
    exact Int.compare_eq_gt.2 (by omega)
end Go.Proofs.Ytlcppkcclolgcaa.FL

namespace Go.Proofs.Ytlcppkcclolgcaa.FL
open Ieee

theorem rung_zero (e : Int) : rung 0 e = 0 := by unfold rung; rw [if_pos rfl]

/-- a value above every midpoint that the other stands above, and so on: the cut at a rung's own value -/
theorem cut_self {r x : Nat} : ((2 * sg r + 1) * 2 ^ pl r < 2 * vv x ∨ ((2 * sg r + 1) * 2 ^ pl r = 2 * vv x ∧ r % 2 = 1)) ↔ r < x := by
  rcases Nat.lt_or_ge r x with h | h
  · exact ⟨fun _ => h, fun _ => .inl (mid_lt h)⟩
  · have := mid_gt h; omega

/-- 2 ^ 1074 -/
def ofs : Nat := 1074
theorem ofs_eq : ofs = 1074 := rfl
def big : Nat := 2 ^ ofs
theorem big_pos : 0 < big := Nat.two_pow_pos ofs

/-- r lies below the number nearest to a / b -/
def CutQ (r a b : Nat) : Prop := (2 * sg r + 1) * 2 ^ pl r * b < 2 * (a * big) ∨ ((2 * sg r + 1) * 2 ^ pl r * b = 2 * (a * big) ∧ r % 2 = 1)

/-- the quotient, with a last digit that is 1 where anything is left over, is rounded as the quotient itself is -/
theorem sticky (c n q rem A B u : Nat) (hrem : rem < n) (hq : 0 < rem → 9007199254740992 ≤ q) (hc : c < 18014398509481984) :
    (c * 2 ^ A < (2 * q + (rem != 0).toNat) * 2 ^ B ↔ c * 2 ^ A * n < 2 * (n * q + rem) * 2 ^ B) ∧
    ((c * 2 ^ A = (2 * q + (rem != 0).toNat) * 2 ^ B ∧ u = 1) ↔ (c * 2 ^ A * n = 2 * (n * q + rem) * 2 ^ B ∧ u = 1)) := by
  have hn : 0 < n := by omega
  have hB : 0 < 2 ^ B := Nat.two_pow_pos _
  by_cases h0 : rem = 0
  · subst h0
    have e : 2 * (n * q + 0) * 2 ^ B = (2 * q + ((0 : Nat) != 0).toNat) * 2 ^ B * n := by
      simp only [bne_self_eq_false, Bool.toNat_false, Nat.add_zero]
      simp only [Nat.mul_assoc, Nat.mul_comm]
    rw [e]
    exact ⟨(Nat.mul_lt_mul_right hn).symm, by rw [Nat.mul_left_inj (Nat.ne_of_gt hn)]⟩
  · have hb : (rem != 0).toNat = 1 := by simp [h0]
    rw [hb]
    have hq' := hq (by omega)
    rcases Nat.lt_or_ge B A with h | h
    · obtain ⟨d, rfl⟩ : ∃ d, A = B + 1 + d := ⟨A - (B + 1), by omega⟩
      have e : c * 2 ^ (B + 1 + d) = 2 * (c * 2 ^ d) * 2 ^ B := by
        rw [show B + 1 + d = 1 + d + B by omega, Nat.pow_add, Nat.pow_add]
        simp only [Nat.pow_one, ← Nat.mul_assoc]
        rw [Nat.mul_comm c 2]
      rw [e]
      generalize c * 2 ^ d = x
      have e2 : 2 * x * 2 ^ B * n = 2 * (n * x) * 2 ^ B := by
        rw [Nat.mul_right_comm, Nat.mul_assoc 2 x n, Nat.mul_comm x n]
      rw [e2, Nat.mul_lt_mul_right hB, Nat.mul_lt_mul_right hB, Nat.mul_left_inj (Nat.ne_of_gt hB), Nat.mul_left_inj (Nat.ne_of_gt hB)]
      rcases Nat.lt_or_ge q x with hx | hx
      · have h1 : n * (q + 1) ≤ n * x := Nat.mul_le_mul_left n hx
        rw [Nat.mul_add, Nat.mul_one] at h1
        omega
      · have h1 : n * x ≤ n * q := Nat.mul_le_mul_left n hx
        omega
    · -- c * 2 ^ A lies far below
      have h1 : 2 ^ A ≤ 2 ^ B := Nat.pow_le_pow_right (by omega) h
      have h2 : c * 2 ^ A ≤ 18014398509481983 * 2 ^ B := Nat.mul_le_mul (by omega) h1
      have h3 : 18014398509481984 * 2 ^ B ≤ 2 * q * 2 ^ B := Nat.mul_le_mul_right _ (by omega)
      have h4 : c * 2 ^ A < 2 * q * 2 ^ B := by omega
      have h5 : c * 2 ^ A < (2 * q + 1) * 2 ^ B := by rw [Nat.add_mul]; omega
      have h6 : c * 2 ^ A * n < 2 * (n * q + rem) * 2 ^ B := by
        have := Nat.mul_lt_mul_of_pos_right h4 hn
        have e : 2 * q * 2 ^ B * n = 2 * (n * q) * 2 ^ B := by
          rw [Nat.mul_right_comm, Nat.mul_assoc 2 q n, Nat.mul_comm q n]
        rw [e] at this
        have h7 : 2 * (n * q) * 2 ^ B ≤ 2 * (n * q + rem) * 2 ^ B := Nat.mul_le_mul_right _ (by omega)
        omega
      constructor
      · exact ⟨fun _ => h6, fun _ => h5⟩
      · constructor <;> intro hh <;> omega

/-- the quotient of two numbers not below 0 -/
def quo (a b : Nat) : Nat :=
  rung (2 * ((sg a <<< (54 + (sg b).log2 - (sg a).log2)) / sg b) + ((sg a <<< (54 + (sg b).log2 - (sg a).log2)) % sg b != 0).toNat)
    ((pl a : Int) - 1074 - ((pl b : Int) - 1074) - (54 + (sg b).log2 - (sg a).log2 : Nat) - 1)

theorem sg_pos {r : Nat} (h : 0 < r) : 0 < sg r := by unfold sg; split <;> omega

theorem div_pos (a b : Nat) (ha : a < 9218868437227405312) (hb : b < 9218868437227405312) (h0 : 0 < b) : double.div a b = some (quo a b) := by
  unfold Format.div
  rw [read_pos a ha, read_pos b hb]
  have := sg_pos h0
  simp only [Datum.quotient, if_neg (show ¬ sg b = 0 by omega), Option.map_some, Format.write, d_frc, Bool.xor_false, nearest_rung, Bool.false_eq_true, if_false, Nat.reduceAdd]
  unfold quo
  with_reducible rfl

theorem quo_cut (a b r : Nat) (h0 : 0 < b) (hr : r < 9218868437227405312) : r < quo a b ↔ CutQ r (vv a) (vv b) := by
  unfold quo CutQ
  have hb := sg_pos h0
  by_cases ha : sg a = 0
  · have h1 : vv a = 0 := by unfold vv; rw [ha, Nat.zero_mul]
    have h2 : rung (2 * ((sg a <<< (54 + (sg b).log2 - (sg a).log2)) / sg b) + ((sg a <<< (54 + (sg b).log2 - (sg a).log2)) % sg b != 0).toNat)
        ((pl a : Int) - 1074 - ((pl b : Int) - 1074) - (54 + (sg b).log2 - (sg a).log2 : Nat) - 1) = 0 := by
      rw [ha, Nat.shiftLeft_eq, Nat.zero_mul, Nat.zero_div, Nat.zero_mod]; exact rung_zero _
    rw [h2, h1, Nat.zero_mul]
    have h3 : 0 < (2 * sg r + 1) * 2 ^ pl r * vv b := Nat.mul_pos (Nat.mul_pos (by omega) (Nat.two_pow_pos _)) (Nat.mul_pos hb (Nat.two_pow_pos _))
    omega
  · have hla : (sg a).log2 ≤ 53 := by
      have h1 := sg_lt a
      have h2 : (sg a).log2 < 53 := (Nat.log2_lt ha).2 (by omega)
      omega
    obtain ⟨more, hmore⟩ : ∃ more, 54 + (sg b).log2 - (sg a).log2 = more := ⟨_, rfl⟩
    have hm1 : (sg a).log2 + more = 54 + (sg b).log2 := by omega
    rw [hmore, Nat.shiftLeft_eq]
    rw [rung_cut _ _ (pl b + more + 1) r (by omega) hr]
    rw [show (((pl a : Int) - 1074 - ((pl b : Int) - 1074) - (more : Nat) - 1) + 1074 + (pl b + more + 1 : Nat)).toNat = pl a + ofs by rw [ofs_eq]; omega]
    have hdm := Nat.div_add_mod (sg a * 2 ^ more) (sg b)
    have hrem := Nat.mod_lt (sg a * 2 ^ more) hb
    have hqq : 9007199254740992 ≤ sg a * 2 ^ more / sg b := by
      rw [Nat.le_div_iff_mul_le hb]
      have h1 : 2 ^ (sg a).log2 * 2 ^ more ≤ sg a * 2 ^ more := Nat.mul_le_mul_right _ (Nat.log2_self_le ha)
      have h2 : sg b < 2 ^ ((sg b).log2 + 1) := Nat.lt_log2_self
      rw [← Nat.pow_add, hm1, show 54 + (sg b).log2 = 53 + ((sg b).log2 + 1) by omega, Nat.pow_add 2 53] at h1
      omega
    generalize sg a * 2 ^ more / sg b = q at *
    generalize sg a * 2 ^ more % sg b = rem at *
    have st := sticky (2 * sg r + 1) (sg b) q rem (pl r + (pl b + more + 1)) (pl a + ofs + 1) (r % 2) hrem (fun _ => hqq) (by have := sg_lt r; omega)
    have e1 : 2 * ((2 * q + (rem != 0).toNat) * 2 ^ (pl a + ofs)) = (2 * q + (rem != 0).toNat) * 2 ^ (pl a + ofs + 1) := by
      rw [Nat.pow_succ]
      simp only [Nat.mul_comm, Nat.mul_left_comm]
    rw [e1, st.1, st.2, hdm]
    have hp : 0 < 2 ^ (more + 1) := Nat.two_pow_pos _
    have e2 : (2 * sg r + 1) * 2 ^ (pl r + (pl b + more + 1)) * sg b = (2 * sg r + 1) * 2 ^ pl r * vv b * 2 ^ (more + 1) := by
      unfold vv
      rw [show pl r + (pl b + more + 1) = pl r + (pl b + (more + 1)) by omega, Nat.pow_add, Nat.pow_add 2 (pl b)]
      simp only [Nat.mul_assoc, Nat.mul_comm, Nat.mul_left_comm]
    have e3 : 2 * (sg a * 2 ^ more) * 2 ^ (pl a + ofs + 1) = 2 * (vv a * big) * 2 ^ (more + 1) := by
      unfold vv big
      rw [show pl a + ofs + 1 = pl a + (ofs + 1) by omega, Nat.pow_add, Nat.pow_add 2 ofs 1, Nat.pow_add 2 more]
      simp only [Nat.mul_assoc, Nat.mul_comm, Nat.mul_left_comm]
    rw [e2, e3, Nat.mul_lt_mul_right hp, Nat.mul_left_inj (Nat.ne_of_gt hp)]

/-- the rung of the number nearest to n -/
def rn (n : Nat) : Nat := rung n 0

theorem rn_cut (n r : Nat) (hr : r < 9218868437227405312) : r < rn n ↔ ((2 * sg r + 1) * 2 ^ pl r < 2 * (n * big) ∨ ((2 * sg r + 1) * 2 ^ pl r = 2 * (n * big) ∧ r % 2 = 1)) := by
  unfold rn
  rw [rung_cut n 0 0 r (by omega) hr, show ((0 : Int) + 1074 + (0 : Nat)).toNat = ofs by rw [ofs_eq]; omega]
  rfl

theorem cut_mono {r D D' : Nat} (h : D ≤ D') (hc : (2 * sg r + 1) * 2 ^ pl r < 2 * D ∨ ((2 * sg r + 1) * 2 ^ pl r = 2 * D ∧ r % 2 = 1)) :
    (2 * sg r + 1) * 2 ^ pl r < 2 * D' ∨ ((2 * sg r + 1) * 2 ^ pl r = 2 * D' ∧ r % 2 = 1) := by
  omega

theorem rn_le_of (n m : Nat) (h : n ≤ m) : rn n ≤ rn m := by
  rcases Nat.lt_or_ge (rn m) (rn n) with h1 | h1
  · have hr : rn m < 9218868437227405312 := Nat.lt_of_lt_of_le h1 (rung_le n 0)
    have := (rn_cut m (rn m) hr).2 (cut_mono (Nat.mul_le_mul_right big h) ((rn_cut n (rn m) hr).1 h1))
    omega
  · exact h1

theorem rn_zero : rn 0 = 0 := rung_zero 0

/-- 2 ^ x as a rung -/
def pw (x : Nat) : Nat := (x + 1023) * 4503599627370496
theorem vv_pw (x : Nat) : vv (pw x) = 2 ^ x * big := by
  unfold vv pw
  have e1 : sg ((x + 1023) * 4503599627370496) = 4503599627370496 := by unfold sg; split <;> omega
  have e2 : pl ((x + 1023) * 4503599627370496) = x + 1022 := by unfold pl; omega
  unfold big
  rw [e1, e2, ← Nat.pow_add, show x + ofs = 52 + (x + 1022) by rw [ofs_eq]; omega, Nat.pow_add 2 52]

theorem rn_pow (x : Nat) (hx : x < 1000) : rn (2 ^ x) = pw x := by
  refine rung_ext (rung_le _ _) (by unfold pw; omega) fun r hr => ?_
  rw [rn_cut _ r hr, ← vv_pw, cut_self]

theorem rn_lt (n x : Nat) (hx : x < 1000) (h : n < 2 ^ x) : rn n < 9218868437227405312 := by
  have h1 := rn_le_of n (2 ^ x) (Nat.le_of_lt h)
  rw [rn_pow x hx] at h1
  unfold pw at h1
  omega

theorem rn_pos (n : Nat) (h : 0 < n) : 0 < rn n := by
  have h1 := rn_le_of 1 n h
  have h2 := rn_pow 0 (by omega)
  rw [Nat.pow_zero] at h2
  rw [h2] at h1
  unfold pw at h1
  omega

theorem quo_le (a b : Nat) : quo a b ≤ 9218868437227405312 := rung_le _ _

theorem quo_mono (a a' b : Nat) (h0 : 0 < b) (h : a ≤ a') : quo a b ≤ quo a' b := by
  rcases Nat.lt_or_ge (quo a' b) (quo a b) with h1 | h1
  · have hr : quo a' b < 9218868437227405312 := Nat.lt_of_lt_of_le h1 (quo_le a b)
    have h2 := (quo_cut a b _ h0 hr).1 h1
    have h3 : vv a * big ≤ vv a' * big := Nat.mul_le_mul_right _ (vv_le h)
    have := (quo_cut a' b _ h0 hr).2 (by unfold CutQ at *; omega)
    omega
  · exact h1

theorem vv_pos {b : Nat} (h : 0 < b) : 0 < vv b := by
  have := vv_lt h; omega

theorem quo_self (b : Nat) (h0 : 0 < b) : quo b b = 4607182418800017408 := by
  refine rung_ext (quo_le _ _) (by omega) fun r hr => ?_
  rw [quo_cut b b r h0 hr]
  have h := vv_pw 0
  have e : pw 0 = 4607182418800017408 := rfl
  rw [e, Nat.pow_zero, Nat.one_mul] at h
  unfold CutQ
  rw [← h]
  have hp := vv_pos h0
  rw [Nat.mul_comm (vv b), ← Nat.mul_assoc 2, Nat.mul_lt_mul_right hp, Nat.mul_left_inj (Nat.ne_of_gt hp)]
  exact cut_self

theorem quo_zero (b : Nat) (h0 : 0 < b) : quo 0 b = 0 := by
  rcases Nat.lt_or_ge 0 (quo 0 b) with h | h
  · have h1 := (quo_cut 0 b 0 h0 (by omega)).1 h
    unfold CutQ at h1
    rw [vv_zero, Nat.zero_mul] at h1
    have : 0 < (2 * sg 0 + 1) * 2 ^ pl 0 * vv b := Nat.mul_pos (Nat.mul_pos (by omega) (Nat.two_pow_pos _)) (vv_pos h0)
    omega
  · omega

/-- a quotient by a number up to 2 ^ 64 of one that is not 0 is not 0 -/
theorem quo_pos (a b x : Nat) (ha : pw 0 ≤ a) (h0 : 0 < b) (hb : b ≤ pw x) (hx : x < 1000) : 0 < quo a b := by
  refine (quo_cut a b 0 h0 (by omega)).2 ?_
  unfold CutQ
  left
  have h1 := vv_le ha
  have h2 := vv_le hb
  rw [vv_pw] at h1 h2
  rw [Nat.pow_zero, Nat.one_mul] at h1
  have e : (2 * sg 0 + 1) * 2 ^ pl 0 = 1 := by decide
  rw [e, Nat.one_mul]
  have h3 : 2 ^ x * big < big * big := by
    refine Nat.mul_lt_mul_of_pos_right ?_ big_pos
    unfold big
    exact Nat.pow_lt_pow_right (by omega) (by rw [ofs_eq]; omega)
  have h4 : big * big ≤ vv a * big := Nat.mul_le_mul_right _ h1
  omega

/-- quo_cut at any mantissas that stand for the two numbers -/
theorem sticky_rung (a b m n s q rem : Nat) (i j : Int) (hi : -1074 ≤ i) (hj : -1074 ≤ j) (hva : vv a = m * 2 ^ (i + 1074).toNat) (hvb : vv b = n * 2 ^ (j + 1074).toNat)
    (h : n * q + rem = m * 2 ^ s) (hrem : rem < n) (hq : 0 < rem → 9007199254740992 ≤ q) (r : Nat) (hr : r < 9218868437227405312) :
    r < rung (2 * q + (rem != 0).toNat) (i - j - s - 1) ↔ CutQ r (vv a) (vv b) := by
  obtain ⟨u, hu⟩ : ∃ u : Nat, i = (u : Int) - 1074 := ⟨(i + 1074).toNat, by omega⟩
  obtain ⟨v, hv⟩ : ∃ v : Nat, j = (v : Int) - 1074 := ⟨(j + 1074).toNat, by omega⟩
  subst hu; subst hv
  rw [show ((u : Int) - 1074 + 1074).toNat = u by omega] at hva
  rw [show ((v : Int) - 1074 + 1074).toNat = v by omega] at hvb
  unfold CutQ
  rw [rung_cut _ _ (v + s + 1) r (by omega) hr]
  rw [show ((u : Int) - 1074 - ((v : Int) - 1074) - (s : Int) - 1 + 1074 + (v + s + 1 : Nat)).toNat = u + ofs by rw [ofs_eq]; omega]
  have st := sticky (2 * sg r + 1) n q rem (pl r + (v + s + 1)) (u + ofs + 1) (r % 2) hrem hq (by have := sg_lt r; omega)
  have e1 : 2 * ((2 * q + (rem != 0).toNat) * 2 ^ (u + ofs)) = (2 * q + (rem != 0).toNat) * 2 ^ (u + ofs + 1) := by
    rw [Nat.pow_succ]
    simp only [Nat.mul_comm, Nat.mul_left_comm]
  rw [e1, st.1, st.2, h]
  have hp : 0 < 2 ^ (s + 1) := Nat.two_pow_pos _
  have e2 : (2 * sg r + 1) * 2 ^ (pl r + (v + s + 1)) * n = (2 * sg r + 1) * 2 ^ pl r * vv b * 2 ^ (s + 1) := by
    rw [hvb, show pl r + (v + s + 1) = pl r + (v + (s + 1)) by omega, Nat.pow_add, Nat.pow_add 2 v]
    simp only [Nat.mul_assoc, Nat.mul_comm, Nat.mul_left_comm]
  have e3 : 2 * (m * 2 ^ s) * 2 ^ (u + ofs + 1) = 2 * (vv a * big) * 2 ^ (s + 1) := by
    rw [hva]
    unfold big
    rw [show u + ofs + 1 = u + (ofs + 1) by omega, Nat.pow_add, Nat.pow_add 2 ofs 1, Nat.pow_add 2 s]
    simp only [Nat.mul_assoc, Nat.mul_left_comm]
  rw [e2, e3, Nat.mul_lt_mul_right hp, Nat.mul_left_inj (Nat.ne_of_gt hp)]
end Go.Proofs.Ytlcppkcclolgcaa.FL

namespace Go.Proofs.Ytlcppkcclolgcaa.FL
open Ieee

theorem foi (p : Int) (h : 0 ≤ p) : floatOfInt .f64 p = rn p.toNat := by
  unfold floatOfInt FloatKind.nearest FloatKind.encode
  have e : FloatKind.format .f64 = double := rfl
  rw [e]
  unfold Format.write
  simp only
  rw [nearest_rung, if_neg (by simp; omega), show p.natAbs = p.toNat by omega]
  rfl

/-- the bits of a share -/
def shB (p w : Int) : Nat := quo (rn p.toNat) (rn w.toNat)

theorem share_bits (p w : Int) (hp : 0 ≤ p) (hp' : p < 18446744073709551616) (hw : 0 < w) (hw' : w < 18446744073709551616) :
    floatBits .quo .f64 (floatOfInt .f64 p) (floatOfInt .f64 w) = some (shB p w) := by
  rw [foi p hp, foi w (by omega)]
  unfold floatBits shB
  have e : FloatKind.format .f64 = double := rfl
  simp only
  rw [e]
  exact div_pos _ _ (rn_lt _ 64 (by omega) (by omega)) (rn_lt _ 64 (by omega) (by omega)) (rn_pos _ (by omega))

theorem ord (a b : Nat) (ha : a < 9218868437227405312) (hb : b < 9218868437227405312) : FloatKind.f64.format.order a b = some (compare a b) := order_pos a b ha hb

theorem shB_lt (p w : Int) (hw : 0 < w) (hpw : p ≤ w) (hw' : w < 18446744073709551616) : shB p w ≤ 4607182418800017408 := by
  unfold shB
  have h0 := rn_pos w.toNat (by omega)
  have h1 := quo_mono (rn p.toNat) (rn w.toNat) (rn w.toNat) h0 (rn_le_of _ _ (by omega))
  rw [quo_self _ h0] at h1
  exact h1

theorem shB_fin (p w : Int) (_hp : 0 ≤ p) (hp' : p < 18446744073709551616) (hw : 0 < w) : shB p w < 9218868437227405312 := by
  -- the quotient of a number below 2 ^ 64 by one that is at least 1
  unfold shB
  have h0 := rn_pos w.toNat (by omega)
  have h1 : rn p.toNat ≤ pw 64 := by
    have := rn_le_of p.toNat (2 ^ 64) (by omega)
    rw [rn_pow 64 (by omega)] at this; exact this
  have h2 : pw 0 ≤ rn w.toNat := by
    have := rn_le_of (2 ^ 0) w.toNat (by omega)
    rw [rn_pow 0 (by omega)] at this; exact this
  rcases Nat.lt_or_ge (pw 64) (quo (rn p.toNat) (rn w.toNat)) with h | h
  · have h3 := (quo_cut _ _ (pw 64) h0 (by unfold pw; omega)).1 h
    unfold CutQ at h3
    have h4 := vv_le h1
    have h5 := vv_le h2
    have h6 := mid_gt (Nat.le_refl (pw 64))
    have e0 : vv (pw 0) = big := by rw [vv_pw, Nat.pow_zero, Nat.one_mul]
    rw [e0] at h5
    have h7 : 2 * vv (pw 64) * big < (2 * sg (pw 64) + 1) * 2 ^ pl (pw 64) * vv (rn w.toNat) :=
      Nat.lt_of_lt_of_le (Nat.mul_lt_mul_of_pos_right h6 big_pos) (Nat.mul_le_mul_left _ h5)
    have h8 : vv (rn p.toNat) * big ≤ vv (pw 64) * big := Nat.mul_le_mul_right _ h4
    rw [Nat.mul_assoc] at h7
    omega
  · have : pw 64 < 9218868437227405312 := by unfold pw; omega
    omega

/-- the tests of GaugeWhole, in the walk's own form -/
theorem not_below (p w : Int) (hp : 0 ≤ p) (hp' : p < 18446744073709551616) (hw : 0 < w) : (FloatKind.f64.format.order (shB p w) 0 == some .lt) = false := by
  rw [ord _ _ (shB_fin p w hp hp' hw) (by omega)]
  rcases Nat.eq_zero_or_pos (shB p w) with h | h
  · rw [h]; decide
  · rw [Nat.compare_eq_gt.2 h]; decide

theorem not_above (p w : Int) (hp : 0 ≤ p) (hw : 0 < w) (hw' : w < 18446744073709551616) (h : p ≤ w) : (FloatKind.f64.format.order (shB p w) 4607182418800017408 == some .gt) = false := by
  rw [ord _ _ (shB_fin p w hp (by omega) hw) (by omega)]
  have h1 := shB_lt p w hw h hw'
  rcases Nat.lt_or_ge (shB p w) 4607182418800017408 with h2 | h2
  · rw [Nat.compare_eq_lt.2 h2]; decide
  · rw [Nat.compare_eq_eq.2 (by omega)]; decide

theorem not_less (p q w : Int) (hp : 0 ≤ p) (hq' : q < 18446744073709551616) (hw : 0 < w) (h : p ≤ q) : (FloatKind.f64.format.order (shB q w) (shB p w) == some .lt) = false := by
  rw [ord _ _ (shB_fin q w (by omega) hq' hw) (shB_fin p w hp (by omega) hw)]
  have h1 : shB p w ≤ shB q w := quo_mono _ _ _ (rn_pos _ (by omega)) (rn_le_of _ _ (by omega))
  rcases Nat.lt_or_ge (shB p w) (shB q w) with h2 | h2
  · rw [Nat.compare_eq_gt.2 h2]; decide
  · rw [Nat.compare_eq_eq.2 (by omega)]; decide

theorem zero_of (w : Int) (hw : 0 < w) : (FloatKind.f64.format.order (shB 0 w) 0 == some .eq) = true := by
  have e : shB 0 w = 0 := by
    unfold shB
    have : rn (0 : Int).toNat = 0 := rn_zero
    rw [this, quo_zero _ (rn_pos _ (by omega))]
  rw [e]; decide +kernel

theorem nonzero_of (p w : Int) (hp : 0 < p) (hp' : p < 18446744073709551616) (hw : 0 < w) (hw' : w < 18446744073709551616) : (FloatKind.f64.format.order (shB p w) 0 == some .eq) = false := by
  rw [ord _ _ (shB_fin p w (by omega) hp' hw) (by omega)]
  have h : 0 < shB p w := by
    unfold shB
    have h1 : pw 0 ≤ rn p.toNat := by
      have := rn_le_of (2 ^ 0) p.toNat (by omega)
      rw [rn_pow 0 (by omega)] at this; exact this
    have h2 : rn w.toNat ≤ pw 64 := by
      have := rn_le_of w.toNat (2 ^ 64) (by omega)
      rw [rn_pow 64 (by omega)] at this; exact this
    exact quo_pos _ _ 64 h1 (rn_pos _ (by omega)) h2 (by omega)
  rw [Nat.compare_eq_gt.2 h]; decide

theorem one_of (w : Int) (hw : 0 < w) : (FloatKind.f64.format.order (shB w w) 4607182418800017408 == some .eq) = true := by
  have e : shB w w = 4607182418800017408 := quo_self _ (rn_pos _ (by omega))
  rw [e]; decide +kernel

theorem eighth : (FloatKind.f64.format.order (shB 1 8) 4593671619917905920 != some .eq) = false := by decide +kernel
end Go.Proofs.Ytlcppkcclolgcaa.FL

namespace Go.Proofs.Ytlcppkcclolgcaa.Pk
set_option linter.unusedVariables false
open Go.RowKit FL
theorem share_ok (p w : Int) (hp : 0 ≤ p) (hp' : p < 18446744073709551616) (hw : 0 < w) (hw' : w < 18446744073709551616) (wd : World) :
    Calls Try.prog 38 #[.int .u64 p, .int .u64 w] wd fun e w' => e = .returned (.tuple #[.float .f64 (shB p w), .int .i64 0]) ∧ wd = w' := by
  have hop : ∀ t w1, (binOp .quo t (.float .f64 (floatOfInt .f64 p)) (.float .f64 (floatOfInt .f64 w))).run Try.prog w1 = .ok (.float .f64 (shB p w)) w1 :=
    fun t w1 => run_float_arith w1 .quo t .f64 _ _ _ (share_bits p w hp hp' hw hw')
  have hz : (w == 0) = false := by simp; omega
  go_enter Try.func38, Try.ntmps38
  go_wp2_with (simp only [hop])
  go_ret2
  exact ⟨rfl, rfl⟩
theorem packShare_any (a b : Int) (ha : 0 < a ∧ a ≤ 9223372036854775807) (hb : 0 ≤ b ∧ b ≤ 9223372036854775807) (wd : World) :
    Calls Try.prog 22 #[.int .i64 a, .int .i64 b] wd fun e w' => e = .returned (.tuple #[.float .f64 (shB b a), .int .i64 0]) ∧ wd = w' := by
  have e1 : IntKind.u64.wrap b = b := by rw [IntKind.wrap_u64]; omega
  have e2 : IntKind.u64.wrap a = a := by rw [IntKind.wrap_u64]; omega
  have C := Lib.hid (share_ok b a (by omega) (by omega) (by omega) (by omega) wd)
  have h1 : ¬ a < 0 := by omega
  have h2 : ¬ b < 0 := by omega
  go_enter Try.func22, Try.ntmps22
  go_wp2_with fail
  refine C.out.mono ?_; rintro e w' ⟨rfl, rfl⟩
  go_wp2_with fail
  go_ret2
  exact ⟨rfl, rfl⟩
theorem share_eq (p w : Int) (hp : 0 ≤ p) (hp' : p < 18446744073709551616) (hw : 0 < w) : (FloatKind.f64.format.order (shB p w) (shB p w) == some .eq) = true := by
  rw [ord _ _ (shB_fin p w hp hp' hw) (shB_fin p w hp hp' hw)]
  simp
end Go.Proofs.Ytlcppkcclolgcaa.Pk

namespace Go.Proofs.Ytlcppkcclolgcaa.Pk
set_option maxRecDepth 20000
set_option linter.unusedVariables false
set_option linter.unusedSimpArgs false
open Go.RowKit

/-- the four bytes from place i on -/
def win (S : List Nat) (i : Nat) : List Nat := [S.getD i 0, S.getD (i + 1) 0, S.getD (i + 2) 0, S.getD (i + 3) 0]
theorem getD_nb (m : ByteArray) (j : Nat) (h : j < m.size) : (nb m).getD j 0 = (m[j]'h).toNat := by
  simp [nb, List.getD_eq_getElem?_getD, h]
  rfl
theorem info4 : (Try.prog.info? 124).map (·.size) = some 4 := by kernel_rfl
set_option maxRecDepth 100000 in
set_option maxHeartbeats 2000000 in
theorem four_any (s : ByteArray) (i : Nat) (hi : i + 4 ≤ s.size) (hs : s.size ≤ 140737488351232) (w : World) : Calls Try.prog 53 #[.string s, .int .i64 (i : Int)] w fun e w' => e = .returned (.agg (cw .u8 (win (nb s) i))) ∧ Below w.heap.size w w' := by
  have h0 : (0 : Int) ≤ i := by omega
  have h1 : (i : Int) < s.size := by omega
  have h2 : (i : Int) + 1 < s.size := by omega
  have h3 : (i : Int) + 2 < s.size := by omega
  have h4 : (i : Int) + 3 < s.size := by omega
  have w1 : wrap64 ((i : Int) + 1) = (i : Int) + 1 := by unfold wrap64; omega
  have w2 : wrap64 ((i : Int) + 2) = (i : Int) + 2 := by unfold wrap64; omega
  have w3 : wrap64 ((i : Int) + 3) = (i : Int) + 3 := by unfold wrap64; omega
  have b0 : (s[i]'(by omega)).toNat = (nb s).getD i 0 := (getD_nb s i (by omega)).symm
  have b1 : (s[i + 1]'(by omega)).toNat = (nb s).getD (i + 1) 0 := (getD_nb s (i + 1) (by omega)).symm
  have b2 : (s[i + 2]'(by omega)).toNat = (nb s).getD (i + 2) 0 := (getD_nb s (i + 2) (by omega)).symm
  have b3 : (s[i + 3]'(by omega)).toNat = (nb s).getD (i + 3) 0 := (getD_nb s (i + 3) (by omega)).symm
  have e0 : (i : Int).toNat = i := by omega
  have e1 : ((i : Int) + 1).toNat = i + 1 := by omega
  have e2 : ((i : Int) + 2).toNat = i + 2 := by omega
  have e3 : ((i : Int) + 3).toNat = i + 3 := by omega
  have wI1 : IntKind.i64.wrap ((i : Int) + 1) = (i : Int) + 1 := by simp [IntKind.wrap, IntKind.bits, IntKind.signed]; omega
  have wI2 : IntKind.i64.wrap ((i : Int) + 2) = (i : Int) + 2 := by simp [IntKind.wrap, IntKind.bits, IntKind.signed]; omega
  have wI3 : IntKind.i64.wrap ((i : Int) + 3) = (i : Int) + 3 := by simp [IntKind.wrap, IntKind.bits, IntKind.signed]; omega
  have g1 : (0 : Int) ≤ (i : Int) + 1 := by omega
  have g2 : (0 : Int) ≤ (i : Int) + 2 := by omega
  have g3 : (0 : Int) ≤ (i : Int) + 3 := by omega
  obtain ⟨x0, hx0⟩ : ∃ x, x = (nb s).getD i 0 := ⟨_, rfl⟩
  obtain ⟨x1, hx1⟩ : ∃ x, x = (nb s).getD (i + 1) 0 := ⟨_, rfl⟩
  obtain ⟨x2, hx2⟩ : ∃ x, x = (nb s).getD (i + 2) 0 := ⟨_, rfl⟩
  obtain ⟨x3, hx3⟩ : ∃ x, x = (nb s).getD (i + 3) 0 := ⟨_, rfl⟩
  have hwin : win (nb s) i = [x0, x1, x2, x3] := by rw [win, hx0, hx1, hx2, hx3]
  rw [← hx0] at b0
  rw [← hx1] at b1
  rw [← hx2] at b2
  rw [← hx3] at b3
  rw [hwin]
  clear hx0 hx1 hx2 hx3 hwin
  go_enter Try.func53, Try.ntmps53
  go_wp2_with fail
  refine wp_region_any (by kernel_rfl) ?_
  change wpAny _ _ _ _ _ _ _ (World.drew _)
  refine wpAny_take (i := 0) (oi := _) (v := (.string s)) rfl (by kernel_rfl) (by kernel_rfl) (by kernel_rfl) (fun _ _ _ h => h) (Or.inl ⟨by rfl, fun w' => by go_simp⟩) ?_
  try simp only [Act.put, List.getElem_toArray, List.getElem_cons_succ, List.getElem_cons_zero, List.setIfInBounds_toArray, List.set_cons_zero, List.set_cons_succ]
  refine wpAny_take (i := 1) (oi := _) (v := (.int .i64 (i : Int))) rfl (by kernel_rfl) (by kernel_rfl) (by kernel_rfl) (fun _ _ _ h => h) (Or.inl ⟨by rfl, fun w' => by go_simp⟩) ?_
  try simp only [Act.put, List.getElem_toArray, List.getElem_cons_succ, List.getElem_cons_zero, List.setIfInBounds_toArray, List.set_cons_zero, List.set_cons_succ]
  refine wpAny_take (i := 2) (oi := _) (v := (.int .u8 (x0 : Int))) rfl (by kernel_rfl) (by kernel_rfl) (by kernel_rfl) (fun _ _ _ h => h) (Or.inl ⟨by rfl, fun w' => by go_simp⟩) ?_
  try simp only [Act.put, List.getElem_toArray, List.getElem_cons_succ, List.getElem_cons_zero, List.setIfInBounds_toArray, List.set_cons_zero, List.set_cons_succ]
  refine wpAny_take (i := 3) (oi := _) (v := (.string s)) rfl (by kernel_rfl) (by kernel_rfl) (by kernel_rfl) (fun _ _ _ h => h) (Or.inl ⟨by rfl, fun w' => by go_simp⟩) ?_
  try simp only [Act.put, List.getElem_toArray, List.getElem_cons_succ, List.getElem_cons_zero, List.setIfInBounds_toArray, List.set_cons_zero, List.set_cons_succ]
  refine wpAny_take (i := 4) (oi := _) (v := (.int .i64 (i : Int))) rfl (by kernel_rfl) (by kernel_rfl) (by kernel_rfl) (fun _ _ _ h => h) (Or.inl ⟨by rfl, fun w' => by go_simp⟩) ?_
  try simp only [Act.put, List.getElem_toArray, List.getElem_cons_succ, List.getElem_cons_zero, List.setIfInBounds_toArray, List.set_cons_zero, List.set_cons_succ]
  refine wpAny_take (i := 5) (oi := _) (v := (.int .i64 ((i : Int) + 1))) rfl (by kernel_rfl) (by kernel_rfl) (by kernel_rfl) (fun _ _ _ h => h) (Or.inl ⟨by rfl, fun w' => by go_simp⟩) ?_
  try simp only [Act.put, List.getElem_toArray, List.getElem_cons_succ, List.getElem_cons_zero, List.setIfInBounds_toArray, List.set_cons_zero, List.set_cons_succ]
  refine wpAny_take (i := 6) (oi := _) (v := (.int .u8 (x1 : Int))) rfl (by kernel_rfl) (by kernel_rfl) (by kernel_rfl) (fun _ _ _ h => h) (Or.inl ⟨by rfl, fun w' => by go_simp⟩) ?_
  try simp only [Act.put, List.getElem_toArray, List.getElem_cons_succ, List.getElem_cons_zero, List.setIfInBounds_toArray, List.set_cons_zero, List.set_cons_succ]
  refine wpAny_take (i := 7) (oi := _) (v := (.string s)) rfl (by kernel_rfl) (by kernel_rfl) (by kernel_rfl) (fun _ _ _ h => h) (Or.inl ⟨by rfl, fun w' => by go_simp⟩) ?_
  try simp only [Act.put, List.getElem_toArray, List.getElem_cons_succ, List.getElem_cons_zero, List.setIfInBounds_toArray, List.set_cons_zero, List.set_cons_succ]
  refine wpAny_take (i := 8) (oi := _) (v := (.int .i64 (i : Int))) rfl (by kernel_rfl) (by kernel_rfl) (by kernel_rfl) (fun _ _ _ h => h) (Or.inl ⟨by rfl, fun w' => by go_simp⟩) ?_
  try simp only [Act.put, List.getElem_toArray, List.getElem_cons_succ, List.getElem_cons_zero, List.setIfInBounds_toArray, List.set_cons_zero, List.set_cons_succ]
  refine wpAny_take (i := 9) (oi := _) (v := (.int .i64 ((i : Int) + 2))) rfl (by kernel_rfl) (by kernel_rfl) (by kernel_rfl) (fun _ _ _ h => h) (Or.inl ⟨by rfl, fun w' => by go_simp⟩) ?_
  try simp only [Act.put, List.getElem_toArray, List.getElem_cons_succ, List.getElem_cons_zero, List.setIfInBounds_toArray, List.set_cons_zero, List.set_cons_succ]
  refine wpAny_take (i := 10) (oi := _) (v := (.int .u8 (x2 : Int))) rfl (by kernel_rfl) (by kernel_rfl) (by kernel_rfl) (fun _ _ _ h => h) (Or.inl ⟨by rfl, fun w' => by go_simp⟩) ?_
  try simp only [Act.put, List.getElem_toArray, List.getElem_cons_succ, List.getElem_cons_zero, List.setIfInBounds_toArray, List.set_cons_zero, List.set_cons_succ]
  refine wpAny_take (i := 11) (oi := _) (v := (.string s)) rfl (by kernel_rfl) (by kernel_rfl) (by kernel_rfl) (fun _ _ _ h => h) (Or.inl ⟨by rfl, fun w' => by go_simp⟩) ?_
  try simp only [Act.put, List.getElem_toArray, List.getElem_cons_succ, List.getElem_cons_zero, List.setIfInBounds_toArray, List.set_cons_zero, List.set_cons_succ]
  refine wpAny_take (i := 12) (oi := _) (v := (.int .i64 (i : Int))) rfl (by kernel_rfl) (by kernel_rfl) (by kernel_rfl) (fun _ _ _ h => h) (Or.inl ⟨by rfl, fun w' => by go_simp⟩) ?_
  try simp only [Act.put, List.getElem_toArray, List.getElem_cons_succ, List.getElem_cons_zero, List.setIfInBounds_toArray, List.set_cons_zero, List.set_cons_succ]
  refine wpAny_take (i := 13) (oi := _) (v := (.int .i64 ((i : Int) + 3))) rfl (by kernel_rfl) (by kernel_rfl) (by kernel_rfl) (fun _ _ _ h => h) (Or.inl ⟨by rfl, fun w' => by go_simp⟩) ?_
  try simp only [Act.put, List.getElem_toArray, List.getElem_cons_succ, List.getElem_cons_zero, List.setIfInBounds_toArray, List.set_cons_zero, List.set_cons_succ]
  refine wpAny_take (i := 14) (oi := _) (v := (.int .u8 (x3 : Int))) rfl (by kernel_rfl) (by kernel_rfl) (by kernel_rfl) (fun _ _ _ h => h) (Or.inl ⟨by rfl, fun w' => by go_simp⟩) ?_
  try simp only [Act.put, List.getElem_toArray, List.getElem_cons_succ, List.getElem_cons_zero, List.setIfInBounds_toArray, List.set_cons_zero, List.set_cons_succ]
  refine wpAny_take (i := 15) (oi := _) (v := (.agg (cw .u8 [x0, x1, x2, x3]))) rfl (by kernel_rfl) (by kernel_rfl) (by kernel_rfl) (fun _ _ _ h => h) (Or.inl ⟨by rfl, fun w' => by (go_simp; rfl)⟩) ?_
  try simp only [Act.put, List.getElem_toArray, List.getElem_cons_succ, List.getElem_cons_zero, List.setIfInBounds_toArray, List.set_cons_zero, List.set_cons_succ]
  refine wpAny_ready (rs := [16]) (by kernel_rfl) (by simp) ?_
  refine AllReady.cons (o := _) rfl (fun K hK => ?_) AllReady.nil
  rw [if_pos (by rfl)]
  refine wp_store_row 124 _ _ rfl w.heap.size _ rfl rfl 124 (cw .u8 [0, 0, 0, 0]) ?_ ?_ ?_ ?_ ?_
  · exact heap_alloc_new _ _
  · exact info4
  · rfl
  · exact cw_one _ _
  · refine hK _ _ ?_
    clear hK K
    try simp only [Act.put, List.getElem_toArray, List.getElem_cons_succ, List.getElem_cons_zero, List.setIfInBounds_toArray, List.set_cons_zero, List.set_cons_succ]
    refine wpAny_done (by kernel_rfl) ?_ _
    have hrow : (((w.alloc (.cells (cw .u8 [0, 0, 0, 0]) 124)).drew).setRow w.heap.size (cw .u8 [x0, x1, x2, x3])).heap[w.heap.size]? = some (.cells (cw .u8 [x0, x1, x2, x3]) 124 (0, 0)) := setRow_heap _ _ _ _ _ _ (heap_alloc_new _ _)
    have hb : Below w.heap.size w (((w.alloc (.cells (cw .u8 [0, 0, 0, 0]) 124)).drew).setRow w.heap.size (cw .u8 [x0, x1, x2, x3])) := below_setRow ((Below.refl _ _).alloc (Nat.le_refl _) _).drew (Nat.le_refl _) _
    go_wp2_with fail
    exact bodyPost_ret (results_cell_row rfl _ _ w.heap.size 124 _ (0, 0) _ rfl hrow Try.underlying124 rfl info4) rfl ⟨rfl, hb⟩
end Go.Proofs.Ytlcppkcclolgcaa.Pk

namespace Go.Proofs.Ytlcppkcclolgcaa.Pk
set_option maxRecDepth 20000
set_option linter.unusedVariables false
set_option linter.unusedSimpArgs false
open Go.RowKit
open Go.Maps (Keyed IsMap)

theorem laidOutP : laidOutB Try.prog = true := by kernel_rfl
theorem keyed4 : Keyed Try.prog 124 := Keyed.of_law (deep_law_laid laidOutP (m := 5) (by decide) (of_decide_eq_true (by kernel_rfl)) (by kernel_rfl) (by kernel_rfl))

/-- how a row of four bytes reads as a key -/
def klit (ws : List Nat) : Lit := .string (keyBytes (ws.map fun (n : Nat) => Lit.int .u8 (n : Int)))
theorem keyOf4 (a b c d : Nat) (ha : a < 256) (hb : b < 256) (hc : c < 256) (hd : d < 256) : keyOf Try.prog 124 (.agg (cw .u8 [a, b, c, d])) = some (klit [a, b, c, d]) := by
  have h1 : Try.prog.keyType 124 = true := by kernel_rfl
  have h2 : Try.prog.cellsOf 124 = 4 := by kernel_rfl
  have h3 : Try.prog.cellsOf 5 = 1 := by kernel_rfl
  have hw : ∀ n : Nat, n < 256 → (Lit.int .u8 (n : Int)).wf = true := by
    intro n hn
    simp [Lit.wf, IntKind.min, IntKind.max, IntKind.signed, IntKind.bits]
    omega
  obtain ⟨m, hm⟩ : ∃ m, Try.prog.types.size + 1 = m + 2 := ⟨Try.prog.types.size - 1, by
    have : 1 ≤ Try.prog.types.size := of_decide_eq_true (by kernel_rfl)
    omega⟩
  have hk : Try.prog.keyLits (Try.prog.types.size + 1) 124 [.int .u8 (a : Int), .int .u8 (b : Int), .int .u8 (c : Int), .int .u8 (d : Int)] = some [.int .u8 (a : Int), .int .u8 (b : Int), .int .u8 (c : Int), .int .u8 (d : Int)] := by
    rw [hm]
    simp [Program.keyLits, Try.underlying124, Try.underlying5, h2, h3, hw _ ha, hw _ hb, hw _ hc, hw _ hd, List.range_succ]
  unfold keyOf
  rw [Try.underlying124]
  simp only [h1, Value.formed, Try.underlying124, h2, cw_size, Value.cells]
  have e : (cw .u8 [a, b, c, d]).toList = [.int .u8 (a : Int), .int .u8 (b : Int), .int .u8 (c : Int), .int .u8 (d : Int)] := rfl
  rw [e, hk]
  rfl

/-- four bytes -/
def Win (ws : List Nat) : Prop := ws.length = 4 ∧ Bytes ws
theorem win_is (s : ByteArray) (i : Nat) (h : i + 4 ≤ s.size) : Win (win (nb s) i) := by
  refine ⟨rfl, ?_⟩
  have hb : ∀ j, j < s.size → (nb s).getD j 0 < 256 := fun j hj => by
    rw [getD_nb s j hj]; exact UInt8.toNat_lt _
  intro x hx
  simp only [win, List.mem_cons, List.not_mem_nil, or_false] at hx
  rcases hx with rfl | rfl | rfl | rfl
  · exact hb _ (by omega)
  · exact hb _ (by omega)
  · exact hb _ (by omega)
  · exact hb _ (by omega)
theorem key_win {ws : List Nat} (h : Win ws) : keyOf Try.prog 124 (.agg (cw .u8 ws)) = some (klit ws) := by
  obtain ⟨hl, hb⟩ := h
  match ws, hl with
  | [a, b, c, d], _ => exact keyOf4 a b c d (hb a (by simp)) (hb b (by simp)) (hb c (by simp)) (hb d (by simp))
theorem cw_inj {k : IntKind} {xs ys : List Nat} (h : cw k xs = cw k ys) : xs = ys := by
  have h1 := congrArg Array.toList h
  simp only [cw] at h1
  exact (List.map_inj_right (fun a b hab => by injection hab with _ h2; omega)).1 h1
theorem klit_inj {ws vs : List Nat} (h : Win ws) (h' : Win vs) (e : klit ws = klit vs) : ws = vs := by
  have h1 := key_win h
  have h2 := key_win h'
  rw [← e] at h2
  have := keyed4.inj h1 h2
  injection this with h3
  exact cw_inj h3

/-- block b is a map of at most n entries that tells of four bytes what F tells -/
def LastMap (w : World) (b n : Nat) (F : List Nat → Option Nat) : Prop :=
  ∃ D : DataW Unit, w.ownsMap Try.prog 124 (plainElem Try.prog 3) b n D ∧ IsMap D ∧ ∀ ws, Win ws → D.atKey (klit ws) .nil = match F ws with | none => .nil | some c => .lit (.int .i64 (c : Int))
theorem LastMap.kept {w w' : World} {b n : Nat} {F : List Nat → Option Nat} {row : Option Nat} (h : LastMap w b n F) (hg : w.grownBy w' row) (hne : some b ≠ row) : LastMap w' b n F := by
  obtain ⟨D, h1, h2, h3⟩ := h
  exact ⟨D, h1.kept hg hne, h2, h3⟩
theorem LastMap.lt {w : World} {b n : Nat} {F : List Nat → Option Nat} (h : LastMap w b n F) : b < w.heap.size := by
  obtain ⟨D, h1, _⟩ := h
  exact h1.lt
theorem LastMap.made (w : World) : LastMap (w.alloc (.map #[] 0)) w.heap.size 0 (fun _ => none) :=
  ⟨.map [], World.ownsMap_made w _ _ _, Go.Maps.isMap_empty, fun _ _ => rfl⟩
theorem zero_int (w : World) : (zeroValue 3).run Try.prog w = .ok (.int .i64 0) w :=
  (zero_of_info (P := Try.prog) (t := 3) (v := .int .i64 0) (n := 1) (by kernel_rfl)).1 w
/-- 'c, ok := m[k]' -/
theorem LastMap.look {w : World} {b n : Nat} {F : List Nat → Option Nat} (h : LastMap w b n F) {ws : List Nat} (hw : Win ws) :
    (Instr.lookup 90 (.map (some b)) (.agg (cw .u8 ws)) true).run Try.prog w = .ok (.tuple #[.int .i64 (((F ws).getD 0 : Nat) : Int), .bool (F ws).isSome]) w := by
  obtain ⟨D, ⟨es, clock, hb, hF, hs, rfl⟩, hm, hat⟩ := h
  have h3 := hat ws hw
  rcases Go.Maps.fit_look true keyed4 Try.underlying90 (zero_int w) hb hF (key_win hw) with ⟨hrun, _, hz⟩ | ⟨e0, y, _, _, hrun, hR, hz, _⟩
  · rw [hz .nil] at h3
    cases hf : F ws with
    | none => rw [hrun]; rfl
    | some c => rw [hf] at h3; cases h3
  · rw [hz .nil] at h3
    obtain ⟨a, ha, hy, _⟩ := plainElem_int_inv Try.underlying3 hR
    cases hf : F ws with
    | none => rw [hf, hy] at h3; cases h3
    | some c =>
      rw [hf, hy] at h3
      have : a = (c : Int) := by
        injection h3 with h4
        injection h4
      rw [hrun, ha, this]
      rfl
/-- 'm[k] = c' -/
theorem LastMap.store {w : World} {b n : Nat} {F : List Nat → Option Nat} (h : LastMap w b n F) {ws : List Nat} (hw : Win ws) (c : Nat) (hc : c < 9223372036854775808) (hn : n < maxLen) :
    ∃ w', (Instr.mapUpdate 90 (.map (some b)) (.agg (cw .u8 ws)) (.int .i64 (c : Int))).run Try.prog w = .ok () w' ∧ LastMap w' b (n + 1) (fun x => if x = ws then some c else F x) ∧ w.grownBy w' (some b) := by
  obtain ⟨D, h1, h2, h3⟩ := h
  have hwf : (Lit.int .i64 (c : Int)).wf = true := by
    simp [Lit.wf, IntKind.min, IntKind.max, IntKind.signed, IntKind.bits]
    omega
  obtain ⟨w', hrun, hown, hg⟩ := h1.update keyed4 Try.underlying90 hn (key_win hw) (plainElem_int Try.underlying3 hwf)
  refine ⟨w', hrun, ⟨_, hown, h2.put _ _, fun x hx => ?_⟩, hg⟩
  dsimp only
  by_cases e : x = ws
  · rw [if_pos e, e, Go.Maps.atKey_put_same h2 (keyed4.key (key_win hw))]
  · rw [if_neg e, Go.Maps.atKey_put_other (fun he => e (klit_inj hx hw he))]
    exact h3 x hx
end Go.Proofs.Ytlcppkcclolgcaa.Pk

namespace Go.Proofs.Ytlcppkcclolgcaa.Pk
set_option maxRecDepth 20000
set_option linter.unusedVariables false
set_option linter.unusedSimpArgs false
open Go.RowKit

/-- block gp is a packer -/
structure PkRow (w : World) (gp : Nat) (v : Value) (plain b : Nat) : Prop where
  row : w.heap[gp]? = some (.cells #[v, .int .i64 (plain : Int), .map (some b)] 92 (0, 0))
section
variable {w w' : World} {gp plain b : Nat} {v : Value}
theorem PkRow.cell0 (h : PkRow w gp v plain b) : w.cell? ⟨gp, 0, none⟩ = some v := by rw [cell_of_row w gp 0 _ _ _ h.row]; rfl
theorem PkRow.cell1 (h : PkRow w gp v plain b) : w.cell? ⟨gp, 1, none⟩ = some (.int .i64 (plain : Int)) := by rw [cell_of_row w gp 1 _ _ _ h.row]; rfl
theorem PkRow.cell2 (h : PkRow w gp v plain b) : w.cell? ⟨gp, 2, none⟩ = some (.map (some b)) := by rw [cell_of_row w gp 2 _ _ _ h.row]; rfl
theorem PkRow.free (h : PkRow w gp v plain b) (i : Nat) : w.frozen? ⟨gp, i, none⟩ = false := frozen_of_row w gp i _ _ h.row
theorem PkRow.far (h : PkRow w gp v plain b) (e : w'.heap[gp]? = w.heap[gp]?) : PkRow w' gp v plain b := ⟨e.trans h.row⟩
theorem PkRow.lt (h : PkRow w gp v plain b) : gp < w.heap.size := lt_of_row h.row
end

/-- the map when place i has been noted -/
def noted (s : ByteArray) (i : Nat) (F : List Nat → Option Nat) : List Nat → Option Nat := if i + 4 ≤ s.size then fun x => if x = win (nb s) i then some i else F x else F

set_option maxRecDepth 100000 in
set_option maxHeartbeats 2000000 in
theorem note_any (gp b n plain i : Nat) (v : Value) (F : List Nat → Option Nat) (s : ByteArray) (w : World) (hp : PkRow w gp v plain b) (hm : LastMap w b n F) (hne : gp ≠ b) (hi : i ≤ s.size) (hs : s.size ≤ 1048576) (hn : n < maxLen) :
    Calls Try.prog 33 #[.pointer (some ⟨gp, 0, none⟩), .string s, .int .i64 (i : Int)] w fun e w' => e = .returned (.tuple #[]) ∧ LastMap w' b (n + 1) (noted s i F) ∧ w.grownBy w' (some b) := by
  have w4 : wrap64 ((i : Int) + 4) = (i : Int) + 4 := by unfold wrap64; omega
  have h0 : (0 : Int) ≤ i := by omega
  have HP := Lib.hid hp
  have HM := Lib.hid hm
  clear hp hm
  go_enter Try.func33, Try.ntmps33
  by_cases h4 : i + 4 ≤ s.size
  · have h1 : (i : Int) + 4 ≤ s.size := by omega
    have hc := HP.out.cell2
    go_wp2_with fail
    refine wp_region_noPanic ?_
    refine wp_region_held_drew (S := fun w' => w'.cell? ⟨gp, 2, none⟩ = some (.map (some b))) (by kernel_rfl) hc (fun hHeld => ?_)
    refine wpAnyH_take (i := 0) (oi := _) (v := (.pointer (some ⟨gp, 0, none⟩))) rfl (by kernel_rfl) (by kernel_rfl) (by kernel_rfl) (fun _ _ _ h => h) (Or.inl ⟨by rfl, fun w' _ => by go_simp⟩) hHeld ?_
    try simp only [Act.put, List.getElem_toArray, List.getElem_cons_succ, List.getElem_cons_zero, List.setIfInBounds_toArray, List.set_cons_zero, List.set_cons_succ]
    refine wpAnyH_take (i := 1) (oi := _) (v := (.pointer (some ⟨gp, 0, none⟩))) rfl (by kernel_rfl) (by kernel_rfl) (by kernel_rfl) (fun _ _ _ h => h) (Or.inl ⟨by rfl, fun w' _ => by go_simp⟩) hHeld ?_
    try simp only [Act.put, List.getElem_toArray, List.getElem_cons_succ, List.getElem_cons_zero, List.setIfInBounds_toArray, List.set_cons_zero, List.set_cons_succ]
    refine wpAnyH_take (i := 2) (oi := _) (v := (.pointer (some ⟨gp, 2, none⟩))) rfl (by kernel_rfl) (by kernel_rfl) (by kernel_rfl) (fun _ _ _ h => h) (Or.inl ⟨by rfl, fun w' _ => by go_simp⟩) hHeld ?_
    try simp only [Act.put, List.getElem_toArray, List.getElem_cons_succ, List.getElem_cons_zero, List.setIfInBounds_toArray, List.set_cons_zero, List.set_cons_succ]
    refine wpAnyH_take (i := 3) (oi := _) (v := (.map (some b))) rfl (by kernel_rfl) (by kernel_rfl) (by kernel_rfl) (fun _ _ _ h => h) (Or.inl ⟨by rfl, fun w' hSw => by go_simp⟩) hHeld ?_
    try simp only [Act.put, List.getElem_toArray, List.getElem_cons_succ, List.getElem_cons_zero, List.setIfInBounds_toArray, List.set_cons_zero, List.set_cons_succ]
    refine wpAnyH_take (i := 4) (oi := _) (v := (.string s)) rfl (by kernel_rfl) (by kernel_rfl) (by kernel_rfl) (fun _ _ _ h => h) (Or.inl ⟨by rfl, fun w' _ => by go_simp⟩) hHeld ?_
    try simp only [Act.put, List.getElem_toArray, List.getElem_cons_succ, List.getElem_cons_zero, List.setIfInBounds_toArray, List.set_cons_zero, List.set_cons_succ]
    refine wpAnyH_take (i := 5) (oi := _) (v := (.int .i64 (i : Int))) rfl (by kernel_rfl) (by kernel_rfl) (by kernel_rfl) (fun _ _ _ h => h) (Or.inl ⟨by rfl, fun w' _ => by go_simp⟩) hHeld ?_
    try simp only [Act.put, List.getElem_toArray, List.getElem_cons_succ, List.getElem_cons_zero, List.setIfInBounds_toArray, List.set_cons_zero, List.set_cons_succ]
    refine wpAnyH_take (i := 7) (oi := _) (v := (.int .i64 (i : Int))) rfl (by kernel_rfl) (by kernel_rfl) (by kernel_rfl) (fun _ _ _ h => h) (Or.inl ⟨by rfl, fun w' _ => by go_simp⟩) hHeld ?_
    try simp only [Act.put, List.getElem_toArray, List.getElem_cons_succ, List.getElem_cons_zero, List.setIfInBounds_toArray, List.set_cons_zero, List.set_cons_succ]
    refine wpAnyH_ready (rs := [6]) (by kernel_rfl) (by simp) ?_
    refine AllReadyH.cons (o := _) rfl (fun K hK => ?_) AllReadyH.nil
    rw [if_pos (by rfl)]
    go_simp
    go_at_call 53
    refine (four_any s i h4 (by omega) _).mono ?_
    rintro e w2 ⟨rfl, hb2⟩
    have hb3 : Below w.heap.size w w2 := ⟨hb2.os, hb2.tape, hb2.output, hb2.size, hb2.block⟩
    have hg2 : w.grownBy w2 (some b) := only_below (World.grownBy.refl w _) hb3
    have hm2 := HM.out.kept (only_below (row := none) (World.grownBy.refl w _) hb3) (by simp)
    have hp2 := HP.out.far (hb3.block _ HP.out.lt)
    obtain ⟨w3, hrun, hm3, hg3⟩ := hm2.store (win_is s i h4) i (by omega) hn
    have hp3 := hp2.far (hg3.block _ hp2.lt (by simp; omega))
    have hout : LastMap w3 b (n + 1) (noted s i F) ∧ w.grownBy w3 (some b) := ⟨by rw [noted, if_pos h4]; exact hm3, only_trans hg2 hg3⟩
    refine hK.out _ _ hp2.cell2 (fun hHeld => ?_)
    clear hK K
    try dsimp only
    try simp only [Act.put, List.getElem_toArray, List.getElem_cons_succ, List.getElem_cons_zero, List.setIfInBounds_toArray, List.set_cons_zero, List.set_cons_succ]
    refine wpAnyH_ready (rs := [8]) (by kernel_rfl) (by simp) ?_
    refine AllReadyH.cons (o := _) rfl (fun K hK => ?_) AllReadyH.nil
    rw [if_pos (by rfl)]
    go_simp
    refine hK.out _ _ hp3.cell2 (fun hHeld => ?_)
    clear hK K
    try dsimp only
    try simp only [Act.put, List.getElem_toArray, List.getElem_cons_succ, List.getElem_cons_zero, List.setIfInBounds_toArray, List.set_cons_zero, List.set_cons_succ]
    refine wpAnyH_done (by kernel_rfl) ?_ _
    refine NoPanic.normal ?_
    go_wp2_with fail
    go_end0
    exact ⟨rfl, hout⟩
  · have h1 : ¬ (i : Int) + 4 ≤ s.size := by omega
    go_wp2_with fail
    go_end0
    refine ⟨rfl, ?_, World.grownBy.refl w _⟩
    rw [noted, if_neg h4]
    obtain ⟨D, a, b, c⟩ := HM.out
    exact ⟨D, a.mono (by omega), b, c⟩
end Go.Proofs.Ytlcppkcclolgcaa.Pk

namespace Go.Proofs.Ytlcppkcclolgcaa.Pk
set_option maxRecDepth 20000
set_option linter.unusedVariables false
set_option linter.unusedSimpArgs false
open Go.RowKit

/-- how far the bytes at two places agree: from n on, at most k more -/
def mrun (L : List Nat) (c i : Nat) : Nat → Nat → Nat
  | 0, n => n
  | k + 1, n => if i + n < L.length ∧ L.getD (c + n) 0 = L.getD (i + n) 0 then mrun L c i k (n + 1) else n
/-- what is found at place i: how many bytes, how far back -/
def backP (L : List Nat) (i : Nat) (F : List Nat → Option Nat) : Nat × Nat :=
  if i + 4 ≤ L.length then
    match F (win L i) with
    | none => (0, 0)
    | some c => if 65536 < i - c then (0, 0) else (mrun L c i 127 4, i - c)
  else (0, 0)

set_option maxRecDepth 100000 in
set_option maxHeartbeats 4000000 in
theorem back_any (gp b n plain i : Nat) (v : Value) (F : List Nat → Option Nat) (s : ByteArray) (w : World) (hp : PkRow w gp v plain b) (hm : LastMap w b n F) (hi : i ≤ s.size) (hs : s.size ≤ 1048576) (hF : ∀ ws c, F ws = some c → c ≤ i) :
    Calls Try.prog 34 #[.pointer (some ⟨gp, 0, none⟩), .string s, .int .i64 (i : Int)] w fun e w' => e = .returned (.tuple #[.int .i64 ((backP (nb s) i F).1 : Int), .int .i64 ((backP (nb s) i F).2 : Int)]) ∧ Below w.heap.size w w' := by
  have w4 : wrap64 ((i : Int) + 4) = (i : Int) + 4 := by unfold wrap64; omega
  have h0 : (0 : Int) ≤ i := by omega
  obtain ⟨r, hr⟩ : ∃ r, backP (nb s) i F = r := ⟨_, rfl⟩
  rw [hr]
  have HP := Lib.hid hp
  have HM := Lib.hid hm
  have HF := Lib.hid hF
  clear hp hm hF
  go_enter Try.func34, Try.ntmps34
  by_cases h4 : i + 4 ≤ s.size
  · have h1 : ¬ (s.size : Int) < (i : Int) + 4 := by omega
    have hl := HM.out.look (win_is s i h4)
    have hb0 : backP (nb s) i F = match F (win (nb s) i) with | none => (0, 0) | some c => if 65536 < i - c then (0, 0) else (mrun (nb s) c i 127 4, i - c) := by
      rw [backP, if_pos (by rw [nb_length]; exact h4)]
    rw [hr] at hb0
    clear hr
    have hF4 := HF.out (win (nb s) i)
    obtain ⟨o, ho⟩ : ∃ o, o = F (win (nb s) i) := ⟨_, rfl⟩
    rw [← ho] at hb0 hF4
    have HO := Lib.hid ho
    have HB0 := Lib.hid hb0
    clear hb0 ho hl
    go_wp2_with fail
    refine wp_region_noPanic ?_
    refine wp_region_held_drew (S := fun w' => w'.cell? ⟨gp, 2, none⟩ = some (.map (some b)) ∧ LastMap w' b n F) (by kernel_rfl) ⟨HP.out.cell2, HM.out⟩ (fun hHeld => ?_)
    refine wpAnyH_take (i := 0) (oi := _) (v := (.pointer (some ⟨gp, 0, none⟩))) rfl (by kernel_rfl) (by kernel_rfl) (by kernel_rfl) (fun _ _ _ h => h) (Or.inl ⟨by rfl, fun w' _ => by go_simp⟩) hHeld ?_
    try simp only [Act.put, List.getElem_toArray, List.getElem_cons_succ, List.getElem_cons_zero, List.setIfInBounds_toArray, List.set_cons_zero, List.set_cons_succ]
    refine wpAnyH_take (i := 1) (oi := _) (v := (.pointer (some ⟨gp, 0, none⟩))) rfl (by kernel_rfl) (by kernel_rfl) (by kernel_rfl) (fun _ _ _ h => h) (Or.inl ⟨by rfl, fun w' _ => by go_simp⟩) hHeld ?_
    try simp only [Act.put, List.getElem_toArray, List.getElem_cons_succ, List.getElem_cons_zero, List.setIfInBounds_toArray, List.set_cons_zero, List.set_cons_succ]
    refine wpAnyH_take (i := 2) (oi := _) (v := (.pointer (some ⟨gp, 2, none⟩))) rfl (by kernel_rfl) (by kernel_rfl) (by kernel_rfl) (fun _ _ _ h => h) (Or.inl ⟨by rfl, fun w' _ => by go_simp⟩) hHeld ?_
    try simp only [Act.put, List.getElem_toArray, List.getElem_cons_succ, List.getElem_cons_zero, List.setIfInBounds_toArray, List.set_cons_zero, List.set_cons_succ]
    refine wpAnyH_take (i := 3) (oi := _) (v := (.map (some b))) rfl (by kernel_rfl) (by kernel_rfl) (by kernel_rfl) (fun _ _ _ h => h) (Or.inl ⟨by rfl, fun w' hSw => by have h1 := hSw.1; go_simp⟩) hHeld ?_
    try simp only [Act.put, List.getElem_toArray, List.getElem_cons_succ, List.getElem_cons_zero, List.setIfInBounds_toArray, List.set_cons_zero, List.set_cons_succ]
    refine wpAnyH_take (i := 4) (oi := _) (v := (.string s)) rfl (by kernel_rfl) (by kernel_rfl) (by kernel_rfl) (fun _ _ _ h => h) (Or.inl ⟨by rfl, fun w' _ => by go_simp⟩) hHeld ?_
    try simp only [Act.put, List.getElem_toArray, List.getElem_cons_succ, List.getElem_cons_zero, List.setIfInBounds_toArray, List.set_cons_zero, List.set_cons_succ]
    refine wpAnyH_take (i := 5) (oi := _) (v := (.int .i64 (i : Int))) rfl (by kernel_rfl) (by kernel_rfl) (by kernel_rfl) (fun _ _ _ h => h) (Or.inl ⟨by rfl, fun w' _ => by go_simp⟩) hHeld ?_
    try simp only [Act.put, List.getElem_toArray, List.getElem_cons_succ, List.getElem_cons_zero, List.setIfInBounds_toArray, List.set_cons_zero, List.set_cons_succ]
    refine wpAnyH_ready (rs := [6]) (by kernel_rfl) (by simp) ?_
    refine AllReadyH.cons (o := _) rfl (fun K hK => ?_) AllReadyH.nil
    rw [if_pos (by rfl)]
    go_simp
    go_at_call 53
    refine (four_any s i h4 (by omega) _).mono ?_
    rintro e w2 ⟨rfl, hb2⟩
    have hb3 : Below w.heap.size w w2 := ⟨hb2.os, hb2.tape, hb2.output, hb2.size, hb2.block⟩
    have hm2 := HM.out.kept (only_below (row := none) (World.grownBy.refl w _) hb3) (by simp)
    have hp2 := HP.out.far (hb3.block _ HP.out.lt)
    have HB := Lib.hid hb3
    clear hb2
    refine hK.out _ _ ⟨hp2.cell2, hm2⟩ (fun hHeld => ?_)
    clear hK K
    try dsimp only
    try simp only [Act.put, List.getElem_toArray, List.getElem_cons_succ, List.getElem_cons_zero, List.setIfInBounds_toArray, List.set_cons_zero, List.set_cons_succ]
    refine wpAnyH_take (i := 7) (oi := _) (v := (.tuple #[.int .i64 ((o.getD 0 : Nat) : Int), .bool o.isSome])) rfl (by kernel_rfl) (by kernel_rfl) (by kernel_rfl) (fun _ _ _ h => h) (Or.inl ⟨by rfl, fun w' hSw => by have h1 := hSw.2.look (win_is s i h4); rw [← HO.out] at h1; go_simp⟩) hHeld ?_
    try simp only [Act.put, List.getElem_toArray, List.getElem_cons_succ, List.getElem_cons_zero, List.setIfInBounds_toArray, List.set_cons_zero, List.set_cons_succ]
    refine wpAnyH_take (i := 8) (oi := _) (v := (.tuple #[.int .i64 ((o.getD 0 : Nat) : Int), .bool o.isSome])) rfl (by kernel_rfl) (by kernel_rfl) (by kernel_rfl) (fun _ _ _ h => h) (Or.inl ⟨by rfl, fun w' _ => by go_simp⟩) hHeld ?_
    try simp only [Act.put, List.getElem_toArray, List.getElem_cons_succ, List.getElem_cons_zero, List.setIfInBounds_toArray, List.set_cons_zero, List.set_cons_succ]
    refine wpAnyH_take (i := 9) (oi := _) (v := (.int .i64 ((o.getD 0 : Nat) : Int))) rfl (by kernel_rfl) (by kernel_rfl) (by kernel_rfl) (fun _ _ _ h => h) (Or.inl ⟨by rfl, fun w' _ => by go_simp⟩) hHeld ?_
    try simp only [Act.put, List.getElem_toArray, List.getElem_cons_succ, List.getElem_cons_zero, List.setIfInBounds_toArray, List.set_cons_zero, List.set_cons_succ]
    refine wpAnyH_take (i := 10) (oi := _) (v := (.bool o.isSome)) rfl (by kernel_rfl) (by kernel_rfl) (by kernel_rfl) (fun _ _ _ h => h) (Or.inl ⟨by rfl, fun w' _ => by go_simp⟩) hHeld ?_
    try simp only [Act.put, List.getElem_toArray, List.getElem_cons_succ, List.getElem_cons_zero, List.setIfInBounds_toArray, List.set_cons_zero, List.set_cons_succ]
    refine wpAnyH_take (i := 11) (oi := _) (v := (.int .i64 ((o.getD 0 : Nat) : Int))) rfl (by kernel_rfl) (by kernel_rfl) (by kernel_rfl) (fun _ _ _ h => h) (Or.inl ⟨by rfl, fun w' _ => by go_simp⟩) hHeld ?_
    try simp only [Act.put, List.getElem_toArray, List.getElem_cons_succ, List.getElem_cons_zero, List.setIfInBounds_toArray, List.set_cons_zero, List.set_cons_succ]
    refine wpAnyH_take (i := 12) (oi := _) (v := (.bool o.isSome)) rfl (by kernel_rfl) (by kernel_rfl) (by kernel_rfl) (fun _ _ _ h => h) (Or.inl ⟨by rfl, fun w' _ => by go_simp⟩) hHeld ?_
    try simp only [Act.put, List.getElem_toArray, List.getElem_cons_succ, List.getElem_cons_zero, List.setIfInBounds_toArray, List.set_cons_zero, List.set_cons_succ]
    refine wpAnyH_done (by kernel_rfl) ?_ _
    refine NoPanic.normal ?_
    clear hHeld hm2 hp2 hb3
    cases o with
    | none =>
      rw [show ((none : Option Nat).getD 0) = 0 from rfl, show (none : Option Nat).isSome = false from rfl]
      have hb0 := HB0.out
      simp only at hb0
      subst hb0
      clear HB0
      go_wp2_with fail
      go_ret2
      exact ⟨rfl, HB.out⟩
    | some c =>
      rw [show ((some c).getD 0) = c from rfl, show (some c).isSome = true from rfl]
      have hci := hF4 c rfl
      have hb0 := HB0.out
      simp only at hb0
      have hc0 : (0 : Int) ≤ c := by omega
      have hci2 : (c : Int) ≤ i := by omega
      have hwd : wrap64 ((i : Int) - c) = (i : Int) - c := by unfold wrap64; omega
      by_cases hfar : 65536 < i - c
      · rw [if_pos hfar] at hb0
        subst hb0
        have hfI : (65536 : Int) < (i : Int) - c := by omega
        clear HB0 hF4
        go_wp2_with fail
        go_ret2
        exact ⟨rfl, HB.out⟩
      · rw [if_neg hfar] at hb0
        have hfI : ¬ (65536 : Int) < (i : Int) - c := by omega
        have hd : ((i : Int) - c) = ((i - c : Nat) : Int) := by omega
        have HD := Lib.hid hd
        have HR := Lib.hid hb0
        clear hb0 HB0 hF4 hd
        go_wp2_with fail
        have hB2 := HB
        go_loopw [10] (fun v wr => ∃ m : Nat, 4 ≤ m ∧ m ≤ 131 ∧ v = .int .i64 m ∧ mrun (nb s) c i (131 - m) m = mrun (nb s) c i 127 4 ∧ Below w.heap.size w wr) (fun v _ => 131 - (intOf v).toNat)
        case atStart => exact ⟨4, by omega, by omega, rfl, rfl, HB.out⟩
        case round =>
          obtain ⟨m, hm4, hm131, rfl, hM, hbw⟩ := hrel
          have HBW := Lib.hid hbw
          clear hbw
          by_cases hm : m = 131
          · have d0 : ¬ (m : Int) < 131 := by omega
            have e : mrun (nb s) c i (131 - m) m = m := by rw [show 131 - m = 0 by omega]; rfl
            rw [e] at hM
            have HMM := Lib.hid hM
            clear hM
            clear e
            go_wp2_with fail
            refine wp_region_noPanic ?_
            refine wp_region_held_drew (S := fun _ => True) (by kernel_rfl) trivial (fun hHeld => ?_)
            refine wpAnyH_take (i := 0) (oi := _) (v := (.int .i64 (m : Int))) rfl (by kernel_rfl) (by kernel_rfl) (by kernel_rfl) (fun _ _ _ h => h) (Or.inl ⟨by rfl, fun w' _ => by go_simp⟩) hHeld ?_
            try simp only [Act.put, List.getElem_toArray, List.getElem_cons_succ, List.getElem_cons_zero, List.setIfInBounds_toArray, List.set_cons_zero, List.set_cons_succ]
            refine wpAnyH_take (i := 1) (oi := _) (v := (.bool false)) rfl (by kernel_rfl) (by kernel_rfl) (by kernel_rfl) (fun _ _ _ h => h) (Or.inl ⟨by rfl, fun w' _ => by go_simp⟩) hHeld ?_
            try simp only [Act.put, List.getElem_toArray, List.getElem_cons_succ, List.getElem_cons_zero, List.setIfInBounds_toArray, List.set_cons_zero, List.set_cons_succ]
            refine wpAnyH_take (i := 2) (oi := _) (v := (.bool false)) rfl (by kernel_rfl) (by kernel_rfl) (by kernel_rfl) (fun _ _ _ h => h) (Or.inl ⟨by rfl, fun w' _ => by go_simp⟩) hHeld ?_
            try simp only [Act.put, List.getElem_toArray, List.getElem_cons_succ, List.getElem_cons_zero, List.setIfInBounds_toArray, List.set_cons_zero, List.set_cons_succ]
            refine wpAnyH_take (i := 3) (oi := _) (v := undef) rfl (by kernel_rfl) (by kernel_rfl) (by kernel_rfl) (fun _ _ _ h => h) (Or.inr ⟨by rfl, rfl⟩) hHeld ?_
            try simp only [Act.put, List.getElem_toArray, List.getElem_cons_succ, List.getElem_cons_zero, List.setIfInBounds_toArray, List.set_cons_zero, List.set_cons_succ]
            refine wpAnyH_take (i := 4) (oi := _) (v := undef) rfl (by kernel_rfl) (by kernel_rfl) (by kernel_rfl) (fun _ _ _ h => h) (Or.inr ⟨by rfl, rfl⟩) hHeld ?_
            try simp only [Act.put, List.getElem_toArray, List.getElem_cons_succ, List.getElem_cons_zero, List.setIfInBounds_toArray, List.set_cons_zero, List.set_cons_succ]
            refine wpAnyH_take (i := 5) (oi := _) (v := undef) rfl (by kernel_rfl) (by kernel_rfl) (by kernel_rfl) (fun _ _ _ h => h) (Or.inr ⟨by rfl, rfl⟩) hHeld ?_
            try simp only [Act.put, List.getElem_toArray, List.getElem_cons_succ, List.getElem_cons_zero, List.setIfInBounds_toArray, List.set_cons_zero, List.set_cons_succ]
            refine wpAnyH_take (i := 6) (oi := _) (v := undef) rfl (by kernel_rfl) (by kernel_rfl) (by kernel_rfl) (fun _ _ _ h => h) (Or.inr ⟨by rfl, rfl⟩) hHeld ?_
            try simp only [Act.put, List.getElem_toArray, List.getElem_cons_succ, List.getElem_cons_zero, List.setIfInBounds_toArray, List.set_cons_zero, List.set_cons_succ]
            refine wpAnyH_take (i := 7) (oi := _) (v := undef) rfl (by kernel_rfl) (by kernel_rfl) (by kernel_rfl) (fun _ _ _ h => h) (Or.inr ⟨by rfl, rfl⟩) hHeld ?_
            try simp only [Act.put, List.getElem_toArray, List.getElem_cons_succ, List.getElem_cons_zero, List.setIfInBounds_toArray, List.set_cons_zero, List.set_cons_succ]
            refine wpAnyH_take (i := 8) (oi := _) (v := undef) rfl (by kernel_rfl) (by kernel_rfl) (by kernel_rfl) (fun _ _ _ h => h) (Or.inr ⟨by rfl, rfl⟩) hHeld ?_
            try simp only [Act.put, List.getElem_toArray, List.getElem_cons_succ, List.getElem_cons_zero, List.setIfInBounds_toArray, List.set_cons_zero, List.set_cons_succ]
            refine wpAnyH_take (i := 9) (oi := _) (v := (.bool false)) rfl (by kernel_rfl) (by kernel_rfl) (by kernel_rfl) (fun _ _ _ h => h) (Or.inl ⟨by rfl, fun w' _ => by go_simp⟩) hHeld ?_
            try simp only [Act.put, List.getElem_toArray, List.getElem_cons_succ, List.getElem_cons_zero, List.setIfInBounds_toArray, List.set_cons_zero, List.set_cons_succ]
            refine wpAnyH_take (i := 10) (oi := _) (v := (.bool false)) rfl (by kernel_rfl) (by kernel_rfl) (by kernel_rfl) (fun _ _ _ h => h) (Or.inl ⟨by rfl, fun w' _ => by go_simp⟩) hHeld ?_
            try simp only [Act.put, List.getElem_toArray, List.getElem_cons_succ, List.getElem_cons_zero, List.setIfInBounds_toArray, List.set_cons_zero, List.set_cons_succ]
            refine wpAnyH_take (i := 11) (oi := _) (v := undef) rfl (by kernel_rfl) (by kernel_rfl) (by kernel_rfl) (fun _ _ _ h => h) (Or.inr ⟨by rfl, rfl⟩) hHeld ?_
            try simp only [Act.put, List.getElem_toArray, List.getElem_cons_succ, List.getElem_cons_zero, List.setIfInBounds_toArray, List.set_cons_zero, List.set_cons_succ]
            refine wpAnyH_take (i := 12) (oi := _) (v := undef) rfl (by kernel_rfl) (by kernel_rfl) (by kernel_rfl) (fun _ _ _ h => h) (Or.inr ⟨by rfl, rfl⟩) hHeld ?_
            try simp only [Act.put, List.getElem_toArray, List.getElem_cons_succ, List.getElem_cons_zero, List.setIfInBounds_toArray, List.set_cons_zero, List.set_cons_succ]
            refine wpAnyH_take (i := 13) (oi := _) (v := undef) rfl (by kernel_rfl) (by kernel_rfl) (by kernel_rfl) (fun _ _ _ h => h) (Or.inr ⟨by rfl, rfl⟩) hHeld ?_
            try simp only [Act.put, List.getElem_toArray, List.getElem_cons_succ, List.getElem_cons_zero, List.setIfInBounds_toArray, List.set_cons_zero, List.set_cons_succ]
            refine wpAnyH_take (i := 14) (oi := _) (v := undef) rfl (by kernel_rfl) (by kernel_rfl) (by kernel_rfl) (fun _ _ _ h => h) (Or.inr ⟨by rfl, rfl⟩) hHeld ?_
            try simp only [Act.put, List.getElem_toArray, List.getElem_cons_succ, List.getElem_cons_zero, List.setIfInBounds_toArray, List.set_cons_zero, List.set_cons_succ]
            refine wpAnyH_take (i := 15) (oi := _) (v := undef) rfl (by kernel_rfl) (by kernel_rfl) (by kernel_rfl) (fun _ _ _ h => h) (Or.inr ⟨by rfl, rfl⟩) hHeld ?_
            try simp only [Act.put, List.getElem_toArray, List.getElem_cons_succ, List.getElem_cons_zero, List.setIfInBounds_toArray, List.set_cons_zero, List.set_cons_succ]
            refine wpAnyH_take (i := 16) (oi := _) (v := undef) rfl (by kernel_rfl) (by kernel_rfl) (by kernel_rfl) (fun _ _ _ h => h) (Or.inr ⟨by rfl, rfl⟩) hHeld ?_
            try simp only [Act.put, List.getElem_toArray, List.getElem_cons_succ, List.getElem_cons_zero, List.setIfInBounds_toArray, List.set_cons_zero, List.set_cons_succ]
            refine wpAnyH_take (i := 17) (oi := _) (v := undef) rfl (by kernel_rfl) (by kernel_rfl) (by kernel_rfl) (fun _ _ _ h => h) (Or.inr ⟨by rfl, rfl⟩) hHeld ?_
            try simp only [Act.put, List.getElem_toArray, List.getElem_cons_succ, List.getElem_cons_zero, List.setIfInBounds_toArray, List.set_cons_zero, List.set_cons_succ]
            refine wpAnyH_take (i := 18) (oi := _) (v := undef) rfl (by kernel_rfl) (by kernel_rfl) (by kernel_rfl) (fun _ _ _ h => h) (Or.inr ⟨by rfl, rfl⟩) hHeld ?_
            try simp only [Act.put, List.getElem_toArray, List.getElem_cons_succ, List.getElem_cons_zero, List.setIfInBounds_toArray, List.set_cons_zero, List.set_cons_succ]
            refine wpAnyH_take (i := 19) (oi := _) (v := undef) rfl (by kernel_rfl) (by kernel_rfl) (by kernel_rfl) (fun _ _ _ h => h) (Or.inr ⟨by rfl, rfl⟩) hHeld ?_
            try simp only [Act.put, List.getElem_toArray, List.getElem_cons_succ, List.getElem_cons_zero, List.setIfInBounds_toArray, List.set_cons_zero, List.set_cons_succ]
            refine wpAnyH_take (i := 20) (oi := _) (v := undef) rfl (by kernel_rfl) (by kernel_rfl) (by kernel_rfl) (fun _ _ _ h => h) (Or.inr ⟨by rfl, rfl⟩) hHeld ?_
            try simp only [Act.put, List.getElem_toArray, List.getElem_cons_succ, List.getElem_cons_zero, List.setIfInBounds_toArray, List.set_cons_zero, List.set_cons_succ]
            refine wpAnyH_take (i := 21) (oi := _) (v := undef) rfl (by kernel_rfl) (by kernel_rfl) (by kernel_rfl) (fun _ _ _ h => h) (Or.inr ⟨by rfl, rfl⟩) hHeld ?_
            try simp only [Act.put, List.getElem_toArray, List.getElem_cons_succ, List.getElem_cons_zero, List.setIfInBounds_toArray, List.set_cons_zero, List.set_cons_succ]
            refine wpAnyH_take (i := 22) (oi := _) (v := (.bool false)) rfl (by kernel_rfl) (by kernel_rfl) (by kernel_rfl) (fun _ _ _ h => h) (Or.inl ⟨by rfl, fun w' _ => by go_simp⟩) hHeld ?_
            try simp only [Act.put, List.getElem_toArray, List.getElem_cons_succ, List.getElem_cons_zero, List.setIfInBounds_toArray, List.set_cons_zero, List.set_cons_succ]
            refine wpAnyH_done (by kernel_rfl) ?_ _
            refine NoPanic.normal ?_
            clear hHeld
            have hB3 := HBW.out.drew
            go_wp2_with fail
            go_ret2
            refine ⟨?_, hB3⟩
            rw [HR.out, ← HMM.out]
            show _ = Ending.returned (.tuple #[.int .i64 (m : Int), .int .i64 ((i - c : Nat) : Int)])
            rw [← HD.out]
            first | rfl | (rw [hm]; rfl)
          · by_cases hlt : i + m < s.size
            · have d0 : (m : Int) < 131 := by omega
              have d1 : (i : Int) + m < s.size := by omega
              have d2 : (c : Int) + m < s.size := by omega
              have d3 : (0 : Int) ≤ (i : Int) + m := by omega
              have d4 : (0 : Int) ≤ (c : Int) + m := by omega
              have t1 : ((i : Int) + m).toNat = i + m := by omega
              have t2 : ((c : Int) + m).toNat = c + m := by omega
              have wI : IntKind.i64.wrap ((i : Int) + m) = (i : Int) + m := by simp [IntKind.wrap, IntKind.bits, IntKind.signed]; omega
              have wC : IntKind.i64.wrap ((c : Int) + m) = (c : Int) + m := by simp [IntKind.wrap, IntKind.bits, IntKind.signed]; omega
              have hx : (s[c + m]'(by omega)).toNat = (nb s).getD (c + m) 0 := (getD_nb s (c + m) (by omega)).symm
              have hy : (s[i + m]'(by omega)).toNat = (nb s).getD (i + m) 0 := (getD_nb s (i + m) (by omega)).symm
              have hst : mrun (nb s) c i (131 - m) m = if (nb s).getD (c + m) 0 = (nb s).getD (i + m) 0 then mrun (nb s) c i (130 - m) (m + 1) else m := by
                rw [show 131 - m = (130 - m) + 1 by omega, mrun]
                simp only [nb_length, hlt, true_and]
              generalize (nb s).getD (c + m) 0 = x at *
              generalize (nb s).getD (i + m) 0 = y at *
              by_cases hxy : x = y
              · subst hxy
                rw [if_pos rfl] at hst
                have hM2 := hst.symm.trans hM
                have HM2 := Lib.hid hM2
                clear hst hM hM2
                go_wp2_with fail
                refine wp_region_noPanic ?_
                refine wp_region_held_drew (S := fun _ => True) (by kernel_rfl) trivial (fun hHeld => ?_)
                refine wpAnyH_take (i := 0) (oi := _) (v := (.int .i64 (m : Int))) rfl (by kernel_rfl) (by kernel_rfl) (by kernel_rfl) (fun _ _ _ h => h) (Or.inl ⟨by rfl, fun w' _ => by go_simp⟩) hHeld ?_
                try simp only [Act.put, List.getElem_toArray, List.getElem_cons_succ, List.getElem_cons_zero, List.setIfInBounds_toArray, List.set_cons_zero, List.set_cons_succ]
                refine wpAnyH_take (i := 1) (oi := _) (v := (.bool true)) rfl (by kernel_rfl) (by kernel_rfl) (by kernel_rfl) (fun _ _ _ h => h) (Or.inl ⟨by rfl, fun w' _ => by go_simp⟩) hHeld ?_
                try simp only [Act.put, List.getElem_toArray, List.getElem_cons_succ, List.getElem_cons_zero, List.setIfInBounds_toArray, List.set_cons_zero, List.set_cons_succ]
                refine wpAnyH_take (i := 2) (oi := _) (v := (.bool true)) rfl (by kernel_rfl) (by kernel_rfl) (by kernel_rfl) (fun _ _ _ h => h) (Or.inl ⟨by rfl, fun w' _ => by go_simp⟩) hHeld ?_
                try simp only [Act.put, List.getElem_toArray, List.getElem_cons_succ, List.getElem_cons_zero, List.setIfInBounds_toArray, List.set_cons_zero, List.set_cons_succ]
                refine wpAnyH_take (i := 3) (oi := _) (v := (.int .i64 (i : Int))) rfl (by kernel_rfl) (by kernel_rfl) (by kernel_rfl) (fun _ _ _ h => h) (Or.inl ⟨by rfl, fun w' _ => by go_simp⟩) hHeld ?_
                try simp only [Act.put, List.getElem_toArray, List.getElem_cons_succ, List.getElem_cons_zero, List.setIfInBounds_toArray, List.set_cons_zero, List.set_cons_succ]
                refine wpAnyH_take (i := 4) (oi := _) (v := (.int .i64 (m : Int))) rfl (by kernel_rfl) (by kernel_rfl) (by kernel_rfl) (fun _ _ _ h => h) (Or.inl ⟨by rfl, fun w' _ => by go_simp⟩) hHeld ?_
                try simp only [Act.put, List.getElem_toArray, List.getElem_cons_succ, List.getElem_cons_zero, List.setIfInBounds_toArray, List.set_cons_zero, List.set_cons_succ]
                refine wpAnyH_take (i := 5) (oi := _) (v := (.int .i64 ((i : Int) + m))) rfl (by kernel_rfl) (by kernel_rfl) (by kernel_rfl) (fun _ _ _ h => h) (Or.inl ⟨by rfl, fun w' _ => by go_simp⟩) hHeld ?_
                try simp only [Act.put, List.getElem_toArray, List.getElem_cons_succ, List.getElem_cons_zero, List.setIfInBounds_toArray, List.set_cons_zero, List.set_cons_succ]
                refine wpAnyH_take (i := 6) (oi := _) (v := (.string s)) rfl (by kernel_rfl) (by kernel_rfl) (by kernel_rfl) (fun _ _ _ h => h) (Or.inl ⟨by rfl, fun w' _ => by go_simp⟩) hHeld ?_
                try simp only [Act.put, List.getElem_toArray, List.getElem_cons_succ, List.getElem_cons_zero, List.setIfInBounds_toArray, List.set_cons_zero, List.set_cons_succ]
                refine wpAnyH_take (i := 7) (oi := _) (v := (.int .i64 (s.size : Int))) rfl (by kernel_rfl) (by kernel_rfl) (by kernel_rfl) (fun _ _ _ h => h) (Or.inl ⟨by rfl, fun w' _ => by go_simp⟩) hHeld ?_
                try simp only [Act.put, List.getElem_toArray, List.getElem_cons_succ, List.getElem_cons_zero, List.setIfInBounds_toArray, List.set_cons_zero, List.set_cons_succ]
                refine wpAnyH_take (i := 8) (oi := _) (v := (.bool true)) rfl (by kernel_rfl) (by kernel_rfl) (by kernel_rfl) (fun _ _ _ h => h) (Or.inl ⟨by rfl, fun w' _ => by go_simp⟩) hHeld ?_
                try simp only [Act.put, List.getElem_toArray, List.getElem_cons_succ, List.getElem_cons_zero, List.setIfInBounds_toArray, List.set_cons_zero, List.set_cons_succ]
                refine wpAnyH_take (i := 9) (oi := _) (v := (.bool true)) rfl (by kernel_rfl) (by kernel_rfl) (by kernel_rfl) (fun _ _ _ h => h) (Or.inl ⟨by rfl, fun w' _ => by go_simp⟩) hHeld ?_
                try simp only [Act.put, List.getElem_toArray, List.getElem_cons_succ, List.getElem_cons_zero, List.setIfInBounds_toArray, List.set_cons_zero, List.set_cons_succ]
                refine wpAnyH_take (i := 10) (oi := _) (v := (.bool true)) rfl (by kernel_rfl) (by kernel_rfl) (by kernel_rfl) (fun _ _ _ h => h) (Or.inl ⟨by rfl, fun w' _ => by go_simp⟩) hHeld ?_
                try simp only [Act.put, List.getElem_toArray, List.getElem_cons_succ, List.getElem_cons_zero, List.setIfInBounds_toArray, List.set_cons_zero, List.set_cons_succ]
                refine wpAnyH_take (i := 11) (oi := _) (v := (.string s)) rfl (by kernel_rfl) (by kernel_rfl) (by kernel_rfl) (fun _ _ _ h => h) (Or.inl ⟨by rfl, fun w' _ => by go_simp⟩) hHeld ?_
                try simp only [Act.put, List.getElem_toArray, List.getElem_cons_succ, List.getElem_cons_zero, List.setIfInBounds_toArray, List.set_cons_zero, List.set_cons_succ]
                refine wpAnyH_take (i := 12) (oi := _) (v := (.int .i64 (c : Int))) rfl (by kernel_rfl) (by kernel_rfl) (by kernel_rfl) (fun _ _ _ h => h) (Or.inl ⟨by rfl, fun w' _ => by go_simp⟩) hHeld ?_
                try simp only [Act.put, List.getElem_toArray, List.getElem_cons_succ, List.getElem_cons_zero, List.setIfInBounds_toArray, List.set_cons_zero, List.set_cons_succ]
                refine wpAnyH_take (i := 13) (oi := _) (v := (.int .i64 (m : Int))) rfl (by kernel_rfl) (by kernel_rfl) (by kernel_rfl) (fun _ _ _ h => h) (Or.inl ⟨by rfl, fun w' _ => by go_simp⟩) hHeld ?_
                try simp only [Act.put, List.getElem_toArray, List.getElem_cons_succ, List.getElem_cons_zero, List.setIfInBounds_toArray, List.set_cons_zero, List.set_cons_succ]
                refine wpAnyH_take (i := 14) (oi := _) (v := (.int .i64 ((c : Int) + m))) rfl (by kernel_rfl) (by kernel_rfl) (by kernel_rfl) (fun _ _ _ h => h) (Or.inl ⟨by rfl, fun w' _ => by go_simp⟩) hHeld ?_
                try simp only [Act.put, List.getElem_toArray, List.getElem_cons_succ, List.getElem_cons_zero, List.setIfInBounds_toArray, List.set_cons_zero, List.set_cons_succ]
                refine wpAnyH_take (i := 15) (oi := _) (v := (.int .u8 (x : Int))) rfl (by kernel_rfl) (by kernel_rfl) (by kernel_rfl) (fun _ _ _ h => h) (Or.inl ⟨by rfl, fun w' _ => by go_simp⟩) hHeld ?_
                try simp only [Act.put, List.getElem_toArray, List.getElem_cons_succ, List.getElem_cons_zero, List.setIfInBounds_toArray, List.set_cons_zero, List.set_cons_succ]
                refine wpAnyH_take (i := 16) (oi := _) (v := (.string s)) rfl (by kernel_rfl) (by kernel_rfl) (by kernel_rfl) (fun _ _ _ h => h) (Or.inl ⟨by rfl, fun w' _ => by go_simp⟩) hHeld ?_
                try simp only [Act.put, List.getElem_toArray, List.getElem_cons_succ, List.getElem_cons_zero, List.setIfInBounds_toArray, List.set_cons_zero, List.set_cons_succ]
                refine wpAnyH_take (i := 17) (oi := _) (v := (.int .i64 (i : Int))) rfl (by kernel_rfl) (by kernel_rfl) (by kernel_rfl) (fun _ _ _ h => h) (Or.inl ⟨by rfl, fun w' _ => by go_simp⟩) hHeld ?_
                try simp only [Act.put, List.getElem_toArray, List.getElem_cons_succ, List.getElem_cons_zero, List.setIfInBounds_toArray, List.set_cons_zero, List.set_cons_succ]
                refine wpAnyH_take (i := 18) (oi := _) (v := (.int .i64 (m : Int))) rfl (by kernel_rfl) (by kernel_rfl) (by kernel_rfl) (fun _ _ _ h => h) (Or.inl ⟨by rfl, fun w' _ => by go_simp⟩) hHeld ?_
                try simp only [Act.put, List.getElem_toArray, List.getElem_cons_succ, List.getElem_cons_zero, List.setIfInBounds_toArray, List.set_cons_zero, List.set_cons_succ]
                refine wpAnyH_take (i := 19) (oi := _) (v := (.int .i64 ((i : Int) + m))) rfl (by kernel_rfl) (by kernel_rfl) (by kernel_rfl) (fun _ _ _ h => h) (Or.inl ⟨by rfl, fun w' _ => by go_simp⟩) hHeld ?_
                try simp only [Act.put, List.getElem_toArray, List.getElem_cons_succ, List.getElem_cons_zero, List.setIfInBounds_toArray, List.set_cons_zero, List.set_cons_succ]
                refine wpAnyH_take (i := 20) (oi := _) (v := (.int .u8 (x : Int))) rfl (by kernel_rfl) (by kernel_rfl) (by kernel_rfl) (fun _ _ _ h => h) (Or.inl ⟨by rfl, fun w' _ => by go_simp⟩) hHeld ?_
                try simp only [Act.put, List.getElem_toArray, List.getElem_cons_succ, List.getElem_cons_zero, List.setIfInBounds_toArray, List.set_cons_zero, List.set_cons_succ]
                refine wpAnyH_take (i := 21) (oi := _) (v := (.bool true)) rfl (by kernel_rfl) (by kernel_rfl) (by kernel_rfl) (fun _ _ _ h => h) (Or.inl ⟨by rfl, fun w' _ => by go_simp⟩) hHeld ?_
                try simp only [Act.put, List.getElem_toArray, List.getElem_cons_succ, List.getElem_cons_zero, List.setIfInBounds_toArray, List.set_cons_zero, List.set_cons_succ]
                refine wpAnyH_take (i := 22) (oi := _) (v := (.bool true)) rfl (by kernel_rfl) (by kernel_rfl) (by kernel_rfl) (fun _ _ _ h => h) (Or.inl ⟨by rfl, fun w' _ => by go_simp⟩) hHeld ?_
                try simp only [Act.put, List.getElem_toArray, List.getElem_cons_succ, List.getElem_cons_zero, List.setIfInBounds_toArray, List.set_cons_zero, List.set_cons_succ]
                refine wpAnyH_done (by kernel_rfl) ?_ _
                refine NoPanic.normal ?_
                clear hHeld
                have hB3 := HBW.out.drew
                go_wp2_with fail
                go_roundw
                case rel => exact ⟨m + 1, by omega, by omega, by go_num, by rw [show 131 - (m + 1) = 130 - m by omega]; exact HM2.out, hB3⟩
                case measure => simp [intOf]; omega
              · rw [if_neg hxy] at hst
                rw [hst] at hM
                have HMM := Lib.hid hM
                clear hst hM
                have hxyI : ¬ (x : Int) = (y : Int) := by omega
                go_wp2_with fail
                refine wp_region_noPanic ?_
                refine wp_region_held_drew (S := fun _ => True) (by kernel_rfl) trivial (fun hHeld => ?_)
                refine wpAnyH_take (i := 0) (oi := _) (v := (.int .i64 (m : Int))) rfl (by kernel_rfl) (by kernel_rfl) (by kernel_rfl) (fun _ _ _ h => h) (Or.inl ⟨by rfl, fun w' _ => by go_simp⟩) hHeld ?_
                try simp only [Act.put, List.getElem_toArray, List.getElem_cons_succ, List.getElem_cons_zero, List.setIfInBounds_toArray, List.set_cons_zero, List.set_cons_succ]
                refine wpAnyH_take (i := 1) (oi := _) (v := (.bool true)) rfl (by kernel_rfl) (by kernel_rfl) (by kernel_rfl) (fun _ _ _ h => h) (Or.inl ⟨by rfl, fun w' _ => by go_simp⟩) hHeld ?_
                try simp only [Act.put, List.getElem_toArray, List.getElem_cons_succ, List.getElem_cons_zero, List.setIfInBounds_toArray, List.set_cons_zero, List.set_cons_succ]
                refine wpAnyH_take (i := 2) (oi := _) (v := (.bool true)) rfl (by kernel_rfl) (by kernel_rfl) (by kernel_rfl) (fun _ _ _ h => h) (Or.inl ⟨by rfl, fun w' _ => by go_simp⟩) hHeld ?_
                try simp only [Act.put, List.getElem_toArray, List.getElem_cons_succ, List.getElem_cons_zero, List.setIfInBounds_toArray, List.set_cons_zero, List.set_cons_succ]
                refine wpAnyH_take (i := 3) (oi := _) (v := (.int .i64 (i : Int))) rfl (by kernel_rfl) (by kernel_rfl) (by kernel_rfl) (fun _ _ _ h => h) (Or.inl ⟨by rfl, fun w' _ => by go_simp⟩) hHeld ?_
                try simp only [Act.put, List.getElem_toArray, List.getElem_cons_succ, List.getElem_cons_zero, List.setIfInBounds_toArray, List.set_cons_zero, List.set_cons_succ]
                refine wpAnyH_take (i := 4) (oi := _) (v := (.int .i64 (m : Int))) rfl (by kernel_rfl) (by kernel_rfl) (by kernel_rfl) (fun _ _ _ h => h) (Or.inl ⟨by rfl, fun w' _ => by go_simp⟩) hHeld ?_
                try simp only [Act.put, List.getElem_toArray, List.getElem_cons_succ, List.getElem_cons_zero, List.setIfInBounds_toArray, List.set_cons_zero, List.set_cons_succ]
                refine wpAnyH_take (i := 5) (oi := _) (v := (.int .i64 ((i : Int) + m))) rfl (by kernel_rfl) (by kernel_rfl) (by kernel_rfl) (fun _ _ _ h => h) (Or.inl ⟨by rfl, fun w' _ => by go_simp⟩) hHeld ?_
                try simp only [Act.put, List.getElem_toArray, List.getElem_cons_succ, List.getElem_cons_zero, List.setIfInBounds_toArray, List.set_cons_zero, List.set_cons_succ]
                refine wpAnyH_take (i := 6) (oi := _) (v := (.string s)) rfl (by kernel_rfl) (by kernel_rfl) (by kernel_rfl) (fun _ _ _ h => h) (Or.inl ⟨by rfl, fun w' _ => by go_simp⟩) hHeld ?_
                try simp only [Act.put, List.getElem_toArray, List.getElem_cons_succ, List.getElem_cons_zero, List.setIfInBounds_toArray, List.set_cons_zero, List.set_cons_succ]
                refine wpAnyH_take (i := 7) (oi := _) (v := (.int .i64 (s.size : Int))) rfl (by kernel_rfl) (by kernel_rfl) (by kernel_rfl) (fun _ _ _ h => h) (Or.inl ⟨by rfl, fun w' _ => by go_simp⟩) hHeld ?_
                try simp only [Act.put, List.getElem_toArray, List.getElem_cons_succ, List.getElem_cons_zero, List.setIfInBounds_toArray, List.set_cons_zero, List.set_cons_succ]
                refine wpAnyH_take (i := 8) (oi := _) (v := (.bool true)) rfl (by kernel_rfl) (by kernel_rfl) (by kernel_rfl) (fun _ _ _ h => h) (Or.inl ⟨by rfl, fun w' _ => by go_simp⟩) hHeld ?_
                try simp only [Act.put, List.getElem_toArray, List.getElem_cons_succ, List.getElem_cons_zero, List.setIfInBounds_toArray, List.set_cons_zero, List.set_cons_succ]
                refine wpAnyH_take (i := 9) (oi := _) (v := (.bool true)) rfl (by kernel_rfl) (by kernel_rfl) (by kernel_rfl) (fun _ _ _ h => h) (Or.inl ⟨by rfl, fun w' _ => by go_simp⟩) hHeld ?_
                try simp only [Act.put, List.getElem_toArray, List.getElem_cons_succ, List.getElem_cons_zero, List.setIfInBounds_toArray, List.set_cons_zero, List.set_cons_succ]
                refine wpAnyH_take (i := 10) (oi := _) (v := (.bool true)) rfl (by kernel_rfl) (by kernel_rfl) (by kernel_rfl) (fun _ _ _ h => h) (Or.inl ⟨by rfl, fun w' _ => by go_simp⟩) hHeld ?_
                try simp only [Act.put, List.getElem_toArray, List.getElem_cons_succ, List.getElem_cons_zero, List.setIfInBounds_toArray, List.set_cons_zero, List.set_cons_succ]
                refine wpAnyH_take (i := 11) (oi := _) (v := (.string s)) rfl (by kernel_rfl) (by kernel_rfl) (by kernel_rfl) (fun _ _ _ h => h) (Or.inl ⟨by rfl, fun w' _ => by go_simp⟩) hHeld ?_
                try simp only [Act.put, List.getElem_toArray, List.getElem_cons_succ, List.getElem_cons_zero, List.setIfInBounds_toArray, List.set_cons_zero, List.set_cons_succ]
                refine wpAnyH_take (i := 12) (oi := _) (v := (.int .i64 (c : Int))) rfl (by kernel_rfl) (by kernel_rfl) (by kernel_rfl) (fun _ _ _ h => h) (Or.inl ⟨by rfl, fun w' _ => by go_simp⟩) hHeld ?_
                try simp only [Act.put, List.getElem_toArray, List.getElem_cons_succ, List.getElem_cons_zero, List.setIfInBounds_toArray, List.set_cons_zero, List.set_cons_succ]
                refine wpAnyH_take (i := 13) (oi := _) (v := (.int .i64 (m : Int))) rfl (by kernel_rfl) (by kernel_rfl) (by kernel_rfl) (fun _ _ _ h => h) (Or.inl ⟨by rfl, fun w' _ => by go_simp⟩) hHeld ?_
                try simp only [Act.put, List.getElem_toArray, List.getElem_cons_succ, List.getElem_cons_zero, List.setIfInBounds_toArray, List.set_cons_zero, List.set_cons_succ]
                refine wpAnyH_take (i := 14) (oi := _) (v := (.int .i64 ((c : Int) + m))) rfl (by kernel_rfl) (by kernel_rfl) (by kernel_rfl) (fun _ _ _ h => h) (Or.inl ⟨by rfl, fun w' _ => by go_simp⟩) hHeld ?_
                try simp only [Act.put, List.getElem_toArray, List.getElem_cons_succ, List.getElem_cons_zero, List.setIfInBounds_toArray, List.set_cons_zero, List.set_cons_succ]
                refine wpAnyH_take (i := 15) (oi := _) (v := (.int .u8 (x : Int))) rfl (by kernel_rfl) (by kernel_rfl) (by kernel_rfl) (fun _ _ _ h => h) (Or.inl ⟨by rfl, fun w' _ => by go_simp⟩) hHeld ?_
                try simp only [Act.put, List.getElem_toArray, List.getElem_cons_succ, List.getElem_cons_zero, List.setIfInBounds_toArray, List.set_cons_zero, List.set_cons_succ]
                refine wpAnyH_take (i := 16) (oi := _) (v := (.string s)) rfl (by kernel_rfl) (by kernel_rfl) (by kernel_rfl) (fun _ _ _ h => h) (Or.inl ⟨by rfl, fun w' _ => by go_simp⟩) hHeld ?_
                try simp only [Act.put, List.getElem_toArray, List.getElem_cons_succ, List.getElem_cons_zero, List.setIfInBounds_toArray, List.set_cons_zero, List.set_cons_succ]
                refine wpAnyH_take (i := 17) (oi := _) (v := (.int .i64 (i : Int))) rfl (by kernel_rfl) (by kernel_rfl) (by kernel_rfl) (fun _ _ _ h => h) (Or.inl ⟨by rfl, fun w' _ => by go_simp⟩) hHeld ?_
                try simp only [Act.put, List.getElem_toArray, List.getElem_cons_succ, List.getElem_cons_zero, List.setIfInBounds_toArray, List.set_cons_zero, List.set_cons_succ]
                refine wpAnyH_take (i := 18) (oi := _) (v := (.int .i64 (m : Int))) rfl (by kernel_rfl) (by kernel_rfl) (by kernel_rfl) (fun _ _ _ h => h) (Or.inl ⟨by rfl, fun w' _ => by go_simp⟩) hHeld ?_
                try simp only [Act.put, List.getElem_toArray, List.getElem_cons_succ, List.getElem_cons_zero, List.setIfInBounds_toArray, List.set_cons_zero, List.set_cons_succ]
                refine wpAnyH_take (i := 19) (oi := _) (v := (.int .i64 ((i : Int) + m))) rfl (by kernel_rfl) (by kernel_rfl) (by kernel_rfl) (fun _ _ _ h => h) (Or.inl ⟨by rfl, fun w' _ => by go_simp⟩) hHeld ?_
                try simp only [Act.put, List.getElem_toArray, List.getElem_cons_succ, List.getElem_cons_zero, List.setIfInBounds_toArray, List.set_cons_zero, List.set_cons_succ]
                refine wpAnyH_take (i := 20) (oi := _) (v := (.int .u8 (y : Int))) rfl (by kernel_rfl) (by kernel_rfl) (by kernel_rfl) (fun _ _ _ h => h) (Or.inl ⟨by rfl, fun w' _ => by go_simp⟩) hHeld ?_
                try simp only [Act.put, List.getElem_toArray, List.getElem_cons_succ, List.getElem_cons_zero, List.setIfInBounds_toArray, List.set_cons_zero, List.set_cons_succ]
                refine wpAnyH_take (i := 21) (oi := _) (v := (.bool false)) rfl (by kernel_rfl) (by kernel_rfl) (by kernel_rfl) (fun _ _ _ h => h) (Or.inl ⟨by rfl, fun w' _ => by go_simp⟩) hHeld ?_
                try simp only [Act.put, List.getElem_toArray, List.getElem_cons_succ, List.getElem_cons_zero, List.setIfInBounds_toArray, List.set_cons_zero, List.set_cons_succ]
                refine wpAnyH_take (i := 22) (oi := _) (v := (.bool false)) rfl (by kernel_rfl) (by kernel_rfl) (by kernel_rfl) (fun _ _ _ h => h) (Or.inl ⟨by rfl, fun w' _ => by go_simp⟩) hHeld ?_
                try simp only [Act.put, List.getElem_toArray, List.getElem_cons_succ, List.getElem_cons_zero, List.setIfInBounds_toArray, List.set_cons_zero, List.set_cons_succ]
                refine wpAnyH_done (by kernel_rfl) ?_ _
                refine NoPanic.normal ?_
                clear hHeld
                have hB3 := HBW.out.drew
                go_wp2_with fail
                go_ret2
                refine ⟨?_, hB3⟩
                rw [HR.out, ← HMM.out]
                show _ = Ending.returned (.tuple #[.int .i64 (m : Int), .int .i64 ((i - c : Nat) : Int)])
                rw [← HD.out]
                first | rfl | (rw [hm]; rfl)
            · have d0 : (m : Int) < 131 := by omega
              have d1 : ¬ (i : Int) + m < s.size := by omega
              have wI : IntKind.i64.wrap ((i : Int) + m) = (i : Int) + m := by simp [IntKind.wrap, IntKind.bits, IntKind.signed]; omega
              have e : mrun (nb s) c i (131 - m) m = m := by
                rw [show 131 - m = (130 - m) + 1 by omega, mrun, if_neg (by rw [nb_length]; omega)]
              rw [e] at hM
              have HMM := Lib.hid hM
              clear hM
              clear e
              go_wp2_with fail
              refine wp_region_noPanic ?_
              refine wp_region_held_drew (S := fun _ => True) (by kernel_rfl) trivial (fun hHeld => ?_)
              refine wpAnyH_take (i := 0) (oi := _) (v := (.int .i64 (m : Int))) rfl (by kernel_rfl) (by kernel_rfl) (by kernel_rfl) (fun _ _ _ h => h) (Or.inl ⟨by rfl, fun w' _ => by go_simp⟩) hHeld ?_
              try simp only [Act.put, List.getElem_toArray, List.getElem_cons_succ, List.getElem_cons_zero, List.setIfInBounds_toArray, List.set_cons_zero, List.set_cons_succ]
              refine wpAnyH_take (i := 1) (oi := _) (v := (.bool true)) rfl (by kernel_rfl) (by kernel_rfl) (by kernel_rfl) (fun _ _ _ h => h) (Or.inl ⟨by rfl, fun w' _ => by go_simp⟩) hHeld ?_
              try simp only [Act.put, List.getElem_toArray, List.getElem_cons_succ, List.getElem_cons_zero, List.setIfInBounds_toArray, List.set_cons_zero, List.set_cons_succ]
              refine wpAnyH_take (i := 2) (oi := _) (v := (.bool true)) rfl (by kernel_rfl) (by kernel_rfl) (by kernel_rfl) (fun _ _ _ h => h) (Or.inl ⟨by rfl, fun w' _ => by go_simp⟩) hHeld ?_
              try simp only [Act.put, List.getElem_toArray, List.getElem_cons_succ, List.getElem_cons_zero, List.setIfInBounds_toArray, List.set_cons_zero, List.set_cons_succ]
              refine wpAnyH_take (i := 3) (oi := _) (v := (.int .i64 (i : Int))) rfl (by kernel_rfl) (by kernel_rfl) (by kernel_rfl) (fun _ _ _ h => h) (Or.inl ⟨by rfl, fun w' _ => by go_simp⟩) hHeld ?_
              try simp only [Act.put, List.getElem_toArray, List.getElem_cons_succ, List.getElem_cons_zero, List.setIfInBounds_toArray, List.set_cons_zero, List.set_cons_succ]
              refine wpAnyH_take (i := 4) (oi := _) (v := (.int .i64 (m : Int))) rfl (by kernel_rfl) (by kernel_rfl) (by kernel_rfl) (fun _ _ _ h => h) (Or.inl ⟨by rfl, fun w' _ => by go_simp⟩) hHeld ?_
              try simp only [Act.put, List.getElem_toArray, List.getElem_cons_succ, List.getElem_cons_zero, List.setIfInBounds_toArray, List.set_cons_zero, List.set_cons_succ]
              refine wpAnyH_take (i := 5) (oi := _) (v := (.int .i64 ((i : Int) + m))) rfl (by kernel_rfl) (by kernel_rfl) (by kernel_rfl) (fun _ _ _ h => h) (Or.inl ⟨by rfl, fun w' _ => by go_simp⟩) hHeld ?_
              try simp only [Act.put, List.getElem_toArray, List.getElem_cons_succ, List.getElem_cons_zero, List.setIfInBounds_toArray, List.set_cons_zero, List.set_cons_succ]
              refine wpAnyH_take (i := 6) (oi := _) (v := (.string s)) rfl (by kernel_rfl) (by kernel_rfl) (by kernel_rfl) (fun _ _ _ h => h) (Or.inl ⟨by rfl, fun w' _ => by go_simp⟩) hHeld ?_
              try simp only [Act.put, List.getElem_toArray, List.getElem_cons_succ, List.getElem_cons_zero, List.setIfInBounds_toArray, List.set_cons_zero, List.set_cons_succ]
              refine wpAnyH_take (i := 7) (oi := _) (v := (.int .i64 (s.size : Int))) rfl (by kernel_rfl) (by kernel_rfl) (by kernel_rfl) (fun _ _ _ h => h) (Or.inl ⟨by rfl, fun w' _ => by go_simp⟩) hHeld ?_
              try simp only [Act.put, List.getElem_toArray, List.getElem_cons_succ, List.getElem_cons_zero, List.setIfInBounds_toArray, List.set_cons_zero, List.set_cons_succ]
              refine wpAnyH_take (i := 8) (oi := _) (v := (.bool false)) rfl (by kernel_rfl) (by kernel_rfl) (by kernel_rfl) (fun _ _ _ h => h) (Or.inl ⟨by rfl, fun w' _ => by go_simp⟩) hHeld ?_
              try simp only [Act.put, List.getElem_toArray, List.getElem_cons_succ, List.getElem_cons_zero, List.setIfInBounds_toArray, List.set_cons_zero, List.set_cons_succ]
              refine wpAnyH_take (i := 9) (oi := _) (v := (.bool false)) rfl (by kernel_rfl) (by kernel_rfl) (by kernel_rfl) (fun _ _ _ h => h) (Or.inl ⟨by rfl, fun w' _ => by go_simp⟩) hHeld ?_
              try simp only [Act.put, List.getElem_toArray, List.getElem_cons_succ, List.getElem_cons_zero, List.setIfInBounds_toArray, List.set_cons_zero, List.set_cons_succ]
              refine wpAnyH_take (i := 10) (oi := _) (v := (.bool false)) rfl (by kernel_rfl) (by kernel_rfl) (by kernel_rfl) (fun _ _ _ h => h) (Or.inl ⟨by rfl, fun w' _ => by go_simp⟩) hHeld ?_
              try simp only [Act.put, List.getElem_toArray, List.getElem_cons_succ, List.getElem_cons_zero, List.setIfInBounds_toArray, List.set_cons_zero, List.set_cons_succ]
              refine wpAnyH_take (i := 11) (oi := _) (v := undef) rfl (by kernel_rfl) (by kernel_rfl) (by kernel_rfl) (fun _ _ _ h => h) (Or.inr ⟨by rfl, rfl⟩) hHeld ?_
              try simp only [Act.put, List.getElem_toArray, List.getElem_cons_succ, List.getElem_cons_zero, List.setIfInBounds_toArray, List.set_cons_zero, List.set_cons_succ]
              refine wpAnyH_take (i := 12) (oi := _) (v := undef) rfl (by kernel_rfl) (by kernel_rfl) (by kernel_rfl) (fun _ _ _ h => h) (Or.inr ⟨by rfl, rfl⟩) hHeld ?_
              try simp only [Act.put, List.getElem_toArray, List.getElem_cons_succ, List.getElem_cons_zero, List.setIfInBounds_toArray, List.set_cons_zero, List.set_cons_succ]
              refine wpAnyH_take (i := 13) (oi := _) (v := undef) rfl (by kernel_rfl) (by kernel_rfl) (by kernel_rfl) (fun _ _ _ h => h) (Or.inr ⟨by rfl, rfl⟩) hHeld ?_
              try simp only [Act.put, List.getElem_toArray, List.getElem_cons_succ, List.getElem_cons_zero, List.setIfInBounds_toArray, List.set_cons_zero, List.set_cons_succ]
              refine wpAnyH_take (i := 14) (oi := _) (v := undef) rfl (by kernel_rfl) (by kernel_rfl) (by kernel_rfl) (fun _ _ _ h => h) (Or.inr ⟨by rfl, rfl⟩) hHeld ?_
              try simp only [Act.put, List.getElem_toArray, List.getElem_cons_succ, List.getElem_cons_zero, List.setIfInBounds_toArray, List.set_cons_zero, List.set_cons_succ]
              refine wpAnyH_take (i := 15) (oi := _) (v := undef) rfl (by kernel_rfl) (by kernel_rfl) (by kernel_rfl) (fun _ _ _ h => h) (Or.inr ⟨by rfl, rfl⟩) hHeld ?_
              try simp only [Act.put, List.getElem_toArray, List.getElem_cons_succ, List.getElem_cons_zero, List.setIfInBounds_toArray, List.set_cons_zero, List.set_cons_succ]
              refine wpAnyH_take (i := 16) (oi := _) (v := undef) rfl (by kernel_rfl) (by kernel_rfl) (by kernel_rfl) (fun _ _ _ h => h) (Or.inr ⟨by rfl, rfl⟩) hHeld ?_
              try simp only [Act.put, List.getElem_toArray, List.getElem_cons_succ, List.getElem_cons_zero, List.setIfInBounds_toArray, List.set_cons_zero, List.set_cons_succ]
              refine wpAnyH_take (i := 17) (oi := _) (v := undef) rfl (by kernel_rfl) (by kernel_rfl) (by kernel_rfl) (fun _ _ _ h => h) (Or.inr ⟨by rfl, rfl⟩) hHeld ?_
              try simp only [Act.put, List.getElem_toArray, List.getElem_cons_succ, List.getElem_cons_zero, List.setIfInBounds_toArray, List.set_cons_zero, List.set_cons_succ]
              refine wpAnyH_take (i := 18) (oi := _) (v := undef) rfl (by kernel_rfl) (by kernel_rfl) (by kernel_rfl) (fun _ _ _ h => h) (Or.inr ⟨by rfl, rfl⟩) hHeld ?_
              try simp only [Act.put, List.getElem_toArray, List.getElem_cons_succ, List.getElem_cons_zero, List.setIfInBounds_toArray, List.set_cons_zero, List.set_cons_succ]
              refine wpAnyH_take (i := 19) (oi := _) (v := undef) rfl (by kernel_rfl) (by kernel_rfl) (by kernel_rfl) (fun _ _ _ h => h) (Or.inr ⟨by rfl, rfl⟩) hHeld ?_
              try simp only [Act.put, List.getElem_toArray, List.getElem_cons_succ, List.getElem_cons_zero, List.setIfInBounds_toArray, List.set_cons_zero, List.set_cons_succ]
              refine wpAnyH_take (i := 20) (oi := _) (v := undef) rfl (by kernel_rfl) (by kernel_rfl) (by kernel_rfl) (fun _ _ _ h => h) (Or.inr ⟨by rfl, rfl⟩) hHeld ?_
              try simp only [Act.put, List.getElem_toArray, List.getElem_cons_succ, List.getElem_cons_zero, List.setIfInBounds_toArray, List.set_cons_zero, List.set_cons_succ]
              refine wpAnyH_take (i := 21) (oi := _) (v := undef) rfl (by kernel_rfl) (by kernel_rfl) (by kernel_rfl) (fun _ _ _ h => h) (Or.inr ⟨by rfl, rfl⟩) hHeld ?_
              try simp only [Act.put, List.getElem_toArray, List.getElem_cons_succ, List.getElem_cons_zero, List.setIfInBounds_toArray, List.set_cons_zero, List.set_cons_succ]
              refine wpAnyH_take (i := 22) (oi := _) (v := (.bool false)) rfl (by kernel_rfl) (by kernel_rfl) (by kernel_rfl) (fun _ _ _ h => h) (Or.inl ⟨by rfl, fun w' _ => by go_simp⟩) hHeld ?_
              try simp only [Act.put, List.getElem_toArray, List.getElem_cons_succ, List.getElem_cons_zero, List.setIfInBounds_toArray, List.set_cons_zero, List.set_cons_succ]
              refine wpAnyH_done (by kernel_rfl) ?_ _
              refine NoPanic.normal ?_
              clear hHeld
              have hB3 := HBW.out.drew
              go_wp2_with fail
              go_ret2
              refine ⟨?_, hB3⟩
              rw [HR.out, ← HMM.out]
              show _ = Ending.returned (.tuple #[.int .i64 (m : Int), .int .i64 ((i - c : Nat) : Int)])
              rw [← HD.out]
              first | rfl | (rw [hm]; rfl)
  · have h1 : (s.size : Int) < (i : Int) + 4 := by omega
    have e : backP (nb s) i F = (0, 0) := by rw [backP, if_neg (by rw [nb_length]; exact h4)]
    rw [hr] at e
    subst e
    go_wp2_with fail
    go_ret2
    exact ⟨rfl, Below.refl _ _⟩
end Go.Proofs.Ytlcppkcclolgcaa.Pk
