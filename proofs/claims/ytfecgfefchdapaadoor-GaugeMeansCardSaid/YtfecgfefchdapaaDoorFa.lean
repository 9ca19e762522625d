/- Plain arithmetic of rounding: a number m * 2 ^ e stands above rung r just where it lies above the midpoint behind r (or on it, r odd). No program in sight. -/
import Ieee.Arith
namespace Go.Proofs.YtfecgfefchdapaaDoor.FL
open Ieee

theorem toNat_or (p q r : Prop) [Decidable p] [Decidable q] [Decidable r] : (decide p || (decide q && decide r)).toNat = if p ∨ (q ∧ r) then 1 else 0 := by
  by_cases hp : p <;> by_cases hq : q <;> by_cases hr : r <;> simp [hp, hq, hr]

theorem cut_even (neg : Bool) (n drop j : Nat) :
    j < Toward.even.cut neg n drop ↔ (2 * j + 1) * 2 ^ drop < 2 * n ∨ ((2 * j + 1) * 2 ^ drop = 2 * n ∧ j % 2 = 1) := by
  unfold Toward.cut
  simp only [Nat.shiftLeft_eq, Nat.one_mul]
  rcases Nat.le_total drop (n.log2 + 2) with h | h
  · rw [Nat.min_eq_left h]
    have hg : 0 < 2 ^ drop := Nat.two_pow_pos _
    generalize 2 ^ drop = g at hg
    have e : g * (n / g) + n % g = n := Nat.div_add_mod n g
    have hr : n % g < g := Nat.mod_lt _ hg
    generalize n / g = low at *
    generalize n % g = rest at *
    rcases Nat.lt_trichotomy j low with hj | hj | hj
    · have h1 : (2 * j + 1) * g < (2 * low) * g := Nat.mul_lt_mul_of_pos_right (by omega) hg
      have h2 : (2 * low) * g = 2 * (g * low) := by rw [Nat.mul_assoc, Nat.mul_comm low g]
      constructor
      · intro _; left; omega
      · intro _; omega
    · subst hj
      have h2 : (2 * j + 1) * g = 2 * (g * j) + g := by rw [Nat.add_mul, Nat.mul_assoc, Nat.mul_comm j g]; omega
      rw [h2]
      have hm : (decide (g < 2 * rest) || g == 2 * rest && j % 2 == 1).toNat = if g < 2 * rest ∨ (g = 2 * rest ∧ j % 2 = 1) then 1 else 0 := by
        exact toNat_or _ _ _
      rw [hm]
      split
      · rename_i c; omega
      · rename_i c; omega
    · have h1 : (2 * low + 3) * g ≤ (2 * j + 1) * g := Nat.mul_le_mul_right g (by omega)
      have h2 : (2 * low + 3) * g = 2 * (g * low) + 3 * g := by rw [Nat.add_mul, Nat.mul_assoc, Nat.mul_comm low g]
      have h3 : ∀ b : Bool, b.toNat ≤ 1 := by intro b; cases b <;> simp
      constructor
      · intro hh; have := h3 (decide (g < 2 * rest) || g == 2 * rest && low % 2 == 1); omega
      · intro hh; omega
  · rw [Nat.min_eq_right h]
    have hlt : n < 2 ^ (n.log2 + 1) := Nat.lt_log2_self
    have h4 : 2 ^ (n.log2 + 2) = 2 * 2 ^ (n.log2 + 1) := by rw [Nat.pow_succ 2 (n.log2 + 1), Nat.mul_comm]
    have h5 : 2 ^ (n.log2 + 2) ≤ 2 ^ drop := Nat.pow_le_pow_right (by omega) h
    have hlow : n / 2 ^ (n.log2 + 2) = 0 := Nat.div_eq_of_lt (by omega)
    have hrest : n % 2 ^ (n.log2 + 2) = n := Nat.mod_eq_of_lt (by omega)
    rw [hlow, hrest]
    have c1 : ¬ 2 ^ (n.log2 + 2) < 2 * n := by omega
    have c2 : ¬ 2 ^ (n.log2 + 2) = 2 * n := by omega
    have h6 : 1 * 2 ^ drop ≤ (2 * j + 1) * 2 ^ drop := Nat.mul_le_mul_right _ (by omega)
    have hm : (decide (2 ^ (n.log2 + 2) < 2 * n) || 2 ^ (n.log2 + 2) == 2 * n && 0 % 2 == 1).toNat = 0 := by simp [c1]
    rw [hm]
    omega

/-- the significand of a rung, and the place of its last digit above the least -/
def sg (r : Nat) : Nat := if r < 4503599627370496 then r else 4503599627370496 + r % 4503599627370496
def pl (r : Nat) : Nat := r / 4503599627370496 - 1

/-- the rung nearest to m * 2 ^ e -/
def rung (m : Nat) (e : Int) : Nat :=
  if m = 0 then 0 else
  min ((max (e + m.log2 - 52) (-1074) + 1074).toNat * 4503599627370496 + Toward.even.cut false (m <<< (e - max (e + m.log2 - 52) (-1074)).toNat) (max (e + m.log2 - 52) (-1074) - e).toNat) 9218868437227405312

theorem d_inf : double.infRung = 9218868437227405312 := by decide
theorem d_bin : double.binade = 4503599627370496 := by decide
theorem d_sgn : double.signWeight = 9223372036854775808 := by decide
theorem d_lst : double.leastPlace = -1074 := by decide
theorem d_frc : double.fractionBits = 52 := rfl
theorem cut_sign (n d : Nat) : Toward.even.cut true n d = Toward.even.cut false n d := rfl

theorem nearest_rung (neg : Bool) (m : Nat) (e : Int) : double.nearest neg m e = if neg then 9223372036854775808 + rung m e else rung m e := by
  unfold Format.nearest rung Format.word
  rw [d_inf, d_bin, d_sgn, d_lst, d_frc]
  by_cases h : m = 0
  · rw [if_pos h, if_pos h]
  · rw [if_neg h, if_neg h]
    cases neg
    · rfl
    · simp only [cut_sign]; rfl

theorem rung_le (m : Nat) (e : Int) : rung m e ≤ 9218868437227405312 := by
  unfold rung; split
  · omega
  · exact Nat.min_le_right ..

theorem sg_lt (r : Nat) : sg r < 9007199254740992 := by
  unfold sg; split <;> omega

theorem le_of_cut {a b : Nat} {p : Prop} (h : a < b ∨ (a = b ∧ p)) : a ≤ b := by
  rcases h with h | ⟨h, _⟩ <;> omega

theorem rung_cut (m : Nat) (e : Int) (k r : Nat) (hk : -1074 - (k : Int) ≤ e) (hr : r < 9218868437227405312) :
    r < rung m e ↔ (2 * sg r + 1) * 2 ^ (pl r + k) < 2 * (m * 2 ^ (e + 1074 + k).toNat) ∨ ((2 * sg r + 1) * 2 ^ (pl r + k) = 2 * (m * 2 ^ (e + 1074 + k).toNat) ∧ r % 2 = 1) := by
  unfold rung
  by_cases hm : m = 0
  · subst hm
    rw [if_pos rfl, Nat.zero_mul]
    have : 0 < (2 * sg r + 1) * 2 ^ (pl r + k) := Nat.mul_pos (by omega) (Nat.two_pow_pos _)
    omega
  · rw [if_neg hm]
    obtain ⟨L, hL⟩ : ∃ L : Nat, max (e + m.log2 - 52) (-1074) = (L : Int) - 1074 := ⟨(max (e + m.log2 - 52) (-1074) + 1074).toNat, by omega⟩
    rw [hL]
    have hLe : e + m.log2 - 52 ≤ (L : Int) - 1074 := by omega
    have hL0 : 0 < L → e + m.log2 - 52 = (L : Int) - 1074 := by omega
    clear hL
    rw [show ((L : Int) - 1074 + 1074).toNat = L by omega, Nat.lt_min, and_iff_left hr, Nat.shiftLeft_eq]
    have kept := cut_even false (m * 2 ^ (e - ((L : Int) - 1074)).toNat) ((L : Int) - 1074 - e).toNat
    generalize Toward.even.cut false (m * 2 ^ (e - ((L : Int) - 1074)).toNat) ((L : Int) - 1074 - e).toNat = K at *
    have scale : ∀ j, ((2 * j + 1) * 2 ^ ((L : Int) - 1074 - e).toNat < 2 * (m * 2 ^ (e - ((L : Int) - 1074)).toNat) ↔ (2 * j + 1) * 2 ^ (L + k) < 2 * (m * 2 ^ (e + 1074 + k).toNat)) ∧
        ((2 * j + 1) * 2 ^ ((L : Int) - 1074 - e).toNat = 2 * (m * 2 ^ (e - ((L : Int) - 1074)).toNat) ↔ (2 * j + 1) * 2 ^ (L + k) = 2 * (m * 2 ^ (e + 1074 + k).toNat)) := by
      intro j
      rcases Int.le_total ((L : Int) - 1074) e with h | h
      · have h1 : ((L : Int) - 1074 - e).toNat = 0 := by omega
        have h2 : (e + 1074 + k).toNat = (e - ((L : Int) - 1074)).toNat + (L + k) := by omega
        have hp : 0 < 2 ^ (L + k) := Nat.two_pow_pos _
        have h3 : 2 * (m * 2 ^ (e + 1074 + k).toNat) = 2 * (m * 2 ^ (e - ((L : Int) - 1074)).toNat) * 2 ^ (L + k) := by
          rw [h2, Nat.pow_add, Nat.mul_assoc 2, Nat.mul_assoc m]
        rw [h1, h3, Nat.pow_zero, Nat.mul_one]
        exact ⟨(Nat.mul_lt_mul_right hp).symm, (Nat.mul_left_inj (Nat.ne_of_gt hp)).symm⟩
      · have h1 : (e - ((L : Int) - 1074)).toNat = 0 := by omega
        have h2 : L + k = ((L : Int) - 1074 - e).toNat + (e + 1074 + k).toNat := by omega
        have hp : 0 < 2 ^ (e + 1074 + k).toNat := Nat.two_pow_pos _
        have h3 : (2 * j + 1) * 2 ^ (L + k) = (2 * j + 1) * 2 ^ ((L : Int) - 1074 - e).toNat * 2 ^ (e + 1074 + k).toNat := by
          rw [h2, Nat.pow_add, Nat.mul_assoc]
        rw [h1, h3, Nat.pow_zero, Nat.mul_one, ← Nat.mul_assoc 2 m]
        exact ⟨(Nat.mul_lt_mul_right hp).symm, (Nat.mul_left_inj (Nat.ne_of_gt hp)).symm⟩
    have kept' : ∀ j, j < K ↔ (2 * j + 1) * 2 ^ (L + k) < 2 * (m * 2 ^ (e + 1074 + k).toNat) ∨ ((2 * j + 1) * 2 ^ (L + k) = 2 * (m * 2 ^ (e + 1074 + k).toNat) ∧ j % 2 = 1) := by
      intro j; rw [kept j, (scale j).1, (scale j).2]
    clear kept scale
    have hlo : 2 ^ m.log2 ≤ m := Nat.log2_self_le hm
    have hhi : m < 2 ^ (m.log2 + 1) := Nat.lt_log2_self
    have hD1 : m * 2 ^ (e + 1074 + k).toNat < 9007199254740992 * 2 ^ (L + k) := by
      have h1 : m * 2 ^ (e + 1074 + k).toNat < 2 ^ (m.log2 + 1) * 2 ^ (e + 1074 + k).toNat := Nat.mul_lt_mul_of_pos_right hhi (Nat.two_pow_pos _)
      rw [← Nat.pow_add] at h1
      have h2 : 2 ^ (m.log2 + 1 + (e + 1074 + k).toNat) ≤ 2 ^ (53 + (L + k)) := Nat.pow_le_pow_right (by omega) (by omega)
      rw [Nat.pow_add 2 53] at h2
      omega
    have hD2 : 0 < L → 4503599627370496 * 2 ^ (L + k) ≤ m * 2 ^ (e + 1074 + k).toNat := by
      intro hpos
      have h0 := hL0 hpos
      have h1 : 2 ^ m.log2 * 2 ^ (e + 1074 + k).toNat ≤ m * 2 ^ (e + 1074 + k).toNat := Nat.mul_le_mul_right _ hlo
      rw [← Nat.pow_add, show m.log2 + (e + 1074 + k).toNat = 52 + (L + k) by omega, Nat.pow_add 2 52] at h1
      omega
    generalize m * 2 ^ (e + 1074 + k).toNat = D at *
    clear hLe hL0 hlo hhi hm hk
    have hP : 0 < 2 ^ (L + k) := Nat.two_pow_pos _
    have hK1 : K ≤ 9007199254740992 := by
      rcases Nat.lt_or_ge 9007199254740992 K with h | h
      · have h1 : (2 * 9007199254740992 + 1) * 2 ^ (L + k) ≤ 2 * D := le_of_cut ((kept' 9007199254740992).1 h)
        generalize 2 ^ (L + k) = P at h1 hD1 hP
        simp only [Nat.reduceMul, Nat.reduceAdd] at h1
        omega
      · exact h
    have hK2 : 0 < L → 4503599627370496 ≤ K := by
      intro hpos
      have h1 := hD2 hpos
      have h3 : (2 * 4503599627370495 + 1) * 2 ^ (L + k) < 2 * D := by
        generalize 2 ^ (L + k) = P at h1 hP
        simp only [Nat.reduceMul, Nat.reduceAdd]
        omega
      have h2 := (kept' 4503599627370495).2 (Or.inl h3)
      omega
    have hs := sg_lt r
    by_cases c1 : pl r = L ∧ (L = 0 ∨ r / 4503599627370496 = L + 1)
    · obtain ⟨c1, c2⟩ := c1
      have hrs : r = L * 4503599627370496 + sg r := by
        unfold pl at c1; unfold sg; split <;> omega
      have hpar : r % 2 = sg r % 2 := by omega
      rw [c1, hpar, ← kept' (sg r)]
      omega
    · by_cases c2 : r / 4503599627370496 < L + 1
      · have hpos : 0 < L := by unfold pl at c1; omega
        have hp : pl r ≤ L - 1 := by unfold pl; omega
        have h1 := hK2 hpos
        have h2 := hD2 hpos
        have h3 : 2 ^ (pl r + k) ≤ 2 ^ (L - 1 + k) := Nat.pow_le_pow_right (by omega) (by omega)
        have h4 : 2 ^ (L + k) = 2 * 2 ^ (L - 1 + k) := by rw [show L + k = (L - 1 + k) + 1 by omega, Nat.pow_succ, Nat.mul_comm]
        have h5 : (2 * sg r + 1) * 2 ^ (pl r + k) ≤ 18014398509481983 * 2 ^ (L - 1 + k) := Nat.mul_le_mul (by omega) h3
        have hP' : 0 < 2 ^ (L - 1 + k) := Nat.two_pow_pos _
        constructor
        · intro _; left; omega
        · intro _; omega
      · have hge : L + 2 ≤ r / 4503599627370496 := by
          unfold pl at c1; omega
        have hp : L + 1 ≤ pl r := by unfold pl; omega
        have hsg : 4503599627370496 ≤ sg r := by unfold sg; split <;> omega
        have h3 : 2 ^ (L + 1 + k) ≤ 2 ^ (pl r + k) := Nat.pow_le_pow_right (by omega) (by omega)
        have h4 : 2 ^ (L + 1 + k) = 2 * 2 ^ (L + k) := by rw [show L + 1 + k = (L + k) + 1 by omega, Nat.pow_succ, Nat.mul_comm]
        have h5 : 9007199254740993 * 2 ^ (L + 1 + k) ≤ (2 * sg r + 1) * 2 ^ (pl r + k) := Nat.mul_le_mul (by omega) h3
        constructor
        · intro _; omega
        · intro h; have h6 := le_of_cut h; omega

/-- the value of a rung, in units of the least place -/
def vv (r : Nat) : Nat := sg r * 2 ^ pl r

theorem vv_succ (r : Nat) : vv (r + 1) = vv r + 2 ^ pl r := by
  unfold vv
  by_cases h : (r + 1) % 4503599627370496 = 0
  · by_cases h0 : r / 4503599627370496 = 0
    · have e1 : sg r = 4503599627370495 := by unfold sg; split <;> omega
      have e2 : sg (r + 1) = 4503599627370496 := by unfold sg; split <;> omega
      have e3 : pl r = 0 := by unfold pl; omega
      have e4 : pl (r + 1) = 0 := by unfold pl; omega
      rw [e1, e2, e3, e4]
    · have e1 : sg r = 9007199254740991 := by unfold sg; split <;> omega
      have e2 : sg (r + 1) = 4503599627370496 := by unfold sg; split <;> omega
      have e4 : pl (r + 1) = pl r + 1 := by unfold pl; omega
      rw [e1, e2, e4, Nat.pow_succ]; omega
  · have e1 : sg (r + 1) = sg r + 1 := by unfold sg; split <;> split <;> omega
    have e4 : pl (r + 1) = pl r := by unfold pl; omega
    rw [e1, e4, Nat.add_mul, Nat.one_mul]

theorem vv_lt {a b : Nat} (h : a < b) : vv a < vv b := by
  induction b with
  | zero => omega
  | succ b ih =>
    have := vv_succ b
    have : 0 < 2 ^ pl b := Nat.two_pow_pos _
    rcases Nat.lt_or_ge a b with h1 | h1
    · have := ih h1; omega
    · obtain rfl : a = b := by omega
      omega

theorem vv_le {a b : Nat} (h : a ≤ b) : vv a ≤ vv b := by
  rcases Nat.lt_or_ge a b with h1 | h1
  · exact Nat.le_of_lt (vv_lt h1)
  · obtain rfl : a = b := by omega
    exact Nat.le_refl _

theorem vv_lt_iff {a b : Nat} : vv a < vv b ↔ a < b := by
  constructor
  · intro h; rcases Nat.lt_or_ge a b with h1 | h1
    · exact h1
    · have := vv_le h1; omega
  · exact vv_lt

theorem vv_inj {a b : Nat} (h : vv a = vv b) : a = b := by
  rcases Nat.lt_trichotomy a b with h1 | h1 | h1
  · have := vv_lt h1; omega
  · exact h1
  · have := vv_lt h1; omega

theorem vv_zero : vv 0 = 0 := by decide

theorem mid_eq (r : Nat) : (2 * sg r + 1) * 2 ^ pl r = 2 * vv r + 2 ^ pl r := by
  unfold vv; rw [Nat.add_mul, Nat.one_mul, Nat.mul_assoc]

/-- the midpoint behind r lies below x just where r does -/
theorem mid_lt {r x : Nat} (h : r < x) : (2 * sg r + 1) * 2 ^ pl r < 2 * vv x := by
  have h1 := vv_le (show r + 1 ≤ x from h)
  have h2 := vv_succ r
  have h3 : 0 < 2 ^ pl r := Nat.two_pow_pos _
  rw [mid_eq]; omega

theorem mid_gt {r x : Nat} (h : x ≤ r) : 2 * vv x < (2 * sg r + 1) * 2 ^ pl r := by
  have h1 := vv_le h
  have h3 : 0 < 2 ^ pl r := Nat.two_pow_pos _
  rw [mid_eq]; omega

theorem mid_mono {r x : Nat} (h : r < x) : (2 * sg r + 1) * 2 ^ pl r < (2 * sg x + 1) * 2 ^ pl x :=
  Nat.lt_trans (mid_lt h) (mid_gt (Nat.le_refl x))

/-- two rungs that stand above the same midpoints are one -/
theorem rung_ext {a b : Nat} (ha : a ≤ 9218868437227405312) (hb : b ≤ 9218868437227405312) (h : ∀ r, r < 9218868437227405312 → (r < a ↔ r < b)) : a = b := by
  rcases Nat.lt_trichotomy a b with h1 | h1 | h1
  · have := (h a (by omega)).2 h1; omega
  · exact h1
  · have := (h b (by omega)).1 h1; omega

/-- words, read -/
theorem read_pos (r : Nat) (h : r < 9218868437227405312) : double.read r = .number false (sg r) ((pl r : Int) - 1074) := by
  unfold Format.read
  rw [d_inf, d_bin, d_sgn, d_lst]
  have e1 : r / 9223372036854775808 = 0 := by omega
  have e2 : r % 9223372036854775808 = r := by omega
  simp only [e1, e2]
  unfold sg pl
  by_cases c : r < 4503599627370496
  · simp only [if_pos c]
    congr 1; omega
  · simp only [if_neg c, if_pos h]
    congr 1

theorem read_neg (r : Nat) (h : r < 9218868437227405312) : double.read (9223372036854775808 + r) = .number true (sg r) ((pl r : Int) - 1074) := by
  unfold Format.read
  rw [d_inf, d_bin, d_sgn, d_lst]
  have e1 : (9223372036854775808 + r) / 9223372036854775808 % 2 = 1 := by omega
  have e2 : (9223372036854775808 + r) % 9223372036854775808 = r := by omega
  simp only [e1, e2]
  unfold sg pl
  by_cases c : r < 4503599627370496
  · simp only [if_pos c]
    congr 1; omega
  · simp only [if_neg c, if_pos h]
    congr 1

/-- the order of two numbers that are not below 0 is that of their rungs -/
theorem order_pos (a b : Nat) (ha : a < 9218868437227405312) (hb : b < 9218868437227405312) : double.order a b = some (compare a b) := by
  unfold Format.order
  rw [read_pos a ha, read_pos b hb]
  simp only [Datum.order, signed, Nat.shiftLeft_eq]
  obtain ⟨t, ht⟩ : ∃ t : Nat, min ((pl a : Int) - 1074) ((pl b : Int) - 1074) = (t : Int) - 1074 := ⟨min (pl a) (pl b), by omega⟩
  rw [ht]
  have e1 : ((pl a : Int) - 1074 - ((t : Int) - 1074)).toNat = pl a - t := by omega
  have e2 : ((pl b : Int) - 1074 - ((t : Int) - 1074)).toNat = pl b - t := by omega
  rw [e1, e2]
  have ha1 : vv a = sg a * 2 ^ (pl a - t) * 2 ^ t := by unfold vv; rw [Nat.mul_assoc, ← Nat.pow_add]; congr 2; omega
  have hb1 : vv b = sg b * 2 ^ (pl b - t) * 2 ^ t := by unfold vv; rw [Nat.mul_assoc, ← Nat.pow_add]; congr 2; omega
  have hp : 0 < 2 ^ t := Nat.two_pow_pos _
  generalize sg a * 2 ^ (pl a - t) = x at *
  generalize sg b * 2 ^ (pl b - t) = y at *
  simp only [Bool.false_eq_true, if_false]
  congr 1
  rcases Nat.lt_trichotomy a b with h | h | h
  · have h1 := vv_lt h
    rw [ha1, hb1] at h1
    have h2 := Nat.lt_of_mul_lt_mul_right h1
    rw [Nat.compare_eq_lt.2 h]
    exact Int.compare_eq_lt.2 (by omega)
  · subst h
    have h2 : x = y := by
      rw [ha1] at hb1
      exact Nat.eq_of_mul_eq_mul_right hp hb1
    subst h2
    rw [Nat.compare_eq_eq.2 rfl]
    exact Int.compare_eq_eq.2 rfl
  · have h1 := vv_lt h
    rw [ha1, hb1] at h1
    have h2 := Nat.lt_of_mul_lt_mul_right h1
    rw [Nat.compare_eq_gt.2 h]
    exact Int.compare_eq_gt.2 (by omega)
end Go.Proofs.YtfecgfefchdapaaDoor.FL
