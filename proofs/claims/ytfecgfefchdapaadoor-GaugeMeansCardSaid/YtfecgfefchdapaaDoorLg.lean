/- Plain facts on rounding a whole number times a power of two: where the number is full, and where it lies below the least full one. No program in sight. -/
import Derived.Test.YtfecgfefchdapaaDoorFp
import Derived.Lib.BitFns
namespace Go.Proofs.YtfecgfefchdapaaDoor.FL
open Ieee

theorem bitLen_log2 (m : Nat) (h0 : m ≠ 0) (h : m < 18446744073709551616) : Lib.bitLen m = m.log2 + 1 := by
  induction m using Nat.strongRecOn with
  | ind m ih =>
    rw [Lib.bitLen_half m h0 h, Nat.log2_def]
    by_cases h2 : m / 2 = 0
    · rw [h2, if_neg (by omega)]; rfl
    · rw [ih (m / 2) (by omega) h2 (by omega), if_pos (by omega)]
      omega

theorem ext_nat {a b : Nat} (h : ∀ j, j < a ↔ j < b) : a = b := by
  rcases Nat.lt_trichotomy a b with h1 | h1 | h1
  · have := (h a).2 h1; omega
  · exact h1
  · have := (h b).1 h1; omega

/-- the 53 bits that are kept of a number, rounded -/
def Kc (m : Nat) : Nat := Toward.even.cut false (m <<< (52 - (m.log2 : Int)).toNat) ((m.log2 : Int) - 52).toNat

theorem rung_norm (m : Nat) (e : Int) (h0 : m ≠ 0) (h : -1022 ≤ e + m.log2) : rung m e = min ((e + m.log2 + 1022).toNat * 4503599627370496 + Kc m) 9218868437227405312 := by
  unfold rung Kc
  rw [if_neg h0, show max (e + (m.log2 : Int) - 52) (-1074) = e + m.log2 - 52 by omega, show e + (m.log2 : Int) - 52 + 1074 = e + m.log2 + 1022 by omega,
    show e - (e + (m.log2 : Int) - 52) = 52 - (m.log2 : Int) by omega, show e + (m.log2 : Int) - 52 - e = (m.log2 : Int) - 52 by omega]

theorem cut_none (n : Nat) : Toward.even.cut false n 0 = n := by
  refine ext_nat fun j => ?_
  rw [cut_even, Nat.pow_zero]
  omega

theorem Kc_small (m : Nat) (h : m.log2 ≤ 52) : Kc m = m * 2 ^ (52 - m.log2) := by
  unfold Kc
  rw [show ((m.log2 : Int) - 52).toNat = 0 by omega, show (52 - (m.log2 : Int)).toNat = 52 - m.log2 by omega, cut_none, Nat.shiftLeft_eq]

theorem fill_bd (m : Nat) (h0 : m ≠ 0) (h : m.log2 ≤ 52) : 4503599627370496 ≤ m * 2 ^ (52 - m.log2) ∧ m * 2 ^ (52 - m.log2) < 9007199254740992 := by
  have h1 := Nat.log2_self_le h0
  have h2 := Nat.lt_log2_self (n := m)
  have e : (2 : Nat) ^ m.log2 * 2 ^ (52 - m.log2) = 4503599627370496 := by
    rw [← Nat.pow_add, show m.log2 + (52 - m.log2) = 52 by omega]
  have hp : 0 < 2 ^ (52 - m.log2) := Nat.two_pow_pos _
  refine ⟨?_, ?_⟩
  · rw [← e]
    exact Nat.mul_le_mul_right _ h1
  · have := Nat.mul_lt_mul_of_pos_right h2 hp
    rw [Nat.pow_succ, show 2 ^ m.log2 * 2 * 2 ^ (52 - m.log2) = 2 ^ m.log2 * 2 ^ (52 - m.log2) * 2 by rw [Nat.mul_assoc, Nat.mul_comm 2, ← Nat.mul_assoc], e] at this
    exact this

theorem Kc_bd (m : Nat) (h0 : m ≠ 0) : 4503599627370496 ≤ Kc m ∧ Kc m ≤ 9007199254740992 := by
  by_cases h : m.log2 ≤ 52
  · rw [Kc_small m h]
    have := fill_bd m h0 h
    omega
  · have h1 := Nat.log2_self_le h0
    have h2 := Nat.lt_log2_self (n := m)
    obtain ⟨d, hd⟩ : ∃ d, m.log2 = 52 + d := ⟨m.log2 - 52, by omega⟩
    have hk : Kc m = Toward.even.cut false m d := by
      have e1 : ((m.log2 : Int) - 52).toNat = d := by omega
      have e2 : (52 - (m.log2 : Int)).toNat = 0 := by omega
      unfold Kc
      rw [e1, e2, Nat.shiftLeft_eq, Nat.pow_zero, Nat.mul_one]
    rw [hd, Nat.pow_add, show (2 : Nat) ^ 52 = 4503599627370496 from by decide] at h1
    rw [hd, show 52 + d + 1 = 53 + d by omega, Nat.pow_add, show (2 : Nat) ^ 53 = 9007199254740992 from by decide] at h2
    have k1 := cut_even false m d 4503599627370495
    have k2 := cut_even false m d 9007199254740992
    have hp : 0 < 2 ^ d := Nat.two_pow_pos _
    rw [hk]
    generalize Toward.even.cut false m d = K at *
    generalize 2 ^ d = P at *
    simp only [Nat.reduceMul, Nat.reduceAdd] at k1 k2
    constructor
    · have := k1.2 (.inl (by omega))
      omega
    · refine Nat.le_of_not_lt fun hh => ?_
      have h3 := le_of_cut (k2.1 hh)
      clear k1 k2
      omega

/-- of a number and its multiple by a power of two, both full: the place alone is another -/
theorem rung_move (m : Nat) (e : Int) (h0 : m ≠ 0) (hm : m < 18446744073709551616) (h : -1022 ≤ e + m.log2) :
    (4503599627370496 ≤ rung m 0 ∧ rung m 0 < 9218868437227405312) ∧ (4503599627370496 ≤ rung m e) ∧
    ((rung m e : Nat) : Int) = min ((rung m 0 : Int) + e * 4503599627370496) 9218868437227405312 := by
  have hl : m.log2 < 64 := (Nat.log2_lt h0).2 (by rw [show (2 : Nat) ^ 64 = 18446744073709551616 from by decide]; exact hm)
  have hb := Kc_bd m h0
  rw [rung_norm m e h0 h, rung_norm m 0 h0 (by omega), Nat.min_eq_left (show ((0 : Int) + m.log2 + 1022).toNat * 4503599627370496 + Kc m ≤ 9218868437227405312 by omega)]
  generalize Kc m = K at *
  omega

theorem rung_low (m : Nat) (e : Int) (h0 : m ≠ 0) (h : e + m.log2 < -1022) : rung m e = Toward.even.cut false (m <<< (e + 1074).toNat) (-1074 - e).toNat ∧ rung m e ≤ 4503599627370496 := by
  have hk : Toward.even.cut false (m <<< (e + 1074).toNat) (-1074 - e).toNat ≤ 4503599627370496 := by
    have h2 := Nat.lt_log2_self (n := m)
    have k2 := cut_even false (m <<< (e + 1074).toNat) (-1074 - e).toNat 4503599627370496
    refine Nat.le_of_not_lt fun hh => ?_
    have h3 := le_of_cut (k2.1 hh)
    rw [Nat.shiftLeft_eq] at h3
    have h4 : m * 2 ^ (e + 1074).toNat < 2 ^ (m.log2 + 1) * 2 ^ (e + 1074).toNat := Nat.mul_lt_mul_of_pos_right h2 (Nat.two_pow_pos _)
    rw [← Nat.pow_add] at h4
    have h5 : 2 ^ (m.log2 + 1 + (e + 1074).toNat) ≤ 2 ^ (52 + (-1074 - e).toNat) := Nat.pow_le_pow_right (by omega) (by omega)
    rw [Nat.pow_add 2 52, show (2 : Nat) ^ 52 = 4503599627370496 from by decide] at h5
    have hp : 0 < 2 ^ (-1074 - e).toNat := Nat.two_pow_pos _
    generalize 2 ^ (-1074 - e).toNat = P at *
    omega
  have e1 : rung m e = Toward.even.cut false (m <<< (e + 1074).toNat) (-1074 - e).toNat := by
    unfold rung
    rw [if_neg h0, show max (e + (m.log2 : Int) - 52) (-1074) = -1074 by omega, show (((-1074 : Int) + 1074).toNat) = 0 by omega, Nat.zero_mul, Nat.zero_add, show e - -1074 = e + 1074 by omega, Nat.min_eq_left (by omega)]
  exact ⟨e1, by rw [e1]; exact hk⟩

/-- what the program's shift computes: by a number of places below 64 -/
theorem cut_mid (m d : Nat) (hm : m < 18446744073709551616) (h1 : 0 < d) (h2 : d < 64) :
    Toward.even.cut false m d = if 9223372036854775808 < m * 2 ^ (64 - d) % 18446744073709551616 ∨ (m * 2 ^ (64 - d) % 18446744073709551616 = 9223372036854775808 ∧ m / 2 ^ d % 2 = 1) then m / 2 ^ d + 1 else m / 2 ^ d := by
  obtain ⟨c, rfl⟩ : ∃ c, d = c + 1 := ⟨d - 1, by omega⟩
  have eP : (2 : Nat) ^ (c + 1) = 2 * 2 ^ c := by rw [Nat.pow_succ, Nat.mul_comm]
  have e64 : 18446744073709551616 = 2 ^ (c + 1) * 2 ^ (64 - (c + 1)) := by
    rw [← Nat.pow_add, show c + 1 + (64 - (c + 1)) = 64 by omega]
  have e63 : 9223372036854775808 = 2 ^ c * 2 ^ (64 - (c + 1)) := by
    rw [← Nat.pow_add, show c + (64 - (c + 1)) = 63 by omega]
  have hT : 0 < 2 ^ (64 - (c + 1)) := Nat.two_pow_pos _
  have c1 : 9223372036854775808 < m * 2 ^ (64 - (c + 1)) % 18446744073709551616 ↔ 2 ^ c < m % 2 ^ (c + 1) := by
    rw [e64, Nat.mul_mod_mul_right, e63, Nat.mul_lt_mul_right hT]
  have c2 : m * 2 ^ (64 - (c + 1)) % 18446744073709551616 = 9223372036854775808 ↔ m % 2 ^ (c + 1) = 2 ^ c := by
    rw [e64, Nat.mul_mod_mul_right, e63, Nat.mul_left_inj (Nat.ne_of_gt hT)]
  simp only [c1, c2]
  refine ext_nat fun j => ?_
  rw [cut_even]
  have hH : 0 < 2 ^ c := Nat.two_pow_pos _
  rw [eP]
  generalize 2 ^ c = H at *
  have hd := Nat.div_add_mod m (2 * H)
  have hlt := Nat.mod_lt m (show 0 < 2 * H by omega)
  generalize m / (2 * H) = q at *
  generalize m % (2 * H) = r at *
  rcases Nat.lt_trichotomy j q with hj | hj | hj
  · have h5 : (2 * j + 1) * (2 * H) < (2 * q) * (2 * H) := Nat.mul_lt_mul_of_pos_right (by omega) (by omega)
    have h6 : (2 * q) * (2 * H) = 2 * (2 * H * q) := by rw [Nat.mul_assoc, Nat.mul_comm q]
    constructor
    · intro _; split <;> omega
    · intro _; left; omega
  · subst hj
    have h6 : (2 * j + 1) * (2 * H) = 2 * (2 * H * j) + 2 * H := by rw [Nat.add_mul, Nat.mul_assoc, Nat.mul_comm j]; omega
    rw [h6]
    split
    · next c => constructor
                · intro _; omega
                · intro _; omega
    · next c => constructor
                · intro hh; exfalso; omega
                · intro hh; omega
  · have h5 : (2 * q + 3) * (2 * H) ≤ (2 * j + 1) * (2 * H) := Nat.mul_le_mul_right _ (by omega)
    have h6 : (2 * q + 3) * (2 * H) = 2 * (2 * H * q) + 3 * (2 * H) := by rw [Nat.add_mul, Nat.mul_assoc, Nat.mul_comm q]
    constructor
    · intro hh; omega
    · intro hh; split at hh <;> omega
theorem cut_64 (m : Nat) (hm : m < 18446744073709551616) : Toward.even.cut false m 64 = if 9223372036854775808 < m then 1 else 0 := by
  refine ext_nat fun j => ?_
  rw [cut_even, show (2 : Nat) ^ 64 = 18446744073709551616 from by decide]
  split <;> omega
theorem cut_far (m d : Nat) (hm : m < 18446744073709551616) (h : 64 < d) : Toward.even.cut false m d = 0 := by
  refine ext_nat fun j => ?_
  rw [cut_even]
  have h1 : 2 ^ 65 ≤ 2 ^ d := Nat.pow_le_pow_right (by omega) h
  have h2 : 1 * 2 ^ d ≤ (2 * j + 1) * 2 ^ d := Nat.mul_le_mul_right _ (by omega)
  rw [show (2 : Nat) ^ 65 = 36893488147419103232 from by decide] at h1
  omega
/-- a whole number of at most 52 bits: its rung -/
theorem rn_small (K : Nat) (h0 : K ≠ 0) (h : K < 4503599627370496) : rung K 0 = rg (K * 2 ^ (52 - K.log2)) (K.log2 + 1022) ∧ K.log2 < 52 := by
  have hl : K.log2 < 52 := (Nat.log2_lt h0).2 (by rw [show (2 : Nat) ^ 52 = 4503599627370496 from by decide]; exact h)
  have hb := fill_bd K h0 (by omega)
  refine ⟨?_, hl⟩
  rw [rung_norm K 0 h0 (by omega), Kc_small K (by omega)]
  unfold rg
  generalize K * 2 ^ (52 - K.log2) = M at *
  omega
end Go.Proofs.YtfecgfefchdapaaDoor.FL

