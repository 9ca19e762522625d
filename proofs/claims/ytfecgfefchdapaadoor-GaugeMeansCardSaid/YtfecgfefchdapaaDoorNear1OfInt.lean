/- Plain facts on the printed functions of depotref04: Near rounds as the model's floats do. -/
import Derived.Test.YtfecgfefchdapaaDoorPOfIntx1
import Derived.Test.YtfecgfefchdapaaDoorFc
namespace Go.Proofs.YtfecgfefchdapaaDoor.NearOfInt
open Go.RowKit Go.Proofs.YtfecgfefchdapaaDoor.POfInt Go.Proofs.YtfecgfefchdapaaDoorW.PrintWords FL

theorem rung_double (m : Nat) (e : Int) : rung (2 * m) (e - 1) = rung m e := by
  refine rung_ext (rung_le _ _) (rung_le _ _) fun r hr => ?_
  obtain ⟨k, hk⟩ : ∃ k : Nat, -1074 - (k : Int) ≤ e - 1 := ⟨(-1074 - (e - 1)).toNat, by omega⟩
  rw [rung_cut _ _ k r hk hr, rung_cut _ _ k r (by omega) hr]
  rw [show (e + 1074 + k).toNat = (e - 1 + 1074 + k).toNat + 1 by omega, Nat.pow_succ]
  rw [show 2 * m * 2 ^ (e - 1 + 1074 + (k : Int)).toNat = m * (2 ^ (e - 1 + 1074 + (k : Int)).toNat * 2) by
    rw [Nat.mul_comm 2 m, Nat.mul_assoc, Nat.mul_comm 2]]

def lenN (m : Nat) : Nat := if m = 0 then 0 else m.log2 + 1
theorem lenN_half (m : Nat) (h : m ≠ 0) : lenN m = lenN (m / 2) + 1 := by
  unfold lenN
  rw [if_neg h]
  have hl : m.log2 = if 2 ≤ m then (m / 2).log2 + 1 else 0 := by rw [Nat.log2_def]
  by_cases hm2 : m / 2 = 0
  · rw [if_pos hm2]; rw [if_neg (by omega)] at hl; omega
  · rw [if_neg hm2]; rw [if_pos (by omega)] at hl; omega

theorem len_ev (m : Nat) (hm : m < 18446744073709551616) : ∀ (n : Nat), n + lenN m ≤ 1000 → Ev (fun k => depotref04_length.l0 k (m : Int) (n : Int)) ((lenN m + n : Nat) : Int) := by
  induction m using Nat.strongRecOn with
  | ind m ih =>
    intro n hn
    by_cases h0 : m = 0
    · subst h0
      refine Ev.step (f := fun _ => some (n : Int)) (fun k => ?_) ?_
      · simp only [depotref04_length.l0]; rw [if_neg (by omega)]
      · rw [show lenN 0 + n = n by simp [lenN]]; exact Ev.now _
    · have hh := lenN_half m h0
      have h1 := ih (m / 2) (by omega) (by omega) (n + 1) (by omega)
      refine Ev.step (f := fun k => depotref04_length.l0 k ((m / 2 : Nat) : Int) ((n + 1 : Nat) : Int)) (fun k => ?_) ?_
      · simp only [depotref04_length.l0]
        rw [if_pos (by omega), show (m : Int).tdiv 2 = ((m / 2 : Nat) : Int) by rw [Int.tdiv_eq_ediv_of_nonneg (by omega)]; omega, IntKind.wrap_u64,
          show ((m / 2 : Nat) : Int) % 18446744073709551616 = ((m / 2 : Nat) : Int) by omega, show wrap64 ((n : Int) + 1) = ((n + 1 : Nat) : Int) by unfold wrap64; omega]
      · rw [show lenN m + n = lenN (m / 2) + (n + 1) by omega]; exact h1

theorem length_ev (m : Nat) (hm : m < 18446744073709551616) : Ev (fun k => depotref04_length.f k (m : Int)) (lenN m : Int) := by
  have hl : lenN m ≤ 64 := by
    unfold lenN; split
    · omega
    · have := (Nat.log2_lt (k := 64) ‹_›).2 (by omega); omega
  have := len_ev m hm 0 (by omega)
  exact this

/-- what is put behind the sign -/
def outB (S K : Nat) (e : Int) : Int :=
  if K < 4503599627370496 then (S + K : Nat) else if 2047 ≤ e + 1075 then (S + 9218868437227405312 : Nat) else S + (e + 1075) * 4503599627370496 + (K - 4503599627370496)

theorem j6_ev (S K : Nat) (e : Int) (hS : S = 0 ∨ S = 9223372036854775808) (hK : K < 9007199254740992) (he : -1075 ≤ e ∧ e ≤ 5000) :
    Ev (fun k => depotref04_Near.j6 k (K : Int) e (S : Int)) (outB S K e) := by
  refine Ev.step (f := fun _ => some (outB S K e)) (fun k => ?_) (Ev.now _)
  simp only [depotref04_Near.j6, outB]
  have e1 : wrap64 (e + 1075) = e + 1075 := by unfold wrap64; omega
  have e2 : IntKind.u64.wrap (e + 1075) = e + 1075 := by rw [IntKind.wrap_u64]; omega
  rw [e1, e2]
  simp only [IntKind.wrap_u64]
  by_cases h1 : K < 4503599627370496
  · rw [if_pos (by omega), if_pos h1]; exact congrArg some (by omega)
  · rw [if_neg (by omega), if_neg h1]
    by_cases h2 : 2047 ≤ e + 1075
    · rw [if_pos (by omega), if_pos h2]; exact congrArg some (by omega)
    · rw [if_neg (by omega), if_neg h2]; exact congrArg some (by omega)

/-- the last steps: K has at most 53 digits and a carry -/
def outL (S K L : Nat) : Nat := S + min (L * 4503599627370496 + K) 9218868437227405312

theorem j5_ev (S K L : Nat) (hS : S = 0 ∨ S = 9223372036854775808) (hK : K ≤ 9007199254740992) (hL : L ≤ 5000) (hKL : 4503599627370496 ≤ K ∨ L = 0) :
    Ev (fun k => depotref04_Near.j5 k (K : Int) ((L : Int) - 1074) (S : Int)) (outL S K L : Int) := by
  by_cases h : K = 9007199254740992
  · have h6 := j6_ev S 4503599627370496 ((L : Int) - 1073) hS (by omega) (by omega)
    refine Ev.step (f := fun k => depotref04_Near.j6 k ((4503599627370496 : Nat) : Int) ((L : Int) - 1073) (S : Int)) (fun k => ?_) ?_
    · simp only [depotref04_Near.j5]
      subst h
      rw [if_pos (by omega), show ((9007199254740992 : Nat) : Int).tdiv 2 = ((4503599627370496 : Nat) : Int) by decide +kernel, IntKind.wrap_u64, show ((4503599627370496 : Nat) : Int) % 18446744073709551616 = ((4503599627370496 : Nat) : Int) by omega, show wrap64 ((L : Int) - 1074 + 1) = (L : Int) - 1073 by unfold wrap64; omega]
    · have e : outB S 4503599627370496 ((L : Int) - 1073) = (outL S K L : Int) := by
        unfold outB outL
        subst h
        rw [if_neg (by omega)]
        split <;> omega
      rw [← e]; exact h6
  · have h6 := j6_ev S K ((L : Int) - 1074) hS (by omega) (by omega)
    refine Ev.step (f := fun k => depotref04_Near.j6 k (K : Int) ((L : Int) - 1074) (S : Int)) (fun k => ?_) ?_
    · simp only [depotref04_Near.j5]
      rw [if_neg (by omega)]
    · have e : outB S K ((L : Int) - 1074) = (outL S K L : Int) := by
        unfold outB outL
        split
        · have : L = 0 := by omega
          omega
        · split <;> omega
      rw [← e]; exact h6

/-- the rounding of m2 halves and a rest -/
def upR (m2 : Nat) (rest : Bool) : Nat := m2 / 2 + (if m2 % 2 = 1 ∧ (rest = true ∨ m2 / 2 % 2 = 1) then 1 else 0)

theorem l1_end (S m2 L : Nat) (rest : Bool) (cut : Int) (hS : S = 0 ∨ S = 9223372036854775808) (hm : m2 / 2 < 9007199254740992) (hL : L ≤ 5000) (hKL : 4503599627370496 ≤ upR m2 rest ∨ L = 0) :
    Ev (fun k => depotref04_Near.l1 k ((m2 / 2 : Nat) : Int) ((L : Int) - 1074) rest (S : Int) cut (m2 % 2 == 1) cut) (outL S (upR m2 rest) L : Int) := by
  have hK : upR m2 rest ≤ 9007199254740992 := by unfold upR; split <;> omega
  have h5 := j5_ev S (upR m2 rest) L hS hK hL hKL
  obtain ⟨x, hx⟩ : ∃ x : Bool, x = ((m2 % 2 == 1) && (rest || (m2 / 2 % 2 == 1))) := ⟨_, rfl⟩
  have hup : upR m2 rest = m2 / 2 + (if x = true then 1 else 0) := by
    unfold upR
    congr 1
    subst hx
    cases rest <;> simp
  have h4 : Ev (fun k => depotref04_Near.j4 k ((m2 / 2 : Nat) : Int) ((L : Int) - 1074) (S : Int) x) (outL S (upR m2 rest) L : Int) := by
    refine Ev.step (fun k => ?_) h5
    simp only [depotref04_Near.j4]
    rw [hup]
    cases x
    · rw [if_neg (by decide)]; simp
    · rw [if_pos rfl, if_pos rfl, IntKind.wrap_u64, show (((m2 / 2 : Nat) : Int) + 1) % 18446744073709551616 = ((m2 / 2 + 1 : Nat) : Int) by omega]
  refine Ev.step (fun k => ?_) h4
  simp only [depotref04_Near.l1]
  rw [if_neg (by omega), hx]
  have e : ((((m2 / 2 : Nat) : Int).tmod 2 == 1) : Bool) = (m2 / 2 % 2 == 1) := by
    rw [Int.tmod_eq_emod_of_nonneg (by omega), Bool.eq_iff_iff]
    simp only [beq_iff_eq]
    omega
  rw [e]
  cases (m2 % 2 == 1) <;> cases rest <;> simp

theorem l1_ev (S L : Nat) (hS : S = 0 ∨ S = 9223372036854775808) (hL : L ≤ 5000) (d : Nat) :
    ∀ (m2 : Nat) (rest : Bool) (x2 : Int) (i : Nat), m2 < 36893488147419103232 → -5000 ≤ x2 → x2 + d = (L : Int) - 1074 → i + d ≤ 5000 → m2 / 2 ^ d / 2 < 9007199254740992 →
      (4503599627370496 ≤ upR (m2 / 2 ^ d) (rest || m2 % 2 ^ d != 0) ∨ L = 0) →
      Ev (fun k => depotref04_Near.l1 k ((m2 / 2 : Nat) : Int) x2 rest (S : Int) ((i + d : Nat) : Int) (m2 % 2 == 1) (i : Int)) (outL S (upR (m2 / 2 ^ d) (rest || m2 % 2 ^ d != 0)) L : Int) := by
  induction d with
  | zero =>
    intro m2 rest x2 i h1 h2 h3 h4 h5 h6
    rw [Nat.pow_zero, Nat.div_one] at h5 h6 ⊢
    have e : (rest || m2 % 1 != 0) = rest := by rw [Nat.mod_one]; simp
    rw [e] at h6 ⊢
    have := l1_end S m2 L rest (i : Int) hS h5 hL h6
    rw [show x2 = (L : Int) - 1074 by omega]
    exact this
  | succ d ih =>
    intro m2 rest x2 i h1 h2 h3 h4 h5 h6
    have e1 : m2 / 2 ^ (d + 1) = m2 / 2 / 2 ^ d := by rw [Nat.pow_succ, Nat.mul_comm, Nat.div_div_eq_div_mul]
    have e2 : (rest || m2 % 2 ^ (d + 1) != 0) = ((rest || m2 % 2 == 1) || m2 / 2 % 2 ^ d != 0) := by
      have e3 : m2 % 2 ^ (d + 1) = m2 % 2 + 2 * (m2 / 2 % 2 ^ d) := by
        rw [Nat.pow_succ, Nat.mul_comm, Nat.mod_mul]
      rw [e3]
      rw [Bool.eq_iff_iff]
      simp only [Bool.or_eq_true, bne_iff_ne, beq_iff_eq, ne_eq]
      constructor
      · rintro (h | h)
        · exact .inl (.inl h)
        · by_cases h0 : m2 % 2 = 1
          · exact .inl (.inr h0)
          · exact .inr (by omega)
      · rintro ((h | h) | h)
        · exact .inl h
        · exact .inr (by omega)
        · exact .inr (by omega)
    rw [e1, e2] at h6 ⊢
    rw [e1] at h5
    have h7 := ih (m2 / 2) (rest || m2 % 2 == 1) (x2 + 1) (i + 1) (by omega) (by omega) (by omega) (by omega) h5 h6
    refine Ev.step (fun k => ?_) h7
    simp only [depotref04_Near.l1]
    rw [if_pos (by omega), show ((m2 / 2 : Nat) : Int).tdiv 2 = ((m2 / 2 / 2 : Nat) : Int) by rw [Int.tdiv_eq_ediv_of_nonneg (by omega)]; omega, IntKind.wrap_u64,
      show ((m2 / 2 / 2 : Nat) : Int) % 18446744073709551616 = ((m2 / 2 / 2 : Nat) : Int) by omega, show wrap64 (x2 + 1) = x2 + 1 by unfold wrap64; omega,
      show wrap64 ((i : Int) + 1) = ((i + 1 : Nat) : Int) by unfold wrap64; omega, show ((i + 1 + d : Nat) : Int) = ((i + (d + 1) : Nat) : Int) by omega]
    have e : ((((m2 / 2 : Nat) : Int).tmod 2 == 1) : Bool) = (m2 / 2 % 2 == 1) := by
      rw [Int.tmod_eq_emod_of_nonneg (by omega), Bool.eq_iff_iff]
      simp only [beq_iff_eq]
      omega
    rw [e]
    cases hh : (m2 % 2 == 1) <;> simp

/-- the rounding of m2 halves with a rest, cut by 2 ^ d, is the rung's own cut -/
theorem upR_cut (m2 d j : Nat) (rest : Bool) (h : rest = true → m2 % 2 = 0 ∧ 1 ≤ d) :
    j < upR (m2 / 2 ^ d) (rest || m2 % 2 ^ d != 0) ↔ (2 * j + 1) * 2 ^ (d + 1) < 2 * (m2 + rest.toNat) ∨ ((2 * j + 1) * 2 ^ (d + 1) = 2 * (m2 + rest.toNat) ∧ j % 2 = 1) := by
  have hP : 0 < 2 ^ d := Nat.two_pow_pos _
  have hdm := Nat.div_add_mod m2 (2 ^ d)
  have hr := Nat.mod_lt m2 hP
  have e1 : (2 * j + 1) * 2 ^ (d + 1) = 2 * ((2 * j + 1) * 2 ^ d) := by rw [Nat.pow_succ, ← Nat.mul_assoc, Nat.mul_comm]
  rw [e1]
  have hpar : rest = true → m2 % 2 ^ d + 1 ≠ 2 ^ d := by
    intro hh
    obtain ⟨h1, h2⟩ := h hh
    obtain ⟨d', rfl⟩ : ∃ d', d = d' + 1 := ⟨d - 1, by omega⟩
    have h3 : 2 ^ (d' + 1) = 2 * 2 ^ d' := by rw [Nat.pow_succ, Nat.mul_comm]
    have h4 : m2 % (2 * 2 ^ d') % 2 = m2 % 2 := Nat.mod_mul_right_mod m2 2 (2 ^ d')
    rw [h3]; omega
  have hb : rest.toNat ≤ 1 ∧ (rest = true ↔ rest.toNat = 1) := by cases rest <;> simp
  generalize m2 % 2 ^ d = r at *
  generalize m2 / 2 ^ d = Q at *
  generalize 2 ^ d = P at *
  have hb1 := hb.1
  have hQ : Q = 2 * (Q / 2) + Q % 2 := by omega
  obtain ⟨q, hq⟩ : ∃ q, q = Q / 2 := ⟨_, rfl⟩
  obtain ⟨t, ht⟩ : ∃ t, t = Q % 2 := ⟨_, rfl⟩
  unfold upR
  rw [← hq, ← ht]
  have hPQ : P * Q = 2 * (P * q) + P * t := by
    rw [hQ, ← hq, ← ht, Nat.mul_add, Nat.mul_left_comm]
  have ht2 : t = 0 ∨ t = 1 := by omega
  have hrest : (rest || r != 0) = true ↔ rest.toNat + r ≠ 0 := by
    cases rest <;> simp
  have hup : (if t = 1 ∧ ((rest || r != 0) = true ∨ q % 2 = 1) then 1 else 0) = (if t = 1 ∧ (rest.toNat + r ≠ 0 ∨ q % 2 = 1) then 1 else 0) := by
    simp only [hrest]
  rw [hup]
  have hpar' : rest.toNat = 1 → r + 1 ≠ P := fun hh => hpar (hb.2.2 hh)
  clear hup hrest hpar h hb
  generalize rest.toNat = R at *
  rcases Nat.lt_trichotomy j q with hj | hj | hj
  · have h1 : (2 * j + 1) * P ≤ (2 * q - 1) * P := Nat.mul_le_mul_right P (by omega)
    have h2 : (2 * q - 1) * P + P = 2 * (P * q) := by
      have : 2 * q - 1 + 1 = 2 * q := by omega
      calc (2 * q - 1) * P + P = (2 * q - 1 + 1) * P := by rw [Nat.add_mul, Nat.one_mul]
        _ = 2 * (P * q) := by rw [this, Nat.mul_assoc, Nat.mul_comm q P]
    constructor
    · intro _; left; omega
    · intro _; split <;> omega
  · subst hj
    have h2 : (2 * j + 1) * P = 2 * (P * j) + P := by rw [Nat.add_mul, Nat.one_mul, Nat.mul_assoc, Nat.mul_comm j P]
    rw [h2]
    rcases ht2 with rfl | rfl
    · rw [if_neg (by omega)]
      rw [Nat.mul_zero] at hPQ
      have : R = 1 → r + 1 ≠ P := hpar'
      constructor
      · intro hh; omega
      · intro hh
        have hR : R = 0 ∨ R = 1 := by omega
        rcases hR with rfl | rfl
        · omega
        · have := hpar' rfl; omega
    · rw [Nat.mul_one] at hPQ
      split
      · rename_i c
        rcases c with ⟨_, c | c⟩ <;> omega
      · rename_i c
        omega
  · have h1 : (2 * q + 3) * P ≤ (2 * j + 1) * P := Nat.mul_le_mul_right P (by omega)
    have h2 : (2 * q + 3) * P = 2 * (P * q) + 3 * P := by rw [Nat.add_mul, Nat.mul_assoc, Nat.mul_comm q P]
    have h3 : P * t ≤ P := by rcases ht2 with rfl | rfl <;> simp
    constructor
    · intro hh; split at hh <;> omega
    · intro hh; omega

theorem nat_ext {a b : Nat} (h : ∀ j, j < a ↔ j < b) : a = b := by
  rcases Nat.lt_trichotomy a b with h1 | h1 | h1
  · have := (h a).2 h1; omega
  · exact h1
  · have := (h b).1 h1; omega

theorem l0_ev (S : Nat) (rest : Bool) (R : Int) (c : Nat) : ∀ (m : Nat) (e : Int), m * 2 ^ c < 18446744073709551616 → c ≤ 100 → -5000 + (c : Int) ≤ e → e ≤ 5000 →
    Ev (fun k => depotref04_Near.l1 k ((m * 2 ^ c : Nat) : Int) (e - c) rest (S : Int) 0 false 0) R → Ev (fun k => depotref04_Near.l0 k (m : Int) e rest (S : Int) (-(c : Int))) R := by
  induction c with
  | zero =>
    intro m e h1 h2 h3 h4 h
    rw [Nat.pow_zero, Nat.mul_one] at h
    refine Ev.step (fun k => ?_) h
    simp only [depotref04_Near.l0]
    rw [if_neg (by omega)]
    simp
  | succ c ih =>
    intro m e h1 h2 h3 h4 h
    have e1 : m * 2 ^ (c + 1) = 2 * m * 2 ^ c := by rw [Nat.pow_succ, Nat.mul_comm (2 ^ c) 2, ← Nat.mul_assoc, Nat.mul_comm m 2]
    rw [e1] at h h1
    have hm : 2 * m < 18446744073709551616 := by
      have : 2 * m * 1 ≤ 2 * m * 2 ^ c := Nat.mul_le_mul_left _ (Nat.one_le_two_pow)
      omega
    have h6 := ih (2 * m) (e - 1) h1 (by omega) (by omega) (by omega) (by rw [show e - 1 - (c : Int) = e - ((c + 1 : Nat) : Int) by omega]; exact h)
    refine Ev.step (fun k => ?_) h6
    simp only [depotref04_Near.l0]
    rw [if_pos (by omega), IntKind.wrap_u64, show (m : Int) * 2 % 18446744073709551616 = ((2 * m : Nat) : Int) by omega, show wrap64 (e - 1) = e - 1 by unfold wrap64; omega,
      show wrap64 (-((c + 1 : Nat) : Int) + 1) = -(c : Int) by unfold wrap64; omega]

theorem log2_double (m : Nat) (rest : Bool) (h : m ≠ 0) : (2 * m + rest.toNat).log2 = m.log2 + 1 := by
  have hb : rest.toNat ≤ 1 := by cases rest <;> simp
  rw [Nat.log2_def, if_pos (by omega), show (2 * m + rest.toNat) / 2 = m by omega]

/-- the sign's word -/
def sgnW (neg : Bool) : Nat := if neg then 9223372036854775808 else 0
theorem sgnW_or (neg : Bool) : sgnW neg = 0 ∨ sgnW neg = 9223372036854775808 := by unfold sgnW; cases neg <;> simp

theorem big_rung (m : Nat) (e : Int) (hm : m ≠ 0) (he : 1090 ≤ e) : rung m e = 9218868437227405312 := by
  unfold rung
  rw [if_neg hm, Nat.min_eq_right]
  obtain ⟨L, hL⟩ : ∃ L : Nat, (max (e + m.log2 - 52) (-1074) + 1074).toNat = L := ⟨_, rfl⟩
  have hL2 : 2100 ≤ L := by omega
  rw [hL]; omega

theorem small_rung (m : Nat) (e : Int) (hm : m < 36893488147419103232) (he : e < -1290) : rung m e = 0 := by
  rcases Nat.eq_zero_or_pos (rung m e) with h | h
  · exact h
  · exfalso
    obtain ⟨k, hk⟩ : ∃ k : Nat, -1074 - (k : Int) = e := ⟨(-1074 - e).toNat, by omega⟩
    have h1 := (rung_cut m e k 0 (by omega) (by omega)).1 h
    rw [show (e + 1074 + k).toNat = 0 by omega, Nat.pow_zero, Nat.mul_one, show sg 0 = 0 from rfl, show pl 0 = 0 from rfl] at h1
    have h2 : 2 ^ 200 ≤ 2 ^ (0 + k) := Nat.pow_le_pow_right (by omega) (by omega)
    omega

theorem half_lt (m d : Nat) (h : m.log2 ≤ 52 + d) : 2 * m / 2 ^ d / 2 < 9007199254740992 := by
  rw [Nat.div_div_eq_div_mul, Nat.mul_comm (2 ^ d) 2, ← Nat.div_div_eq_div_mul, Nat.mul_div_cancel_left _ (by omega : 0 < 2), Nat.div_lt_iff_lt_mul (Nat.two_pow_pos _)]
  have hl1 : m < 2 ^ (m.log2 + 1) := Nat.lt_log2_self
  have h1 : 2 ^ (m.log2 + 1) ≤ 2 ^ (53 + d) := Nat.pow_le_pow_right (by omega) (by omega)
  rw [Nat.pow_add 2 53] at h1
  exact Nat.lt_of_lt_of_le hl1 h1

theorem half_ge (m d : Nat) (hm0 : m ≠ 0) (h : m.log2 = 52 + d) : 4503599627370496 ≤ 2 * m / 2 ^ d / 2 := by
  rw [Nat.div_div_eq_div_mul, Nat.mul_comm (2 ^ d) 2, ← Nat.div_div_eq_div_mul, Nat.mul_div_cancel_left _ (by omega : 0 < 2), Nat.le_div_iff_mul_le (Nat.two_pow_pos _)]
  have hl0 : 2 ^ m.log2 ≤ m := Nat.log2_self_le hm0
  rw [h, Nat.pow_add 2 52] at hl0
  exact hl0

theorem upR_ge (q : Nat) (rest : Bool) : q / 2 ≤ upR q rest := by unfold upR; split <;> omega

theorem near_pos (S m : Nat) (e : Int) (rest : Bool) (d L : Nat) (hS : S = 0 ∨ S = 9223372036854775808) (hm0 : m ≠ 0) (hm : m < 18446744073709551616) (hL : (L : Int) - 1074 = e + d) (hL5 : L ≤ 5000) (hd : d ≤ 2000) (he : -2000 ≤ e)
    (h1 : m.log2 ≤ 52 + d) (h2 : L = 0 ∨ m.log2 = 52 + d) :
    Ev (fun k => depotref04_Near.l0 k (m : Int) e rest (S : Int) (d : Int)) (outL S (upR (2 * m / 2 ^ d) (rest || 2 * m % 2 ^ d != 0)) L : Int) := by
  have hlt := half_lt m d h1
  have hge : 4503599627370496 ≤ upR (2 * m / 2 ^ d) (rest || 2 * m % 2 ^ d != 0) ∨ L = 0 := by
    rcases h2 with h | h
    · exact .inr h
    · exact .inl (Nat.le_trans (half_ge m d hm0 h) (upR_ge _ _))
  have h7 := l1_ev S L hS hL5 d (2 * m) rest e 0 (by omega) (by omega) (by omega) (by omega) hlt hge
  have e1 : 2 * m / 2 = m := by omega
  have e2 : ((2 * m % 2 == 1) : Bool) = false := by rw [show 2 * m % 2 = 0 by omega]; rfl
  rw [e1, e2, Nat.zero_add] at h7
  refine Ev.step (fun k => ?_) h7
  simp only [depotref04_Near.l0]
  rw [if_neg (by omega)]
  rfl

theorem near_neg (S m : Nat) (e : Int) (c L : Nat) (hS : S = 0 ∨ S = 9223372036854775808) (hm0 : m ≠ 0) (hL : (L : Int) - 1074 = e - (c + 1 : Nat)) (hL5 : L ≤ 5000) (hc : c ≤ 90) (he : -2000 ≤ e) (he2 : e ≤ 2000)
    (h1 : m.log2 + (c + 1) ≤ 52) (h2 : L = 0 ∨ m.log2 + (c + 1) = 52) :
    Ev (fun k => depotref04_Near.l0 k (m : Int) e false (S : Int) (-((c + 1 : Nat) : Int))) (outL S (upR (2 * (m * 2 ^ (c + 1))) false) L : Int) := by
  have hl1 : m < 2 ^ (m.log2 + 1) := Nat.lt_log2_self
  have hl0 : 2 ^ m.log2 ≤ m := Nat.log2_self_le hm0
  have hlt : m * 2 ^ (c + 1) < 9007199254740992 := by
    have h3 : m * 2 ^ (c + 1) < 2 ^ (m.log2 + 1) * 2 ^ (c + 1) := Nat.mul_lt_mul_of_pos_right hl1 (Nat.two_pow_pos _)
    rw [← Nat.pow_add] at h3
    have h4 : 2 ^ (m.log2 + 1 + (c + 1)) ≤ 2 ^ 53 := Nat.pow_le_pow_right (by omega) (by omega)
    omega
  have hge : 4503599627370496 ≤ upR (2 * (m * 2 ^ (c + 1))) false ∨ L = 0 := by
    rcases h2 with h | h
    · exact .inr h
    · left
      have h3 : 2 ^ m.log2 * 2 ^ (c + 1) ≤ m * 2 ^ (c + 1) := Nat.mul_le_mul_right _ hl0
      rw [← Nat.pow_add, h] at h3
      have h4 := upR_ge (2 * (m * 2 ^ (c + 1))) false
      omega
  generalize hM : m * 2 ^ (c + 1) = M at *
  have h7 := l1_end S (2 * M) L false 0 hS (by omega) hL5 hge
  have e1 : 2 * M / 2 = M := by omega
  have e2 : ((2 * M % 2 == 1) : Bool) = false := by rw [show 2 * M % 2 = 0 by omega]; rfl
  rw [e1, e2] at h7
  refine l0_ev S false _ (c + 1) m e (by omega) (by omega) (by omega) (by omega) ?_
  rw [show e - ((c + 1 : Nat) : Int) = (L : Int) - 1074 by omega, hM]
  exact h7

theorem rung_pos (m : Nat) (e : Int) (rest : Bool) (d L : Nat) (hm0 : m ≠ 0) (hL : (L : Int) - 1074 = e + d) (h1 : max (e + m.log2 - 52) (-1074) = (L : Int) - 1074) (hrd : rest = true → 1 ≤ d) :
    rung (2 * m + rest.toNat) (e - 1) = min (L * 4503599627370496 + upR (2 * m / 2 ^ d) (rest || 2 * m % 2 ^ d != 0)) 9218868437227405312 := by
  have hK : upR (2 * m / 2 ^ d) (rest || 2 * m % 2 ^ d != 0) = Ieee.Toward.even.cut false (2 * m + rest.toNat) (d + 1) := by
    refine nat_ext fun j => ?_
    rw [upR_cut _ _ _ _ (fun h => ⟨by omega, hrd h⟩), cut_even]
  rw [hK]
  unfold rung
  rw [if_neg (by omega), log2_double m rest hm0, show max (e - 1 + ((m.log2 + 1 : Nat) : Int) - 52) (-1074) = (L : Int) - 1074 by omega, show ((L : Int) - 1074 + 1074).toNat = L by omega,
    show (e - 1 - ((L : Int) - 1074)).toNat = 0 by omega, show ((L : Int) - 1074 - (e - 1)).toNat = d + 1 by omega]
  rfl

theorem rung_neg (m : Nat) (e : Int) (c L : Nat) (hm0 : m ≠ 0) (hL : (L : Int) - 1074 = e - (c + 1 : Nat)) (h1 : max (e + m.log2 - 52) (-1074) = (L : Int) - 1074) :
    rung (2 * m + false.toNat) (e - 1) = min (L * 4503599627370496 + upR (2 * (m * 2 ^ (c + 1))) false) 9218868437227405312 := by
  have hK : upR (2 * (m * 2 ^ (c + 1))) false = Ieee.Toward.even.cut false (m * 2 ^ (c + 1)) 0 := by
    refine nat_ext fun j => ?_
    rw [cut_even, Nat.pow_zero]
    generalize m * 2 ^ (c + 1) = M
    unfold upR
    rw [if_neg (by omega)]
    omega
  rw [hK]
  have ev : (2 * m + false.toNat) * 2 ^ c = m * 2 ^ (c + 1) := by
    rw [Bool.toNat_false, Nat.add_zero, Nat.pow_succ, Nat.mul_comm (2 ^ c) 2, ← Nat.mul_assoc, Nat.mul_comm m 2]
  unfold rung
  rw [if_neg (by omega), log2_double m false hm0, show max (e - 1 + ((m.log2 + 1 : Nat) : Int) - 52) (-1074) = (L : Int) - 1074 by omega, show ((L : Int) - 1074 + 1074).toNat = L by omega,
    show (e - 1 - ((L : Int) - 1074)).toNat = c by omega, show ((L : Int) - 1074 - (e - 1)).toNat = 0 by omega, Nat.shiftLeft_eq, ev]

theorem near_main (neg : Bool) (m : Nat) (e : Int) (rest : Bool) (hm0 : m ≠ 0) (hm : m < 18446744073709551616) (he1 : -1300 ≤ e) (he2 : e ≤ 1100) (hrest : rest = true → 18014398509481984 ≤ m) (cut : Int)
    (hcut : cut = max ((lenN m : Int) - 53) (-1074 - e)) :
    Ev (fun k => depotref04_Near.l0 k (m : Int) e rest (sgnW neg : Int) cut) ((sgnW neg + rung (2 * m + rest.toNat) (e - 1) : Nat) : Int) := by
  have hl64 : m.log2 < 64 := (Nat.log2_lt hm0).2 (by omega)
  have hlen : lenN m = m.log2 + 1 := by unfold lenN; rw [if_neg hm0]
  have hr54 : rest = true → 54 ≤ m.log2 := fun h => (Nat.le_log2 hm0).2 (hrest h)
  rw [hlen] at hcut
  clear hlen hrest
  obtain ⟨L, hL⟩ : ∃ L : Nat, (L : Int) - 1074 = e + cut := ⟨(e + cut + 1074).toNat, by omega⟩
  by_cases hc : 0 ≤ cut
  · obtain ⟨d, rfl⟩ : ∃ d : Nat, cut = d := ⟨cut.toNat, by omega⟩
    have h := near_pos (sgnW neg) m e rest d L (sgnW_or neg) hm0 hm hL (by omega) (by omega) (by omega) (by omega) (by omega)
    rw [rung_pos m e rest d L hm0 hL (by omega) (fun h => by have := hr54 h; omega)]
    exact h
  · obtain ⟨c, rfl⟩ : ∃ c : Nat, cut = -((c + 1 : Nat) : Int) := ⟨(-cut - 1).toNat, by omega⟩
    have hrf : rest = false := by
      cases hr : rest with
      | false => rfl
      | true => have := hr54 hr; omega
    subst hrf
    have h := near_neg (sgnW neg) m e c L (sgnW_or neg) hm0 (by omega) (by omega) (by omega) (by omega) (by omega) (by omega) (by omega)
    rw [rung_neg m e c L hm0 (by omega) (by omega)]
    exact h

theorem near_ev (neg : Bool) (m : Nat) (e : Int) (rest : Bool) (hm : m < 18446744073709551616) (he1 : -4611686018427387904 ≤ e) (he2 : e ≤ 4611686018427387904) (hrest : rest = true → 18014398509481984 ≤ m) :
    Ev (fun k => depotref04_Near.f k neg (m : Int) e rest) ((sgnW neg + rung (2 * m + rest.toNat) (e - 1) : Nat) : Int) := by
  have j0 : Ev (fun k => depotref04_Near.j0 k (m : Int) e rest (sgnW neg : Int)) ((sgnW neg + rung (2 * m + rest.toNat) (e - 1) : Nat) : Int) := by
    by_cases hm0 : m = 0
    · have hrf : rest = false := by
        cases hr : rest with
        | false => rfl
        | true => have := hrest hr; omega
      subst hm0; subst hrf
      refine Ev.step (f := fun _ => some (sgnW neg : Int)) (fun k => ?_) ?_
      · simp only [depotref04_Near.j0]; rw [if_pos (by omega)]
      · rw [show (2 * 0 + false.toNat) = 0 from rfl, rung_zero]; exact Ev.now _
    · by_cases hb : 1100 < e
      · refine Ev.step (f := fun _ => some ((sgnW neg + 9218868437227405312 : Nat) : Int)) (fun k => ?_) ?_
        · simp only [depotref04_Near.j0]
          rw [if_neg (by omega), if_pos hb, IntKind.wrap_u64]
          have := sgnW_or neg
          exact congrArg some (by omega)
        · rw [big_rung _ _ (by omega) (by omega)]; exact Ev.now _
      · by_cases hs : e < -1300
        · refine Ev.step (f := fun _ => some (sgnW neg : Int)) (fun k => ?_) ?_
          · simp only [depotref04_Near.j0]
            rw [if_neg (by omega), if_neg (by omega), if_pos hs]
          · rw [small_rung _ _ (by have : rest.toNat ≤ 1 := by { cases rest <;> simp }; omega) (by omega)]; exact Ev.now _
        · have hm64 : m.log2 < 64 := (Nat.log2_lt hm0).2 (by omega)
          have hln : lenN m ≤ 64 := by unfold lenN; rw [if_neg hm0]; omega
          have main := near_main neg m e rest hm0 hm (by omega) (by omega) hrest _ rfl
          have j1 : Ev (fun k => depotref04_Near.j1 k (m : Int) e rest (sgnW neg : Int) (max ((lenN m : Int) - 53) (-1074 - e))) ((sgnW neg + rung (2 * m + rest.toNat) (e - 1) : Nat) : Int) := by
            refine Ev.step (fun k => ?_) main
            simp only [depotref04_Near.j1]
          refine Ev.step (f := fun k => (depotref04_length.f k (m : Int)).bind fun _ => depotref04_Near.j1 k (m : Int) e rest (sgnW neg : Int) (max ((lenN m : Int) - 53) (-1074 - e))) (fun k => ?_) (Ev.bind (length_ev m hm) j1)
          simp only [depotref04_Near.j0]
          rw [if_neg (by omega), if_neg hb, if_neg hs]
          cases hq : depotref04_length.f k (m : Int) with
          | none => rfl
          | some t =>
            simp only [Option.bind_some]
            -- the length is what it is
            obtain ⟨K, hK⟩ := length_ev m hm
            have ht : t = (lenN m : Int) := by
              have h1 : depotref04_length.f (max K k) (m : Int) = some (lenN m : Int) := hK (max K k) (Nat.le_max_left ..)
              have h2 := at_rounds (g := fun k => depotref04_length.f k (m : Int)) (depotref04_length.mono (m : Int)) (Nat.le_max_right K k) hq
              rw [h1] at h2
              exact (Option.some.inj h2).symm
            subst ht
            have e1 : wrap64 (-1074 - e) = -1074 - e := by unfold wrap64; omega
            have e2 : wrap64 ((lenN m : Int) - 53) = (lenN m : Int) - 53 := by unfold wrap64; omega
            rw [e1, e2]
            split
            · rw [show max ((lenN m : Int) - 53) (-1074 - e) = -1074 - e by omega]
            · rw [show max ((lenN m : Int) - 53) (-1074 - e) = (lenN m : Int) - 53 by omega]
  refine Ev.congr (fun k => ?_) j0
  unfold depotref04_Near.f sgnW
  cases neg <;> rfl

end Go.Proofs.YtfecgfefchdapaaDoor.NearOfInt
