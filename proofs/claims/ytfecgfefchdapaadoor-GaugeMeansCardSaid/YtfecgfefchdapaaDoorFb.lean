/- Plain arithmetic of rounding, second part: quotients, integers turned into numbers. No program in sight. -/
import Derived.Test.YtfecgfefchdapaaDoorFa
namespace Go.Proofs.YtfecgfefchdapaaDoor.FL
open Ieee

theorem rung_zero (e : Int) : rung 0 e = 0 := by unfold rung; rw [if_pos rfl]

/-- a value above every midpoint that the other stands above, and so on: the cut at a rung's own value -/
theorem cut_self {r x : Nat} : ((2 * sg r + 1) * 2 ^ pl r < 2 * vv x ∨ ((2 * sg r + 1) * 2 ^ pl r = 2 * vv x ∧ r % 2 = 1)) ↔ r < x := by
  rcases Nat.lt_or_ge r x with h | h
  · exact ⟨fun _ => h, fun _ => .inl (mid_lt h)⟩
  · have := mid_gt h; omega

/-- 2 ^ 1074 -/
def ofs : Nat := 1074
theorem ofs_eq : ofs = 1074 := rfl
def big : Nat := 2 ^ ofs
theorem big_pos : 0 < big := Nat.two_pow_pos ofs

/-- r lies below the number nearest to a / b -/
def CutQ (r a b : Nat) : Prop := (2 * sg r + 1) * 2 ^ pl r * b < 2 * (a * big) ∨ ((2 * sg r + 1) * 2 ^ pl r * b = 2 * (a * big) ∧ r % 2 = 1)

/-- the quotient, with a last digit that is 1 where anything is left over, is rounded as the quotient itself is -/
theorem sticky (c n q rem A B u : Nat) (hrem : rem < n) (hq : 0 < rem → 9007199254740992 ≤ q) (hc : c < 18014398509481984) :
    (c * 2 ^ A < (2 * q + (rem != 0).toNat) * 2 ^ B ↔ c * 2 ^ A * n < 2 * (n * q + rem) * 2 ^ B) ∧
    ((c * 2 ^ A = (2 * q + (rem != 0).toNat) * 2 ^ B ∧ u = 1) ↔ (c * 2 ^ A * n = 2 * (n * q + rem) * 2 ^ B ∧ u = 1)) := by
  have hn : 0 < n := by omega
  have hB : 0 < 2 ^ B := Nat.two_pow_pos _
  by_cases h0 : rem = 0
  · subst h0
    have e : 2 * (n * q + 0) * 2 ^ B = (2 * q + ((0 : Nat) != 0).toNat) * 2 ^ B * n := by
      simp only [bne_self_eq_false, Bool.toNat_false, Nat.add_zero]
      simp only [Nat.mul_assoc, Nat.mul_comm]
    rw [e]
    exact ⟨(Nat.mul_lt_mul_right hn).symm, by rw [Nat.mul_left_inj (Nat.ne_of_gt hn)]⟩
  · have hb : (rem != 0).toNat = 1 := by simp [h0]
    rw [hb]
    have hq' := hq (by omega)
    rcases Nat.lt_or_ge B A with h | h
    · obtain ⟨d, rfl⟩ : ∃ d, A = B + 1 + d := ⟨A - (B + 1), by omega⟩
      have e : c * 2 ^ (B + 1 + d) = 2 * (c * 2 ^ d) * 2 ^ B := by
        rw [show B + 1 + d = 1 + d + B by omega, Nat.pow_add, Nat.pow_add]
        simp only [Nat.pow_one, ← Nat.mul_assoc]
        rw [Nat.mul_comm c 2]
      rw [e]
      generalize c * 2 ^ d = x
      have e2 : 2 * x * 2 ^ B * n = 2 * (n * x) * 2 ^ B := by
        rw [Nat.mul_right_comm, Nat.mul_assoc 2 x n, Nat.mul_comm x n]
      rw [e2, Nat.mul_lt_mul_right hB, Nat.mul_lt_mul_right hB, Nat.mul_left_inj (Nat.ne_of_gt hB), Nat.mul_left_inj (Nat.ne_of_gt hB)]
      rcases Nat.lt_or_ge q x with hx | hx
      · have h1 : n * (q + 1) ≤ n * x := Nat.mul_le_mul_left n hx
        rw [Nat.mul_add, Nat.mul_one] at h1
        omega
      · have h1 : n * x ≤ n * q := Nat.mul_le_mul_left n hx
        omega
    · -- c * 2 ^ A lies far below
      have h1 : 2 ^ A ≤ 2 ^ B := Nat.pow_le_pow_right (by omega) h
      have h2 : c * 2 ^ A ≤ 18014398509481983 * 2 ^ B := Nat.mul_le_mul (by omega) h1
      have h3 : 18014398509481984 * 2 ^ B ≤ 2 * q * 2 ^ B := Nat.mul_le_mul_right _ (by omega)
      have h4 : c * 2 ^ A < 2 * q * 2 ^ B := by omega
      have h5 : c * 2 ^ A < (2 * q + 1) * 2 ^ B := by rw [Nat.add_mul]; omega
      have h6 : c * 2 ^ A * n < 2 * (n * q + rem) * 2 ^ B := by
        have := Nat.mul_lt_mul_of_pos_right h4 hn
        have e : 2 * q * 2 ^ B * n = 2 * (n * q) * 2 ^ B := by
          rw [Nat.mul_right_comm, Nat.mul_assoc 2 q n, Nat.mul_comm q n]
        rw [e] at this
        have h7 : 2 * (n * q) * 2 ^ B ≤ 2 * (n * q + rem) * 2 ^ B := Nat.mul_le_mul_right _ (by omega)
        omega
      constructor
      · exact ⟨fun _ => h6, fun _ => h5⟩
      · constructor <;> intro hh <;> omega

/-- the quotient of two numbers not below 0 -/
def quo (a b : Nat) : Nat :=
  rung (2 * ((sg a <<< (54 + (sg b).log2 - (sg a).log2)) / sg b) + ((sg a <<< (54 + (sg b).log2 - (sg a).log2)) % sg b != 0).toNat)
    ((pl a : Int) - 1074 - ((pl b : Int) - 1074) - (54 + (sg b).log2 - (sg a).log2 : Nat) - 1)

theorem sg_pos {r : Nat} (h : 0 < r) : 0 < sg r := by unfold sg; split <;> omega

theorem div_pos (a b : Nat) (ha : a < 9218868437227405312) (hb : b < 9218868437227405312) (h0 : 0 < b) : double.div a b = some (quo a b) := by
  unfold Format.div
  rw [read_pos a ha, read_pos b hb]
  have := sg_pos h0
  simp only [Datum.quotient, if_neg (show ¬ sg b = 0 by omega), Option.map_some, Format.write, d_frc, Bool.xor_false, nearest_rung, Bool.false_eq_true, if_false, Nat.reduceAdd]
  unfold quo
  with_reducible rfl

theorem quo_cut (a b r : Nat) (h0 : 0 < b) (hr : r < 9218868437227405312) : r < quo a b ↔ CutQ r (vv a) (vv b) := by
  unfold quo CutQ
  have hb := sg_pos h0
  by_cases ha : sg a = 0
  · have h1 : vv a = 0 := by unfold vv; rw [ha, Nat.zero_mul]
    have h2 : rung (2 * ((sg a <<< (54 + (sg b).log2 - (sg a).log2)) / sg b) + ((sg a <<< (54 + (sg b).log2 - (sg a).log2)) % sg b != 0).toNat)
        ((pl a : Int) - 1074 - ((pl b : Int) - 1074) - (54 + (sg b).log2 - (sg a).log2 : Nat) - 1) = 0 := by
      rw [ha, Nat.shiftLeft_eq, Nat.zero_mul, Nat.zero_div, Nat.zero_mod]; exact rung_zero _
    rw [h2, h1, Nat.zero_mul]
    have h3 : 0 < (2 * sg r + 1) * 2 ^ pl r * vv b := Nat.mul_pos (Nat.mul_pos (by omega) (Nat.two_pow_pos _)) (Nat.mul_pos hb (Nat.two_pow_pos _))
    omega
  · have hla : (sg a).log2 ≤ 53 := by
      have h1 := sg_lt a
      have h2 : (sg a).log2 < 53 := (Nat.log2_lt ha).2 (by omega)
      omega
    obtain ⟨more, hmore⟩ : ∃ more, 54 + (sg b).log2 - (sg a).log2 = more := ⟨_, rfl⟩
    have hm1 : (sg a).log2 + more = 54 + (sg b).log2 := by omega
    rw [hmore, Nat.shiftLeft_eq]
    rw [rung_cut _ _ (pl b + more + 1) r (by omega) hr]
    rw [show (((pl a : Int) - 1074 - ((pl b : Int) - 1074) - (more : Nat) - 1) + 1074 + (pl b + more + 1 : Nat)).toNat = pl a + ofs by rw [ofs_eq]; omega]
    have hdm := Nat.div_add_mod (sg a * 2 ^ more) (sg b)
    have hrem := Nat.mod_lt (sg a * 2 ^ more) hb
    have hqq : 9007199254740992 ≤ sg a * 2 ^ more / sg b := by
      rw [Nat.le_div_iff_mul_le hb]
      have h1 : 2 ^ (sg a).log2 * 2 ^ more ≤ sg a * 2 ^ more := Nat.mul_le_mul_right _ (Nat.log2_self_le ha)
      have h2 : sg b < 2 ^ ((sg b).log2 + 1) := Nat.lt_log2_self
      rw [← Nat.pow_add, hm1, show 54 + (sg b).log2 = 53 + ((sg b).log2 + 1) by omega, Nat.pow_add 2 53] at h1
      omega
    generalize sg a * 2 ^ more / sg b = q at *
    generalize sg a * 2 ^ more % sg b = rem at *
    have st := sticky (2 * sg r + 1) (sg b) q rem (pl r + (pl b + more + 1)) (pl a + ofs + 1) (r % 2) hrem (fun _ => hqq) (by have := sg_lt r; omega)
    have e1 : 2 * ((2 * q + (rem != 0).toNat) * 2 ^ (pl a + ofs)) = (2 * q + (rem != 0).toNat) * 2 ^ (pl a + ofs + 1) := by
      rw [Nat.pow_succ]
      simp only [Nat.mul_comm, Nat.mul_left_comm]
    rw [e1, st.1, st.2, hdm]
    have hp : 0 < 2 ^ (more + 1) := Nat.two_pow_pos _
    have e2 : (2 * sg r + 1) * 2 ^ (pl r + (pl b + more + 1)) * sg b = (2 * sg r + 1) * 2 ^ pl r * vv b * 2 ^ (more + 1) := by
      unfold vv
      rw [show pl r + (pl b + more + 1) = pl r + (pl b + (more + 1)) by omega, Nat.pow_add, Nat.pow_add 2 (pl b)]
      simp only [Nat.mul_assoc, Nat.mul_comm, Nat.mul_left_comm]
    have e3 : 2 * (sg a * 2 ^ more) * 2 ^ (pl a + ofs + 1) = 2 * (vv a * big) * 2 ^ (more + 1) := by
      unfold vv big
      rw [show pl a + ofs + 1 = pl a + (ofs + 1) by omega, Nat.pow_add, Nat.pow_add 2 ofs 1, Nat.pow_add 2 more]
      simp only [Nat.mul_assoc, Nat.mul_comm, Nat.mul_left_comm]
    rw [e2, e3, Nat.mul_lt_mul_right hp, Nat.mul_left_inj (Nat.ne_of_gt hp)]

/-- the rung of the number nearest to n -/
def rn (n : Nat) : Nat := rung n 0

theorem rn_cut (n r : Nat) (hr : r < 9218868437227405312) : r < rn n ↔ ((2 * sg r + 1) * 2 ^ pl r < 2 * (n * big) ∨ ((2 * sg r + 1) * 2 ^ pl r = 2 * (n * big) ∧ r % 2 = 1)) := by
  unfold rn
  rw [rung_cut n 0 0 r (by omega) hr, show ((0 : Int) + 1074 + (0 : Nat)).toNat = ofs by rw [ofs_eq]; omega]
  rfl

theorem cut_mono {r D D' : Nat} (h : D ≤ D') (hc : (2 * sg r + 1) * 2 ^ pl r < 2 * D ∨ ((2 * sg r + 1) * 2 ^ pl r = 2 * D ∧ r % 2 = 1)) :
    (2 * sg r + 1) * 2 ^ pl r < 2 * D' ∨ ((2 * sg r + 1) * 2 ^ pl r = 2 * D' ∧ r % 2 = 1) := by
  omega

theorem rn_le_of (n m : Nat) (h : n ≤ m) : rn n ≤ rn m := by
  rcases Nat.lt_or_ge (rn m) (rn n) with h1 | h1
  · have hr : rn m < 9218868437227405312 := Nat.lt_of_lt_of_le h1 (rung_le n 0)
    have := (rn_cut m (rn m) hr).2 (cut_mono (Nat.mul_le_mul_right big h) ((rn_cut n (rn m) hr).1 h1))
    omega
  · exact h1

theorem rn_zero : rn 0 = 0 := rung_zero 0

/-- 2 ^ x as a rung -/
def pw (x : Nat) : Nat := (x + 1023) * 4503599627370496
theorem vv_pw (x : Nat) : vv (pw x) = 2 ^ x * big := by
  unfold vv pw
  have e1 : sg ((x + 1023) * 4503599627370496) = 4503599627370496 := by unfold sg; split <;> omega
  have e2 : pl ((x + 1023) * 4503599627370496) = x + 1022 := by unfold pl; omega
  unfold big
  rw [e1, e2, ← Nat.pow_add, show x + ofs = 52 + (x + 1022) by rw [ofs_eq]; omega, Nat.pow_add 2 52]

theorem rn_pow (x : Nat) (hx : x < 1000) : rn (2 ^ x) = pw x := by
  refine rung_ext (rung_le _ _) (by unfold pw; omega) fun r hr => ?_
  rw [rn_cut _ r hr, ← vv_pw, cut_self]

theorem rn_lt (n x : Nat) (hx : x < 1000) (h : n < 2 ^ x) : rn n < 9218868437227405312 := by
  have h1 := rn_le_of n (2 ^ x) (Nat.le_of_lt h)
  rw [rn_pow x hx] at h1
  unfold pw at h1
  omega

theorem rn_pos (n : Nat) (h : 0 < n) : 0 < rn n := by
  have h1 := rn_le_of 1 n h
  have h2 := rn_pow 0 (by omega)
  rw [Nat.pow_zero] at h2
  rw [h2] at h1
  unfold pw at h1
  omega

theorem quo_le (a b : Nat) : quo a b ≤ 9218868437227405312 := rung_le _ _

theorem quo_mono (a a' b : Nat) (h0 : 0 < b) (h : a ≤ a') : quo a b ≤ quo a' b := by
  rcases Nat.lt_or_ge (quo a' b) (quo a b) with h1 | h1
  · have hr : quo a' b < 9218868437227405312 := Nat.lt_of_lt_of_le h1 (quo_le a b)
    have h2 := (quo_cut a b _ h0 hr).1 h1
    have h3 : vv a * big ≤ vv a' * big := Nat.mul_le_mul_right _ (vv_le h)
    have := (quo_cut a' b _ h0 hr).2 (by unfold CutQ at *; omega)
    omega
  · exact h1

theorem vv_pos {b : Nat} (h : 0 < b) : 0 < vv b := by
  have := vv_lt h; omega

theorem quo_self (b : Nat) (h0 : 0 < b) : quo b b = 4607182418800017408 := by
  refine rung_ext (quo_le _ _) (by omega) fun r hr => ?_
  rw [quo_cut b b r h0 hr]
  have h := vv_pw 0
  have e : pw 0 = 4607182418800017408 := rfl
  rw [e, Nat.pow_zero, Nat.one_mul] at h
  unfold CutQ
  rw [← h]
  have hp := vv_pos h0
  rw [Nat.mul_comm (vv b), ← Nat.mul_assoc 2, Nat.mul_lt_mul_right hp, Nat.mul_left_inj (Nat.ne_of_gt hp)]
  exact cut_self

theorem quo_zero (b : Nat) (h0 : 0 < b) : quo 0 b = 0 := by
  rcases Nat.lt_or_ge 0 (quo 0 b) with h | h
  · have h1 := (quo_cut 0 b 0 h0 (by omega)).1 h
    unfold CutQ at h1
    rw [vv_zero, Nat.zero_mul] at h1
    have : 0 < (2 * sg 0 + 1) * 2 ^ pl 0 * vv b := Nat.mul_pos (Nat.mul_pos (by omega) (Nat.two_pow_pos _)) (vv_pos h0)
    omega
  · omega

/-- a quotient by a number up to 2 ^ 64 of one that is not 0 is not 0 -/
theorem quo_pos (a b x : Nat) (ha : pw 0 ≤ a) (h0 : 0 < b) (hb : b ≤ pw x) (hx : x < 1000) : 0 < quo a b := by
  refine (quo_cut a b 0 h0 (by omega)).2 ?_
  unfold CutQ
  left
  have h1 := vv_le ha
  have h2 := vv_le hb
  rw [vv_pw] at h1 h2
  rw [Nat.pow_zero, Nat.one_mul] at h1
  have e : (2 * sg 0 + 1) * 2 ^ pl 0 = 1 := by decide
  rw [e, Nat.one_mul]
  have h3 : 2 ^ x * big < big * big := by
    refine Nat.mul_lt_mul_of_pos_right ?_ big_pos
    unfold big
    exact Nat.pow_lt_pow_right (by omega) (by rw [ofs_eq]; omega)
  have h4 : big * big ≤ vv a * big := Nat.mul_le_mul_right _ h1
  omega

/-- quo_cut at any mantissas that stand for the two numbers -/
theorem sticky_rung (a b m n s q rem : Nat) (i j : Int) (hi : -1074 ≤ i) (hj : -1074 ≤ j) (hva : vv a = m * 2 ^ (i + 1074).toNat) (hvb : vv b = n * 2 ^ (j + 1074).toNat)
    (h : n * q + rem = m * 2 ^ s) (hrem : rem < n) (hq : 0 < rem → 9007199254740992 ≤ q) (r : Nat) (hr : r < 9218868437227405312) :
    r < rung (2 * q + (rem != 0).toNat) (i - j - s - 1) ↔ CutQ r (vv a) (vv b) := by
  obtain ⟨u, hu⟩ : ∃ u : Nat, i = (u : Int) - 1074 := ⟨(i + 1074).toNat, by omega⟩
  obtain ⟨v, hv⟩ : ∃ v : Nat, j = (v : Int) - 1074 := ⟨(j + 1074).toNat, by omega⟩
  subst hu; subst hv
  rw [show ((u : Int) - 1074 + 1074).toNat = u by omega] at hva
  rw [show ((v : Int) - 1074 + 1074).toNat = v by omega] at hvb
  unfold CutQ
  rw [rung_cut _ _ (v + s + 1) r (by omega) hr]
  rw [show ((u : Int) - 1074 - ((v : Int) - 1074) - (s : Int) - 1 + 1074 + (v + s + 1 : Nat)).toNat = u + ofs by rw [ofs_eq]; omega]
  have st := sticky (2 * sg r + 1) n q rem (pl r + (v + s + 1)) (u + ofs + 1) (r % 2) hrem hq (by have := sg_lt r; omega)
  have e1 : 2 * ((2 * q + (rem != 0).toNat) * 2 ^ (u + ofs)) = (2 * q + (rem != 0).toNat) * 2 ^ (u + ofs + 1) := by
    rw [Nat.pow_succ]
    simp only [Nat.mul_comm, Nat.mul_left_comm]
  rw [e1, st.1, st.2, h]
  have hp : 0 < 2 ^ (s + 1) := Nat.two_pow_pos _
  have e2 : (2 * sg r + 1) * 2 ^ (pl r + (v + s + 1)) * n = (2 * sg r + 1) * 2 ^ pl r * vv b * 2 ^ (s + 1) := by
    rw [hvb, show pl r + (v + s + 1) = pl r + (v + (s + 1)) by omega, Nat.pow_add, Nat.pow_add 2 v]
    simp only [Nat.mul_assoc, Nat.mul_comm, Nat.mul_left_comm]
  have e3 : 2 * (m * 2 ^ s) * 2 ^ (u + ofs + 1) = 2 * (vv a * big) * 2 ^ (s + 1) := by
    rw [hva]
    unfold big
    rw [show u + ofs + 1 = u + (ofs + 1) by omega, Nat.pow_add, Nat.pow_add 2 ofs 1, Nat.pow_add 2 s]
    simp only [Nat.mul_assoc, Nat.mul_left_comm]
  rw [e2, e3, Nat.mul_lt_mul_right hp, Nat.mul_left_inj (Nat.ne_of_gt hp)]
end Go.Proofs.YtfecgfefchdapaaDoor.FL
