/- Plain facts: the order of the floats by a key, a whole number or nothing (no number); Less. No program in sight. -/
import Derived.Test.YtfecgfefchdapaaDoorFc
namespace Go.Proofs.YtfecgfefchdapaaDoor.FL
open Ieee

/-- what a word is in the order: nothing (no number), or its rung with its sign -/
def key (w : Nat) : Option Int :=
  if 9218868437227405312 < w % 9223372036854775808 then none
  else some (if 9223372036854775808 ≤ w then -((w % 9223372036854775808 : Nat) : Int) else ((w % 9223372036854775808 : Nat) : Int))

theorem read_inf (s : Bool) : double.read (if s then 18442240474082181120 else 9218868437227405312) = .infinity s := by
  cases s <;> decide +kernel

theorem read_nan (w : Nat) (h : 9218868437227405312 < w % 9223372036854775808) : ∃ s f, double.read w = .nan s f := by
  unfold Format.read
  rw [d_inf, d_bin, d_sgn, d_lst]
  simp only
  rw [if_neg (by omega), if_neg (by omega), if_neg (by omega)]
  exact ⟨_, _, rfl⟩

theorem scaled (a b : Nat) : ∃ x y t : Nat, min ((pl a : Int) - 1074) ((pl b : Int) - 1074) = (t : Int) - 1074 ∧
    sg a * 2 ^ ((pl a : Int) - 1074 - ((t : Int) - 1074)).toNat = x ∧ sg b * 2 ^ ((pl b : Int) - 1074 - ((t : Int) - 1074)).toNat = y ∧ (x < y ↔ a < b) ∧ (y < x ↔ b < a) ∧ (x = 0 ↔ a = 0) ∧ (y = 0 ↔ b = 0) := by
  refine ⟨_, _, min (pl a) (pl b), by omega, rfl, rfl, ?_⟩
  have e1 : ((pl a : Int) - 1074 - (((min (pl a) (pl b) : Nat) : Int) - 1074)).toNat = pl a - min (pl a) (pl b) := by omega
  have e2 : ((pl b : Int) - 1074 - (((min (pl a) (pl b) : Nat) : Int) - 1074)).toNat = pl b - min (pl a) (pl b) := by omega
  rw [e1, e2]
  have ht1 : min (pl a) (pl b) ≤ pl a := Nat.min_le_left ..
  have ht2 : min (pl a) (pl b) ≤ pl b := Nat.min_le_right ..
  generalize min (pl a) (pl b) = t at *
  have ha1 : vv a = sg a * 2 ^ (pl a - t) * 2 ^ t := by unfold vv; rw [Nat.mul_assoc, ← Nat.pow_add]; congr 2; omega
  have hb1 : vv b = sg b * 2 ^ (pl b - t) * 2 ^ t := by unfold vv; rw [Nat.mul_assoc, ← Nat.pow_add]; congr 2; omega
  have hp : 0 < 2 ^ t := Nat.two_pow_pos _
  have h0 := vv_zero
  generalize sg a * 2 ^ (pl a - t) = x at *
  generalize sg b * 2 ^ (pl b - t) = y at *
  refine ⟨?_, ?_, ?_, ?_⟩
  · have h1 := vv_lt_iff (a := a) (b := b)
    rw [ha1, hb1, Nat.mul_lt_mul_right hp] at h1; exact h1
  · have h1 := vv_lt_iff (a := b) (b := a)
    rw [ha1, hb1, Nat.mul_lt_mul_right hp] at h1; exact h1
  · constructor
    · intro h; rw [h, Nat.zero_mul] at ha1; exact vv_inj (by omega)
    · intro h; subst h; rw [h0] at ha1
      rcases Nat.eq_zero_or_pos x with h | h
      · exact h
      · have := Nat.mul_pos h hp; omega
  · constructor
    · intro h; rw [h, Nat.zero_mul] at hb1; exact vv_inj (by omega)
    · intro h; subst h; rw [h0] at hb1
      rcases Nat.eq_zero_or_pos y with h | h
      · exact h
      · have := Nat.mul_pos h hp; omega

theorem cmp_eq {a b c d : Int} (h1 : a < b ↔ c < d) (h2 : b < a ↔ d < c) : compare a b = compare c d := by
  rcases Int.lt_trichotomy a b with h | h | h
  · rw [Int.compare_eq_lt.2 h, Int.compare_eq_lt.2 (h1.1 h)]
  · rw [Int.compare_eq_eq.2 h, Int.compare_eq_eq.2 (by omega)]
  · rw [Int.compare_eq_gt.2 h, Int.compare_eq_gt.2 (h2.1 h)]

theorem order_num (s t : Bool) (a b : Nat) : Datum.order (.number s (sg a) ((pl a : Int) - 1074)) (.number t (sg b) ((pl b : Int) - 1074)) = some (compare (if s then -(a : Int) else a) (if t then -(b : Int) else b)) := by
  obtain ⟨x, y, u, h1, h2, h3, h4, h5, h6, h7⟩ := scaled a b
  simp only [Datum.order, signed, Nat.shiftLeft_eq]
  rw [h1, h2, h3]
  congr 1
  cases s <;> cases t <;> simp only [Bool.false_eq_true, if_false, if_true] <;> exact cmp_eq (by omega) (by omega)

/-- every word below 2 ^ 64, by its key -/
theorem word_cases (w : Nat) (h : w < 18446744073709551616) :
    (key w = none ∧ ∃ s f, double.read w = .nan s f) ∨
    (∃ s : Bool, key w = some (if s then -9218868437227405312 else 9218868437227405312) ∧ double.read w = .infinity s) ∨
    (∃ (s : Bool) (r : Nat), r < 9218868437227405312 ∧ key w = some (if s then -(r : Int) else r) ∧ double.read w = .number s (sg r) ((pl r : Int) - 1074)) := by
  unfold key
  by_cases h1 : 9218868437227405312 < w % 9223372036854775808
  · left; rw [if_pos h1]; exact ⟨rfl, read_nan w h1⟩
  · right
    rw [if_neg h1]
    by_cases h2 : w % 9223372036854775808 = 9218868437227405312
    · left
      by_cases h3 : 9223372036854775808 ≤ w
      · refine ⟨true, ?_, ?_⟩
        · rw [if_pos h3, h2]; rfl
        · have := read_inf true
          rw [if_pos rfl] at this
          rw [← this]; congr 1; omega
      · refine ⟨false, ?_, ?_⟩
        · rw [if_neg h3, h2]; rfl
        · have := read_inf false
          rw [if_neg (by decide)] at this
          rw [← this]; congr 1; omega
    · right
      by_cases h3 : 9223372036854775808 ≤ w
      · refine ⟨true, w % 9223372036854775808, by omega, ?_, ?_⟩
        · rw [if_pos h3]; rfl
        · rw [← read_neg _ (by omega)]; congr 1; omega
      · refine ⟨false, w % 9223372036854775808, by omega, ?_, ?_⟩
        · rw [if_neg h3]; rfl
        · rw [← read_pos _ (by omega)]; congr 1; omega

def cmpKey : Option Int → Option Int → Option Ordering
  | some a, some b => some (compare a b)
  | _, _ => none

theorem order_key (v w : Nat) (hv : v < 18446744073709551616) (hw : w < 18446744073709551616) : double.order v w = cmpKey (key v) (key w) := by
  unfold Format.order
  rcases word_cases v hv with ⟨k1, s1, f1, r1⟩ | ⟨s1, k1, r1⟩ | ⟨s1, a, ha, k1, r1⟩ <;>
  rcases word_cases w hw with ⟨k2, s2, f2, r2⟩ | ⟨s2, k2, r2⟩ | ⟨s2, b, hb, k2, r2⟩ <;> rw [r1, r2, k1, k2]
  · rfl
  · rfl
  · rfl
  · rfl
  · cases s1 <;> cases s2 <;> decide
  · simp only [Datum.order, cmpKey]
    congr 1
    cases s1
    · exact (Int.compare_eq_gt.2 (by cases s2 <;> simp <;> omega)).symm
    · exact (Int.compare_eq_lt.2 (by cases s2 <;> simp <;> omega)).symm
  · rfl
  · simp only [Datum.order, cmpKey]
    congr 1
    cases s2
    · exact (Int.compare_eq_lt.2 (by cases s1 <;> simp <;> omega)).symm
    · exact (Int.compare_eq_gt.2 (by cases s1 <;> simp <;> omega)).symm
  · exact order_num s1 s2 a b

/-- is it no number? -/
def isn (a : Nat) : Bool := FloatKind.f64.format.order a a != some .eq
/-- gauge.Less -/
def lessB (a b : Nat) : Bool := FloatKind.f64.format.order a b == some .lt || (isn b && !isn a)

theorem ord_key (v w : Nat) (hv : v < 18446744073709551616) (hw : w < 18446744073709551616) : FloatKind.f64.format.order v w = cmpKey (key v) (key w) := order_key v w hv hw

theorem isn_key (v : Nat) (hv : v < 18446744073709551616) : isn v = (key v).isNone := by
  unfold isn
  rw [ord_key v v hv hv]
  cases key v with
  | none => rfl
  | some a => simp only [cmpKey]; rw [Int.compare_eq_eq.2 rfl]; rfl

theorem lt_key (v w : Nat) (hv : v < 18446744073709551616) (hw : w < 18446744073709551616) :
    (FloatKind.f64.format.order v w == some .lt) = match key v, key w with | some a, some b => decide (a < b) | _, _ => false := by
  rw [ord_key v w hv hw]
  cases key v with
  | none => rfl
  | some a =>
    cases key w with
    | none => rfl
    | some b =>
      simp only [cmpKey]
      by_cases h : a < b
      · rw [Int.compare_eq_lt.2 h, decide_eq_true h]; rfl
      · rw [decide_eq_false h]
        rcases Int.lt_trichotomy a b with h1 | h1 | h1
        · omega
        · rw [Int.compare_eq_eq.2 h1]; rfl
        · rw [Int.compare_eq_gt.2 h1]; rfl

theorem less_key (v w : Nat) (hv : v < 18446744073709551616) (hw : w < 18446744073709551616) :
    lessB v w = match key v, key w with | some a, some b => decide (a < b) | some _, none => true | none, _ => false := by
  unfold lessB
  rw [lt_key v w hv hw, isn_key v hv, isn_key w hw]
  cases key v <;> cases key w <;> simp

theorem less_self (f : Nat) (hf : f < 18446744073709551616) : lessB f f = false := by
  rw [less_key f f hf hf]; cases key f <;> simp
theorem less_asymm (f g : Nat) (hf : f < 18446744073709551616) (hg : g < 18446744073709551616) (h1 : lessB f g = true) : lessB g f = false := by
  rw [less_key f g hf hg] at h1
  rw [less_key g f hg hf]
  cases hx : key f <;> cases hy : key g <;> simp_all
  omega
theorem less_trans (f g h : Nat) (hf : f < 18446744073709551616) (hg : g < 18446744073709551616) (hh : h < 18446744073709551616) (h1 : lessB f g = true) (h2 : lessB g h = true) : lessB f h = true := by
  rw [less_key f g hf hg] at h1
  rw [less_key g h hg hh] at h2
  rw [less_key f h hf hh]
  cases hx : key f <;> cases hy : key g <;> cases hz : key h <;> simp_all
  omega
theorem less_neg (f g h : Nat) (hf : f < 18446744073709551616) (hg : g < 18446744073709551616) (hh : h < 18446744073709551616) (h1 : lessB f g = false) (h2 : lessB g h = false) : lessB f h = false := by
  rw [less_key f g hf hg] at h1
  rw [less_key g h hg hh] at h2
  rw [less_key f h hf hh]
  cases hx : key f <;> cases hy : key g <;> cases hz : key h <;> simp_all
  omega
theorem nan_less (f g : Nat) (hf : f < 18446744073709551616) (hg : g < 18446744073709551616) (h1 : isn f = true) : lessB f g = false ∧ lessB g f = !isn g := by
  rw [isn_key f hf] at h1
  rw [less_key f g hf hg, less_key g f hg hf, isn_key g hg]
  cases hx : key f <;> cases hy : key g <;> simp_all
theorem less_nan (f g : Nat) (hf : f < 18446744073709551616) (hg : g < 18446744073709551616) (h1 : isn f = false) (h2 : isn g = true) : lessB f g = true := by
  rw [isn_key f hf] at h1
  rw [isn_key g hg] at h2
  rw [less_key f g hf hg]
  cases hx : key f <;> cases hy : key g <;> simp_all
theorem less_num (f g : Nat) (h2 : isn g = false) : lessB f g = (FloatKind.f64.format.order f g == some .lt) := by
  unfold lessB
  rw [h2]; simp
theorem less_12 : lessB 4607182418800017408 4611686018427387904 = true := by decide +kernel
theorem less_21 : lessB 4611686018427387904 4607182418800017408 = false := by decide +kernel
end Go.Proofs.YtfecgfefchdapaaDoor.FL
