/- Walks of math's functions on floats. The walk of math.Frexp. math.Frexp, and its fraction times 2^53 as an integer. -/
import Derived.Test.YtfecgfefchdapaaDoorFp
import Derived.Test.YtfecgfefchdapaaDoorFi
import Derived.Test.YtfecgfefchdapaaDoorLs
import Derived.WalkKit
import Derived.WalkSpells
import Derived.WalkLawsBesides
import Derived.Laws.BitsLemmas
import Derived.Laws.BitsAllLaws
import Derived.Lib.Hide
namespace Go.Proofs.YtfecgfefchdapaaDoor
set_option linter.unusedVariables false
set_option linter.unusedSimpArgs false
open Go.RowKit FL

theorem word_mod (s : Bool) (r : Nat) (hr : r < 9223372036854775808) : word s r % 9223372036854775808 = r ∧ word s r < 18446744073709551616 := by
  unfold word
  cases s <;> simp <;> omega
theorem abs_bits (s : Bool) (r : Nat) (hr : r < 9223372036854775808) : bits .andNot .u64 ((word s r : Nat) : Int) 9223372036854775808 = ((r : Nat) : Int) := by
  obtain ⟨h1, h2⟩ := word_mod s r hr
  have h := u64_andNot_nat (word s r) 9223372036854775808 h2 (by decide)
  rw [show ((9223372036854775808 : Nat) : Int) = 9223372036854775808 from rfl] at h
  rw [h, show 18446744073709551615 - 9223372036854775808 = 2 ^ 63 - 1 from by decide, Nat.and_two_pow_sub_one_eq_mod, show (2 : Nat) ^ 63 = 9223372036854775808 from by decide, h1]
theorem abs_any (s : Bool) (r : Nat) (hr : r < 9223372036854775808) (wd : World) :
    Calls Tryd.prog 35 #[.float .f64 (word s r)] wd fun e w' => e = .returned (.float .f64 r) ∧ wd = w' := by
  have tb := fun w => tobits (word s r) w
  have hb := abs_bits s r hr
  have fb := fun w => frombits ((r : Nat) : Int) w
  simp only [Int.toNat_natCast] at fb
  generalize word s r = W at *
  go_enter Tryd.func35, Tryd.ntmps35
  go_wp2_with fail
  go_ret
  exact ⟨rfl, rfl⟩
theorem key_word (s : Bool) (r : Nat) (hr : r ≤ 9218868437227405312) : key (word s r) = some (if s then -(r : Int) else r) := by
  obtain ⟨h1, h2⟩ := word_mod s r (by omega)
  unfold key
  rw [h1, if_neg (by omega)]
  cases s
  · rw [if_neg (by unfold word; simp; omega)]; rfl
  · rw [if_pos (by unfold word; simp)]; rfl
theorem gt_max (s : Bool) (r : Nat) (hr : r < 9218868437227405312) : (FloatKind.f64.format.order (word s r) 9218868437227405311 == some .gt) = false := by
  have h2 := (word_mod s r (by omega)).2
  rw [ord_key _ _ h2 (by decide), key_word s r (by omega), show (9218868437227405311 : Nat) = word false 9218868437227405311 from rfl, key_word false _ (by decide)]
  simp only [cmpKey, Bool.false_eq_true, if_false]
  have h : compare (if s = true then -(r : Int) else (r : Int)) ((9218868437227405311 : Nat) : Int) ≠ .gt := by
    rw [Ne, Int.compare_eq_gt]
    cases s <;> simp <;> omega
  simpa using h
theorem xor_top (r : Nat) (hr : r < 2 ^ 63) : r ^^^ 2 ^ 63 = 2 ^ 63 + r := by
  have h := Nat.two_pow_add_eq_or_of_lt hr 1
  rw [Nat.mul_one] at h
  rw [h]
  apply Nat.eq_of_testBit_eq
  intro i
  rw [Nat.testBit_xor, Nat.testBit_or, Nat.testBit_two_pow]
  by_cases e : 63 = i
  · subst e
    rw [Nat.testBit_lt_two_pow hr]
    rfl
  · simp [e]
theorem neg_float (s : Bool) (r : Nat) (hr : r < 9223372036854775808) : Op.negFloat .f64 (word s r) = word (!s) r := by
  have hx := xor_top r (by rw [show (2 : Nat) ^ 63 = 9223372036854775808 from by decide]; exact hr)
  unfold Op.negFloat
  rw [show FloatKind.f64.format.exponentBits + FloatKind.f64.format.fractionBits = 63 from rfl]
  cases s
  · show r ^^^ 2 ^ 63 = 9223372036854775808 + r
    rw [hx]
  · show (9223372036854775808 + r) ^^^ 2 ^ 63 = r
    rw [show 9223372036854775808 + r = 2 ^ 63 + r from rfl, ← hx, Nat.xor_assoc, Nat.xor_self, Nat.xor_zero]
theorem neg_word (s : Bool) (r : Nat) (hr : r < 9223372036854775808) (w : World) : (Op.unary UnOp.neg (Value.float FloatKind.f64 (word s r))).run Tryd.prog w = .ok (.float .f64 (word (!s) r)) w := by
  rw [← neg_float s r hr]
  rfl
theorem isInfN_fin (s : Bool) (r : Nat) (hr : r < 9218868437227405312) (wd : World) :
    Calls Tryd.prog 27 #[.float .f64 (word s r), .int .i64 (-1)] wd fun e w' => e = .returned (.bool false) ∧ wd = w' := by
  have hg := gt_max (!s) r hr
  have hn := neg_word s r (by omega)
  generalize word s r = W at *
  generalize word (!s) r = W2 at *
  go_enter Tryd.func27, Tryd.ntmps27
  go_wp2_with fail
  go_ret
  exact ⟨rfl, rfl⟩
theorem isInf0_fin (s : Bool) (r : Nat) (hr : r < 9218868437227405312) (wd : World) :
    Calls Tryd.prog 27 #[.float .f64 (word s r), .int .i64 0] wd fun e w' => e = .returned (.bool false) ∧ wd = w' := by
  have hg := gt_max false r hr
  have ha := fun wd => abs_any s r (by omega) wd
  rw [show word false r = r from rfl] at hg
  generalize word s r = W at *
  go_enter Tryd.func27, Tryd.ntmps27
  go_wp2_with (go_at_call 35; refine (ha _).mono ?_; rintro e w' ⟨rfl, rfl⟩)
  go_ret
  exact ⟨rfl, rfl⟩
theorem isInfP_fin (s : Bool) (r : Nat) (hr : r < 9218868437227405312) (wd : World) :
    Calls Tryd.prog 27 #[.float .f64 (word s r), .int .i64 1] wd fun e w' => e = .returned (.bool false) ∧ wd = w' := by
  have hg := gt_max s r hr
  generalize word s r = W at *
  go_enter Tryd.func27, Tryd.ntmps27
  go_wp2_with fail
  go_ret
  exact ⟨rfl, rfl⟩
/-- the number with its significand filled: what normalize leaves -/
def nrm (r : Nat) : Nat := if r < 4503599627370496 then rg (r * 2 ^ (52 - r.log2)) r.log2 else r
def nrE (r : Nat) : Int := if r < 4503599627370496 then -52 else 0
theorem nrm_sub (r : Nat) (h0 : 0 < r) (h : r < 4503599627370496) : 4503599627370496 ≤ r * 2 ^ (52 - r.log2) ∧ r * 2 ^ (52 - r.log2) < 9007199254740992 ∧ r.log2 < 52 := by
  have hl : r.log2 < 52 := (Nat.log2_lt (by omega)).2 (by rw [show (2 : Nat) ^ 52 = 4503599627370496 from by decide]; exact h)
  have h1 := Nat.log2_self_le (show r ≠ 0 by omega)
  have h2 := Nat.lt_log2_self (n := r)
  have e : (2 : Nat) ^ r.log2 * 2 ^ (52 - r.log2) = 4503599627370496 := by
    rw [← Nat.pow_add, show r.log2 + (52 - r.log2) = 52 by omega]
  have hp : 0 < 2 ^ (52 - r.log2) := Nat.two_pow_pos _
  refine ⟨?_, ?_, hl⟩
  · rw [← e]
    exact Nat.mul_le_mul_right _ h1
  · have := Nat.mul_lt_mul_of_pos_right h2 hp
    rw [Nat.pow_succ, show 2 ^ r.log2 * 2 * 2 ^ (52 - r.log2) = 2 ^ r.log2 * 2 ^ (52 - r.log2) * 2 by rw [Nat.mul_assoc, Nat.mul_comm 2, ← Nat.mul_assoc], e] at this
    exact this
theorem nrm_mul (s : Bool) (r : Nat) (h0 : 0 < r) (h : r < 4503599627370496) : floatBits .mul .f64 (word s r) 4841369599423283200 = some (word s (nrm r)) := by
  obtain ⟨h1, h2, h3⟩ := nrm_sub r h0 h
  unfold nrm
  rw [if_pos h]
  have hx : rg (r * 2 ^ (52 - r.log2)) r.log2 ≤ 9218868437227405312 := by unfold rg; omega
  have e : vv r * 2 ^ 52 = vv (rg (r * 2 ^ (52 - r.log2)) r.log2) := by
    rw [vv_rg _ _ h1 h2, Nat.mul_assoc, ← Nat.pow_add, show 52 - r.log2 + r.log2 = 52 by omega]
    congr 1
    unfold vv sg pl
    rw [if_pos h, show r / 4503599627370496 - 1 = 0 by omega, Nat.pow_zero, Nat.mul_one]
  exact mul_pw s r 52 _ (by omega) (by omega) hx e
theorem lt_min (r : Nat) (hr : r < 9218868437227405312) : (FloatKind.f64.format.order r 4503599627370496 == some .lt) = decide (r < 4503599627370496) := by
  rw [ord r _ hr (by omega)]
  by_cases h : r < 4503599627370496
  · rw [Nat.compare_eq_lt.2 h, decide_eq_true h]; rfl
  · rw [decide_eq_false h]
    have : compare r 4503599627370496 ≠ .lt := fun q => h (Nat.compare_eq_lt.1 q)
    simpa using this
theorem normalize_any (s : Bool) (r : Nat) (h0 : 0 < r) (hr : r < 9218868437227405312) (wd : World) :
    Calls Tryd.prog 41 #[.float .f64 (word s r)] wd fun e w' => e = .returned (.tuple #[.float .f64 (word s (nrm r)), .int .i64 (nrE r)]) ∧ wd = w' := by
  have hl := lt_min r hr
  have ha := fun wd => abs_any s r (by omega) wd
  by_cases h : r < 4503599627370496
  · have hm : ∀ t w1, (binOp .mul t (.float .f64 (word s r)) (.float .f64 4841369599423283200)).run Tryd.prog w1 = .ok (.float .f64 (word s (nrm r))) w1 :=
      fun t w1 => run_float_arith w1 .mul t .f64 _ _ _ (nrm_mul s r h0 h)
    rw [decide_eq_true h] at hl
    rw [show nrE r = -52 from if_pos h]
    generalize word s (nrm r) = W2 at *
    generalize word s r = W at *
    go_enter Tryd.func41, Tryd.ntmps41
    go_wp2_with (go_at_call 35; refine (ha _).mono ?_; rintro e w' ⟨rfl, rfl⟩)
    go_ret2
    exact ⟨rfl, rfl⟩
  · rw [decide_eq_false h] at hl
    rw [show nrE r = 0 from if_neg h, show nrm r = r from if_neg h]
    generalize word s r = W at *
    go_enter Tryd.func41, Tryd.ntmps41
    go_wp2_with (go_at_call 35; refine (ha _).mono ?_; rintro e w' ⟨rfl, rfl⟩)
    go_ret2
    exact ⟨rfl, rfl⟩
end Go.Proofs.YtfecgfefchdapaaDoor

namespace Go.Proofs.YtfecgfefchdapaaDoor
set_option linter.unusedVariables false
set_option linter.unusedSimpArgs false
open Go.RowKit FL

theorem and_field (s : Bool) (y : Nat) (hy : y < 9223372036854775808) : bits .and .u64 (((word s y : Nat) : Int) / 4503599627370496) 2047 = ((y / 4503599627370496 : Nat) : Int) := by
  obtain ⟨h1, h2⟩ := word_mod s y hy
  have e : (((word s y : Nat) : Int) / 4503599627370496) = ((word s y / 4503599627370496 : Nat) : Int) := by omega
  have h := u64_and_nat (word s y / 4503599627370496) 2047 (by omega) (by decide)
  rw [show ((2047 : Nat) : Int) = 2047 from rfl] at h
  rw [e, h, show 2047 = 2 ^ 11 - 1 from by decide, Nat.and_two_pow_sub_one_eq_mod, show (2 : Nat) ^ 11 = 2048 from by decide]
  omega
/-- the fraction alone, with its sign -/
theorem frac_bits (s : Bool) (y : Nat) (hy : y < 9223372036854775808) : bits .andNot .u64 ((word s y : Nat) : Int) 9218868437227405312 = ((word s (y % 4503599627370496) : Nat) : Int) := by
  obtain ⟨h1, h2⟩ := word_mod s y hy
  have h := u64_andNot_nat (word s y) 9218868437227405312 h2 (by decide)
  rw [show ((9218868437227405312 : Nat) : Int) = 9218868437227405312 from rfl] at h
  rw [h]
  congr 1
  have hm : (18446744073709551615 - 9218868437227405312 : Nat) = 9223372036854775808 ||| 4503599627370495 := by decide
  have hlow : word s y &&& 4503599627370495 = y % 4503599627370496 := by
    rw [show (4503599627370495 : Nat) = 2 ^ 52 - 1 from by decide, Nat.and_two_pow_sub_one_eq_mod, show (2 : Nat) ^ 52 = 4503599627370496 from by decide]
    omega
  have hF : y % 4503599627370496 < 2 ^ 63 := by
    rw [show (2 : Nat) ^ 63 = 9223372036854775808 from by decide]
    omega
  have hor := Nat.two_pow_add_eq_or_of_lt hF 1
  rw [Nat.mul_one, show (2 : Nat) ^ 63 = 9223372036854775808 from by decide] at hor
  have hbit : word s y &&& 9223372036854775808 = if s then 9223372036854775808 else 0 := by
    have hy2 : y < 2 ^ 63 := by
      rw [show (2 : Nat) ^ 63 = 9223372036854775808 from by decide]
      exact hy
    have hyb : y.testBit 63 = false := Nat.testBit_lt_two_pow hy2
    have hor2 := Nat.two_pow_add_eq_or_of_lt hy2 1
    rw [Nat.mul_one] at hor2
    rw [show (9223372036854775808 : Nat) = 2 ^ 63 from by decide]
    cases s
    · show y &&& 2 ^ 63 = 0
      apply Nat.eq_of_testBit_eq
      intro i
      rw [Nat.testBit_and, Nat.testBit_two_pow, Nat.zero_testBit]
      by_cases e : 63 = i
      · subst e
        rw [hyb]; rfl
      · simp [e]
    · show (2 ^ 63 + y) &&& 2 ^ 63 = 2 ^ 63
      rw [hor2]
      apply Nat.eq_of_testBit_eq
      intro i
      rw [Nat.testBit_and, Nat.testBit_or, Nat.testBit_two_pow]
      by_cases e : 63 = i
      · simp [e]
      · simp [e]
  rw [hm, Nat.and_or_distrib_left, hlow, hbit]
  cases s
  · simp [word]
  · simp only [if_true]
    rw [← hor]
    rfl
theorem half_bits (s : Bool) (F : Nat) (hF : F < 4503599627370496) : bits .or .u64 ((word s F : Nat) : Int) 4602678819172646912 = ((word s (rg F 1022) : Nat) : Int) := by
  obtain ⟨h1, h2⟩ := word_mod s F (by omega)
  have h := u64_or_nat (word s F) 4602678819172646912 h2 (by decide)
  rw [show ((4602678819172646912 : Nat) : Int) = 4602678819172646912 from rfl] at h
  rw [h]
  congr 1
  have hF' : F < 2 ^ 52 := by
    rw [show (2 : Nat) ^ 52 = 4503599627370496 from by decide]
    exact hF
  have e1 := Nat.two_pow_add_eq_or_of_lt hF' 1022
  have e2 := Nat.two_pow_add_eq_or_of_lt hF' 2048
  have e3 := Nat.two_pow_add_eq_or_of_lt hF' 3070
  rw [show (2 : Nat) ^ 52 * 1022 = 4602678819172646912 from by decide] at e1
  rw [show (2 : Nat) ^ 52 * 2048 = 9223372036854775808 from by decide] at e2
  rw [show (2 : Nat) ^ 52 * 3070 = 13826050856027422720 from by decide] at e3
  cases s
  · show F ||| 4602678819172646912 = 1022 * 4503599627370496 + F
    rw [Nat.or_comm, ← e1]
  · show (9223372036854775808 + F) ||| 4602678819172646912 = 9223372036854775808 + (1022 * 4503599627370496 + F)
    rw [e2, Nat.or_assoc, Nat.or_comm F, ← Nat.or_assoc, show (9223372036854775808 ||| 4602678819172646912 : Nat) = 13826050856027422720 from by decide, ← e3]
    omega
theorem frexp_in (s : Bool) (r : Nat) (h0 : 0 < r) (hr : r < 9218868437227405312) (wd : World) :
    Calls Tryd.prog 37 #[.float .f64 (word s r)] wd fun e w' => e = .returned (.tuple #[.float .f64 (word s (rg (nrm r % 4503599627370496) 1022)), .int .i64 (nrE r + (((nrm r / 4503599627370496 : Nat) : Int) - 1023 + 1))]) ∧ wd = w' := by
  have hy : nrm r < 9218868437227405312 := by
    unfold nrm
    split
    · next h =>
      obtain ⟨h1, h2, h3⟩ := nrm_sub r h0 h
      unfold rg
      omega
    · exact hr
  have hz : (FloatKind.f64.format.order (word s r) 0 == some .eq) = false := by
    have h2 := (word_mod s r (by omega)).2
    rw [ord_key _ _ h2 (by decide), key_word s r (by omega), show (0 : Nat) = word false 0 from rfl, key_word false 0 (by decide)]
    simp only [cmpKey, Bool.false_eq_true, if_false]
    have h : compare (if s = true then -(r : Int) else (r : Int)) ((0 : Nat) : Int) ≠ .eq := by
      rw [Ne, Int.compare_eq_eq]
      cases s <;> simp <;> omega
    simpa using h
  have hi := fun wd => isInf0_fin s r hr wd
  have hnn : isn (word s r) = false := by
    rw [isn_key _ (word_mod s r (by omega)).2, key_word s r (by omega)]
    rfl
  have hN := fun wd => normalize_any s r h0 hr wd
  have h1 := and_field s (nrm r) (by omega)
  have h2 := frac_bits s (nrm r) (by omega)
  have h3 := half_bits s (nrm r % 4503599627370496) (Nat.mod_lt _ (by decide))
  have tb := fun w => tobits (word s (nrm r)) w
  have fb := fun w => frombits ((word s (rg (nrm r % 4503599627370496) 1022) : Nat) : Int) w
  have hE : nrE r = -52 ∨ nrE r = 0 := by unfold nrE; split <;> simp
  have hf : (nrm r / 4503599627370496) < 2048 := by omega
  simp only [Int.toNat_natCast] at fb
  have hsh : ∀ W : Nat, W < 18446744073709551616 → (W : Int) / 4503599627370496 = (W : Int) / 4503599627370496 := fun _ _ => rfl
  generalize word s (rg (nrm r % 4503599627370496) 1022) = W4 at *
  generalize word s (nrm r % 4503599627370496) = W3 at *
  generalize nrm r / 4503599627370496 = fe at *
  generalize word s (nrm r) = W2 at *
  generalize nrE r = ne at *
  have hfe : (fe : Int) < 2048 := by omega
  generalize word s r = W at *
  clear hsh hy hf
  have hnan := fun wd => isNaN_any W wd
  rw [hnn] at hnan
  go_enter Tryd.func37, Tryd.ntmps37
  go_wp2_with (first | (go_at_call 27; refine (hi _).mono ?_; rintro e w' ⟨rfl, rfl⟩) | (go_at_call 26; refine (hnan _).mono ?_; rintro e w' ⟨rfl, rfl⟩) | (go_at_call 41; refine (hN _).mono ?_; rintro e w' ⟨rfl, rfl⟩))
  go_ret2
  exact ⟨rfl, rfl⟩
end Go.Proofs.YtfecgfefchdapaaDoor

namespace Go.Proofs.YtfecgfefchdapaaDoor
set_option linter.unusedVariables false
set_option linter.unusedSimpArgs false
open Go.RowKit FL

/-- the 53 bits of a number, filled -/
def sig (r : Nat) : Nat := 4503599627370496 + nrm r % 4503599627370496
/-- what Frexp tells beside the fraction -/
def fxE (r : Nat) : Int := nrE r + (((nrm r / 4503599627370496 : Nat) : Int) - 1023 + 1)
theorem Frexp_in (s : Bool) (r : Nat) (h0 : 0 < r) (hr : r < 9218868437227405312) (wd : World) :
    Calls Tryd.prog 28 #[.float .f64 (word s r)] wd fun e w' => e = .returned (.tuple #[.float .f64 (word s (rg (nrm r % 4503599627370496) 1022)), .int .i64 (fxE r)]) ∧ wd = w' := by
  have h : ∀ wd, Calls Tryd.prog 37 #[.float .f64 (word s r)] wd fun e w' => e = .returned (.tuple #[.float .f64 (word s (rg (nrm r % 4503599627370496) 1022)), .int .i64 (fxE r)]) ∧ wd = w' := fun wd => frexp_in s r h0 hr wd
  generalize word s (rg (nrm r % 4503599627370496) 1022) = W2 at *
  generalize fxE r = ne at *
  generalize word s r = W at *
  go_enter Tryd.func28, Tryd.ntmps28
  go_wp2_with (go_at_call 37; refine (h _).mono ?_; rintro e w' ⟨rfl, rfl⟩)
  go_ret2
  exact ⟨rfl, rfl⟩
theorem sg_low (F p : Nat) (hF : F < 4503599627370496) : sg (rg F (p + 1)) = 4503599627370496 + F ∧ pl (rg F (p + 1)) = p := by
  unfold sg pl rg
  constructor
  · split <;> omega
  · omega
theorem vv_low (F p : Nat) (hF : F < 4503599627370496) : vv (rg F (p + 1)) = (4503599627370496 + F) * 2 ^ p := by
  unfold vv
  rw [(sg_low F p hF).1, (sg_low F p hF).2]
theorem mul53 (s : Bool) (F : Nat) (hF : F < 4503599627370496) (t : TypeId) (w1 : World) :
    (binOp .mul t (.float .f64 (word s (rg F 1022))) (.float .f64 4845873199050653696)).run Tryd.prog w1 = .ok (.float .f64 (word s (rg F 1075))) w1 := by
  refine run_float_arith w1 .mul t .f64 _ _ _ ?_
  refine mul_pw s (rg F 1022) 53 (rg F 1075) (by unfold rg; omega) (by omega) (by unfold rg; omega) ?_
  obtain ⟨a, ha⟩ : ∃ a : Nat, a = 1021 := ⟨_, rfl⟩
  have e1 := vv_low F a hF
  have e2 := vv_low F (a + 53) hF
  rw [show a + 1 = 1022 by omega] at e1
  rw [show a + 53 + 1 = 1075 by omega] at e2
  rw [e1, e2, Nat.mul_assoc, ← Nat.pow_add]
theorem toint53 (s : Bool) (F : Nat) (hF : F < 4503599627370496) : floatToIntVal .f64 (word s (rg F 1075)) .i64 = some (if s then -((4503599627370496 + F : Nat) : Int) else ((4503599627370496 + F : Nat) : Int)) := by
  have hr : rg F 1075 < 9218868437227405312 := by unfold rg; omega
  have hv : vv (rg F 1075) / big = 4503599627370496 + F := by
    have e := vv_low F ofs hF
    rw [show ofs + 1 = 1075 by rw [ofs_eq]] at e
    rw [e]
    exact Nat.mul_div_cancel _ big_pos
  unfold floatToIntVal
  rw [show FloatKind.f64.decode (word s (rg F 1075)) = Ieee.double.read (word s (rg F 1075)) from rfl, read_word s _ hr]
  try simp only
  rw [toInt_num]
  try simp only
  rw [trc_vv, hv, wf63.1, wf63.2]
  cases s
  · simp only [Bool.false_eq_true, if_false]
    rw [if_pos (by omega)]
  · simp only [if_true]
    rw [if_pos (by omega)]
end Go.Proofs.YtfecgfefchdapaaDoor
