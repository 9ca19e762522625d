/- The walk of math.Ldexp. Plain facts on rounding at a shift; the contract of math.Ldexp by them. -/
import Derived.Test.YtfecgfefchdapaaDoorPt
namespace Go.Proofs.YtfecgfefchdapaaDoor
set_option linter.unusedVariables false
set_option linter.unusedSimpArgs false
open Go.RowKit FL Go.Shelf

theorem ldexp_norm (W W3 W4 W5 fe : Nat) (E : Int) (wd : World)
    (hz : (FloatKind.f64.format.order W 0 == some .eq) = false)
    (hi : ∀ wd, Calls Tryd.prog 27 #[.float .f64 W, .int .i64 0] wd fun e w' => e = .returned (.bool false) ∧ wd = w')
    (hnan : ∀ wd, Calls Tryd.prog 26 #[.float .f64 W] wd fun e w' => e = .returned (.bool false) ∧ wd = w')
    (hN : ∀ wd, Calls Tryd.prog 41 #[.float .f64 W] wd fun e w' => e = .returned (.tuple #[.float .f64 W, .int .i64 0]) ∧ wd = w')
    (tb : ∀ w, (callFunc 22 #[.float .f64 W]).run Tryd.prog w = .ok (.value (.int .u64 W)) w)
    (hW : W < 18446744073709551616)
    (h1 : bits .and .i64 ((W : Int) / 4503599627370496) 2047 = (fe : Int))
    (hfe : (fe : Int) < 2048) (hE : -2000 ≤ E ∧ E ≤ 2000)
    (h2 : bits .andNot .u64 ((W : Nat) : Int) 9218868437227405312 = ((W3 : Nat) : Int))
    (hq : -1022 ≤ E + (fe - 1023)) (hq2 : E + (fe - 1023) ≤ 1023)
    (h3 : bits .or .u64 ((W3 : Nat) : Int) ((E + (fe - 1023) + 1023) * 4503599627370496) = ((W4 : Nat) : Int))
    (fb : ∀ w, (callFunc 11 #[.int .u64 (W4 : Int)]).run Tryd.prog w = .ok (.value (.float .f64 W4)) w)
    (hm : ∀ t w1, (binOp .mul t (.float .f64 4607182418800017408) (.float .f64 W4)).run Tryd.prog w1 = .ok (.float .f64 W5) w1) :
    Calls Tryd.prog 39 #[.float .f64 W, .int .i64 E] wd fun e w' => e = .returned (.float .f64 W5) ∧ wd = w' := by
  go_enter Tryd.func39, Tryd.ntmps39
  go_upto_region 5 with (first | (go_at_call 27; refine (hi _).mono ?_; rintro e w' ⟨rfl, rfl⟩) | (go_at_call 26; refine (hnan _).mono ?_; rintro e w' ⟨rfl, rfl⟩) | (go_at_call 41; refine (hN _).mono ?_; rintro e w' ⟨rfl, rfl⟩))
  go_upto_region 8 with (first | (go_at_call 27; refine (hi _).mono ?_; rintro e w' ⟨rfl, rfl⟩) | (go_at_call 26; refine (hnan _).mono ?_; rintro e w' ⟨rfl, rfl⟩) | (go_at_call 41; refine (hN _).mono ?_; rintro e w' ⟨rfl, rfl⟩))
  go_upto_region 9 with fail
  generalize E + ((fe : Int) - 1023) = q at *
  clear hz hi hnan hN hfe hE
  go_upto_region 11 with fail
  go_upto_region 15 with fail
  go_upto_region 16 with fail
  go_upto_region 19 with fail
  go_wp2_with fail
  go_ret
  exact ⟨rfl, rfl⟩
theorem ldexp_low (W W3 W4 W5 fe : Nat) (E : Int) (wd : World)
    (hz : (FloatKind.f64.format.order W 0 == some .eq) = false)
    (hi : ∀ wd, Calls Tryd.prog 27 #[.float .f64 W, .int .i64 0] wd fun e w' => e = .returned (.bool false) ∧ wd = w')
    (hnan : ∀ wd, Calls Tryd.prog 26 #[.float .f64 W] wd fun e w' => e = .returned (.bool false) ∧ wd = w')
    (hN : ∀ wd, Calls Tryd.prog 41 #[.float .f64 W] wd fun e w' => e = .returned (.tuple #[.float .f64 W, .int .i64 0]) ∧ wd = w')
    (tb : ∀ w, (callFunc 22 #[.float .f64 W]).run Tryd.prog w = .ok (.value (.int .u64 W)) w)
    (hW : W < 18446744073709551616)
    (h1 : bits .and .i64 ((W : Int) / 4503599627370496) 2047 = (fe : Int))
    (hfe : (fe : Int) < 2048) (hE : -2000 ≤ E ∧ E ≤ 2000)
    (h2 : bits .andNot .u64 ((W : Nat) : Int) 9218868437227405312 = ((W3 : Nat) : Int))
    (hq : -1075 ≤ E + (fe - 1023)) (hq2 : E + (fe - 1023) < -1022)
    (h3 : bits .or .u64 ((W3 : Nat) : Int) ((E + (fe - 1023) + 53 + 1023) * 4503599627370496) = ((W4 : Nat) : Int))
    (fb : ∀ w, (callFunc 11 #[.int .u64 (W4 : Int)]).run Tryd.prog w = .ok (.value (.float .f64 W4)) w)
    (hm : ∀ t w1, (binOp .mul t (.float .f64 4368491638549381120) (.float .f64 W4)).run Tryd.prog w1 = .ok (.float .f64 W5) w1) :
    Calls Tryd.prog 39 #[.float .f64 W, .int .i64 E] wd fun e w' => e = .returned (.float .f64 W5) ∧ wd = w' := by
  go_enter Tryd.func39, Tryd.ntmps39
  go_upto_region 5 with (first | (go_at_call 27; refine (hi _).mono ?_; rintro e w' ⟨rfl, rfl⟩) | (go_at_call 26; refine (hnan _).mono ?_; rintro e w' ⟨rfl, rfl⟩) | (go_at_call 41; refine (hN _).mono ?_; rintro e w' ⟨rfl, rfl⟩))
  go_upto_region 8 with (first | (go_at_call 27; refine (hi _).mono ?_; rintro e w' ⟨rfl, rfl⟩) | (go_at_call 26; refine (hnan _).mono ?_; rintro e w' ⟨rfl, rfl⟩) | (go_at_call 41; refine (hN _).mono ?_; rintro e w' ⟨rfl, rfl⟩))
  go_upto_region 9 with fail
  generalize E + ((fe : Int) - 1023) = q at *
  clear hz hi hnan hN hfe hE
  go_upto_region 11 with fail
  go_upto_region 15 with fail
  go_upto_region 16 with fail
  go_upto_region 19 with fail
  go_wp2_with fail
  go_ret
  exact ⟨rfl, rfl⟩
theorem inf_pos (wd : World) : Calls Tryd.prog 43 #[.int .i64 1] wd fun e w' => e = .returned (.float .f64 9218868437227405312) ∧ wd = w' := by
  have fb : ∀ w, (callFunc 11 #[.int .u64 9218868437227405312]).run Tryd.prog w = .ok (.value (.float .f64 9218868437227405312)) w := fun w => frombits 9218868437227405312 w
  go_enter Tryd.func43, Tryd.ntmps43
  go_wp2_with fail
  go_ret
  exact ⟨rfl, rfl⟩
theorem inf_neg (wd : World) : Calls Tryd.prog 43 #[.int .i64 (-1)] wd fun e w' => e = .returned (.float .f64 18442240474082181120) ∧ wd = w' := by
  have fb : ∀ w, (callFunc 11 #[.int .u64 18442240474082181120]).run Tryd.prog w = .ok (.value (.float .f64 18442240474082181120)) w := fun w => frombits 18442240474082181120 w
  go_enter Tryd.func43, Tryd.ntmps43
  go_wp2_with fail
  go_ret
  exact ⟨rfl, rfl⟩
theorem ldexp_overN (W fe : Nat) (E : Int) (wd : World)
    (hz : (FloatKind.f64.format.order W 0 == some .eq) = false)
    (hi : ∀ wd, Calls Tryd.prog 27 #[.float .f64 W, .int .i64 0] wd fun e w' => e = .returned (.bool false) ∧ wd = w')
    (hnan : ∀ wd, Calls Tryd.prog 26 #[.float .f64 W] wd fun e w' => e = .returned (.bool false) ∧ wd = w')
    (hN : ∀ wd, Calls Tryd.prog 41 #[.float .f64 W] wd fun e w' => e = .returned (.tuple #[.float .f64 W, .int .i64 0]) ∧ wd = w')
    (tb : ∀ w, (callFunc 22 #[.float .f64 W]).run Tryd.prog w = .ok (.value (.int .u64 W)) w)
    (hW : W < 18446744073709551616)
    (h1 : bits .and .i64 ((W : Int) / 4503599627370496) 2047 = (fe : Int))
    (hfe : (fe : Int) < 2048) (hE : -2000 ≤ E ∧ E ≤ 2000)
    (hq : 1023 < E + (fe - 1023)) (hs : (FloatKind.f64.format.order W 0 == some .lt) = true) :
    Calls Tryd.prog 39 #[.float .f64 W, .int .i64 E] wd fun e w' => e = .returned (.float .f64 18442240474082181120) ∧ wd = w' := by
  go_enter Tryd.func39, Tryd.ntmps39
  go_upto_region 5 with (first | (go_at_call 27; refine (hi _).mono ?_; rintro e w' ⟨rfl, rfl⟩) | (go_at_call 26; refine (hnan _).mono ?_; rintro e w' ⟨rfl, rfl⟩) | (go_at_call 41; refine (hN _).mono ?_; rintro e w' ⟨rfl, rfl⟩))
  go_upto_region 8 with (first | (go_at_call 27; refine (hi _).mono ?_; rintro e w' ⟨rfl, rfl⟩) | (go_at_call 26; refine (hnan _).mono ?_; rintro e w' ⟨rfl, rfl⟩) | (go_at_call 41; refine (hN _).mono ?_; rintro e w' ⟨rfl, rfl⟩))
  go_upto_region 9 with fail
  generalize E + ((fe : Int) - 1023) = q at *
  clear hz hi hnan hN hfe hE
  go_upto_region 11 with fail
  go_wp2_with (go_at_call 43; refine (inf_neg _).mono ?_; rintro e w' ⟨rfl, rfl⟩)
  go_ret
  exact ⟨rfl, rfl⟩
theorem ldexp_overP (W fe : Nat) (E : Int) (wd : World)
    (hz : (FloatKind.f64.format.order W 0 == some .eq) = false)
    (hi : ∀ wd, Calls Tryd.prog 27 #[.float .f64 W, .int .i64 0] wd fun e w' => e = .returned (.bool false) ∧ wd = w')
    (hnan : ∀ wd, Calls Tryd.prog 26 #[.float .f64 W] wd fun e w' => e = .returned (.bool false) ∧ wd = w')
    (hN : ∀ wd, Calls Tryd.prog 41 #[.float .f64 W] wd fun e w' => e = .returned (.tuple #[.float .f64 W, .int .i64 0]) ∧ wd = w')
    (tb : ∀ w, (callFunc 22 #[.float .f64 W]).run Tryd.prog w = .ok (.value (.int .u64 W)) w)
    (hW : W < 18446744073709551616)
    (h1 : bits .and .i64 ((W : Int) / 4503599627370496) 2047 = (fe : Int))
    (hfe : (fe : Int) < 2048) (hE : -2000 ≤ E ∧ E ≤ 2000)
    (hq : 1023 < E + (fe - 1023)) (hs : (FloatKind.f64.format.order W 0 == some .lt) = false) :
    Calls Tryd.prog 39 #[.float .f64 W, .int .i64 E] wd fun e w' => e = .returned (.float .f64 9218868437227405312) ∧ wd = w' := by
  go_enter Tryd.func39, Tryd.ntmps39
  go_upto_region 5 with (first | (go_at_call 27; refine (hi _).mono ?_; rintro e w' ⟨rfl, rfl⟩) | (go_at_call 26; refine (hnan _).mono ?_; rintro e w' ⟨rfl, rfl⟩) | (go_at_call 41; refine (hN _).mono ?_; rintro e w' ⟨rfl, rfl⟩))
  go_upto_region 8 with (first | (go_at_call 27; refine (hi _).mono ?_; rintro e w' ⟨rfl, rfl⟩) | (go_at_call 26; refine (hnan _).mono ?_; rintro e w' ⟨rfl, rfl⟩) | (go_at_call 41; refine (hN _).mono ?_; rintro e w' ⟨rfl, rfl⟩))
  go_upto_region 9 with fail
  generalize E + ((fe : Int) - 1023) = q at *
  clear hz hi hnan hN hfe hE
  go_upto_region 11 with fail
  go_wp2_with (go_at_call 43; refine (inf_pos _).mono ?_; rintro e w' ⟨rfl, rfl⟩)
  go_ret
  exact ⟨rfl, rfl⟩
theorem ldexp_zero (W : Nat) (E : Int) (wd : World) (hz : (FloatKind.f64.format.order W 0 == some .eq) = true) :
    Calls Tryd.prog 39 #[.float .f64 W, .int .i64 E] wd fun e w' => e = .returned (.float .f64 W) ∧ wd = w' := by
  go_enter Tryd.func39, Tryd.ntmps39
  go_wp2_with fail
  go_ret
  exact ⟨rfl, rfl⟩
theorem Ldexp_by (W V : Nat) (E : Int) (wd : World) (h : ∀ wd, Calls Tryd.prog 39 #[.float .f64 W, .int .i64 E] wd fun e w' => e = .returned (.float .f64 V) ∧ wd = w') :
    Calls Tryd.prog 31 #[.float .f64 W, .int .i64 E] wd fun e w' => e = .returned (.float .f64 V) ∧ wd = w' := by
  go_enter Tryd.func31, Tryd.ntmps31
  go_wp2_with (go_at_call 39; refine (h _).mono ?_; rintro e w' ⟨rfl, rfl⟩)
  go_ret
  exact ⟨rfl, rfl⟩
end Go.Proofs.YtfecgfefchdapaaDoor

namespace Go.Proofs.YtfecgfefchdapaaDoor
set_option linter.unusedVariables false
set_option linter.unusedSimpArgs false
open Go.RowKit FL Go.Shelf Ieee

theorem i64_and2047 (n : Int) : bits .and .i64 n 2047 = n % 2048 := by
  have h127 : (BitVec.ofInt 64 2047).toNat = 2 ^ 11 - 1 := by decide
  have key : (BitVec.ofInt 64 n &&& BitVec.ofInt 64 2047).toNat = (n % ((2 ^ 64 : Nat) : Int)).toNat % 2 ^ 11 := by
    rw [BitVec.toNat_and, BitVec.toNat_ofInt, h127, Nat.and_two_pow_sub_one_eq_mod]
  show IntKind.i64.wrap ((BitVec.ofInt 64 n &&& BitVec.ofInt 64 2047).toNat : Nat) = n % 2048
  rw [key, IntKind.wrap_i64]
  omega
theorem and_fieldi (s : Bool) (y : Nat) (hy : y < 9223372036854775808) : bits .and .i64 (((word s y : Nat) : Int) / 4503599627370496) 2047 = ((y / 4503599627370496 : Nat) : Int) := by
  obtain ⟨h1, h2⟩ := word_mod s y hy
  rw [i64_and2047]
  omega
theorem word_or (s : Bool) (y : Nat) (hy : y < 9223372036854775808) : word s y = (if s then 9223372036854775808 else 0) ||| y := by
  have hy2 : y < 2 ^ 63 := by
    rw [show (2 : Nat) ^ 63 = 9223372036854775808 from by decide]
    exact hy
  have hor2 := Nat.two_pow_add_eq_or_of_lt hy2 1
  rw [Nat.mul_one, show (2 : Nat) ^ 63 = 9223372036854775808 from by decide] at hor2
  cases s
  · simp [word]
  · simp only [word, if_true]
    exact hor2
theorem or_bits (s : Bool) (F p : Nat) (hF : F < 4503599627370496) (hp : p < 2048) : bits .or .u64 ((word s F : Nat) : Int) ((p : Int) * 4503599627370496) = ((word s (rg F p) : Nat) : Int) := by
  obtain ⟨h1, h2⟩ := word_mod s F (by omega)
  have h := u64_or_nat (word s F) (p * 4503599627370496) h2 (by omega)
  rw [show ((p * 4503599627370496 : Nat) : Int) = (p : Int) * 4503599627370496 by omega] at h
  rw [h]
  congr 1
  have hF' : F < 2 ^ 52 := by
    rw [show (2 : Nat) ^ 52 = 4503599627370496 from by decide]
    exact hF
  have e1 := Nat.two_pow_add_eq_or_of_lt hF' p
  rw [show (2 : Nat) ^ 52 = 4503599627370496 from by decide] at e1
  rw [word_or s F (by omega), word_or s (rg F p) (by unfold rg; omega), Nat.or_assoc]
  congr 1
  unfold rg
  rw [Nat.or_comm, Nat.mul_comm p, e1]

theorem one_mul (s t : Bool) (x : Nat) (hx : x < 9218868437227405312) : floatBits .mul .f64 (word s 4607182418800017408) (word t x) = some (word (s ^^ t) x) := by
  have e1 : sg 4607182418800017408 = 4503599627370496 := by decide
  have e2 : pl 4607182418800017408 = 1022 := by decide
  refine mul_exact s t 4607182418800017408 x x 52 (by decide) hx (by omega) (by rw [e2]; omega) ?_
  rw [e1, e2, show (((1022 : Nat) : Int) - 1074 + ((pl x : Int) - 1074) + 1074 + ((52 : Nat) : Int)).toNat = pl x by omega]
  unfold vv
  rw [show (2 : Nat) ^ 52 = 4503599627370496 from by decide, Nat.mul_assoc, Nat.mul_comm]
theorem low_mul (t : Bool) (x y : Nat) (hx : x < 9218868437227405312) (hy : y < 9218868437227405312) (h : vv x = vv y * 2 ^ 53) : floatBits .mul .f64 4368491638549381120 (word t x) = some (word t y) := by
  have e1 : sg 4368491638549381120 = 4503599627370496 := by decide
  have e2 : pl 4368491638549381120 = 969 := by decide
  have := mul_exact false t 4368491638549381120 x y 105 (by decide) hx (by omega) (by rw [e2]; omega) (by
    rw [e1, e2, show (((969 : Nat) : Int) - 1074 + ((pl x : Int) - 1074) + 1074 + ((105 : Nat) : Int)).toNat = pl x by omega]
    have h2 : sg x * 2 ^ pl x = vv x := rfl
    rw [Nat.mul_assoc, h2, h, show (105 : Nat) = 53 + 52 from rfl, Nat.pow_add 2 53 52, show (2 : Nat) ^ 52 = 4503599627370496 from by decide, ← Nat.mul_assoc, Nat.mul_comm 4503599627370496, Nat.mul_assoc])
  rw [Bool.false_xor] at this
  exact this

/-- the facts that every walk of a full number asks -/
theorem Ldexp_norm (s : Bool) (r x : Nat) (E : Int) (hr1 : 4503599627370496 ≤ r) (hr : r < 9218868437227405312) (hE : -2000 ≤ E ∧ E ≤ 2000) (hx1 : 4503599627370496 ≤ x) (hx : x < 9218868437227405312)
    (e : (x : Int) = (r : Int) + E * 4503599627370496) (wd : World) :
    Calls Tryd.prog 31 #[.float .f64 (word s r), .int .i64 E] wd fun e w' => e = .returned (.float .f64 (word s x)) ∧ wd = w' := by
  refine Ldexp_by _ _ _ _ fun wd => ?_
  have hn : ∀ wd, Calls Tryd.prog 41 #[.float .f64 (word s r)] wd fun e w' => e = .returned (.tuple #[.float .f64 (word s r), .int .i64 0]) ∧ wd = w' := by
    intro wd
    have h := normalize_any s r (by omega) hr wd
    rw [show nrE r = 0 from if_neg (by omega), show nrm r = r from if_neg (by omega)] at h
    exact h
  have hnan := fun wd => isNaN_any (word s r) wd
  rw [isn_word s r (by omega)] at hnan
  have hz := eq_zero s r hr
  rw [decide_eq_false (by omega)] at hz
  have h3 := or_bits s (r % 4503599627370496) (x / 4503599627370496) (Nat.mod_lt _ (by decide)) (by omega)
  rw [show rg (r % 4503599627370496) (x / 4503599627370496) = x by unfold rg; omega, show ((x / 4503599627370496 : Nat) : Int) = E + (((r / 4503599627370496 : Nat) : Int) - 1023) + 1023 by omega] at h3
  have fb := fun w => frombits ((word s x : Nat) : Int) w
  simp only [Int.toNat_natCast] at fb
  have hm := one_mul false s x hx
  rw [Bool.false_xor] at hm
  exact ldexp_norm (word s r) (word s (r % 4503599627370496)) (word s x) (word s x) (r / 4503599627370496) E wd hz (fun wd => isInf0_fin s r hr wd) hnan hn (fun w => tobits _ w) (word_mod s r (by omega)).2
    (and_fieldi s r (by omega)) (by omega) hE (frac_bits s r (by omega)) (by omega) (by omega) h3 fb (fun t w1 => run_float_arith w1 .mul t .f64 _ _ _ hm)
theorem Ldexp_low (s : Bool) (r x y : Nat) (E : Int) (hr1 : 4503599627370496 ≤ r) (hr : r < 9218868437227405312) (hE : -2000 ≤ E ∧ E ≤ 2000) (hx1 : 4503599627370496 ≤ x) (hx : x < 54 * 4503599627370496)
    (e : (x : Int) = (r : Int) + (E + 53) * 4503599627370496) (hy : vv x = vv y * 2 ^ 53) (hy2 : y < 9218868437227405312) (wd : World) :
    Calls Tryd.prog 31 #[.float .f64 (word s r), .int .i64 E] wd fun e w' => e = .returned (.float .f64 (word s y)) ∧ wd = w' := by
  refine Ldexp_by _ _ _ _ fun wd => ?_
  have hn : ∀ wd, Calls Tryd.prog 41 #[.float .f64 (word s r)] wd fun e w' => e = .returned (.tuple #[.float .f64 (word s r), .int .i64 0]) ∧ wd = w' := by
    intro wd
    have h := normalize_any s r (by omega) hr wd
    rw [show nrE r = 0 from if_neg (by omega), show nrm r = r from if_neg (by omega)] at h
    exact h
  have hnan := fun wd => isNaN_any (word s r) wd
  rw [isn_word s r (by omega)] at hnan
  have hz := eq_zero s r hr
  rw [decide_eq_false (by omega)] at hz
  have h3 := or_bits s (r % 4503599627370496) (x / 4503599627370496) (Nat.mod_lt _ (by decide)) (by omega)
  rw [show rg (r % 4503599627370496) (x / 4503599627370496) = x by unfold rg; omega, show ((x / 4503599627370496 : Nat) : Int) = E + (((r / 4503599627370496 : Nat) : Int) - 1023) + 53 + 1023 by omega] at h3
  have fb := fun w => frombits ((word s x : Nat) : Int) w
  simp only [Int.toNat_natCast] at fb
  have hm := low_mul s x y (by omega) hy2 hy
  exact ldexp_low (word s r) (word s (r % 4503599627370496)) (word s x) (word s y) (r / 4503599627370496) E wd hz (fun wd => isInf0_fin s r hr wd) hnan hn (fun w => tobits _ w) (word_mod s r (by omega)).2
    (and_fieldi s r (by omega)) (by omega) hE (frac_bits s r (by omega)) (by omega) (by omega) h3 fb (fun t w1 => run_float_arith w1 .mul t .f64 _ _ _ hm)
theorem lt_zero (s : Bool) (r : Nat) (h0 : 0 < r) (hr : r < 9218868437227405312) : (FloatKind.f64.format.order (word s r) 0 == some .lt) = s := by
  have h2 := (word_mod s r (by omega)).2
  rw [lt_key _ _ h2 (by decide), key_word s r (by omega), show (0 : Nat) = word false 0 from rfl, key_word false 0 (by decide)]
  cases s
  · simp only [Bool.false_eq_true, if_false]
    exact decide_eq_false (by omega)
  · simp only [if_true, Bool.false_eq_true, if_false]
    exact decide_eq_true (by omega)
theorem Ldexp_over (s : Bool) (r : Nat) (E : Int) (hr1 : 4503599627370496 ≤ r) (hr : r < 9218868437227405312) (hE : -2000 ≤ E ∧ E ≤ 2000)
    (e : 9218868437227405312 ≤ (r : Int) + E * 4503599627370496) (wd : World) :
    Calls Tryd.prog 31 #[.float .f64 (word s r), .int .i64 E] wd fun e w' => e = .returned (.float .f64 (word s 9218868437227405312)) ∧ wd = w' := by
  refine Ldexp_by _ _ _ _ fun wd => ?_
  have hn : ∀ wd, Calls Tryd.prog 41 #[.float .f64 (word s r)] wd fun e w' => e = .returned (.tuple #[.float .f64 (word s r), .int .i64 0]) ∧ wd = w' := by
    intro wd
    have h := normalize_any s r (by omega) hr wd
    rw [show nrE r = 0 from if_neg (by omega), show nrm r = r from if_neg (by omega)] at h
    exact h
  have hnan := fun wd => isNaN_any (word s r) wd
  rw [isn_word s r (by omega)] at hnan
  have hz := eq_zero s r hr
  rw [decide_eq_false (by omega)] at hz
  have hs := lt_zero s r (by omega) hr
  cases s
  · exact ldexp_overP (word false r) (r / 4503599627370496) E wd hz (fun wd => isInf0_fin false r hr wd) hnan hn (fun w => tobits _ w) (word_mod false r (by omega)).2
      (and_fieldi false r (by omega)) (by omega) hE (by omega) hs
  · exact ldexp_overN (word true r) (r / 4503599627370496) E wd hz (fun wd => isInf0_fin true r hr wd) hnan hn (fun w => tobits _ w) (word_mod true r (by omega)).2
      (and_fieldi true r (by omega)) (by omega) hE (by omega) hs
theorem Ldexp_zero (E : Int) (wd : World) :
    Calls Tryd.prog 31 #[.float .f64 0, .int .i64 E] wd fun e w' => e = .returned (.float .f64 0) ∧ wd = w' :=
  Ldexp_by _ _ _ _ fun wd => ldexp_zero 0 E wd (by decide +kernel)
end Go.Proofs.YtfecgfefchdapaaDoor
