/- The walk of gauge.Make. The contract of gauge.Make: the rung nearest to the number. -/
import Derived.Test.YtfecgfefchdapaaDoorSh
import Derived.Test.YtfecgfefchdapaaDoorLn
import Derived.Test.YtfecgfefchdapaaDoorLg
import Derived.Test.YtfecgfefchdapaaDoorNear1Make
namespace Go.Proofs.YtfecgfefchdapaaDoor
set_option linter.unusedVariables false
set_option linter.unusedSimpArgs false
open Go.RowKit FL Go.Shelf Ieee

theorem mk_zero (e : Int) (wd : World) :
    Calls Tryd.prog 14 #[.int .i64 0, .int .i64 e] wd fun e w' => e = .returned (.float .f64 0) ∧ wd = w' := by
  go_enter Tryd.func14, Tryd.ntmps14
  go_wp2_with fail
  go_ret
  exact ⟨rfl, rfl⟩
theorem mk_pos (e E : Int) (L mag W0 W : Nat) (wd : World)
    (hm0 : 0 < mag) (hm : mag < 9223372036854775808) (hE : min (max e (-1300)) 1300 = E) (hE2 : -1300 ≤ E ∧ E ≤ 1300) (hL : L ≤ 64)
    (hlen : ∀ wd, Calls Tryd.prog 30 #[.int .u64 (mag : Int)] wd fun e w' => e = .returned (.int .i64 (L : Int)) ∧ wd = w')
    (hc : -1022 ≤ (L : Int) - 1 + E)
    (hcv : ∀ w1, (convert 2 27 (.int .i64 (mag : Int))).run Tryd.prog w1 = .ok (.float .f64 W0) w1)
    (hld : ∀ wd, Calls Tryd.prog 31 #[.float .f64 W0, .int .i64 E] wd fun e w' => e = .returned (.float .f64 W) ∧ wd = w')
    : Calls Tryd.prog 14 #[.int .i64 (mag : Int), .int .i64 e] wd fun e w' => e = .returned (.float .f64 W) ∧ wd = w' := by
  go_enter Tryd.func14, Tryd.ntmps14
  go_upto_region 7 with fail
  clear hE
  go_upto_region 8 with (go_at_call 30; refine (hlen _).mono ?_; rintro e w' ⟨rfl, rfl⟩)
  go_wp2_with (go_at_call 31; refine (hld _).mono ?_; rintro e w' ⟨rfl, rfl⟩)
  go_ret
  exact ⟨rfl, rfl⟩
theorem mk_posL (e E : Int) (L mag W0 W : Nat) (K W1 : Nat) (wd : World)
    (hm0 : 0 < mag) (hm : mag < 9223372036854775808) (hE : min (max e (-1300)) 1300 = E) (hE2 : -1300 ≤ E ∧ E ≤ 1300) (hL : L ≤ 64)
    (hlen : ∀ wd, Calls Tryd.prog 30 #[.int .u64 (mag : Int)] wd fun e w' => e = .returned (.int .i64 (L : Int)) ∧ wd = w')
    (hc : (L : Int) - 1 + E < -1022)
    (hsh : ∀ wd, Calls Tryd.prog 32 #[.int .u64 (mag : Int), .int .i64 (-1074 - E)] wd fun e w' => e = .returned (.int .u64 (K : Int)) ∧ wd = w')
    (hcv : ∀ w1, (convert 22 27 (.int .u64 (K : Int))).run Tryd.prog w1 = .ok (.float .f64 W0) w1)
    (hld : ∀ wd, Calls Tryd.prog 31 #[.float .f64 W0, .int .i64 (-1074)] wd fun e w' => e = .returned (.float .f64 W1) ∧ wd = w')
    (hmu : ∀ t w1, (binOp .mul t (.float .f64 4607182418800017408) (.float .f64 W1)).run Tryd.prog w1 = .ok (.float .f64 W) w1)
    : Calls Tryd.prog 14 #[.int .i64 (mag : Int), .int .i64 e] wd fun e w' => e = .returned (.float .f64 W) ∧ wd = w' := by
  go_enter Tryd.func14, Tryd.ntmps14
  go_upto_region 7 with fail
  clear hE
  go_upto_region 9 with (go_at_call 30; refine (hlen _).mono ?_; rintro e w' ⟨rfl, rfl⟩)
  go_wp2_with (first | (go_at_call 32; refine (hsh _).mono ?_; rintro e w' ⟨rfl, rfl⟩) | (go_at_call 31; refine (hld _).mono ?_; rintro e w' ⟨rfl, rfl⟩))
  go_ret
  exact ⟨rfl, rfl⟩
theorem mk_neg (e E : Int) (L mag W0 W : Nat) (wd : World)
    (hm0 : 0 < mag) (hm : mag ≤ 9223372036854775808) (hE : min (max e (-1300)) 1300 = E) (hE2 : -1300 ≤ E ∧ E ≤ 1300) (hL : L ≤ 64)
    (hw : IntKind.u64.wrap (-IntKind.u64.wrap (-(mag : Int))) = (mag : Int))
    (hlen : ∀ wd, Calls Tryd.prog 30 #[.int .u64 (mag : Int)] wd fun e w' => e = .returned (.int .i64 (L : Int)) ∧ wd = w')
    (hc : -1022 ≤ (L : Int) - 1 + E)
    (hcv : ∀ w1, (convert 2 27 (.int .i64 (-(mag : Int)))).run Tryd.prog w1 = .ok (.float .f64 W0) w1)
    (hld : ∀ wd, Calls Tryd.prog 31 #[.float .f64 W0, .int .i64 E] wd fun e w' => e = .returned (.float .f64 W) ∧ wd = w')
    : Calls Tryd.prog 14 #[.int .i64 (-(mag : Int)), .int .i64 e] wd fun e w' => e = .returned (.float .f64 W) ∧ wd = w' := by
  go_enter Tryd.func14, Tryd.ntmps14
  go_upto_region 7 with fail
  clear hE
  go_upto_region 8 with (go_at_call 30; refine (hlen _).mono ?_; rintro e w' ⟨rfl, rfl⟩)
  go_wp2_with (go_at_call 31; refine (hld _).mono ?_; rintro e w' ⟨rfl, rfl⟩)
  go_ret
  exact ⟨rfl, rfl⟩
theorem mk_negL (e E : Int) (L mag W0 W : Nat) (K W1 : Nat) (wd : World)
    (hm0 : 0 < mag) (hm : mag ≤ 9223372036854775808) (hE : min (max e (-1300)) 1300 = E) (hE2 : -1300 ≤ E ∧ E ≤ 1300) (hL : L ≤ 64)
    (hw : IntKind.u64.wrap (-IntKind.u64.wrap (-(mag : Int))) = (mag : Int))
    (hlen : ∀ wd, Calls Tryd.prog 30 #[.int .u64 (mag : Int)] wd fun e w' => e = .returned (.int .i64 (L : Int)) ∧ wd = w')
    (hc : (L : Int) - 1 + E < -1022)
    (hsh : ∀ wd, Calls Tryd.prog 32 #[.int .u64 (mag : Int), .int .i64 (-1074 - E)] wd fun e w' => e = .returned (.int .u64 (K : Int)) ∧ wd = w')
    (hcv : ∀ w1, (convert 22 27 (.int .u64 (K : Int))).run Tryd.prog w1 = .ok (.float .f64 W0) w1)
    (hld : ∀ wd, Calls Tryd.prog 31 #[.float .f64 W0, .int .i64 (-1074)] wd fun e w' => e = .returned (.float .f64 W1) ∧ wd = w')
    (hmu : ∀ t w1, (binOp .mul t (.float .f64 13830554455654793216) (.float .f64 W1)).run Tryd.prog w1 = .ok (.float .f64 W) w1)
    : Calls Tryd.prog 14 #[.int .i64 (-(mag : Int)), .int .i64 e] wd fun e w' => e = .returned (.float .f64 W) ∧ wd = w' := by
  go_enter Tryd.func14, Tryd.ntmps14
  go_upto_region 7 with fail
  clear hE
  go_upto_region 9 with (go_at_call 30; refine (hlen _).mono ?_; rintro e w' ⟨rfl, rfl⟩)
  go_wp2_with (first | (go_at_call 32; refine (hsh _).mono ?_; rintro e w' ⟨rfl, rfl⟩) | (go_at_call 31; refine (hld _).mono ?_; rintro e w' ⟨rfl, rfl⟩))
  go_ret
  exact ⟨rfl, rfl⟩
end Go.Proofs.YtfecgfefchdapaaDoor

namespace Go.Proofs.YtfecgfefchdapaaDoor
set_option linter.unusedVariables false
set_option linter.unusedSimpArgs false
open Go.RowKit FL Go.Shelf Ieee

theorem foi_any (p : Int) : floatOfInt .f64 p = word (decide (p < 0)) (rung p.natAbs 0) := by
  unfold floatOfInt FloatKind.nearest FloatKind.encode
  have e : FloatKind.format .f64 = double := rfl
  rw [e]
  unfold Format.write
  simp only
  rw [nearest_rung]
  unfold word
  rfl
theorem log_lt (m : Nat) (h0 : m ≠ 0) (hm : m < 18446744073709551616) : m.log2 < 64 := (Nat.log2_lt h0).2 (by rw [show (2 : Nat) ^ 64 = 18446744073709551616 from by decide]; exact hm)
theorem hi_any (s : Bool) (m : Nat) (E : Int) (h0 : m ≠ 0) (hm : m < 18446744073709551616) (hE : -1300 ≤ E ∧ E ≤ 1300) (h : -1022 ≤ E + m.log2) (wd : World) :
    Calls Tryd.prog 31 #[.float .f64 (word s (rung m 0)), .int .i64 E] wd fun e w' => e = .returned (.float .f64 (word s (rung m E))) ∧ wd = w' := by
  obtain ⟨⟨h1, h2⟩, h3, h4⟩ := rung_move m E h0 hm h
  by_cases hb : 9218868437227405312 ≤ (rung m 0 : Int) + E * 4503599627370496
  · rw [show rung m E = 9218868437227405312 by omega]
    exact Ldexp_over s _ E h1 h2 (by omega) hb wd
  · exact Ldexp_norm s _ _ E h1 h2 (by omega) h3 (by omega) (by omega) wd
theorem lo_ld (K : Nat) (hK : K ≤ 4503599627370496) (wd : World) :
    Calls Tryd.prog 31 #[.float .f64 (word false (rung K 0)), .int .i64 (-1074)] wd fun e w' => e = .returned (.float .f64 (word false K)) ∧ wd = w' := by
  by_cases h0 : K = 0
  · subst h0
    rw [rung_zero]
    exact Ldexp_zero (-1074) wd
  · by_cases h1 : K = 4503599627370496
    · subst h1
      have e : rung 4503599627370496 0 = pw 52 := by
        have := rn_pow 52 (by decide)
        rw [show (2 : Nat) ^ 52 = 4503599627370496 from by decide] at this
        exact this
      rw [e]
      refine Ldexp_norm false (pw 52) 4503599627370496 (-1074) ?_ ?_ (by omega) (by omega) (by omega) ?_ wd
      · unfold pw; omega
      · unfold pw; omega
      · unfold pw; omega
    · obtain ⟨e, hl⟩ := rn_small K h0 (by omega)
      have hb := fill_bd K h0 (by omega)
      have hv : vv (rg (K * 2 ^ (52 - K.log2)) (K.log2 + 1)) = vv K * 2 ^ 53 := by
        rw [vv_rg _ _ hb.1 hb.2, Nat.mul_assoc, ← Nat.pow_add, show 52 - K.log2 + (K.log2 + 1) = 53 by omega]
        congr 1
        unfold vv sg pl
        rw [if_pos (by omega), show K / 4503599627370496 - 1 = 0 by omega, Nat.pow_zero, Nat.mul_one]
      rw [e]
      refine Ldexp_low false _ (rg (K * 2 ^ (52 - K.log2)) (K.log2 + 1)) K (-1074) ?_ ?_ (by omega) ?_ ?_ ?_ hv (by omega) wd
      all_goals (unfold rg; generalize K * 2 ^ (52 - K.log2) = M at *; omega)
theorem lo_sh (m : Nat) (E : Int) (h0 : m ≠ 0) (hm : m < 18446744073709551616) (hE : -1300 ≤ E ∧ E ≤ 1300) (h : E + m.log2 < -1022) (wd : World) :
    Calls Tryd.prog 32 #[.int .u64 (m : Int), .int .i64 (-1074 - E)] wd fun e w' => e = .returned (.int .u64 ((rung m E : Nat) : Int)) ∧ wd = w' := by
  obtain ⟨h1, h2⟩ := rung_low m E h0 h
  by_cases c : -1074 ≤ E
  · obtain ⟨d, hd⟩ : ∃ d : Nat, E = -1074 + d := ⟨(E + 1074).toNat, by omega⟩
    have e1 : (E + 1074).toNat = d := by omega
    have e2 : (-1074 - E).toNat = 0 := by omega
    have e3 : -1074 - E = -(d : Int) := by omega
    rw [e1, e2, cut_none, Nat.shiftLeft_eq] at h1
    rw [e3]
    refine sh_neg m d _ wd (by omega) ?_
    rw [Nat.min_eq_left (by omega), h1, IntKind.wrap_u64]
    have e4 : ((m * 2 ^ d : Nat) : Int) = (m : Int) * 2 ^ d := by push_cast; rfl
    rw [← e4]
    rw [h1] at h2
    generalize m * 2 ^ d = M at *
    omega
  · obtain ⟨d, hd⟩ : ∃ d : Nat, E = -1074 - (d : Int) := ⟨(-1074 - E).toNat, by omega⟩
    have e1 : (E + 1074).toNat = 0 := by omega
    have e2 : (-1074 - E).toNat = d := by omega
    have e3 : -1074 - E = (d : Int) := by omega
    rw [e1, e2, Nat.shiftLeft_eq, Nat.pow_zero, Nat.mul_one] at h1
    rw [e3, h1]
    by_cases c1 : d < 64
    · rw [cut_mid m d hm (by omega) c1]
      have e4 : IntKind.u64.wrap ((m : Int) * 2 ^ (64 - d)) = ((m * 2 ^ (64 - d) % 18446744073709551616 : Nat) : Int) := by
        have e5 : ((m * 2 ^ (64 - d) : Nat) : Int) = (m : Int) * 2 ^ (64 - d) := by push_cast; rfl
        rw [IntKind.wrap_u64, ← e5]
        generalize m * 2 ^ (64 - d) = M at *
        omega
      have e6 : (m : Int) / 2 ^ d = ((m / 2 ^ d : Nat) : Int) := by push_cast; rfl
      have hq : m / 2 ^ d < 9223372036854775808 := by
        have h5 : m / 2 ^ d ≤ m / 2 := Nat.div_le_div_left (by have : 2 ^ 1 ≤ 2 ^ d := Nat.pow_le_pow_right (by omega) (by omega); omega) (by omega)
        omega
      have h6 : bits .and .u64 ((m / 2 ^ d : Nat) : Int) 1 = ((m / 2 ^ d % 2 : Nat) : Int) := by
        have h := u64_and_nat (m / 2 ^ d) 1 (by omega) (by decide)
        rw [show ((1 : Nat) : Int) = 1 from rfl] at h
        rw [h, Nat.and_one_is_mod]
      exact sh_mid m d _ _ wd (by omega) c1 e4 e6 hq h6
    · by_cases c2 : d = 64
      · subst c2
        rw [cut_64 m hm]
        have h := sh_64 m wd hm
        by_cases c3 : 9223372036854775808 < m
        · rw [if_pos c3]; rw [if_pos (by omega)] at h; exact h
        · rw [if_neg c3]; rw [if_neg (by omega)] at h; exact h
      · rw [cut_far m d hm (by omega)]
        exact sh_far m d wd hm (by omega) (by omega)
/-- the least and the greatest power that count -/
theorem rung_clamp (m : Nat) (e : Int) (h0 : m ≠ 0) (hm : m < 18446744073709551616) : rung m (min (max e (-1300)) 1300) = rung m e := by
  by_cases h1 : e < -1300
  · rw [show min (max e (-1300)) 1300 = -1300 by omega, NearMake.small_rung m e (by omega) (by omega), NearMake.small_rung m (-1300) (by omega) (by omega)]
  · by_cases h2 : 1300 < e
    · rw [show min (max e (-1300)) 1300 = 1300 by omega, NearMake.big_rung m e h0 (by omega), NearMake.big_rung m 1300 h0 (by omega)]
    · rw [show min (max e (-1300)) 1300 = e by omega]
/-- what Make tells -/
def mkV (m e : Int) : Nat := word (decide (m < 0)) (rung m.natAbs e)
theorem len_is (m : Nat) (h0 : m ≠ 0) (hm : m < 18446744073709551616) (wd : World) :
    Calls Tryd.prog 30 #[.int .u64 (m : Int)] wd fun e w' => e = .returned (.int .i64 ((m.log2 + 1 : Nat) : Int)) ∧ wd = w' := by
  have h := len64_any (m : Int) wd (by omega) (by omega)
  rw [Int.toNat_natCast, bitLen_log2 m h0 hm] at h
  exact h.mono fun e w' h => ⟨h.1, h.2.symm⟩
theorem make_pos (mag : Nat) (x : Int) (h0 : mag ≠ 0) (hm : mag < 9223372036854775808) (wd : World) :
    Calls Tryd.prog 14 #[.int .i64 (mag : Int), .int .i64 x] wd fun e w' => e = .returned (.float .f64 (word false (rung mag x))) ∧ wd = w' := by
  have hl := log_lt mag h0 (by omega)
  rw [← rung_clamp mag x h0 (by omega)]
  obtain ⟨E, hE⟩ : ∃ E, min (max x (-1300)) 1300 = E := ⟨_, rfl⟩
  have hE2 : -1300 ≤ E ∧ E ≤ 1300 := by omega
  rw [hE]
  by_cases c : -1022 ≤ ((mag.log2 + 1 : Nat) : Int) - 1 + E
  · refine mk_pos x E (mag.log2 + 1) mag (word false (rung mag 0)) _ wd (by omega) hm hE hE2 (by omega) (fun wd => len_is mag h0 (by omega) wd) c (fun w1 => ?_) (fun wd => hi_any false mag E h0 (by omega) hE2 (by omega) wd)
    rw [run_convert_int_float (P := Tryd.prog) (w := w1) 2 27 .i64 .f64 _ (by kernel_rfl) (by kernel_rfl), foi_any, decide_eq_false (by omega)]
    rfl
  · have hK := (rung_low mag E h0 (by omega)).2
    refine mk_posL x E (mag.log2 + 1) mag (word false (rung (rung mag E) 0)) _ (rung mag E) (word false (rung mag E)) wd (by omega) hm hE hE2 (by omega) (fun wd => len_is mag h0 (by omega) wd) (by omega)
      (fun wd => lo_sh mag E h0 (by omega) hE2 (by omega) wd) (fun w1 => ?_) (fun wd => lo_ld _ hK wd) (fun t w1 => run_float_arith w1 .mul t .f64 _ _ _ ?_)
    · rw [run_convert_int_float (P := Tryd.prog) (w := w1) 22 27 .u64 .f64 _ (by kernel_rfl) (by kernel_rfl), foi_any, decide_eq_false (by omega)]
      rfl
    · exact one_mul false false _ (by omega)
theorem make_neg (mag : Nat) (x : Int) (h0 : mag ≠ 0) (hm : mag ≤ 9223372036854775808) (wd : World) :
    Calls Tryd.prog 14 #[.int .i64 (-(mag : Int)), .int .i64 x] wd fun e w' => e = .returned (.float .f64 (word true (rung mag x))) ∧ wd = w' := by
  have hl := log_lt mag h0 (by omega)
  rw [← rung_clamp mag x h0 (by omega)]
  obtain ⟨E, hE⟩ : ∃ E, min (max x (-1300)) 1300 = E := ⟨_, rfl⟩
  have hE2 : -1300 ≤ E ∧ E ≤ 1300 := by omega
  have hw : IntKind.u64.wrap (-IntKind.u64.wrap (-(mag : Int))) = (mag : Int) := by
    rw [IntKind.wrap_u64, IntKind.wrap_u64]; omega
  have ha : (-(mag : Int)).natAbs = mag := by omega
  rw [hE]
  by_cases c : -1022 ≤ ((mag.log2 + 1 : Nat) : Int) - 1 + E
  · refine mk_neg x E (mag.log2 + 1) mag (word true (rung mag 0)) _ wd (by omega) hm hE hE2 (by omega) hw (fun wd => len_is mag h0 (by omega) wd) c (fun w1 => ?_) (fun wd => hi_any true mag E h0 (by omega) hE2 (by omega) wd)
    rw [run_convert_int_float (P := Tryd.prog) (w := w1) 2 27 .i64 .f64 _ (by kernel_rfl) (by kernel_rfl), foi_any, decide_eq_true (by omega), ha]
  · have hK := (rung_low mag E h0 (by omega)).2
    refine mk_negL x E (mag.log2 + 1) mag (word false (rung (rung mag E) 0)) _ (rung mag E) (word false (rung mag E)) wd (by omega) hm hE hE2 (by omega) hw (fun wd => len_is mag h0 (by omega) wd) (by omega)
      (fun wd => lo_sh mag E h0 (by omega) hE2 (by omega) wd) (fun w1 => ?_) (fun wd => lo_ld _ hK wd) (fun t w1 => run_float_arith w1 .mul t .f64 _ _ _ ?_)
    · rw [run_convert_int_float (P := Tryd.prog) (w := w1) 22 27 .u64 .f64 _ (by kernel_rfl) (by kernel_rfl), foi_any, decide_eq_false (by omega)]
      rfl
    · exact one_mul true false _ (by omega)
theorem make_any (m x : Int) (hm : -9223372036854775808 ≤ m ∧ m < 9223372036854775808) (wd : World) :
    Calls Tryd.prog 14 #[.int .i64 m, .int .i64 x] wd fun e w' => e = .returned (.float .f64 (mkV m x)) ∧ wd = w' := by
  unfold mkV
  by_cases h0 : m = 0
  · subst h0
    rw [show (0 : Int).natAbs = 0 from rfl, rung_zero]
    exact mk_zero x wd
  · by_cases hn : m < 0
    · obtain ⟨mag, rfl⟩ : ∃ mag : Nat, m = -(mag : Int) := ⟨m.natAbs, by omega⟩
      rw [decide_eq_true hn, show (-(mag : Int)).natAbs = mag by omega]
      exact make_neg mag x (by omega) (by omega) wd
    · obtain ⟨mag, rfl⟩ : ∃ mag : Nat, m = (mag : Int) := ⟨m.natAbs, by omega⟩
      rw [decide_eq_false hn, show ((mag : Nat) : Int).natAbs = mag by omega]
      exact make_pos mag x (by omega) (by omega) wd
end Go.Proofs.YtfecgfefchdapaaDoor
