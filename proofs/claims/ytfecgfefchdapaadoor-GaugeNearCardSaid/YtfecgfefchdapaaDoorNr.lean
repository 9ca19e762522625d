/- The walk of the law GaugeNear. -/
import Derived.Test.YtfecgfefchdapaaDoorGl
namespace Go.Proofs.YtfecgfefchdapaaDoor
set_option linter.unusedVariables false
set_option linter.unusedSimpArgs false
open Go.RowKit FL Go.Shelf Ieee Go.Proofs.YtfecgfefchdapaaDoorW.PrintWords

theorem near_low (fl : Int → Nat) (n k m e B : Int) (wd : World)
    (C1 : Calls Tryd.prog 9 #[] wd fun e w' => e = .returned (.bool true) ∧ wd = w')
    (C2 : ∀ x, Calls Tryd.prog 18 #[.int .i64 x] wd fun e w' => e = .returned (.float .f64 (fl x)) ∧ wd = w')
    (C4 : Calls Tryd.prog 10 #[.float .f64 (fl n)] wd fun x w' => x = .returned (.tuple #[.int .i64 m, .int .i64 e, .int .i64 0]) ∧ wd = w')
    (C5 : Calls Tryd.prog 16 #[.float .f64 (fl n)] wd fun x w' => x = .returned (.tuple #[.int .i64 B, .int .i64 0]) ∧ wd = w')
    (hn : -9223372036854775808 ≤ n ∧ n ≤ 9223372036854775295) (he : e ≤ 63) (hB : -9223372036854775808 ≤ B ∧ B < 9223372036854775808)
    (hfar : B - n ≤ (n.natAbs : Int) / 9007199254740992 ∧ n - B ≤ (n.natAbs : Int) / 9007199254740992)
    (ho : (n < k ∧ (FloatKind.f64.format.order (fl k) (fl n) == some .lt) = false) ∨ (n = k ∧ (FloatKind.f64.format.order (fl k) (fl n) == some .lt) = false ∧ (FloatKind.f64.format.order (fl n) (fl k) == some .lt) = false) ∨ (k < n ∧ (FloatKind.f64.format.order (fl n) (fl k) == some .lt) = false)) :
    Calls Tryd.prog 7 #[.int .i64 n, .int .i64 k] wd fun e w' => e = .returned (.bool true) ∧ wd = w' := by
  have H := Lib.hid hfar
  clear hfar
  go_enter Tryd.func7, Tryd.ntmps7
  go_upto_region 3 with (go_at_call 9; refine C1.mono ?_; rintro e w' ⟨rfl, rfl⟩)
  go_upto_region 4 with (go_at_call 18; refine (C2 _).mono ?_; rintro e w' ⟨rfl, rfl⟩)
  generalize fl n = F at *
  generalize fl k = G at *
  rcases ho with ⟨o1, o2⟩ | ⟨rfl, o2, o3⟩ | ⟨o1, o2⟩
  all_goals
    go_upto_region 9 with (go_at_call 10; refine C4.mono ?_; rintro e w' ⟨rfl, rfl⟩)
    go_upto_region 10 with (go_at_call 16; refine C5.mono ?_; rintro e w' ⟨rfl, rfl⟩)
    clear C1 C2 C4 C5
    go_wp2_with fail
    all_goals go_ret
  all_goals
    refine ⟨congrArg Ending.returned (congrArg Value.bool (decide_eq_true ?_)), rfl⟩
    have H1 := H.out
    try simp only [IntKind.wrap_u64]
    omega
theorem near_high (fl : Int → Nat) (n k m e B : Int) (wd : World)
    (C1 : Calls Tryd.prog 9 #[] wd fun e w' => e = .returned (.bool true) ∧ wd = w')
    (C2 : ∀ x, Calls Tryd.prog 18 #[.int .i64 x] wd fun e w' => e = .returned (.float .f64 (fl x)) ∧ wd = w')
    (C4 : Calls Tryd.prog 10 #[.float .f64 (fl n)] wd fun x w' => x = .returned (.tuple #[.int .i64 m, .int .i64 e, .int .i64 0]) ∧ wd = w')
    (C5 : Calls Tryd.prog 16 #[.float .f64 (fl n)] wd fun x w' => x = .returned (.tuple #[.int .i64 B, .int .i64 1]) ∧ wd = w')
    (hn : 9223372036854775295 < n) (he : e = 63) (hm : m = 1)
    (ho : (n < k ∧ (FloatKind.f64.format.order (fl k) (fl n) == some .lt) = false) ∨ (n = k ∧ (FloatKind.f64.format.order (fl k) (fl n) == some .lt) = false ∧ (FloatKind.f64.format.order (fl n) (fl k) == some .lt) = false) ∨ (k < n ∧ (FloatKind.f64.format.order (fl n) (fl k) == some .lt) = false)) :
    Calls Tryd.prog 7 #[.int .i64 n, .int .i64 k] wd fun e w' => e = .returned (.bool true) ∧ wd = w' := by
  subst he
  subst hm
  go_enter Tryd.func7, Tryd.ntmps7
  go_upto_region 3 with (go_at_call 9; refine C1.mono ?_; rintro e w' ⟨rfl, rfl⟩)
  go_upto_region 4 with (go_at_call 18; refine (C2 _).mono ?_; rintro e w' ⟨rfl, rfl⟩)
  generalize fl n = F at *
  generalize fl k = G at *
  rcases ho with ⟨o1, o2⟩ | ⟨rfl, o2, o3⟩ | ⟨o1, o2⟩
  all_goals
    go_upto_region 9 with (go_at_call 10; refine C4.mono ?_; rintro e w' ⟨rfl, rfl⟩)
    go_upto_region 10 with (go_at_call 16; refine C5.mono ?_; rintro e w' ⟨rfl, rfl⟩)
    clear C1 C2 C4 C5
    go_wp2_with fail
    go_ret
    exact ⟨rfl, rfl⟩
/-- how far a whole number's float stands off -/
theorem far_plain (N : Nat) (h0 : N ≠ 0) (hN : N ≤ 9223372036854775808) :
    vv (rung N 0) / big ≤ N + N / 9007199254740992 ∧ N ≤ vv (rung N 0) / big + N / 9007199254740992 := by
  have hl := log_lt N h0 (by omega)
  have hf := rung_norm N 0 h0 (by omega)
  have hb := Kc_bd N h0
  rw [Nat.min_eq_left (show ((0 : Int) + N.log2 + 1022).toNat * 4503599627370496 + Kc N ≤ 9218868437227405312 by omega), show ((0 : Int) + N.log2 + 1022).toNat = N.log2 + 1022 by omega] at hf
  have hv : vv (rung N 0) = Kc N * 2 ^ (N.log2 + 1022) := by
    rw [hf]
    by_cases h : Kc N < 9007199254740992
    · exact vv_rg _ _ hb.1 h
    · have hk : Kc N = 9007199254740992 := by omega
      rw [hk, show (N.log2 + 1022) * 4503599627370496 + 9007199254740992 = rg 4503599627370496 (N.log2 + 1023) by unfold rg; omega, vv_rg _ _ (by omega) (by omega),
        show N.log2 + 1023 = N.log2 + 1022 + 1 by omega, Nat.pow_succ, Nat.mul_comm (2 ^ (N.log2 + 1022)) 2, ← Nat.mul_assoc]
  by_cases h : N.log2 ≤ 52
  · have e : vv (rung N 0) = N * big := by
      rw [hv, Kc_small N h, Nat.mul_assoc, ← Nat.pow_add, show 52 - N.log2 + (N.log2 + 1022) = ofs by rw [ofs_eq]; omega]
      rfl
    rw [e, Nat.mul_div_cancel _ big_pos]
    omega
  · obtain ⟨d, hd⟩ : ∃ d, N.log2 = 52 + d := ⟨N.log2 - 52, by omega⟩
    have e : vv (rung N 0) = Kc N * 2 ^ d * big := by
      rw [hv, Nat.mul_assoc, show N.log2 + 1022 = d + ofs by rw [ofs_eq]; omega, Nat.pow_add]
      rfl
    rw [e, Nat.mul_div_cancel _ big_pos]
    have hk : Kc N = Toward.even.cut false N d := by
      have e1 : ((N.log2 : Int) - 52).toNat = d := by omega
      have e2 : (52 - (N.log2 : Int)).toNat = 0 := by omega
      unfold Kc
      rw [e1, e2, Nat.shiftLeft_eq, Nat.pow_zero, Nat.mul_one]
    have k1 := cut_even false N d (Kc N)
    have k2 := cut_even false N d (Kc N - 1)
    rw [← hk] at k1 k2
    have k3 := le_of_cut (k2.1 (by omega))
    have k4 : 2 * N ≤ (2 * Kc N + 1) * 2 ^ d := by
      refine Nat.le_of_not_lt fun hh => ?_
      have := k1.2 (.inl hh)
      omega
    have hlo := Nat.log2_self_le h0
    obtain ⟨c, rfl⟩ : ∃ c, d = c + 1 := ⟨d - 1, by omega⟩
    rw [hd, show 52 + (c + 1) = 53 + c by omega, Nat.pow_add, show (2 : Nat) ^ 53 = 9007199254740992 from by decide] at hlo
    have hq : 2 ^ c ≤ N / 9007199254740992 := (Nat.le_div_iff_mul_le (by decide)).2 (by rw [Nat.mul_comm]; exact hlo)
    rw [Nat.pow_succ] at k3 k4 ⊢
    have e3 : (2 * (Kc N - 1) + 1) * (2 ^ c * 2) = 2 * (Kc N * (2 ^ c * 2)) - 2 ^ c * 2 := by
      rw [show 2 * (Kc N - 1) + 1 = 2 * Kc N - 1 by omega, Nat.sub_mul, Nat.one_mul, Nat.mul_assoc]
    have e4 : (2 * Kc N + 1) * (2 ^ c * 2) = 2 * (Kc N * (2 ^ c * 2)) + 2 ^ c * 2 := by
      rw [Nat.add_mul, Nat.one_mul, Nat.mul_assoc]
    rw [e3] at k3
    rw [e4] at k4
    generalize Kc N * (2 ^ c * 2) = X at *
    generalize 2 ^ c = P at *
    generalize N / 9007199254740992 = Q at *
    clear k1 k2 hv hf e e3 e4
    omega
/-- OfInt -/
def fl (n : Int) : Nat := word (decide (n < 0)) (rung n.natAbs 0)
theorem fl_lt (n : Int) : fl n < 18446744073709551616 := word_lt _ _ _
theorem rn_63 : rung 9223372036854775808 0 = 4890909195324358656 := by decide +kernel
theorem rn_top : rung 9223372036854775296 0 = 4890909195324358656 := by decide +kernel
theorem rn_below : rung 9223372036854775295 0 = 4890909195324358655 := by decide +kernel
theorem rn_fin (N : Nat) (hN : N ≤ 9223372036854775808) : rung N 0 ≤ 4890909195324358656 := by
  rw [← rn_63]
  exact rn_le_of N 9223372036854775808 hN
theorem fl_key (n : Int) (hn : -9223372036854775808 ≤ n ∧ n < 9223372036854775808) : key (fl n) = some (if n < 0 then -((rung n.natAbs 0 : Nat) : Int) else ((rung n.natAbs 0 : Nat) : Int)) := by
  have h := rn_fin n.natAbs (by omega)
  unfold fl
  rw [key_word _ _ (by omega)]
  by_cases c : n < 0
  · rw [decide_eq_true c, if_pos c]; rfl
  · rw [decide_eq_false c, if_neg c]; rfl
/-- the order is kept -/
theorem fl_mono (n k : Int) (hn : -9223372036854775808 ≤ n ∧ n < 9223372036854775808) (hk : -9223372036854775808 ≤ k ∧ k < 9223372036854775808) (h : n ≤ k) : (FloatKind.f64.format.order (fl k) (fl n) == some .lt) = false := by
  rw [lt_key _ _ (fl_lt k) (fl_lt n), fl_key k hk, fl_key n hn]
  simp only
  refine decide_eq_false ?_
  have h1 : rung n.natAbs 0 ≤ rung k.natAbs 0 ∨ k.natAbs < n.natAbs := by
    by_cases c : n.natAbs ≤ k.natAbs
    · exact .inl (rn_le_of _ _ c)
    · exact .inr (by omega)
  have h2 : rung k.natAbs 0 ≤ rung n.natAbs 0 ∨ n.natAbs < k.natAbs := by
    by_cases c : k.natAbs ≤ n.natAbs
    · exact .inl (rn_le_of _ _ c)
    · exact .inr (by omega)
  split <;> split <;> omega
/-- the place of the last bit of a number up to 2^63 -/
theorem pt_place (s : Bool) (r : Nat) (h0 : 0 < r) (hr : r ≤ 4890909195324358656) : (ptN s r).2.1 ≤ 63 := by
  obtain ⟨o, t, h1, h2⟩ := ptN_ex r h0
  rw [ptN_of s r o t h1 h2]
  simp only
  have hv := vv_le hr
  have h63 := vv_pw 63
  rw [pw63] at h63
  rw [h63] at hv
  have e : vv r = o * 2 ^ (t + pl r) := by
    unfold vv
    rw [h1, Nat.mul_assoc, ← Nat.pow_add]
  rw [e] at hv
  have h3 : 2 ^ (t + pl r) ≤ 2 ^ (63 + ofs) := by
    rw [Nat.pow_add 2 63 ofs]
    have h4 : 1 * 2 ^ (t + pl r) ≤ o * 2 ^ (t + pl r) := Nat.mul_le_mul_right _ (by omega)
    rw [Nat.one_mul] at h4
    unfold big at hv
    exact Nat.le_trans h4 hv
  have h5 := (Nat.pow_le_pow_iff_right (by omega : 1 < 2)).1 h3
  rw [ofs_eq] at h5
  omega
theorem toIV_word (s : Bool) (r : Nat) (hr : r < 9218868437227405312) (hin : -9223372036854775808 ≤ (if s then -((vv r / big : Nat) : Int) else ((vv r / big : Nat) : Int)) ∧ (if s then -((vv r / big : Nat) : Int) else ((vv r / big : Nat) : Int)) < 9223372036854775808) :
    toIV (word s r) = (if s then -((vv r / big : Nat) : Int) else ((vv r / big : Nat) : Int), 0) := by
  unfold toIV
  rw [read_word s r hr]
  simp only
  rw [trc_vv, if_pos hin]
theorem fl_top (n : Int) (h1 : 9223372036854775295 < n) (h2 : n < 9223372036854775808) : fl n = 4890909195324358656 := by
  unfold fl
  rw [decide_eq_false (by omega)]
  have h3 := rn_fin n.natAbs (by omega)
  have h4 := rn_le_of 9223372036854775296 n.natAbs (by omega)
  unfold rn at h4
  rw [rn_top] at h4
  unfold word
  rw [if_neg (by decide)]
  exact Nat.le_antisymm h3 h4
theorem top_pt : ptV 4890909195324358656 = (1, 63, 0) := by decide +kernel
theorem top_ti : toIV 4890909195324358656 = (0, 1) := by decide +kernel
theorem nil_pt : ptV (fl 0) = (0, 0, 0) := by decide +kernel
theorem nil_ti : toIV (fl 0) = (0, 0) := by decide +kernel
theorem vv_in (N : Nat) (hN : N ≤ 9223372036854775808) : vv (rung N 0) / big ≤ 9223372036854775808 := by
  have h1 := vv_le (rn_fin N hN)
  have h63 := vv_pw 63
  rw [pw63, p63] at h63
  rw [h63] at h1
  exact Nat.div_le_of_le_mul (by rw [Nat.mul_comm]; exact h1)
theorem vv_in2 (N : Nat) (hN : N ≤ 9223372036854775295) : vv (rung N 0) / big < 9223372036854775808 := by
  have h1 := rn_le_of N 9223372036854775295 hN
  unfold rn at h1
  rw [rn_below] at h1
  exact trc_lo _ (Nat.lt_of_le_of_lt h1 (by decide))
theorem fl_toI (n : Int) (hn : -9223372036854775808 ≤ n ∧ n ≤ 9223372036854775295) :
    toIV (fl n) = ((if n < 0 then -((vv (rung n.natAbs 0) / big : Nat) : Int) else ((vv (rung n.natAbs 0) / big : Nat) : Int)), 0) := by
  have hr := rn_fin n.natAbs (by omega)
  have hV := vv_in n.natAbs (by omega)
  have hV2 : 0 ≤ n → vv (rung n.natAbs 0) / big < 9223372036854775808 := fun h => vv_in2 n.natAbs (by omega)
  have ht := fun s hin => toIV_word s (rung n.natAbs 0) (by omega) hin
  unfold fl
  generalize vv (rung n.natAbs 0) / big = V at *
  by_cases c : n < 0
  · rw [decide_eq_true c, if_pos c, ht true (by rw [if_pos rfl]; omega), if_pos rfl]
  · have := hV2 (by omega)
    rw [decide_eq_false c, if_neg c, ht false (by rw [if_neg (by decide)]; omega), if_neg (by decide)]
theorem law_near (n k : Int) (hn : -9223372036854775808 ≤ n ∧ n < 9223372036854775808) (hk : -9223372036854775808 ≤ k ∧ k < 9223372036854775808) (wd : World) (hT : TabAt 1 Lib.deBruijn64tab wd) :
    Calls Tryd.prog 7 #[.int .i64 n, .int .i64 k] wd fun e w' => e = .returned (.bool true) ∧ Grown wd w' := by
  suffices h : Calls Tryd.prog 7 #[.int .i64 n, .int .i64 k] wd fun e w' => e = .returned (.bool true) ∧ wd = w' by
    refine h.mono ?_
    rintro e w' ⟨h1, rfl⟩
    exact ⟨h1, Grown.refl _⟩
  have C1 := awake_any wd hT
  have C2 : ∀ x, Calls Tryd.prog 18 #[.int .i64 x] wd fun e w' => e = .returned (.float .f64 (fl x)) ∧ wd = w' := fun x => ofInt_any x wd
  have C4 := parts_any (fl n) (fl_lt n) wd hT
  have C5 := toInt_any (fl n) (fl_lt n) wd
  have ho : (n < k ∧ (FloatKind.f64.format.order (fl k) (fl n) == some .lt) = false) ∨ (n = k ∧ (FloatKind.f64.format.order (fl k) (fl n) == some .lt) = false ∧ (FloatKind.f64.format.order (fl n) (fl k) == some .lt) = false) ∨ (k < n ∧ (FloatKind.f64.format.order (fl n) (fl k) == some .lt) = false) := by
    rcases Int.lt_trichotomy n k with h | h | h
    · exact .inl ⟨h, fl_mono n k hn hk (by omega)⟩
    · exact .inr (.inl ⟨h, fl_mono n k hn hk (by omega), fl_mono k n hk hn (by omega)⟩)
    · exact .inr (.inr ⟨h, fl_mono k n hk hn (by omega)⟩)
  by_cases hi : 9223372036854775295 < n
  · have e := fl_top n hi hn.2
    have e4 : ptV (fl n) = (1, 63, 0) := by rw [e]; exact top_pt
    have e5 : toIV (fl n) = (0, 1) := by rw [e]; exact top_ti
    rw [e4] at C4
    rw [e5] at C5
    exact near_high fl n k 1 63 0 wd C1 C2 C4 C5 hi rfl rfl ho
  · have e5 := fl_toI n (by omega)
    rw [e5] at C5
    by_cases h0 : n = 0
    · subst h0
      rw [nil_pt] at C4
      have C6 := toInt_any (fl 0) (fl_lt 0) wd
      rw [nil_ti] at C6
      exact near_low fl 0 k 0 0 0 wd C1 C2 C4 C6 (by omega) (by omega) (by omega) (by omega) ho
    · have hr := rn_fin n.natAbs (by omega)
      have hp : 0 < rung n.natAbs 0 := rn_pos n.natAbs (by omega)
      have f := far_plain n.natAbs (by omega) (by omega)
      have hV := vv_in n.natAbs (by omega)
      have hV2 : 0 ≤ n → vv (rung n.natAbs 0) / big < 9223372036854775808 := fun h => vv_in2 n.natAbs (by omega)
      have e4 : ptV (fl n) = ptN (decide (n < 0)) (rung n.natAbs 0) := ptV_num _ _ hp (by omega)
      rw [e4] at C4
      have hpl := pt_place (decide (n < 0)) (rung n.natAbs 0) hp hr
      generalize vv (rung n.natAbs 0) / big = V at *
      refine near_low fl n k _ _ _ wd C1 C2 C4 C5 (by omega) hpl ?_ ?_ ho
      · split
        · omega
        · have := hV2 (by omega); omega
      · split <;> omega
theorem near_row (n : Int) (hn : -9223372036854775808 ≤ n ∧ n ≤ 9223372036854775807) (k : Int) (hk : -9223372036854775808 ≤ k ∧ k ≤ 9223372036854775807) (wd : World) (hT : TabAt 1 Lib.deBruijn64tab wd) :
    Calls Tryd.prog 7 #[.int .i64 n, .int .i64 k] wd fun e w' => e = .returned (.bool true) ∧ Grown wd w' :=
  law_near n k (by omega) (by omega) wd hT
end Go.Proofs.YtfecgfefchdapaaDoor

