/- Plain facts on a number's parts: its odd part and the place of its last bit. No program in sight. The walk of gauge.Parts. -/
import Derived.Test.YtfecgfefchdapaaDoorTz
import Derived.Deep.CutRange
import Derived.IntWalk
import Derived.StillTailTactics
namespace Go.Proofs.YtfecgfefchdapaaDoor
set_option linter.unusedVariables false
open FL

/-- a number's parts: odd, the power of two, the class -/
def ptN (s : Bool) (r : Nat) : Int × Int × Int :=
  ((if s then -((sg r / 2 ^ Lib.ctz 64 (sg r) : Nat) : Int) else ((sg r / 2 ^ Lib.ctz 64 (sg r) : Nat) : Int)), (pl r : Int) - 1074 + (Lib.ctz 64 (sg r) : Nat), 0)
/-- every word's parts -/
def ptV (W : Nat) : Int × Int × Int :=
  if 9218868437227405312 < W % 9223372036854775808 then (0, 0, 3)
  else if W % 9223372036854775808 = 9218868437227405312 then (0, 0, if 9223372036854775808 ≤ W then 2 else 1)
  else if W % 9223372036854775808 = 0 then (0, 0, 0)
  else ptN (decide (9223372036854775808 ≤ W)) (W % 9223372036854775808)

theorem odd_uniq (a b : Nat) (ha : a % 2 = 1) (hb : b % 2 = 1) : ∀ (i j : Nat), a * 2 ^ i = b * 2 ^ j → i = j ∧ a = b := by
  intro i
  induction i with
  | zero =>
    intro j h
    cases j with
    | zero => exact ⟨rfl, by simpa using h⟩
    | succ j => rw [Nat.pow_zero, Nat.mul_one, Nat.pow_succ, ← Nat.mul_assoc] at h; omega
  | succ i ih =>
    intro j h
    cases j with
    | zero => rw [Nat.pow_zero, Nat.mul_one, Nat.pow_succ, ← Nat.mul_assoc] at h; omega
    | succ j =>
      rw [Nat.pow_succ, Nat.pow_succ, ← Nat.mul_assoc, ← Nat.mul_assoc] at h
      obtain ⟨h1, h2⟩ := ih j (by omega)
      exact ⟨by omega, h2⟩
theorem ctz_of (x o t : Nat) (h : x = o * 2 ^ t) (ho : o % 2 = 1) (hx : x < 18446744073709551616) : Lib.ctz 64 x = t := by
  have h0 : 0 < x := by rw [h]; exact Nat.mul_pos (by omega) (Nat.two_pow_pos _)
  obtain ⟨m, hm, hk⟩ := Lib.ctzFrom_spec 64 x h0 hx
  have e : Lib.ctz 64 x = Lib.ctzFrom 64 x := by simp [Lib.ctz, Nat.ne_of_gt h0]
  rw [e]
  generalize Lib.ctzFrom 64 x = z at *
  refine (odd_uniq (2 * m + 1) o (by omega) ho z t ?_).1
  rw [← h, Nat.mul_comm, ← hm]
theorem ctz_is (x : Nat) (h0 : 0 < x) (hx : x < 18446744073709551616) : ∃ o, x = o * 2 ^ Lib.ctz 64 x ∧ o % 2 = 1 ∧ Lib.ctz 64 x < 64 := by
  obtain ⟨m, hm, hk⟩ := Lib.ctzFrom_spec 64 x h0 hx
  have e : Lib.ctz 64 x = Lib.ctzFrom 64 x := by simp [Lib.ctz, Nat.ne_of_gt h0]
  rw [e]
  exact ⟨2 * m + 1, by rw [Nat.mul_comm]; exact hm, by omega, hk⟩
/-- the parts, by any way to write the number as an odd one times a power -/
theorem ptN_of (s : Bool) (r o t : Nat) (h : sg r = o * 2 ^ t) (ho : o % 2 = 1) : ptN s r = ((if s then -(o : Int) else o), (pl r : Int) - 1074 + t, 0) := by
  have hs := sg_lt r
  unfold ptN
  rw [ctz_of _ o t h ho (by omega), show sg r / 2 ^ t = o by rw [h]; exact Nat.mul_div_cancel _ (Nat.two_pow_pos _)]
theorem ptN_ex (r : Nat) (h0 : 0 < r) : ∃ o t, sg r = o * 2 ^ t ∧ o % 2 = 1 := by
  have hs := sg_lt r
  obtain ⟨o, h1, h2, _⟩ := ctz_is (sg r) (sg_pos h0) (by omega)
  exact ⟨o, _, h1, h2⟩
/-- the filled bits are the bits, some places up -/
theorem sig_sg (r : Nat) (h0 : 0 < r) (hr : r < 9218868437227405312) : ∃ k : Nat, sig r = sg r * 2 ^ k ∧ fxE r - 53 + k = (pl r : Int) - 1074 := by
  by_cases h : r < 4503599627370496
  · obtain ⟨h1, h2, h3⟩ := nrm_sub r h0 h
    refine ⟨52 - r.log2, ?_, ?_⟩
    · have e : nrm r % 4503599627370496 = r * 2 ^ (52 - r.log2) - 4503599627370496 := by
        unfold nrm rg
        rw [if_pos h]
        generalize r * 2 ^ (52 - r.log2) = M at *
        omega
      unfold sig
      rw [e, show sg r = r by unfold sg; rw [if_pos h]]
      omega
    · have e : nrm r / 4503599627370496 = r.log2 + 1 := by
        unfold nrm rg
        rw [if_pos h]
        generalize r * 2 ^ (52 - r.log2) = M at *
        omega
      unfold fxE nrE
      rw [e, if_pos h, show pl r = 0 by unfold pl; omega]
      omega
  · refine ⟨0, ?_, ?_⟩
    · unfold sig nrm sg
      rw [if_neg h, if_neg h]
      omega
    · unfold fxE nrE nrm pl
      rw [if_neg h, if_neg h]
      omega
theorem odd_gap (Q o : Nat) (h2 : o % 2 = 1) (h7 : o < Q * 2) : (Q * 2 - o) % 2 = 1 := by omega
/-- what the program's shift leaves -/
theorem sigI_shift (s : Bool) (r : Nat) (h0 : 0 < r) (hr : r < 9218868437227405312) :
    sigI s r / 2 ^ Lib.ctz 64 (sigU s r) = (ptN s r).1 ∧ fxE r - 53 + (Lib.ctz 64 (sigU s r) : Nat) = (ptN s r).2.1 ∧ Lib.ctz 64 (sigU s r) < 64 := by
  obtain ⟨o, t, h1, h2⟩ := ptN_ex r h0
  obtain ⟨k, h3, h4⟩ := sig_sg r h0 hr
  have hb := sig_bd r
  rw [ptN_of s r o t h1 h2]
  have e : sig r = o * 2 ^ (t + k) := by rw [h3, h1, Nat.pow_add, Nat.mul_assoc]
  have hn : t + k < 64 := by
    refine Nat.lt_of_not_le fun hh => ?_
    have h5 : 2 ^ 64 ≤ 2 ^ (t + k) := Nat.pow_le_pow_right (by omega) hh
    have h6 : 1 * 2 ^ (t + k) ≤ o * 2 ^ (t + k) := Nat.mul_le_mul_right _ (by omega)
    omega
  have hc : Lib.ctz 64 (sigU s r) = t + k := by
    unfold sigU
    cases s
    · exact ctz_of _ o _ e h2 (by simp only [Bool.false_eq_true, if_false]; omega)
    · simp only [if_true]
      refine ctz_of _ (2 ^ (64 - (t + k)) - o) _ ?_ ?_ (by omega)
      · rw [Nat.sub_mul, ← e, ← Nat.pow_add, show 64 - (t + k) + (t + k) = 64 by omega]
      · have h7 : o < 2 ^ (64 - (t + k)) := by
          refine Nat.lt_of_mul_lt_mul_right (a := 2 ^ (t + k)) ?_
          rw [← e, ← Nat.pow_add, show 64 - (t + k) + (t + k) = 64 by omega]
          omega
        obtain ⟨q, hq⟩ : ∃ q, 64 - (t + k) = q + 1 := ⟨63 - (t + k), by omega⟩
        rw [hq, Nat.pow_succ] at h7
        rw [hq, Nat.pow_succ]
        exact odd_gap _ o h2 h7
  rw [hc]
  refine ⟨?_, by simp only; omega, hn⟩
  have hp : (0 : Int) < 2 ^ (t + k) := by exact_mod_cast Nat.two_pow_pos (t + k)
  unfold sigI
  rw [e]
  have ec : ((o * 2 ^ (t + k) : Nat) : Int) = (o : Int) * 2 ^ (t + k) := by push_cast; rfl
  cases s
  · simp only [Bool.false_eq_true, if_false]
    rw [ec]
    exact Int.mul_ediv_cancel _ (by omega)
  · simp only [if_true]
    rw [ec, ← Int.neg_mul]
    exact Int.mul_ediv_cancel _ (by omega)
/-- the words, by their parts -/
theorem ptV_num (s : Bool) (r : Nat) (h0 : 0 < r) (hr : r < 9218868437227405312) : ptV (word s r) = ptN s r := by
  obtain ⟨h1, h2⟩ := word_mod s r (by omega)
  unfold ptV
  rw [h1, if_neg (by omega), if_neg (by omega), if_neg (by omega)]
  congr 1
  unfold word
  cases s <;> simp <;> omega
theorem ptV_zero (s : Bool) : ptV (word s 0) = (0, 0, 0) := by cases s <;> rfl
theorem ptV_inf (s : Bool) : ptV (word s 9218868437227405312) = (0, 0, if s then 2 else 1) := by cases s <;> rfl
theorem ptV_nan (W : Nat) (h : 9218868437227405312 < W % 9223372036854775808) : ptV W = (0, 0, 3) := by
  unfold ptV; rw [if_pos h]
/-- every word is no number, or a sign and a rung -/
theorem word_split (W : Nat) (h : W < 18446744073709551616) : 9218868437227405312 < W % 9223372036854775808 ∨ ∃ s r, W = word s r ∧ r ≤ 9218868437227405312 := by
  by_cases h1 : 9218868437227405312 < W % 9223372036854775808
  · exact .inl h1
  · refine .inr ⟨decide (9223372036854775808 ≤ W), W % 9223372036854775808, ?_, by omega⟩
    unfold word
    by_cases h2 : 9223372036854775808 ≤ W
    · rw [decide_eq_true h2, if_pos rfl]; omega
    · rw [decide_eq_false h2, if_neg (by decide)]; omega
end Go.Proofs.YtfecgfefchdapaaDoor

namespace Go.Proofs.YtfecgfefchdapaaDoor
set_option linter.unusedVariables false
set_option linter.unusedSimpArgs false
open Go.RowKit FL Go.Shelf

/-- IsInf for one side, by the two orders -/
theorem infP_by (W : Nat) (b : Bool) (hg : (FloatKind.f64.format.order W 9218868437227405311 == some .gt) = b) (wd : World) :
    Calls Tryd.prog 27 #[.float .f64 W, .int .i64 1] wd fun e w' => e = .returned (.bool b) ∧ wd = w' := by
  cases b
  · go_enter Tryd.func27, Tryd.ntmps27
    go_wp2_with fail
    go_ret
    exact ⟨rfl, rfl⟩
  · go_enter Tryd.func27, Tryd.ntmps27
    go_wp2_with fail
    go_ret
    exact ⟨rfl, rfl⟩
theorem infN_by (W W2 : Nat) (b : Bool) (hn : ∀ w, (Op.unary UnOp.neg (Value.float FloatKind.f64 W)).run Tryd.prog w = .ok (.float .f64 W2) w)
    (hg : (FloatKind.f64.format.order W2 9218868437227405311 == some .gt) = b) (wd : World) :
    Calls Tryd.prog 27 #[.float .f64 W, .int .i64 (-1)] wd fun e w' => e = .returned (.bool b) ∧ wd = w' := by
  cases b
  · go_enter Tryd.func27, Tryd.ntmps27
    go_wp2_with fail
    go_ret
    exact ⟨rfl, rfl⟩
  · go_enter Tryd.func27, Tryd.ntmps27
    go_wp2_with fail
    go_ret
    exact ⟨rfl, rfl⟩
theorem parts_nan1 (W : Nat) (wd : World)
    (hnan : ∀ wd, Calls Tryd.prog 26 #[.float .f64 W] wd fun e w' => e = .returned (.bool true) ∧ wd = w') :
    Calls Tryd.prog 10 #[.float .f64 W] wd fun e w' => e = .returned (.tuple #[.int .i64 0, .int .i64 0, .int .i64 3]) ∧ wd = w' := by
  go_enter Tryd.func10, Tryd.ntmps10
  go_wp2_with (go_at_call 26; refine (hnan _).mono ?_; rintro e w' ⟨rfl, rfl⟩)
  go_ret3
  exact ⟨rfl, rfl⟩
theorem parts_infP (W : Nat) (wd : World)
    (hnan : ∀ wd, Calls Tryd.prog 26 #[.float .f64 W] wd fun e w' => e = .returned (.bool false) ∧ wd = w')
    (hP : ∀ wd, Calls Tryd.prog 27 #[.float .f64 W, .int .i64 1] wd fun e w' => e = .returned (.bool true) ∧ wd = w') :
    Calls Tryd.prog 10 #[.float .f64 W] wd fun e w' => e = .returned (.tuple #[.int .i64 0, .int .i64 0, .int .i64 1]) ∧ wd = w' := by
  go_enter Tryd.func10, Tryd.ntmps10
  go_wp2_with (first | (go_at_call 26; refine (hnan _).mono ?_; rintro e w' ⟨rfl, rfl⟩) | (go_at_call 27; refine (hP _).mono ?_; rintro e w' ⟨rfl, rfl⟩))
  go_ret3
  exact ⟨rfl, rfl⟩
theorem parts_infN (W : Nat) (wd : World)
    (hnan : ∀ wd, Calls Tryd.prog 26 #[.float .f64 W] wd fun e w' => e = .returned (.bool false) ∧ wd = w')
    (hP : ∀ wd, Calls Tryd.prog 27 #[.float .f64 W, .int .i64 1] wd fun e w' => e = .returned (.bool false) ∧ wd = w')
    (hN : ∀ wd, Calls Tryd.prog 27 #[.float .f64 W, .int .i64 (-1)] wd fun e w' => e = .returned (.bool true) ∧ wd = w') :
    Calls Tryd.prog 10 #[.float .f64 W] wd fun e w' => e = .returned (.tuple #[.int .i64 0, .int .i64 0, .int .i64 2]) ∧ wd = w' := by
  go_enter Tryd.func10, Tryd.ntmps10
  go_upto_region 5 with (first | (go_at_call 26; refine (hnan _).mono ?_; rintro e w' ⟨rfl, rfl⟩) | (go_at_call 27; refine (hP _).mono ?_; rintro e w' ⟨rfl, rfl⟩))
  go_wp2_with (go_at_call 27; refine (hN _).mono ?_; rintro e w' ⟨rfl, rfl⟩)
  go_ret3
  exact ⟨rfl, rfl⟩
theorem parts_nil (W : Nat) (wd : World)
    (hz : (FloatKind.f64.format.order W 0 == some .eq) = true)
    (hnan : ∀ wd, Calls Tryd.prog 26 #[.float .f64 W] wd fun e w' => e = .returned (.bool false) ∧ wd = w')
    (hP : ∀ wd, Calls Tryd.prog 27 #[.float .f64 W, .int .i64 1] wd fun e w' => e = .returned (.bool false) ∧ wd = w')
    (hN : ∀ wd, Calls Tryd.prog 27 #[.float .f64 W, .int .i64 (-1)] wd fun e w' => e = .returned (.bool false) ∧ wd = w') :
    Calls Tryd.prog 10 #[.float .f64 W] wd fun e w' => e = .returned (.tuple #[.int .i64 0, .int .i64 0, .int .i64 0]) ∧ wd = w' := by
  go_enter Tryd.func10, Tryd.ntmps10
  go_upto_region 5 with (first | (go_at_call 26; refine (hnan _).mono ?_; rintro e w' ⟨rfl, rfl⟩) | (go_at_call 27; refine (hP _).mono ?_; rintro e w' ⟨rfl, rfl⟩))
  go_wp2_with (go_at_call 27; refine (hN _).mono ?_; rintro e w' ⟨rfl, rfl⟩)
  go_ret3
  exact ⟨rfl, rfl⟩
theorem parts_core (W W2 W3 U z : Nat) (M ne : Int) (wd : World)
    (hz : (FloatKind.f64.format.order W 0 == some .eq) = false)
    (hnan : ∀ wd, Calls Tryd.prog 26 #[.float .f64 W] wd fun e w' => e = .returned (.bool false) ∧ wd = w')
    (hP : ∀ wd, Calls Tryd.prog 27 #[.float .f64 W, .int .i64 1] wd fun e w' => e = .returned (.bool false) ∧ wd = w')
    (hN : ∀ wd, Calls Tryd.prog 27 #[.float .f64 W, .int .i64 (-1)] wd fun e w' => e = .returned (.bool false) ∧ wd = w')
    (hF : ∀ wd, Calls Tryd.prog 28 #[.float .f64 W] wd fun e w' => e = .returned (.tuple #[.float .f64 W2, .int .i64 ne]) ∧ wd = w')
    (hm : ∀ t w1, (binOp .mul t (.float .f64 W2) (.float .f64 4845873199050653696)).run Tryd.prog w1 = .ok (.float .f64 W3) w1)
    (hc : ∀ w1, (convert 27 2 (.float .f64 W3)).run Tryd.prog w1 = .ok (.int .i64 M) w1)
    (hu : IntKind.u64.wrap M = (U : Int))
    (ht : Calls Tryd.prog 29 #[.int .u64 U] wd fun e w' => e = .returned (.int .i64 z) ∧ wd = w')
    (hM : -9007199254740992 ≤ M ∧ M ≤ 9007199254740992) (hne : -2000 ≤ ne ∧ ne ≤ 2000) (hz1 : z < 64) :
    Calls Tryd.prog 10 #[.float .f64 W] wd fun e w' => e = .returned (.tuple #[.int .i64 (M / 2 ^ z), .int .i64 (ne - 53 + z), .int .i64 0]) ∧ wd = w' := by
  go_enter Tryd.func10, Tryd.ntmps10
  go_upto_region 5 with (first | (go_at_call 26; refine (hnan _).mono ?_; rintro e w' ⟨rfl, rfl⟩) | (go_at_call 27; refine (hP _).mono ?_; rintro e w' ⟨rfl, rfl⟩))
  go_upto_region 9 with (go_at_call 27; refine (hN _).mono ?_; rintro e w' ⟨rfl, rfl⟩)
  go_upto_region 12 with (first | (go_at_call 28; refine (hF _).mono ?_; rintro e w' ⟨rfl, rfl⟩) | (go_at_call 29; refine ht.mono ?_; rintro e w' ⟨rfl, rfl⟩))
  go_wp2_with fail
  go_ret3
  exact ⟨rfl, rfl⟩
theorem eq_zero (s : Bool) (r : Nat) (hr : r < 9218868437227405312) : (FloatKind.f64.format.order (word s r) 0 == some .eq) = decide (r = 0) := by
  have h2 := (word_mod s r (by omega)).2
  rw [ord_key _ _ h2 (by decide), key_word s r (by omega), show (0 : Nat) = word false 0 from rfl, key_word false 0 (by decide)]
  simp only [cmpKey, Bool.false_eq_true, if_false]
  by_cases h : r = 0
  · subst h
    cases s <;> rfl
  · rw [show word false 0 = 0 from rfl, decide_eq_false h]
    have h : compare (if s = true then -(r : Int) else (r : Int)) ((0 : Nat) : Int) ≠ .eq := by
      rw [Ne, Int.compare_eq_eq]
      cases s <;> simp <;> omega
    simpa using h
theorem isn_word (s : Bool) (r : Nat) (hr : r ≤ 9218868437227405312) : isn (word s r) = false := by
  rw [isn_key _ (word_mod s r (by omega)).2, key_word s r hr]
  rfl
theorem sigI_bd (s : Bool) (r : Nat) : -9007199254740992 ≤ sigI s r ∧ sigI s r ≤ 9007199254740992 := by
  have hb := sig_bd r
  unfold sigI
  cases s
  · simp only [Bool.false_eq_true, if_false]; omega
  · simp only [if_true]; omega
theorem fxE_bd (r : Nat) (hr : r < 9218868437227405312) : -2000 ≤ fxE r ∧ fxE r ≤ 2000 := by
  by_cases h : r < 4503599627370496
  · by_cases h0 : r = 0
    · subst h0; decide
    · obtain ⟨h1, h2, h3⟩ := nrm_sub r (by omega) h
      unfold fxE nrE nrm rg
      rw [if_pos h, if_pos h]
      generalize r * 2 ^ (52 - r.log2) = M at *
      omega
  · unfold fxE nrE nrm
    rw [if_neg h, if_neg h]
    omega
theorem parts_num1 (s : Bool) (r : Nat) (h0 : 0 < r) (hr : r < 9218868437227405312) (wd : World) (hT : TabAt 1 Lib.deBruijn64tab wd) :
    Calls Tryd.prog 10 #[.float .f64 (word s r)] wd fun e w' => e = .returned (.tuple #[.int .i64 (ptN s r).1, .int .i64 (ptN s r).2.1, .int .i64 0]) ∧ wd = w' := by
  have hz := eq_zero s r hr
  rw [decide_eq_false (by omega)] at hz
  have hnan := fun wd => isNaN_any (word s r) wd
  rw [isn_word s r (by omega)] at hnan
  have hlt := Nat.mod_lt (nrm r) (show 0 < 4503599627370496 by decide)
  have hm := fun t w1 => mul53 s (nrm r % 4503599627370496) hlt t w1
  obtain ⟨hu, hU⟩ := sig_u s r
  have ht := tz_any (sigU s r) hU.1 hU.2 wd hT
  have ht' : Calls Tryd.prog 29 #[.int .u64 (sigU s r)] wd fun e w' => e = .returned (.int .i64 (Lib.ctz 64 (sigU s r))) ∧ wd = w' := ht.mono fun e w' h => ⟨h.1, h.2.symm⟩
  obtain ⟨h1, h2, h3⟩ := sigI_shift s r h0 hr
  have h := parts_core (word s r) (word s (rg (nrm r % 4503599627370496) 1022)) (word s (rg (nrm r % 4503599627370496) 1075)) (sigU s r) (Lib.ctz 64 (sigU s r)) (sigI s r) (fxE r) wd hz hnan
    (fun wd => isInfP_fin s r hr wd) (fun wd => isInfN_fin s r hr wd) (fun wd => Frexp_in s r h0 hr wd) hm
    (fun w1 => run_convert_float_int (P := Tryd.prog) w1 27 2 .f64 .i64 _ (sigI s r) (by kernel_rfl) Tryd.underlying2 (toint_sig s r))
    hu ht' (sigI_bd s r) (fxE_bd r hr) h3
  rw [h1, h2] at h
  exact h
/-- gauge.Parts, of every word -/
theorem parts_any (W : Nat) (hW : W < 18446744073709551616) (wd : World) (hT : TabAt 1 Lib.deBruijn64tab wd) :
    Calls Tryd.prog 10 #[.float .f64 W] wd fun e w' => e = .returned (.tuple #[.int .i64 (ptV W).1, .int .i64 (ptV W).2.1, .int .i64 (ptV W).2.2]) ∧ wd = w' := by
  have hnan := fun wd => isNaN_any W wd
  rcases word_split W hW with h | ⟨s, r, rfl, hr⟩
  · rw [ptV_nan W h]
    have e : isn W = true := by
      rw [isn_key W hW]
      unfold key
      rw [if_pos h]
      rfl
    rw [e] at hnan
    exact parts_nan1 W wd hnan
  · rw [isn_word s r hr] at hnan
    by_cases h1 : r = 9218868437227405312
    · subst h1
      rw [ptV_inf]
      cases s
      · exact parts_infP _ wd hnan (fun wd => infP_by _ true (by decide +kernel) wd)
      · exact parts_infN _ wd hnan (fun wd => infP_by _ false (by decide +kernel) wd) (fun wd => infN_by _ (word false 9218868437227405312) true (neg_word true 9218868437227405312 (by decide)) (by decide +kernel) wd)
    · have hr2 : r < 9218868437227405312 := by omega
      by_cases h0 : r = 0
      · subst h0
        rw [ptV_zero]
        have hz := eq_zero s 0 hr2
        exact parts_nil _ wd hz hnan (fun wd => isInfP_fin s 0 hr2 wd) (fun wd => isInfN_fin s 0 hr2 wd)
      · rw [ptV_num s r (by omega) hr2]
        exact parts_num1 s r (by omega) hr2 wd hT
end Go.Proofs.YtfecgfefchdapaaDoor
