/- Contracts that the laws over floats share: the reference's functions, gauge.ToInt, gauge.OfInt, same, awake. -/
import Derived.Test.YtfecgfefchdapaaDoorMa
import Derived.Test.YtfecgfefchdapaaDoorTi1ToInt
import Derived.Test.YtfecgfefchdapaaDoorNear1OfInt
namespace Go.Proofs.YtfecgfefchdapaaDoor
set_option linter.unusedVariables false
set_option linter.unusedSimpArgs false
open Go.RowKit FL Go.Shelf Ieee Go.Proofs.YtfecgfefchdapaaDoorW.PrintWords

theorem rung_dbl (m : Nat) (e : Int) : rung (2 * m) (e - 1) = rung m e := by
  refine rung_ext (rung_le _ _) (rung_le _ _) fun r hr => ?_
  obtain ⟨k, h1, h2⟩ : ∃ k : Nat, -1074 - (k : Int) ≤ e - 1 ∧ -1074 - (k : Int) ≤ e := ⟨(-1074 - e + 1).toNat, by omega, by omega⟩
  rw [rung_cut _ _ k r h1 hr, rung_cut _ _ k r h2 hr, show 2 * m * 2 ^ (e - 1 + 1074 + k).toNat = m * 2 ^ (e + 1074 + k).toNat by
    rw [show (e + 1074 + k).toNat = (e - 1 + 1074 + k).toNat + 1 by omega, Nat.pow_succ, Nat.mul_comm 2 m, Nat.mul_assoc, Nat.mul_comm 2]]
theorem word_sgnO (s : Bool) (r : Nat) : NearOfInt.sgnW s + r = word s r := by
  unfold NearOfInt.sgnW word; cases s <;> simp
theorem word_sgnM (s : Bool) (r : Nat) : NearMake.sgnW s + r = word s r := by
  unfold NearMake.sgnW word; cases s <;> simp
theorem word_sgnT (s : Bool) (r : Nat) : NearMake.sgnW s + r = word s r := word_sgnM s r
theorem bind_some' {A : Type} (o : Option A) : (o.bind fun t => some t) = o := by cases o <;> rfl

theorem sizeO (n : Int) (h : -9223372036854775808 ≤ n ∧ n < 9223372036854775808) : POfInt.depotref04_size.f n = some (n.natAbs : Int) := by
  unfold POfInt.depotref04_size.f
  by_cases h1 : n < 0
  · rw [if_pos h1]
    simp only [IntKind.wrap_u64, wrap64]
    refine congrArg some ?_
    omega
  · rw [if_neg h1, IntKind.wrap_u64]
    refine congrArg some ?_
    omega
theorem sizeM (n : Int) (h : -9223372036854775808 ≤ n ∧ n < 9223372036854775808) : PMake.depotref04_size.f n = some (n.natAbs : Int) := by
  unfold PMake.depotref04_size.f
  by_cases h1 : n < 0
  · rw [if_pos h1]
    simp only [IntKind.wrap_u64, wrap64]
    refine congrArg some ?_
    omega
  · rw [if_neg h1, IntKind.wrap_u64]
    refine congrArg some ?_
    omega
theorem rofint_any (n : Int) (h : -9223372036854775808 ≤ n ∧ n < 9223372036854775808) (wd : World) :
    Calls Tryd.prog 19 #[.int .i64 n] wd fun e w' => e = .returned (.int .u64 ((word (decide (n < 0)) (rung n.natAbs 0) : Nat) : Int)) ∧ Drawn0 wd w' := by
  have h1 := NearOfInt.near_ev (decide (n < 0)) n.natAbs 0 false (by omega) (by omega) (by omega) (by intro q; cases q)
  rw [word_sgnO, Bool.toNat_false, Nat.add_zero, rung_dbl] at h1
  obtain ⟨k, hk⟩ := h1.rounds
  refine POfInt.depotref04_OfInt.calls k n _ wd ?_
  unfold POfInt.depotref04_OfInt.f
  rw [sizeO n h]
  simp only [Option.bind_some]
  rw [hk]
  rfl
theorem near_any (neg : Bool) (m : Nat) (e : Int) (hm : m < 18446744073709551616) :
    Ev (fun k => PMake.depotref04_Near.f k neg (m : Int) e false) ((word neg (rung m e) : Nat) : Int) := by
  by_cases c : -4611686018427387904 ≤ e ∧ e ≤ 4611686018427387904
  · have h := NearMake.near_ev neg m e false hm c.1 c.2 (by intro q; cases q)
    rw [word_sgnM, Bool.toNat_false, Nat.add_zero, rung_dbl] at h
    exact h
  · rw [← word_sgnM]
    have j0 : Ev (fun k => PMake.depotref04_Near.j0 k (m : Int) e false (NearMake.sgnW neg : Int)) ((NearMake.sgnW neg + rung m e : Nat) : Int) := by
      by_cases hm0 : m = 0
      · subst hm0
        refine Ev.step (f := fun _ => some (NearMake.sgnW neg : Int)) (fun k => ?_) ?_
        · simp only [PMake.depotref04_Near.j0]; rw [if_pos (by omega)]
        · rw [rung_zero]; exact Ev.now _
      · by_cases hb : 1100 < e
        · refine Ev.step (f := fun _ => some ((NearMake.sgnW neg + 9218868437227405312 : Nat) : Int)) (fun k => ?_) ?_
          · simp only [PMake.depotref04_Near.j0]
            rw [if_neg (by omega), if_pos hb, IntKind.wrap_u64]
            have := NearMake.sgnW_or neg
            exact congrArg some (by omega)
          · rw [NearMake.big_rung _ _ (by omega) (by omega)]; exact Ev.now _
        · refine Ev.step (f := fun _ => some (NearMake.sgnW neg : Int)) (fun k => ?_) ?_
          · simp only [PMake.depotref04_Near.j0]
            rw [if_neg (by omega), if_neg (by omega), if_pos (by omega)]
          · rw [NearMake.small_rung _ _ (by omega) (by omega)]; exact Ev.now _
    refine Ev.congr (fun k => ?_) j0
    unfold PMake.depotref04_Near.f NearMake.sgnW
    cases neg <;> rfl
theorem rmake_any (n e : Int) (h : -9223372036854775808 ≤ n ∧ n < 9223372036854775808) (wd : World) :
    Calls Tryd.prog 15 #[.int .i64 n, .int .i64 e] wd fun x w' => x = .returned (.int .u64 (mkV n e : Int)) ∧ Drawn0 wd w' := by
  have h1 := near_any (decide (n < 0)) n.natAbs e (by omega)
  obtain ⟨k, hk⟩ := h1.rounds
  refine PMake.depotref04_Make.calls k n e _ wd ?_
  unfold PMake.depotref04_Make.f
  rw [sizeM n h]
  simp only [Option.bind_some]
  rw [hk]
  rfl
theorem rtoint_any (w : Nat) (hw : w < 18446744073709551616) (wd : World) :
    Calls Tryd.prog 17 #[.int .u64 (w : Int)] wd fun e w' => e = .returned (.tuple #[.int .i64 (toIV w).1, .int .i64 (toIV w).2]) ∧ Drawn0 wd w' := by
  obtain ⟨k, hk⟩ := (NearToInt.toInt_ev w hw).rounds
  exact PToInt.depotref04_ToInt.calls k (w : Int) (toIV w).1 (toIV w).2 wd hk
theorem rparts_any (W : Nat) (hW : W < 18446744073709551616) (wd : World) :
    Calls Tryd.prog 12 #[.int .u64 (W : Int)] wd fun e w' => e = .returned (.tuple #[.int .i64 (ptV W).1, .int .i64 (ptV W).2.1, .int .i64 (ptV W).2.2]) ∧ Drawn0 wd w' := by
  have h : Ev (fun k => PToInt.depotref04_Parts.f k (W : Int)) (ptV W) := by
    rcases word_split W hW with h | ⟨s, r, rfl, hr⟩
    · rw [ptV_nan W h]
      exact Ev.congr (fun k => NearToInt.parts_nan W hW h k) (Ev.now _)
    · by_cases h1 : r = 9218868437227405312
      · subst h1
        rw [ptV_inf]
        refine Ev.congr (fun k => ?_) (Ev.now _)
        cases s
        · show PToInt.depotref04_Parts.f k (9218868437227405312 : Int) = some (0, 0, 1)
          unfold PToInt.depotref04_Parts.f
          rw [if_pos (by decide +kernel), if_pos (by decide +kernel), if_neg (by decide +kernel)]
        · show PToInt.depotref04_Parts.f k (18442240474082181120 : Int) = some (0, 0, 2)
          unfold PToInt.depotref04_Parts.f
          rw [if_pos (by decide +kernel), if_pos (by decide +kernel), if_pos (by decide +kernel)]
      · by_cases h0 : r = 0
        · subst h0
          rw [ptV_zero, ← word_sgnT]
          exact NearToInt.parts_zero s
        · rw [ptV_num s r (by omega) (by omega), ← word_sgnT]
          obtain ⟨t, o, h2, h3, h4⟩ := NearToInt.parts_ev s r (by omega) (by omega)
          rw [ptN_of s r o t h2 h3]
          exact h4
  obtain ⟨k, hk⟩ := h.rounds
  exact PToInt.depotref04_Parts.calls k (W : Int) (ptV W).1 (ptV W).2.1 (ptV W).2.2 wd hk
theorem toInt_any (a : Nat) (ha : a < 18446744073709551616) (wd : World) :
    Calls Tryd.prog 16 #[.float .f64 a] wd fun e w' => e = .returned (.tuple #[.int .i64 (toIV a).1, .int .i64 (toIV a).2]) ∧ wd = w' := by
  cases h1 : isn a
  · cases h2 : (FloatKind.f64.format.order a 4890909195324358656 == some .gt || FloatKind.f64.format.order a 4890909195324358656 == some .eq)
    · cases h3 : (FloatKind.f64.format.order a 14114281232179134464 == some .lt)
      · have f := toI_fits a ha h1 h2 h3
        have hc : ∀ w1, (convert 27 2 (.float .f64 a)).run Tryd.prog w1 = .ok (.int .i64 (toIV a).1) w1 :=
          fun w1 => run_convert_float_int (P := Tryd.prog) w1 27 2 .f64 .i64 a (toIV a).1 (by kernel_rfl) Tryd.underlying2 f.1
        rw [f.2]
        clear f
        go_enter Tryd.func16, Tryd.ntmps16
        go_wp2_with (go_at_call 26; refine (isNaN_any _ _).mono ?_; rintro e w' ⟨rfl, rfl⟩)
        go_ret2
        exact ⟨rfl, rfl⟩
      · rw [toI_range a ha h1 (.inr h3)]
        go_enter Tryd.func16, Tryd.ntmps16
        go_wp2_with (go_at_call 26; refine (isNaN_any _ _).mono ?_; rintro e w' ⟨rfl, rfl⟩)
        go_ret2
        exact ⟨rfl, rfl⟩
    · rw [toI_range a ha h1 (.inl h2)]
      go_enter Tryd.func16, Tryd.ntmps16
      go_wp2_with (go_at_call 26; refine (isNaN_any _ _).mono ?_; rintro e w' ⟨rfl, rfl⟩)
      go_ret2
      exact ⟨rfl, rfl⟩
  · rw [toI_nan a ha h1]
    go_enter Tryd.func16, Tryd.ntmps16
    go_wp2_with (go_at_call 26; refine (isNaN_any _ _).mono ?_; rintro e w' ⟨rfl, rfl⟩)
    go_ret2
    exact ⟨rfl, rfl⟩
theorem ofInt_any (n : Int) (wd : World) :
    Calls Tryd.prog 18 #[.int .i64 n] wd fun e w' => e = .returned (.float .f64 (word (decide (n < 0)) (rung n.natAbs 0))) ∧ wd = w' := by
  have hc : ∀ w1, (convert 2 27 (.int .i64 n)).run Tryd.prog w1 = .ok (.float .f64 (word (decide (n < 0)) (rung n.natAbs 0))) w1 := fun w1 => by
    rw [run_convert_int_float (P := Tryd.prog) (w := w1) 2 27 .i64 .f64 _ (by kernel_rfl) (by kernel_rfl), foi_any]
  generalize word (decide (n < 0)) (rung n.natAbs 0) = W at *
  go_enter Tryd.func18, Tryd.ntmps18
  go_wp2_with fail
  go_ret
  exact ⟨rfl, rfl⟩
/-- same, at one word's own bits -/
theorem same_own (b : Nat) (hb : b < 18446744073709551616) (wd : World) :
    Calls Tryd.prog 13 #[.float .f64 b, .int .u64 (b : Int)] wd fun e w' => e = .returned (.bool true) ∧ wd = w' := by
  have fb : ∀ w, (callFunc 11 #[.int .u64 (b : Int)]).run Tryd.prog w = .ok (.value (.float .f64 b)) w := fun w => by
    have := frombits (b : Int) w
    rwa [show (b : Int).toNat = b by omega] at this
  have tb : ∀ w, (callFunc 22 #[.float .f64 b]).run Tryd.prog w = .ok (.value (.int .u64 (b : Int))) w := tobits b
  have n1 : (FloatKind.f64.format.order b b != some .eq) = isn b := rfl
  cases h1 : isn b
  all_goals
    rw [h1] at n1
    clear hb h1
    go_enter Tryd.func13, Tryd.ntmps13
    go_wp2_with fail
    go_ret
    exact ⟨rfl, rfl⟩
theorem awake_pt : ptV 4604930618986332160 = (3, -2, 0) := by decide +kernel
theorem awake_ti : toIV 13836183955189006336 = (-2, 0) := by decide +kernel
theorem awake_mk : mkV 3 (-2) = 4604930618986332160 := by decide +kernel
theorem awake_any (wd : World) (hT : TabAt 1 Lib.deBruijn64tab wd) :
    Calls Tryd.prog 9 #[] wd fun e w' => e = .returned (.bool true) ∧ wd = w' := by
  have C1 := parts_any 4604930618986332160 (by decide) wd hT
  rw [awake_pt] at C1
  have C2 := toInt_any 13836183955189006336 (by decide) wd
  rw [awake_ti] at C2
  have C3 := make_any 3 (-2) (by decide) wd
  rw [awake_mk] at C3
  have ho : (FloatKind.f64.format.order 4604930618986332160 4604930618986332160 == some .eq) = true := by decide +kernel
  clear hT
  go_enter Tryd.func9, Tryd.ntmps9
  go_wp2_with (first | (go_at_call 10; refine C1.mono ?_; rintro e w' ⟨rfl, rfl⟩) | (go_at_call 16; refine C2.mono ?_; rintro e w' ⟨rfl, rfl⟩) | (go_at_call 14; refine C3.mono ?_; rintro e w' ⟨rfl, rfl⟩))
  go_ret
  exact ⟨rfl, rfl⟩
end Go.Proofs.YtfecgfefchdapaaDoor

