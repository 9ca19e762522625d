/- The walks of gauge.ToInt, gauge.Permille and the law GaugeShares. -/
import Derived.Test.YtfecgfefchdapaaTiGaugeShares
import Derived.Test.YtfecgfefchdapaaSh
import Derived.Test.YtfecgfefchdapaaLs
namespace Go.Proofs.Ytfecgfefchdapaa
open Go.RowKit FL Go.Proofs.Ytfecgfefchdapaa.PGaugeShares Go.Proofs.YtfecgfefchdapaaW.PrintWords Go.Proofs.Ytfecgfefchdapaa.NearGaugeShares

theorem grown_trans {a b c : World} (h : Grown a b) (k : Grown b c) : Grown a c :=
  ⟨World.keptBut_trans h.1 k.1, fun x => (k.2.1 x).trans (h.2.1 x), Nat.le_trans h.2.2 k.2.2⟩

theorem toInt_any (a : Nat) (ha : a < 18446744073709551616) (wd : World) :
    Calls Try.prog 15 #[.float .f64 a] wd fun e w' => e = .returned (.tuple #[.int .i64 (toIV a).1, .int .i64 (toIV a).2]) ∧ wd = w' := by
  cases h1 : isn a
  · cases h2 : (FloatKind.f64.format.order a 4890909195324358656 == some .gt || FloatKind.f64.format.order a 4890909195324358656 == some .eq)
    · cases h3 : (FloatKind.f64.format.order a 14114281232179134464 == some .lt)
      · have f := toI_fits a ha h1 h2 h3
        have hc : ∀ w1, (convert 23 2 (.float .f64 a)).run Try.prog w1 = .ok (.int .i64 (toIV a).1) w1 :=
          fun w1 => run_convert_float_int (P := Try.prog) w1 23 2 .f64 .i64 a (toIV a).1 (by kernel_rfl) Try.underlying2 f.1
        rw [f.2]
        clear f
        go_enter Try.func15, Try.ntmps15
        go_wp2_with (go_at_call 14; refine (isNaN_any _ _).mono ?_; rintro e w' ⟨rfl, rfl⟩)
        go_ret2
        exact ⟨rfl, rfl⟩
      · rw [toI_range a ha h1 (.inr h3)]
        go_enter Try.func15, Try.ntmps15
        go_wp2_with (go_at_call 14; refine (isNaN_any _ _).mono ?_; rintro e w' ⟨rfl, rfl⟩)
        go_ret2
        exact ⟨rfl, rfl⟩
    · rw [toI_range a ha h1 (.inl h2)]
      go_enter Try.func15, Try.ntmps15
      go_wp2_with (go_at_call 14; refine (isNaN_any _ _).mono ?_; rintro e w' ⟨rfl, rfl⟩)
      go_ret2
      exact ⟨rfl, rfl⟩
  · rw [toI_nan a ha h1]
    go_enter Try.func15, Try.ntmps15
    go_wp2_with (go_at_call 14; refine (isNaN_any _ _).mono ?_; rintro e w' ⟨rfl, rfl⟩)
    go_ret2
    exact ⟨rfl, rfl⟩

theorem permille_zero (p : Int) (wd : World) :
    Calls Try.prog 9 #[.int .u64 p, .int .u64 0] wd fun e w' => e = .returned (.tuple #[.int .i64 0, .int .i64 41]) ∧ wd = w' := by
  go_enter Try.func9, Try.ntmps9
  go_wp2_with (go_at_call 6; refine (share_zero _ _).mono ?_; rintro e w' ⟨rfl, rfl⟩)
  go_ret2
  exact ⟨rfl, rfl⟩

theorem permille_ok (p w : Int) (hp : 0 ≤ p) (hp' : p < 18446744073709551616) (hw : 0 < w) (hw' : w < 18446744073709551616) (wd : World) :
    Calls Try.prog 9 #[.int .u64 p, .int .u64 w] wd fun e w' => e = .returned (.tuple #[.int .i64 (toIV (m1000 (shB p w))).1, .int .i64 (toIV (m1000 (shB p w))).2]) ∧ wd = w' := by
  have hm := m1000_is (shB p w) (shB_fin p w hp hp' hw)
  have hop : ∀ t w1, (binOp .mul t (.float .f64 (shB p w)) (.float .f64 4652007308841189376)).run Try.prog w1 = .ok (.float .f64 (m1000 (shB p w))) w1 :=
    fun t w1 => run_float_arith w1 .mul t .f64 _ _ _ hm.1
  have C1 := Lib.hid (share_ok p w hp hp' hw hw' wd)
  have C2 := Lib.hid (toInt_any (m1000 (shB p w)) hm.2 wd)
  clear hm
  go_enter Try.func9, Try.ntmps9
  go_wp2_with fail
  refine C1.out.mono ?_; rintro e w' ⟨rfl, rfl⟩
  go_wp2_with fail
  refine C2.out.mono ?_; rintro e w' ⟨rfl, rfl⟩
  go_wp2_with fail
  go_ret2
  exact ⟨rfl, rfl⟩

/-- same, at one word's own bits -/
theorem same_own (b : Nat) (hb : b < 18446744073709551616) (wd : World) :
    Calls Try.prog 11 #[.float .f64 b, .int .u64 (b : Int)] wd fun e w' => e = .returned (.bool true) ∧ wd = w' := by
  have fb : ∀ w, (callFunc 8 #[.int .u64 (b : Int)]).run Try.prog w = .ok (.value (.float .f64 b)) w := fun w => by
    have := frombits (b : Int) w
    rwa [show (b : Int).toNat = b by omega] at this
  have tb : ∀ w, (callFunc 13 #[.float .f64 b]).run Try.prog w = .ok (.value (.int .u64 (b : Int))) w := tobits b
  have n1 : (FloatKind.f64.format.order b b != some .eq) = isn b := rfl
  cases h1 : isn b
  all_goals
    rw [h1] at n1
    clear hb h1
    go_enter Try.func11, Try.ntmps11
    go_wp2_with fail
    go_ret
    exact ⟨rfl, rfl⟩

theorem refShare (p w : Int) (r1 r2 : Int) (h : Ev (fun k => depotref04_Share.f k p w) (r1, r2)) (wd : World) :
    Calls Try.prog 10 #[.int .u64 p, .int .u64 w] wd fun e w' => e = .returned (.tuple #[.int .u64 r1, .int .i64 r2]) ∧ Drawn0 wd w' := by
  obtain ⟨k, hk⟩ := h.rounds
  exact depotref04_Share.calls k p w r1 r2 wd hk

theorem refToInt (w : Nat) (hw : w < 18446744073709551616) (wd : World) :
    Calls Try.prog 12 #[.int .u64 (w : Int)] wd fun e w' => e = .returned (.tuple #[.int .i64 (toIV w).1, .int .i64 (toIV w).2]) ∧ Drawn0 wd w' := by
  obtain ⟨k, hk⟩ := (toInt_ev w hw).rounds
  exact depotref04_ToInt.calls k (w : Int) (toIV w).1 (toIV w).2 wd hk

theorem shareZero_ev (p : Int) : Ev (fun k => depotref04_Share.f k p 0) (0, 41) := by
  refine Ev.congr (fun k => ?_) (Ev.now _)
  unfold depotref04_Share.f
  rw [if_pos rfl]

set_option maxHeartbeats 1000000 in
theorem gs_zero (p : Int) (wd : World) :
    Calls Try.prog 5 #[.int .u64 p, .int .u64 0] wd fun e w' => e = .returned (.bool true) ∧ Drawn0 wd w' := by
  have C1 := Lib.hid (permille_ok 1 8 (by omega) (by omega) (by omega) (by omega) wd)
  rw [m1000_eighth] at C1
  go_enter Try.func5, Try.ntmps5
  go_wp2_with fail
  refine C1.out.mono ?_; rintro e w' ⟨rfl, rfl⟩
  go_wp2_with fail
  refine (share_zero p _).mono ?_; rintro e w' ⟨rfl, rfl⟩
  go_wp2_with fail
  refine (refShare p 0 0 41 (shareZero_ev p) _).mono ?_; rintro e w1 ⟨rfl, hd⟩
  go_wp2_with fail
  refine (same_own 0 (by omega) _).mono ?_; rintro e w' ⟨rfl, rfl⟩
  go_wp2_with fail
  refine (permille_zero p _).mono ?_; rintro e w' ⟨rfl, rfl⟩
  go_wp2_with fail
  go_ret
  exact ⟨rfl, hd⟩

set_option maxHeartbeats 1000000 in
theorem gs_pos (p w : Int) (hp : 0 ≤ p) (hp' : p < 18446744073709551616) (hw : 0 < w) (hw' : w < 18446744073709551616) (wd : World) :
    Calls Try.prog 5 #[.int .u64 p, .int .u64 w] wd fun e w' => e = .returned (.bool true) ∧ Grown wd w' := by
  have hfin := shB_fin p w hp hp' hw
  have hm := m1000_is (shB p w) hfin
  have hev := Lib.hid (share_ev p w hp hp' hw hw')
  have C1 := Lib.hid (permille_ok 1 8 (by omega) (by omega) (by omega) (by omega) wd)
  rw [m1000_eighth] at C1
  have C2 := Lib.hid (share_ok p w hp hp' hw hw' wd)
  have C3 := Lib.hid (fun wd => permille_ok p w hp hp' hw hw' wd)
  have C4 := Lib.hid (fun wd => refToInt (m1000 (shB p w)) hm.2 wd)
  have C5 := Lib.hid (fun wd => same_own (shB p w) (by omega) wd)
  have hop : ∀ t w1, (binOp .mul t (.float .f64 (shB p w)) (.float .f64 4652007308841189376)).run Try.prog w1 = .ok (.float .f64 (m1000 (shB p w))) w1 :=
    fun t w1 => run_float_arith w1 .mul t .f64 _ _ _ hm.1
  have fb : ∀ w1, (callFunc 8 #[.int .u64 (shB p w : Int)]).run Try.prog w1 = .ok (.value (.float .f64 (shB p w))) w1 := fun w1 => by
    have := frombits (shB p w : Int) w1
    rwa [show ((shB p w : Nat) : Int).toNat = shB p w by omega] at this
  have tb : ∀ w1, (callFunc 13 #[.float .f64 (m1000 (shB p w))]).run Try.prog w1 = .ok (.value (.int .u64 (m1000 (shB p w) : Int))) w1 := tobits _
  generalize shB p w = s at *
  generalize m1000 s = m at *
  clear hm hfin hw hw' hp hp'
  go_enter Try.func5, Try.ntmps5
  go_wp2_with fail
  refine C1.out.mono ?_; rintro e w' ⟨rfl, rfl⟩
  go_wp2_with fail
  refine C2.out.mono ?_; rintro e w' ⟨rfl, rfl⟩
  go_wp2_with fail
  refine (refShare p w _ _ hev.out _).mono ?_; rintro e w1 ⟨rfl, hd⟩
  go_wp2_with fail
  refine (C5.out _).mono ?_; rintro e w' ⟨rfl, rfl⟩
  go_wp2_with fail
  refine (C3.out _).mono ?_; rintro e w' ⟨rfl, rfl⟩
  go_wp2_with fail
  refine (C4.out _).mono ?_; rintro e w2 ⟨rfl, hd2⟩
  go_wp2_with fail
  go_ret
  exact ⟨rfl, grown_trans hd.grown hd2.grown⟩
end Go.Proofs.Ytfecgfefchdapaa
