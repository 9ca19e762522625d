-- PRINTED BY print.sh 35421559b90ae4d0a3588c463048766b98c2df88dd9212a6774a882060cdf62d: not written by this session
import Derived.Test.YtikbbofjkchppaaPPackSharesx0
namespace Go.Proofs.Ytikbbofjkchppaa.PPackShares
open Go.RowKit Go.Proofs.YtikbbofjkchppaaW.PrintWords Go.Proofs.YtikbbofjkchppaaW.PrintLast Go.Proofs.YtikbbofjkchppaaW.PrintMore
attribute [local go_sem] max2_int min2_int max_two min_two max_three min_three max_four min_four   -- for this text's walks alone
set_option linter.unusedVariables false
set_option linter.unusedSimpArgs false

-- NOT PRINTED: function 26 (gauge_Share)

-- NOT PRINTED: function 12 (pack_Share)

/-! ### depotref04_Parts: function 39 -/
mutual
def depotref04_Parts.j0 : Nat → Int → Int → Bool → Option (Int × Int × Int)
  | 0, _, _, _ => none
  | k + 1, x5, x6, x7 => if x5 = 0 then (some (0, 0, 0)) else (depotref04_Parts.l0 k x5 (wrap64 (x6 - 1075)) x7)
def depotref04_Parts.l0 : Nat → Int → Int → Bool → Option (Int × Int × Int)
  | 0, _, _, _ => none
  | k + 1, x5, x6, x7 => if (Int.tmod x5 2) = 0 then (depotref04_Parts.l0 k (wrap64 (Int.tdiv x5 2)) (wrap64 (x6 + 1)) x7) else (if x7 = true then (some (wrap64 (-x5), x6, 0)) else (some (x5, x6, 0)))
end
def depotref04_Parts.f (k : Nat) (a0 : Int) : Option (Int × Int × Int) := if (wrap64 (Int.tmod (a0 / 4503599627370496) 2048)) = 2047 then (if (wrap64 (Int.tmod a0 4503599627370496)) = 0 then (if (a0 / 9223372036854775808) = 1 then (some (0, 0, 2)) else (some (0, 0, 1))) else (some (0, 0, 3))) else (if (wrap64 (Int.tmod (a0 / 4503599627370496) 2048)) = 0 then (depotref04_Parts.j0 k (wrap64 (Int.tmod a0 4503599627370496)) 1 ((a0 / 9223372036854775808) == 1)) else (depotref04_Parts.j0 k (wrap64 ((wrap64 (Int.tmod a0 4503599627370496)) + 4503599627370496)) (wrap64 (Int.tmod (a0 / 4503599627370496) 2048)) ((a0 / 9223372036854775808) == 1)))
theorem depotref04_Parts.mono_l : ∀ k, (∀ y0 y1 y2, LeO (depotref04_Parts.j0 k y0 y1 y2) (depotref04_Parts.j0 (k + 1) y0 y1 y2)) ∧ (∀ y0 y1 y2, LeO (depotref04_Parts.l0 k y0 y1 y2) (depotref04_Parts.l0 (k + 1) y0 y1 y2))
  | 0 => ⟨fun _ _ _ r h => by simp [depotref04_Parts.j0] at h, fun _ _ _ r h => by simp [depotref04_Parts.l0] at h⟩
  | k + 1 => by
    obtain ⟨ih0, ih1⟩ := depotref04_Parts.mono_l k
    refine ⟨?_, ?_⟩
    · intro y0 y1 y2
      unfold depotref04_Parts.j0
      repeat' first
      | (with_reducible exact ih0 _ _ _)
      | (with_reducible exact ih1 _ _ _)
      | (with_reducible exact LeO.refl _)
      | (with_reducible exact LeO.none _)
      | (with_reducible refine LeO.ite ?_ ?_)
      | (with_reducible refine LeO.bind ?_ (fun _ => ?_))
      | exact ih0 _ _ _
      | exact ih1 _ _ _
      | exact LeO.none _
      | refine LeO.ite ?_ ?_
      | refine LeO.bind ?_ (fun _ => ?_)
    · intro y0 y1 y2
      unfold depotref04_Parts.l0
      repeat' first
      | (with_reducible exact ih0 _ _ _)
      | (with_reducible exact ih1 _ _ _)
      | (with_reducible exact LeO.refl _)
      | (with_reducible exact LeO.none _)
      | (with_reducible refine LeO.ite ?_ ?_)
      | (with_reducible refine LeO.bind ?_ (fun _ => ?_))
      | exact ih0 _ _ _
      | exact ih1 _ _ _
      | exact LeO.none _
      | refine LeO.ite ?_ ?_
      | refine LeO.bind ?_ (fun _ => ?_)
theorem depotref04_Parts.mono : ∀ a0 k, LeO (depotref04_Parts.f k a0) (depotref04_Parts.f (k + 1) a0) := by
  intro a0 k
  obtain ⟨ih0, ih1⟩ := depotref04_Parts.mono_l k
  unfold depotref04_Parts.f
  repeat' first
      | (with_reducible exact ih0 _ _ _)
      | (with_reducible exact ih1 _ _ _)
      | (with_reducible exact LeO.refl _)
      | (with_reducible exact LeO.none _)
      | (with_reducible refine LeO.ite ?_ ?_)
      | (with_reducible refine LeO.bind ?_ (fun _ => ?_))
      | exact ih0 _ _ _
      | exact ih1 _ _ _
      | exact LeO.none _
      | refine LeO.ite ?_ ?_
      | refine LeO.bind ?_ (fun _ => ?_)
set_option maxHeartbeats 8000000 in
set_option maxRecDepth 100000 in
theorem depotref04_Parts.calls (k : Nat) (a0 : Int) (r1 : Int) (r2 : Int) (r3 : Int) (w : World) (h : depotref04_Parts.f k a0 = some (r1, r2, r3)) :
    Calls Try.prog 39 #[.int .u64 a0] w fun e w' => e = .returned (.tuple #[.int .i64 r1, .int .i64 r2, .int .i64 r3]) ∧ Drawn0 w w' := by
  have H : (if (wrap64 (Int.tmod (a0 / 4503599627370496) 2048)) = 2047 then (if (wrap64 (Int.tmod a0 4503599627370496)) = 0 then (if (a0 / 9223372036854775808) = 1 then (some (0, 0, 2)) else (some (0, 0, 1))) else (some (0, 0, 3))) else (if (wrap64 (Int.tmod (a0 / 4503599627370496) 2048)) = 0 then (depotref04_Parts.j0 k (wrap64 (Int.tmod a0 4503599627370496)) 1 ((a0 / 9223372036854775808) == 1)) else (depotref04_Parts.j0 k (wrap64 ((wrap64 (Int.tmod a0 4503599627370496)) + 4503599627370496)) (wrap64 (Int.tmod (a0 / 4503599627370496) 2048)) ((a0 / 9223372036854775808) == 1)))) = some (r1, r2, r3) := h
  clear h
  by_cases c2 : (wrap64 (Int.tmod (a0 / 4503599627370496) 2048)) = 2047
  · rw [if_pos c2] at H
    have c2b0 : ((wrap64 (Int.tmod (a0 / 4503599627370496) 2048)) == 2047) = true := beq_iff_eq.mpr c2
    have c2b1 : ((wrap64 (Int.tmod (a0 / 4503599627370496) 2048)) != 2047) = false := bne_eq_false_iff_eq.mpr c2
    clear c2
    by_cases c3 : (wrap64 (Int.tmod a0 4503599627370496)) = 0
    · rw [if_pos c3] at H
      have c3b0 : ((wrap64 (Int.tmod a0 4503599627370496)) == 0) = true := beq_iff_eq.mpr c3
      have c3b1 : ((wrap64 (Int.tmod a0 4503599627370496)) != 0) = false := bne_eq_false_iff_eq.mpr c3
      clear c3
      by_cases c4 : (a0 / 9223372036854775808) = 1
      · rw [if_pos c4] at H
        have c4b0 : ((a0 / 9223372036854775808) == 1) = true := beq_iff_eq.mpr c4
        have c4b1 : ((a0 / 9223372036854775808) != 1) = false := bne_eq_false_iff_eq.mpr c4
        clear c4
        simp only [Option.some.injEq, Prod.mk.injEq] at H
        obtain ⟨rfl, rfl, rfl⟩ := H
        go_enter Try.func39, Try.ntmps39
        go_wp2
        go_ret3
        exact ⟨by first | rfl | (simp; done) | (simp [*]; done), by repeat (first | exact Drawn0.refl _ | apply Drawn0.step)⟩
      · rw [if_neg c4] at H
        have c4b0 : ((a0 / 9223372036854775808) == 1) = false := beq_eq_false_iff_ne.mpr c4
        have c4b1 : ((a0 / 9223372036854775808) != 1) = true := bne_iff_ne.mpr c4
        simp only [Option.some.injEq, Prod.mk.injEq] at H
        obtain ⟨rfl, rfl, rfl⟩ := H
        go_enter Try.func39, Try.ntmps39
        go_wp2
        go_ret3
        exact ⟨by first | rfl | (simp; done) | (simp [*]; done), by repeat (first | exact Drawn0.refl _ | apply Drawn0.step)⟩
    · rw [if_neg c3] at H
      have c3b0 : ((wrap64 (Int.tmod a0 4503599627370496)) == 0) = false := beq_eq_false_iff_ne.mpr c3
      have c3b1 : ((wrap64 (Int.tmod a0 4503599627370496)) != 0) = true := bne_iff_ne.mpr c3
      simp only [Option.some.injEq, Prod.mk.injEq] at H
      obtain ⟨rfl, rfl, rfl⟩ := H
      go_enter Try.func39, Try.ntmps39
      go_wp2
      go_ret3
      exact ⟨by first | rfl | (simp; done) | (simp [*]; done), by repeat (first | exact Drawn0.refl _ | apply Drawn0.step)⟩
  · rw [if_neg c2] at H
    have c2b0 : ((wrap64 (Int.tmod (a0 / 4503599627370496) 2048)) == 2047) = false := beq_eq_false_iff_ne.mpr c2
    have c2b1 : ((wrap64 (Int.tmod (a0 / 4503599627370496) 2048)) != 2047) = true := bne_iff_ne.mpr c2
    have HC5 := Aside0.mk H
    clear H
    go_enter Try.func39, Try.ntmps39
    go_upto_if 24 with (fail)
    go_cut [5, 6] (fun v5 v6 wc => ∃ (kq : Nat) (x5_4 : Int) (x6_4 : Int), v5 = .int .i64 x5_4 ∧ v6 = .int .i64 x6_4 ∧ Aside0 (depotref04_Parts.j0 kq x5_4 x6_4 ((a0 / 9223372036854775808) == 1) = some (r1, r2, r3)) ∧ Aside0 (kq ≤ k) ∧ Drawn0 w wc)
    case first =>
      have H := HC5.out
      clear HC5
      by_cases c6 : (wrap64 (Int.tmod (a0 / 4503599627370496) 2048)) = 0
      · rw [if_pos c6] at H
        have c6b0 : ((wrap64 (Int.tmod (a0 / 4503599627370496) 2048)) == 0) = true := beq_iff_eq.mpr c6
        have c6b1 : ((wrap64 (Int.tmod (a0 / 4503599627370496) 2048)) != 0) = false := bne_eq_false_iff_eq.mpr c6
        clear c6
        (first | rw [c6b0] | (simp only [i64_w, i32_w]; rw [c6b0]) | skip)
        have H' := Aside0.mk H
        clear H
        go_wp2
        go_meet
        case rel => exact ⟨_, (wrap64 (Int.tmod a0 4503599627370496)), (1), (by first | rfl | (simp; done) | (simp [*]; done)), (by first | rfl | (simp; done) | (simp [*]; done)), H', ⟨by first | omega | exact Nat.le_refl _⟩, by repeat (first | exact Drawn0.refl _ | apply Drawn0.step)⟩
      · rw [if_neg c6] at H
        have c6b0 : ((wrap64 (Int.tmod (a0 / 4503599627370496) 2048)) == 0) = false := beq_eq_false_iff_ne.mpr c6
        have c6b1 : ((wrap64 (Int.tmod (a0 / 4503599627370496) 2048)) != 0) = true := bne_iff_ne.mpr c6
        (first | rw [c6b0] | (simp only [i64_w, i32_w]; rw [c6b0]) | skip)
        have H' := Aside0.mk H
        clear H
        go_wp2
        go_meet
        case rel => exact ⟨_, (wrap64 ((wrap64 (Int.tmod a0 4503599627370496)) + 4503599627370496)), (wrap64 (Int.tmod (a0 / 4503599627370496) 2048)), (by first | rfl | (simp; done) | (simp [*]; done)), (by first | rfl | (simp; done) | (simp [*]; done)), H', ⟨by first | omega | exact Nat.le_refl _⟩, by repeat (first | exact Drawn0.refl _ | apply Drawn0.step)⟩
    case rest =>
      clear HC5
      try clear c2
      try clear c2b0
      try clear c2b1
      try clear p2
      try clear c3
      try clear c3b0
      try clear c3b1
      try clear c4
      try clear c4b0
      try clear c4b1
      try clear c6
      try clear c6b0
      try clear c6b1
      try clear p6
      obtain ⟨kq, x5_4, x6_4, rfl, rfl, HA, HJ4, ⟨mc4, rfl⟩⟩ := hcut
      cases kq with
      | zero => exact absurd HA.out (by simp [depotref04_Parts.j0])
      | succ kj4 =>
        have H := HA.out
        clear HA
        simp only [depotref04_Parts.j0] at H
        by_cases c7 : x5_4 = 0
        · rw [if_pos c7] at H
          have c7b0 : (x5_4 == 0) = true := beq_iff_eq.mpr c7
          have c7b1 : (x5_4 != 0) = false := bne_eq_false_iff_eq.mpr c7
          clear c7
          simp only [Option.some.injEq, Prod.mk.injEq] at H
          obtain ⟨rfl, rfl, rfl⟩ := H
          go_wp2
          go_ret3
          exact ⟨by first | rfl | (simp; done) | (simp [*]; done), by repeat (first | exact Drawn0.refl _ | apply Drawn0.step)⟩
        · rw [if_neg c7] at H
          have c7b0 : (x5_4 == 0) = false := beq_eq_false_iff_ne.mpr c7
          have c7b1 : (x5_4 != 0) = true := bne_iff_ne.mpr c7
          have H' := Aside0.mk H
          clear H
          go_wp2
          go_loopg [5, 6] kj4 (fun kq v5 v6 w' => ∃ (x5_2 : Int) (x6_2 : Int), v5 = .int .i64 x5_2 ∧ v6 = .int .i64 x6_2 ∧ Aside0 (depotref04_Parts.l0 kq x5_2 x6_2 ((a0 / 9223372036854775808) == 1) = some (r1, r2, r3)) ∧ Aside0 (kq ≤ kj4) ∧ Drawn0 w w')
          case atStart => exact ⟨(x5_4), (wrap64 (x6_4 - 1075)), (by first | rfl | (simp; done) | (simp [*]; done)), (by first | rfl | (simp; done) | (simp [*]; done)), H', ⟨Nat.le_refl _⟩, by repeat (first | exact Drawn0.refl _ | apply Drawn0.step)⟩
          case round =>
            clear H'
            try clear c2
            try clear c2b0
            try clear c2b1
            try clear p2
            try clear c3
            try clear c3b0
            try clear c3b1
            try clear c4
            try clear c4b0
            try clear c4b1
            try clear c6
            try clear c6b0
            try clear c6b1
            try clear p6
            try clear c7
            try clear c7b0
            try clear c7b1
            try clear p2
            try clear p6
            obtain ⟨x5_2, x6_2, rfl, rfl, HA, HK2, ⟨m2, rfl⟩⟩ := hrel
            cases gk with
            | zero => exact absurd HA.out (by simp [depotref04_Parts.l0])
            | succ k2 =>
              have H := HA.out
              clear HA
              simp only [depotref04_Parts.l0] at H
              by_cases c8 : (Int.tmod x5_2 2) = 0
              · rw [if_pos c8] at H
                have c8b0 : ((Int.tmod x5_2 2) == 0) = true := beq_iff_eq.mpr c8
                have c8b1 : ((Int.tmod x5_2 2) != 0) = false := bne_eq_false_iff_eq.mpr c8
                clear c8
                have H' := Aside0.mk H
                clear H
                go_wp2
                go_roundg k2
                case measure => have := HJ4.out; have := HK2.out; omega
                case rel => exact ⟨(wrap64 (Int.tdiv x5_2 2)), (wrap64 (x6_2 + 1)), (by first | rfl | (simp; done) | (simp [*]; done)), (by first | rfl | (simp; done) | (simp [*]; done)), H', ⟨by have := HJ4.out; have := HK2.out; omega⟩, by repeat (first | exact Drawn0.refl _ | apply Drawn0.step)⟩
              · rw [if_neg c8] at H
                have c8b0 : ((Int.tmod x5_2 2) == 0) = false := beq_eq_false_iff_ne.mpr c8
                have c8b1 : ((Int.tmod x5_2 2) != 0) = true := bne_iff_ne.mpr c8
                by_cases c9 : ((a0 / 9223372036854775808) == 1) = true
                · rw [if_pos c9] at H
                  have c9b0 : ((a0 / 9223372036854775808) == 1) = true := c9
                  (try (have c9b1 : decide ((a0 / 9223372036854775808) = 1) = true := by simpa using c9))
                  (try (have c9b2 : ((a0 / 9223372036854775808) == 1) = true := by simpa using c9))
                  clear c9
                  simp only [Option.some.injEq, Prod.mk.injEq] at H
                  obtain ⟨rfl, rfl, rfl⟩ := H
                  go_wp2
                  go_ret3
                  exact ⟨by first | rfl | (simp; done) | (simp [*]; done), by repeat (first | exact Drawn0.refl _ | apply Drawn0.step)⟩
                · rw [if_neg c9] at H
                  have c9b0 : ((a0 / 9223372036854775808) == 1) = false := by simpa using c9
                  (try (have c9b1 : decide ((a0 / 9223372036854775808) = 1) = false := by simpa using c9))
                  (try (have c9b2 : ((a0 / 9223372036854775808) == 1) = false := by simpa using c9))
                  (try (have c9b3 : ¬ ((a0 / 9223372036854775808) = 1) := by simpa using c9))
                  clear c9
                  simp only [Option.some.injEq, Prod.mk.injEq] at H
                  obtain ⟨rfl, rfl, rfl⟩ := H
                  go_wp2
                  go_ret3
                  exact ⟨by first | rfl | (simp; done) | (simp [*]; done), by repeat (first | exact Drawn0.refl _ | apply Drawn0.step)⟩

/-! ### depotref04_length: function 44 -/
def depotref04_length.l0 : Nat → Int → Int → Option (Int)
  | 0, _, _ => none
  | k + 1, x0, x3 => if x0 > 0 then (depotref04_length.l0 k (IntKind.u64.wrap (Int.tdiv x0 2)) (wrap64 (x3 + 1))) else (some x3)
def depotref04_length.f (k : Nat) (a0 : Int) : Option (Int) := depotref04_length.l0 k a0 0
theorem depotref04_length.mono_l : ∀ k, (∀ y0 y1, LeO (depotref04_length.l0 k y0 y1) (depotref04_length.l0 (k + 1) y0 y1))
  | 0 => fun _ _ r h => by simp [depotref04_length.l0] at h
  | k + 1 => by
    have ih0 := depotref04_length.mono_l k
    · intro y0 y1
      unfold depotref04_length.l0
      repeat' first
      | (with_reducible exact ih0 _ _)
      | (with_reducible exact LeO.refl _)
      | (with_reducible exact LeO.none _)
      | (with_reducible refine LeO.ite ?_ ?_)
      | (with_reducible refine LeO.bind ?_ (fun _ => ?_))
      | exact ih0 _ _
      | exact LeO.none _
      | refine LeO.ite ?_ ?_
      | refine LeO.bind ?_ (fun _ => ?_)
theorem depotref04_length.mono : ∀ a0 k, LeO (depotref04_length.f k a0) (depotref04_length.f (k + 1) a0) := by
  intro a0 k
  have ih0 := depotref04_length.mono_l k
  unfold depotref04_length.f
  repeat' first
      | (with_reducible exact ih0 _ _)
      | (with_reducible exact LeO.refl _)
      | (with_reducible exact LeO.none _)
      | (with_reducible refine LeO.ite ?_ ?_)
      | (with_reducible refine LeO.bind ?_ (fun _ => ?_))
      | exact ih0 _ _
      | exact LeO.none _
      | refine LeO.ite ?_ ?_
      | refine LeO.bind ?_ (fun _ => ?_)
set_option maxHeartbeats 8000000 in
set_option maxRecDepth 100000 in
theorem depotref04_length.calls (k : Nat) (a0 : Int) (r : Int) (w : World) (h : depotref04_length.f k a0 = some r) :
    Calls Try.prog 44 #[.int .u64 a0] w fun e w' => e = .returned (.int .i64 r) ∧ Drawn0 w w' := by
  have H : (depotref04_length.l0 k a0 0) = some r := h
  clear h
  have H' := Aside0.mk H
  clear H
  go_enter Try.func44, Try.ntmps44
  go_wp2
  go_loopg [0, 3] k (fun kq v0 v3 w' => ∃ (x0_1 : Int) (x3_1 : Int), v0 = .int .u64 x0_1 ∧ v3 = .int .i64 x3_1 ∧ Aside0 (depotref04_length.l0 kq x0_1 x3_1 = some r) ∧ Aside0 (kq ≤ k) ∧ Drawn0 w w')
  case atStart => exact ⟨(a0), (0), (by first | rfl | (simp; done) | (simp [*]; done)), (by first | rfl | (simp; done) | (simp [*]; done)), H', ⟨Nat.le_refl _⟩, by repeat (first | exact Drawn0.refl _ | apply Drawn0.step)⟩
  case round =>
    clear H'
    obtain ⟨x0_1, x3_1, rfl, rfl, HA, HK1, ⟨m1, rfl⟩⟩ := hrel
    cases gk with
    | zero => exact absurd HA.out (by simp [depotref04_length.l0])
    | succ k1 =>
      have H := HA.out
      clear HA
      simp only [depotref04_length.l0] at H
      by_cases c2 : x0_1 > 0
      · rw [if_pos c2] at H
        have c2b0 : decide (0 < x0_1) = true := decide_eq_true c2
        clear c2
        have H' := Aside0.mk H
        clear H
        go_wp2
        go_roundg k1
        case measure => have := HK1.out; omega
        case rel => exact ⟨(IntKind.u64.wrap (Int.tdiv x0_1 2)), (wrap64 (x3_1 + 1)), (by first | rfl | (simp; done) | (simp [*]; done)), (by first | rfl | (simp; done) | (simp [*]; done)), H', ⟨by have := HK1.out; omega⟩, by repeat (first | exact Drawn0.refl _ | apply Drawn0.step)⟩
      · rw [if_neg c2] at H
        have c2b0 : decide (0 < x0_1) = false := decide_eq_false c2
        clear c2
        obtain rfl := Option.some.inj H
        go_wp2
        go_ret
        exact ⟨by first | rfl | (simp; done) | (simp [*]; done), by repeat (first | exact Drawn0.refl _ | apply Drawn0.step)⟩

end Go.Proofs.Ytikbbofjkchppaa.PPackShares
