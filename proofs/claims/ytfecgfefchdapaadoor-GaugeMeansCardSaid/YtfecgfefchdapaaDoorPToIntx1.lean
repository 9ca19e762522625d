-- PRINTED BY print.sh 35421559b90ae4d0a3588c463048766b98c2df88dd9212a6774a882060cdf62d: not written by this session
import Derived.Test.YtfecgfefchdapaaDoorPToIntx0
namespace Go.Proofs.YtfecgfefchdapaaDoor.PToInt
open Go.RowKit Go.Proofs.YtfecgfefchdapaaDoorW.PrintWords Go.Proofs.YtfecgfefchdapaaDoorW.PrintLast Go.Proofs.YtfecgfefchdapaaDoorW.PrintMore
attribute [local go_sem] max2_int min2_int max_two min_two max_three min_three max_four min_four   -- for this text's walks alone
set_option linter.unusedVariables false
set_option linter.unusedSimpArgs false

/-! ### depotref04_Parts: function 12 -/
mutual
def depotref04_Parts.j0 : Nat → Int → Int → Bool → Option (Int × Int × Int)
  | 0, _, _, _ => none
  | k + 1, x5, x6, x7 => if x5 = 0 then (some (0, 0, 0)) else (depotref04_Parts.l0 k x5 (wrap64 (x6 - 1075)) x7)
def depotref04_Parts.l0 : Nat → Int → Int → Bool → Option (Int × Int × Int)
  | 0, _, _, _ => none
  | k + 1, x5, x6, x7 => if (Int.tmod x5 2) = 0 then (depotref04_Parts.l0 k (wrap64 (Int.tdiv x5 2)) (wrap64 (x6 + 1)) x7) else (if x7 = true then (some (wrap64 (-x5), x6, 0)) else (some (x5, x6, 0)))
end
def depotref04_Parts.f (k : Nat) (a0 : Int) : Option (Int × Int × Int) := if (wrap64 (Int.tmod (a0 / 4503599627370496) 2048)) = 2047 then (if (wrap64 (Int.tmod a0 4503599627370496)) = 0 then (if (a0 / 9223372036854775808) = 1 then (some (0, 0, 2)) else (some (0, 0, 1))) else (some (0, 0, 3))) else (if (wrap64 (Int.tmod (a0 / 4503599627370496) 2048)) = 0 then (depotref04_Parts.j0 k (wrap64 (Int.tmod a0 4503599627370496)) 1 ((a0 / 9223372036854775808) == 1)) else (depotref04_Parts.j0 k (wrap64 ((wrap64 (Int.tmod a0 4503599627370496)) + 4503599627370496)) (wrap64 (Int.tmod (a0 / 4503599627370496) 2048)) ((a0 / 9223372036854775808) == 1)))
theorem depotref04_Parts.mono_l : ∀ k, (∀ y0 y1 y2, LeO (depotref04_Parts.j0 k y0 y1 y2) (depotref04_Parts.j0 (k + 1) y0 y1 y2)) ∧ (∀ y0 y1 y2, LeO (depotref04_Parts.l0 k y0 y1 y2) (depotref04_Parts.l0 (k + 1) y0 y1 y2))
  | 0 => ⟨fun _ _ _ r h => by simp [depotref04_Parts.j0] at h, fun _ _ _ r h => by simp [depotref04_Parts.l0] at h⟩
  | k + 1 => by
    obtain ⟨ih0, ih1⟩ := depotref04_Parts.mono_l k
    refine ⟨?_, ?_⟩
    · intro y0 y1 y2
      unfold depotref04_Parts.j0
      repeat' first
      | (with_reducible exact ih0 _ _ _)
      | (with_reducible exact ih1 _ _ _)
      | (with_reducible exact LeO.refl _)
      | (with_reducible exact LeO.none _)
      | (with_reducible refine LeO.ite ?_ ?_)
      | (with_reducible refine LeO.bind ?_ (fun _ => ?_))
      | exact ih0 _ _ _
      | exact ih1 _ _ _
      | exact LeO.none _
      | refine LeO.ite ?_ ?_
      | refine LeO.bind ?_ (fun _ => ?_)
    · intro y0 y1 y2
      unfold depotref04_Parts.l0
      repeat' first
      | (with_reducible exact ih0 _ _ _)
      | (with_reducible exact ih1 _ _ _)
      | (with_reducible exact LeO.refl _)
      | (with_reducible exact LeO.none _)
      | (with_reducible refine LeO.ite ?_ ?_)
      | (with_reducible refine LeO.bind ?_ (fun _ => ?_))
      | exact ih0 _ _ _
      | exact ih1 _ _ _
      | exact LeO.none _
      | refine LeO.ite ?_ ?_
      | refine LeO.bind ?_ (fun _ => ?_)
theorem depotref04_Parts.mono : ∀ a0 k, LeO (depotref04_Parts.f k a0) (depotref04_Parts.f (k + 1) a0) := by
  intro a0 k
  obtain ⟨ih0, ih1⟩ := depotref04_Parts.mono_l k
  unfold depotref04_Parts.f
  repeat' first
      | (with_reducible exact ih0 _ _ _)
      | (with_reducible exact ih1 _ _ _)
      | (with_reducible exact LeO.refl _)
      | (with_reducible exact LeO.none _)
      | (with_reducible refine LeO.ite ?_ ?_)
      | (with_reducible refine LeO.bind ?_ (fun _ => ?_))
      | exact ih0 _ _ _
      | exact ih1 _ _ _
      | exact LeO.none _
      | refine LeO.ite ?_ ?_
      | refine LeO.bind ?_ (fun _ => ?_)
set_option maxHeartbeats 8000000 in
set_option maxRecDepth 100000 in
theorem depotref04_Parts.calls (k : Nat) (a0 : Int) (r1 : Int) (r2 : Int) (r3 : Int) (w : World) (h : depotref04_Parts.f k a0 = some (r1, r2, r3)) :
    Calls Tryd.prog 12 #[.int .u64 a0] w fun e w' => e = .returned (.tuple #[.int .i64 r1, .int .i64 r2, .int .i64 r3]) ∧ Drawn0 w w' := by
  have H : (if (wrap64 (Int.tmod (a0 / 4503599627370496) 2048)) = 2047 then (if (wrap64 (Int.tmod a0 4503599627370496)) = 0 then (if (a0 / 9223372036854775808) = 1 then (some (0, 0, 2)) else (some (0, 0, 1))) else (some (0, 0, 3))) else (if (wrap64 (Int.tmod (a0 / 4503599627370496) 2048)) = 0 then (depotref04_Parts.j0 k (wrap64 (Int.tmod a0 4503599627370496)) 1 ((a0 / 9223372036854775808) == 1)) else (depotref04_Parts.j0 k (wrap64 ((wrap64 (Int.tmod a0 4503599627370496)) + 4503599627370496)) (wrap64 (Int.tmod (a0 / 4503599627370496) 2048)) ((a0 / 9223372036854775808) == 1)))) = some (r1, r2, r3) := h
  clear h
  by_cases c2 : (wrap64 (Int.tmod (a0 / 4503599627370496) 2048)) = 2047
  · rw [if_pos c2] at H
    have c2b0 : ((wrap64 (Int.tmod (a0 / 4503599627370496) 2048)) == 2047) = true := beq_iff_eq.mpr c2
    have c2b1 : ((wrap64 (Int.tmod (a0 / 4503599627370496) 2048)) != 2047) = false := bne_eq_false_iff_eq.mpr c2
    clear c2
    by_cases c3 : (wrap64 (Int.tmod a0 4503599627370496)) = 0
    · rw [if_pos c3] at H
      have c3b0 : ((wrap64 (Int.tmod a0 4503599627370496)) == 0) = true := beq_iff_eq.mpr c3
      have c3b1 : ((wrap64 (Int.tmod a0 4503599627370496)) != 0) = false := bne_eq_false_iff_eq.mpr c3
      clear c3
      by_cases c4 : (a0 / 9223372036854775808) = 1
      · rw [if_pos c4] at H
        have c4b0 : ((a0 / 9223372036854775808) == 1) = true := beq_iff_eq.mpr c4
        have c4b1 : ((a0 / 9223372036854775808) != 1) = false := bne_eq_false_iff_eq.mpr c4
        clear c4
        simp only [Option.some.injEq, Prod.mk.injEq] at H
        obtain ⟨rfl, rfl, rfl⟩ := H
        go_enter Tryd.func12, Tryd.ntmps12
        go_wp2
        go_ret3
        exact ⟨by first | rfl | (simp; done) | (simp [*]; done), by repeat (first | exact Drawn0.refl _ | apply Drawn0.step)⟩
      · rw [if_neg c4] at H
        have c4b0 : ((a0 / 9223372036854775808) == 1) = false := beq_eq_false_iff_ne.mpr c4
        have c4b1 : ((a0 / 9223372036854775808) != 1) = true := bne_iff_ne.mpr c4
        simp only [Option.some.injEq, Prod.mk.injEq] at H
        obtain ⟨rfl, rfl, rfl⟩ := H
        go_enter Tryd.func12, Tryd.ntmps12
        go_wp2
        go_ret3
        exact ⟨by first | rfl | (simp; done) | (simp [*]; done), by repeat (first | exact Drawn0.refl _ | apply Drawn0.step)⟩
    · rw [if_neg c3] at H
      have c3b0 : ((wrap64 (Int.tmod a0 4503599627370496)) == 0) = false := beq_eq_false_iff_ne.mpr c3
      have c3b1 : ((wrap64 (Int.tmod a0 4503599627370496)) != 0) = true := bne_iff_ne.mpr c3
      simp only [Option.some.injEq, Prod.mk.injEq] at H
      obtain ⟨rfl, rfl, rfl⟩ := H
      go_enter Tryd.func12, Tryd.ntmps12
      go_wp2
      go_ret3
      exact ⟨by first | rfl | (simp; done) | (simp [*]; done), by repeat (first | exact Drawn0.refl _ | apply Drawn0.step)⟩
  · rw [if_neg c2] at H
    have c2b0 : ((wrap64 (Int.tmod (a0 / 4503599627370496) 2048)) == 2047) = false := beq_eq_false_iff_ne.mpr c2
    have c2b1 : ((wrap64 (Int.tmod (a0 / 4503599627370496) 2048)) != 2047) = true := bne_iff_ne.mpr c2
    have HC5 := Aside0.mk H
    clear H
    go_enter Tryd.func12, Tryd.ntmps12
    go_upto_if 24 with (fail)
    go_cut [5, 6] (fun v5 v6 wc => ∃ (kq : Nat) (x5_4 : Int) (x6_4 : Int), v5 = .int .i64 x5_4 ∧ v6 = .int .i64 x6_4 ∧ Aside0 (depotref04_Parts.j0 kq x5_4 x6_4 ((a0 / 9223372036854775808) == 1) = some (r1, r2, r3)) ∧ Aside0 (kq ≤ k) ∧ Drawn0 w wc)
    case first =>
      have H := HC5.out
      clear HC5
      by_cases c6 : (wrap64 (Int.tmod (a0 / 4503599627370496) 2048)) = 0
      · rw [if_pos c6] at H
        have c6b0 : ((wrap64 (Int.tmod (a0 / 4503599627370496) 2048)) == 0) = true := beq_iff_eq.mpr c6
        have c6b1 : ((wrap64 (Int.tmod (a0 / 4503599627370496) 2048)) != 0) = false := bne_eq_false_iff_eq.mpr c6
        clear c6
        (first | rw [c6b0] | (simp only [i64_w, i32_w]; rw [c6b0]) | skip)
        have H' := Aside0.mk H
        clear H
        go_wp2
        go_meet
        case rel => exact ⟨_, (wrap64 (Int.tmod a0 4503599627370496)), (1), (by first | rfl | (simp; done) | (simp [*]; done)), (by first | rfl | (simp; done) | (simp [*]; done)), H', ⟨by first | omega | exact Nat.le_refl _⟩, by repeat (first | exact Drawn0.refl _ | apply Drawn0.step)⟩
      · rw [if_neg c6] at H
        have c6b0 : ((wrap64 (Int.tmod (a0 / 4503599627370496) 2048)) == 0) = false := beq_eq_false_iff_ne.mpr c6
        have c6b1 : ((wrap64 (Int.tmod (a0 / 4503599627370496) 2048)) != 0) = true := bne_iff_ne.mpr c6
        (first | rw [c6b0] | (simp only [i64_w, i32_w]; rw [c6b0]) | skip)
        have H' := Aside0.mk H
        clear H
        go_wp2
        go_meet
        case rel => exact ⟨_, (wrap64 ((wrap64 (Int.tmod a0 4503599627370496)) + 4503599627370496)), (wrap64 (Int.tmod (a0 / 4503599627370496) 2048)), (by first | rfl | (simp; done) | (simp [*]; done)), (by first | rfl | (simp; done) | (simp [*]; done)), H', ⟨by first | omega | exact Nat.le_refl _⟩, by repeat (first | exact Drawn0.refl _ | apply Drawn0.step)⟩
    case rest =>
      clear HC5
      try clear c1
      try clear c2
      try clear c2b0
      try clear c2b1
      try clear p2
      try clear c3
      try clear c3b0
      try clear c3b1
      try clear c4
      try clear c4b0
      try clear c4b1
      try clear c6
      try clear c6b0
      try clear c6b1
      try clear p6
      obtain ⟨kq, x5_4, x6_4, rfl, rfl, HA, HJ4, ⟨mc4, rfl⟩⟩ := hcut
      cases kq with
      | zero => exact absurd HA.out (by simp [depotref04_Parts.j0])
      | succ kj4 =>
        have H := HA.out
        clear HA
        simp only [depotref04_Parts.j0] at H
        by_cases c7 : x5_4 = 0
        · rw [if_pos c7] at H
          have c7b0 : (x5_4 == 0) = true := beq_iff_eq.mpr c7
          have c7b1 : (x5_4 != 0) = false := bne_eq_false_iff_eq.mpr c7
          clear c7
          simp only [Option.some.injEq, Prod.mk.injEq] at H
          obtain ⟨rfl, rfl, rfl⟩ := H
          go_wp2
          go_ret3
          exact ⟨by first | rfl | (simp; done) | (simp [*]; done), by repeat (first | exact Drawn0.refl _ | apply Drawn0.step)⟩
        · rw [if_neg c7] at H
          have c7b0 : (x5_4 == 0) = false := beq_eq_false_iff_ne.mpr c7
          have c7b1 : (x5_4 != 0) = true := bne_iff_ne.mpr c7
          have H' := Aside0.mk H
          clear H
          go_wp2
          go_loopg [5, 6] kj4 (fun kq v5 v6 w' => ∃ (x5_2 : Int) (x6_2 : Int), v5 = .int .i64 x5_2 ∧ v6 = .int .i64 x6_2 ∧ Aside0 (depotref04_Parts.l0 kq x5_2 x6_2 ((a0 / 9223372036854775808) == 1) = some (r1, r2, r3)) ∧ Aside0 (kq ≤ kj4) ∧ Drawn0 w w')
          case atStart => exact ⟨(x5_4), (wrap64 (x6_4 - 1075)), (by first | rfl | (simp; done) | (simp [*]; done)), (by first | rfl | (simp; done) | (simp [*]; done)), H', ⟨Nat.le_refl _⟩, by repeat (first | exact Drawn0.refl _ | apply Drawn0.step)⟩
          case round =>
            clear H'
            try clear c1
            try clear c2
            try clear c2b0
            try clear c2b1
            try clear p2
            try clear c3
            try clear c3b0
            try clear c3b1
            try clear c4
            try clear c4b0
            try clear c4b1
            try clear c6
            try clear c6b0
            try clear c6b1
            try clear p6
            try clear c7
            try clear c7b0
            try clear c7b1
            try clear p2
            try clear p6
            obtain ⟨x5_2, x6_2, rfl, rfl, HA, HK2, ⟨m2, rfl⟩⟩ := hrel
            cases gk with
            | zero => exact absurd HA.out (by simp [depotref04_Parts.l0])
            | succ k2 =>
              have H := HA.out
              clear HA
              simp only [depotref04_Parts.l0] at H
              by_cases c8 : (Int.tmod x5_2 2) = 0
              · rw [if_pos c8] at H
                have c8b0 : ((Int.tmod x5_2 2) == 0) = true := beq_iff_eq.mpr c8
                have c8b1 : ((Int.tmod x5_2 2) != 0) = false := bne_eq_false_iff_eq.mpr c8
                clear c8
                have H' := Aside0.mk H
                clear H
                go_wp2
                go_roundg k2
                case measure => have := HJ4.out; have := HK2.out; omega
                case rel => exact ⟨(wrap64 (Int.tdiv x5_2 2)), (wrap64 (x6_2 + 1)), (by first | rfl | (simp; done) | (simp [*]; done)), (by first | rfl | (simp; done) | (simp [*]; done)), H', ⟨by have := HJ4.out; have := HK2.out; omega⟩, by repeat (first | exact Drawn0.refl _ | apply Drawn0.step)⟩
              · rw [if_neg c8] at H
                have c8b0 : ((Int.tmod x5_2 2) == 0) = false := beq_eq_false_iff_ne.mpr c8
                have c8b1 : ((Int.tmod x5_2 2) != 0) = true := bne_iff_ne.mpr c8
                by_cases c9 : ((a0 / 9223372036854775808) == 1) = true
                · rw [if_pos c9] at H
                  have c9b0 : ((a0 / 9223372036854775808) == 1) = true := c9
                  (try (have c9b1 : decide ((a0 / 9223372036854775808) = 1) = true := by simpa using c9))
                  (try (have c9b2 : ((a0 / 9223372036854775808) == 1) = true := by simpa using c9))
                  clear c9
                  simp only [Option.some.injEq, Prod.mk.injEq] at H
                  obtain ⟨rfl, rfl, rfl⟩ := H
                  go_wp2
                  go_ret3
                  exact ⟨by first | rfl | (simp; done) | (simp [*]; done), by repeat (first | exact Drawn0.refl _ | apply Drawn0.step)⟩
                · rw [if_neg c9] at H
                  have c9b0 : ((a0 / 9223372036854775808) == 1) = false := by simpa using c9
                  (try (have c9b1 : decide ((a0 / 9223372036854775808) = 1) = false := by simpa using c9))
                  (try (have c9b2 : ((a0 / 9223372036854775808) == 1) = false := by simpa using c9))
                  (try (have c9b3 : ¬ ((a0 / 9223372036854775808) = 1) := by simpa using c9))
                  clear c9
                  simp only [Option.some.injEq, Prod.mk.injEq] at H
                  obtain ⟨rfl, rfl, rfl⟩ := H
                  go_wp2
                  go_ret3
                  exact ⟨by first | rfl | (simp; done) | (simp [*]; done), by repeat (first | exact Drawn0.refl _ | apply Drawn0.step)⟩

/-! ### depotref04_size: function 34 -/
def depotref04_size.f (a0 : Int) : Option (Int) := if a0 < 0 then (some (IntKind.u64.wrap ((IntKind.u64.wrap (wrap64 (-(wrap64 (a0 + 1))))) + 1))) else (some (IntKind.u64.wrap (a0)))
set_option maxHeartbeats 8000000 in
set_option maxRecDepth 100000 in
theorem depotref04_size.calls (a0 : Int) (r : Int) (w : World) (h : depotref04_size.f a0 = some r) :
    Calls Tryd.prog 34 #[.int .i64 a0] w fun e w' => e = .returned (.int .u64 r) ∧ Drawn0 w w' := by
  have H : (if a0 < 0 then (some (IntKind.u64.wrap ((IntKind.u64.wrap (wrap64 (-(wrap64 (a0 + 1))))) + 1))) else (some (IntKind.u64.wrap (a0)))) = some r := h
  clear h
  by_cases c2 : a0 < 0
  · rw [if_pos c2] at H
    have c2b0 : decide (a0 < 0) = true := decide_eq_true c2
    clear c2
    obtain rfl := Option.some.inj H
    go_enter Tryd.func34, Tryd.ntmps34
    go_wp2
    go_ret
    exact ⟨by first | rfl | (simp; done) | (simp [*]; done), by repeat (first | exact Drawn0.refl _ | apply Drawn0.step)⟩
  · rw [if_neg c2] at H
    have c2b0 : decide (a0 < 0) = false := decide_eq_false c2
    clear c2
    obtain rfl := Option.some.inj H
    go_enter Tryd.func34, Tryd.ntmps34
    go_wp2
    go_ret
    exact ⟨by first | rfl | (simp; done) | (simp [*]; done), by repeat (first | exact Drawn0.refl _ | apply Drawn0.step)⟩

/-! ### depotref04_ToInt: function 17 -/
mutual
def depotref04_ToInt.j1 : Nat → Int → Int → Int → Option (Int × Int)
  | 0, _, _, _ => none
  | k + 1, x4, x5, x7 => depotref04_ToInt.l1 k x4 x7 x5
def depotref04_ToInt.l1 : Nat → Int → Int → Int → Option (Int × Int)
  | 0, _, _, _ => none
  | k + 1, x4, x7, x9 => if x9 > 0 then (depotref04_ToInt.j3 k x4 x7 x9 (decide (x7 > 0))) else (depotref04_ToInt.j3 k x4 x7 x9 false)
def depotref04_ToInt.j3 : Nat → Int → Int → Int → Bool → Option (Int × Int)
  | 0, _, _, _, _ => none
  | k + 1, x4, x7, x9, x39 => if x39 = true then (if x7 ≥ 9223372036854775808 then (some (0, 1)) else (depotref04_ToInt.l1 k x4 (IntKind.u64.wrap (x7 * 2)) (wrap64 (x9 - 1)))) else (if x4 < 0 then (if x7 > 9223372036854775808 then (some (0, 1)) else (some (wrap64 ((wrap64 (-(wrap64 (IntKind.u64.wrap (x7 - 1))))) - 1), 0))) else (if x7 ≥ 9223372036854775808 then (some (0, 1)) else (some (wrap64 (x7), 0))))
def depotref04_ToInt.l0 : Nat → Int → Int → Int → Int → Option (Int × Int)
  | 0, _, _, _, _ => none
  | k + 1, x4, x5, x7, x8 => if x8 < 0 then (if x7 > 0 then (depotref04_ToInt.l0 k x4 x5 (IntKind.u64.wrap (Int.tdiv x7 2)) (wrap64 (x8 + 1))) else (depotref04_ToInt.j1 k x4 x5 x7)) else (depotref04_ToInt.j1 k x4 x5 x7)
end
def depotref04_ToInt.f (k : Nat) (a0 : Int) : Option (Int × Int) := (depotref04_Parts.f k a0).bind fun bt101 => (if bt101.2.2 = 3 then (some (0, 40)) else (if bt101.2.2 = 0 then ((depotref04_size.f bt101.1).bind fun t104 => (depotref04_ToInt.l0 k bt101.1 bt101.2.1 t104 bt101.2.1)) else (some (0, 1))))
theorem depotref04_ToInt.mono_l : ∀ k, (∀ y0 y1 y2, LeO (depotref04_ToInt.j1 k y0 y1 y2) (depotref04_ToInt.j1 (k + 1) y0 y1 y2)) ∧ (∀ y0 y1 y2, LeO (depotref04_ToInt.l1 k y0 y1 y2) (depotref04_ToInt.l1 (k + 1) y0 y1 y2)) ∧ (∀ y0 y1 y2 y3, LeO (depotref04_ToInt.j3 k y0 y1 y2 y3) (depotref04_ToInt.j3 (k + 1) y0 y1 y2 y3)) ∧ (∀ y0 y1 y2 y3, LeO (depotref04_ToInt.l0 k y0 y1 y2 y3) (depotref04_ToInt.l0 (k + 1) y0 y1 y2 y3))
  | 0 => ⟨fun _ _ _ r h => by simp [depotref04_ToInt.j1] at h, fun _ _ _ r h => by simp [depotref04_ToInt.l1] at h, fun _ _ _ _ r h => by simp [depotref04_ToInt.j3] at h, fun _ _ _ _ r h => by simp [depotref04_ToInt.l0] at h⟩
  | k + 1 => by
    obtain ⟨ih0, ih1, ih2, ih3⟩ := depotref04_ToInt.mono_l k
    refine ⟨?_, ?_, ?_, ?_⟩
    · intro y0 y1 y2
      unfold depotref04_ToInt.j1
      repeat' first
      | (with_reducible exact ih0 _ _ _)
      | (with_reducible exact ih1 _ _ _)
      | (with_reducible exact ih2 _ _ _ _)
      | (with_reducible exact ih3 _ _ _ _)
      | (with_reducible exact depotref04_Parts.mono _ _)
      | (with_reducible exact LeO.refl _)
      | (with_reducible exact LeO.none _)
      | (with_reducible refine LeO.ite ?_ ?_)
      | (with_reducible refine LeO.bind ?_ (fun _ => ?_))
      | exact ih0 _ _ _
      | exact ih1 _ _ _
      | exact ih2 _ _ _ _
      | exact ih3 _ _ _ _
      | exact depotref04_Parts.mono _ _
      | exact LeO.none _
      | refine LeO.ite ?_ ?_
      | refine LeO.bind ?_ (fun _ => ?_)
    · intro y0 y1 y2
      unfold depotref04_ToInt.l1
      repeat' first
      | (with_reducible exact ih0 _ _ _)
      | (with_reducible exact ih1 _ _ _)
      | (with_reducible exact ih2 _ _ _ _)
      | (with_reducible exact ih3 _ _ _ _)
      | (with_reducible exact depotref04_Parts.mono _ _)
      | (with_reducible exact LeO.refl _)
      | (with_reducible exact LeO.none _)
      | (with_reducible refine LeO.ite ?_ ?_)
      | (with_reducible refine LeO.bind ?_ (fun _ => ?_))
      | exact ih0 _ _ _
      | exact ih1 _ _ _
      | exact ih2 _ _ _ _
      | exact ih3 _ _ _ _
      | exact depotref04_Parts.mono _ _
      | exact LeO.none _
      | refine LeO.ite ?_ ?_
      | refine LeO.bind ?_ (fun _ => ?_)
    · intro y0 y1 y2 y3
      unfold depotref04_ToInt.j3
      repeat' first
      | (with_reducible exact ih0 _ _ _)
      | (with_reducible exact ih1 _ _ _)
      | (with_reducible exact ih2 _ _ _ _)
      | (with_reducible exact ih3 _ _ _ _)
      | (with_reducible exact depotref04_Parts.mono _ _)
      | (with_reducible exact LeO.refl _)
      | (with_reducible exact LeO.none _)
      | (with_reducible refine LeO.ite ?_ ?_)
      | (with_reducible refine LeO.bind ?_ (fun _ => ?_))
      | exact ih0 _ _ _
      | exact ih1 _ _ _
      | exact ih2 _ _ _ _
      | exact ih3 _ _ _ _
      | exact depotref04_Parts.mono _ _
      | exact LeO.none _
      | refine LeO.ite ?_ ?_
      | refine LeO.bind ?_ (fun _ => ?_)
    · intro y0 y1 y2 y3
      unfold depotref04_ToInt.l0
      repeat' first
      | (with_reducible exact ih0 _ _ _)
      | (with_reducible exact ih1 _ _ _)
      | (with_reducible exact ih2 _ _ _ _)
      | (with_reducible exact ih3 _ _ _ _)
      | (with_reducible exact depotref04_Parts.mono _ _)
      | (with_reducible exact LeO.refl _)
      | (with_reducible exact LeO.none _)
      | (with_reducible refine LeO.ite ?_ ?_)
      | (with_reducible refine LeO.bind ?_ (fun _ => ?_))
      | exact ih0 _ _ _
      | exact ih1 _ _ _
      | exact ih2 _ _ _ _
      | exact ih3 _ _ _ _
      | exact depotref04_Parts.mono _ _
      | exact LeO.none _
      | refine LeO.ite ?_ ?_
      | refine LeO.bind ?_ (fun _ => ?_)
theorem depotref04_ToInt.mono : ∀ a0 k, LeO (depotref04_ToInt.f k a0) (depotref04_ToInt.f (k + 1) a0) := by
  intro a0 k
  obtain ⟨ih0, ih1, ih2, ih3⟩ := depotref04_ToInt.mono_l k
  unfold depotref04_ToInt.f
  repeat' first
      | (with_reducible exact ih0 _ _ _)
      | (with_reducible exact ih1 _ _ _)
      | (with_reducible exact ih2 _ _ _ _)
      | (with_reducible exact ih3 _ _ _ _)
      | (with_reducible exact depotref04_Parts.mono _ _)
      | (with_reducible exact LeO.refl _)
      | (with_reducible exact LeO.none _)
      | (with_reducible refine LeO.ite ?_ ?_)
      | (with_reducible refine LeO.bind ?_ (fun _ => ?_))
      | exact ih0 _ _ _
      | exact ih1 _ _ _
      | exact ih2 _ _ _ _
      | exact ih3 _ _ _ _
      | exact depotref04_Parts.mono _ _
      | exact LeO.none _
      | refine LeO.ite ?_ ?_
      | refine LeO.bind ?_ (fun _ => ?_)
set_option maxHeartbeats 8000000 in
set_option maxRecDepth 100000 in
theorem depotref04_ToInt.calls (k : Nat) (a0 : Int) (r1 : Int) (r2 : Int) (w : World) (h : depotref04_ToInt.f k a0 = some (r1, r2)) :
    Calls Tryd.prog 17 #[.int .u64 a0] w fun e w' => e = .returned (.tuple #[.int .i64 r1, .int .i64 r2]) ∧ Drawn0 w w' := by
  have H : ((depotref04_Parts.f k a0).bind fun bt101 => (if bt101.2.2 = 3 then (some (0, 40)) else (if bt101.2.2 = 0 then ((depotref04_size.f bt101.1).bind fun t104 => (depotref04_ToInt.l0 k bt101.1 bt101.2.1 t104 bt101.2.1)) else (some (0, 1))))) = some (r1, r2) := h
  clear h
  replace H := Option.bind_eq_some_iff.mp H
  obtain ⟨⟨t101, t102, t103⟩, A20, H⟩ := H
  replace H : (if t103 = 3 then (some (0, 40)) else (if t103 = 0 then ((depotref04_size.f t101).bind fun t104 => (depotref04_ToInt.l0 k t101 t102 t104 t102)) else (some (0, 1)))) = some (r1, r2) := H
  have A2 := Aside0.mk A20
  clear A20
  by_cases c3 : t103 = 3
  · rw [if_pos c3] at H
    have c3b0 : (t103 == 3) = true := beq_iff_eq.mpr c3
    have c3b1 : (t103 != 3) = false := bne_eq_false_iff_eq.mpr c3
    clear c3
    simp only [Option.some.injEq, Prod.mk.injEq] at H
    obtain ⟨rfl, rfl⟩ := H
    go_enter Tryd.func17, Tryd.ntmps17
    go_wp2_with (first | ((with_reducible refine gate_callee (f := 12) rfl ?_); refine goesL_ (some 12) rfl rfl Tryd.func12 (by kernel_rfl) rfl #[.int .u64 a0] rfl (by (try simp only [List.map_toArray, List.map_cons, List.map_nil]); first | done | rfl | (simp only [List.length_drop, List.length_take]; rfl)) ?_; (with_reducible refine (depotref04_Parts.calls k a0 t101 t102 t103 _ A2.out).mono ?_); rintro e w' ⟨rfl, ⟨nd, rfl⟩⟩; refine ⟨_, rfl, ?_⟩))
    go_ret2
    exact ⟨by first | rfl | (simp; done) | (simp [*]; done), by repeat (first | exact Drawn0.refl _ | apply Drawn0.step)⟩
  · rw [if_neg c3] at H
    have c3b0 : (t103 == 3) = false := beq_eq_false_iff_ne.mpr c3
    have c3b1 : (t103 != 3) = true := bne_iff_ne.mpr c3
    by_cases c4 : t103 = 0
    · rw [if_pos c4] at H
      have c4b0 : (t103 == 0) = true := beq_iff_eq.mpr c4
      have c4b1 : (t103 != 0) = false := bne_eq_false_iff_eq.mpr c4
      clear c4
      replace H := Option.bind_eq_some_iff.mp H
      obtain ⟨t104, A50, H⟩ := H
      replace H : (depotref04_ToInt.l0 k t101 t102 t104 t102) = some (r1, r2) := H
      have A5 := Aside0.mk A50
      clear A50
      have HC6 := Aside0.mk H
      clear H
      go_enter Tryd.func17, Tryd.ntmps17
      go_upto_block 0 with (first | ((with_reducible refine gate_callee (f := 12) rfl ?_); refine goesL_ (some 12) rfl rfl Tryd.func12 (by kernel_rfl) rfl #[.int .u64 a0] rfl (by (try simp only [List.map_toArray, List.map_cons, List.map_nil]); first | done | rfl | (simp only [List.length_drop, List.length_take]; rfl)) ?_; (with_reducible refine (depotref04_Parts.calls k a0 t101 t102 t103 _ A2.out).mono ?_); rintro e w' ⟨rfl, ⟨nd, rfl⟩⟩; refine ⟨_, rfl, ?_⟩) | ((with_reducible refine gate_callee (f := 34) rfl ?_); refine goesL_ (some 21) rfl rfl Tryd.func34 (by kernel_rfl) rfl #[.int .i64 t101] rfl (by (try simp only [List.map_toArray, List.map_cons, List.map_nil]); first | done | rfl | (simp only [List.length_drop, List.length_take]; rfl)) ?_; (with_reducible refine (depotref04_size.calls t101 t104 _ A5.out).mono ?_); rintro e w' ⟨rfl, ⟨nd, rfl⟩⟩; refine ⟨_, rfl, ?_⟩))
      (try simp only [Act.put, List.setIfInBounds_toArray, List.set_cons_zero, List.set_cons_succ])
      go_cut [7] (fun v7 wc => ∃ (kq : Nat) (x7_5 : Int), v7 = .int .u64 x7_5 ∧ Aside0 (depotref04_ToInt.j1 kq t101 t102 x7_5 = some (r1, r2)) ∧ Aside0 (kq ≤ k) ∧ Drawn0 w wc)
      case first =>
        have H := HC6.out
        clear HC6
        have H' := Aside0.mk H
        clear H
        go_wp2
        go_loopg [7, 8] k (fun kq v7 v8 w' => ∃ (x7_1 : Int) (x8_1 : Int), v7 = .int .u64 x7_1 ∧ v8 = .int .i64 x8_1 ∧ Aside0 (depotref04_ToInt.l0 kq t101 t102 x7_1 x8_1 = some (r1, r2)) ∧ Aside0 (kq ≤ k) ∧ Drawn0 w w')
        case atStart => exact ⟨(t104), (t102), (by first | rfl | (simp; done) | (simp [*]; done)), (by first | rfl | (simp; done) | (simp [*]; done)), H', ⟨Nat.le_refl _⟩, by repeat (first | exact Drawn0.refl _ | apply Drawn0.step)⟩
        case round =>
          clear H'
          try clear c1
          try clear p2
          try clear c3
          try clear c3b0
          try clear c3b1
          try clear c4
          try clear c4b0
          try clear c4b1
          obtain ⟨x7_1, x8_1, rfl, rfl, HA, HK1, ⟨m1, rfl⟩⟩ := hrel
          cases gk with
          | zero => exact absurd HA.out (by simp [depotref04_ToInt.l0])
          | succ k1 =>
            have H := HA.out
            clear HA
            simp only [depotref04_ToInt.l0] at H
            by_cases c7 : x8_1 < 0
            · rw [if_pos c7] at H
              have c7b0 : decide (x8_1 < 0) = true := decide_eq_true c7
              clear c7
              (first | rw [c7b0] | (simp only [i64_w, i32_w]; rw [c7b0]) | skip)
              by_cases c8 : x7_1 > 0
              · rw [if_pos c8] at H
                have c8b0 : decide (0 < x7_1) = true := decide_eq_true c8
                clear c8
                have H' := Aside0.mk H
                clear H
                go_wp2
                go_roundg k1
                case measure => have := HK1.out; omega
                case rel => exact ⟨(IntKind.u64.wrap (Int.tdiv x7_1 2)), (wrap64 (x8_1 + 1)), (by first | rfl | (simp; done) | (simp [*]; done)), (by first | rfl | (simp; done) | (simp [*]; done)), H', ⟨by have := HK1.out; omega⟩, by repeat (first | exact Drawn0.refl _ | apply Drawn0.step)⟩
              · rw [if_neg c8] at H
                have c8b0 : decide (0 < x7_1) = false := decide_eq_false c8
                clear c8
                have H' := Aside0.mk H
                clear H
                go_wp2
                go_meet
                case rel => exact ⟨_, (x7_1), (by first | rfl | (simp; done) | (simp [*]; done)), H', ⟨by have := HK1.out; first | omega | exact Nat.le_refl _⟩, by repeat (first | exact Drawn0.refl _ | apply Drawn0.step)⟩
            · rw [if_neg c7] at H
              have c7b0 : decide (x8_1 < 0) = false := decide_eq_false c7
              clear c7
              (first | rw [c7b0] | (simp only [i64_w, i32_w]; rw [c7b0]) | skip)
              have H' := Aside0.mk H
              clear H
              go_wp2
              go_meet
              case rel => exact ⟨_, (x7_1), (by first | rfl | (simp; done) | (simp [*]; done)), H', ⟨by have := HK1.out; first | omega | exact Nat.le_refl _⟩, by repeat (first | exact Drawn0.refl _ | apply Drawn0.step)⟩
      case rest =>
        clear HC6
        try clear c1
        try clear p2
        try clear c3
        try clear c3b0
        try clear c3b1
        try clear c4
        try clear c4b0
        try clear c4b1
        try clear p6
        try clear c7
        try clear c7b0
        try clear c8
        try clear c8b0
        try clear p2
        obtain ⟨kq, x7_5, rfl, HA, HJ5, ⟨mc5, rfl⟩⟩ := hcut
        cases kq with
        | zero => exact absurd HA.out (by simp [depotref04_ToInt.j1])
        | succ kj5 =>
          have H := HA.out
          clear HA
          simp only [depotref04_ToInt.j1] at H
          have H' := Aside0.mk H
          clear H
          go_wp2
          go_loopg [7, 9] kj5 (fun kq v7 v9 w' => ∃ (x7_2 : Int) (x9_2 : Int), v7 = .int .u64 x7_2 ∧ v9 = .int .i64 x9_2 ∧ Aside0 (depotref04_ToInt.l1 kq t101 x7_2 x9_2 = some (r1, r2)) ∧ Aside0 (kq ≤ kj5) ∧ Drawn0 w w')
          case atStart => exact ⟨(x7_5), (t102), (by first | rfl | (simp; done) | (simp [*]; done)), (by first | rfl | (simp; done) | (simp [*]; done)), H', ⟨Nat.le_refl _⟩, by repeat (first | exact Drawn0.refl _ | apply Drawn0.step)⟩
          case round =>
            clear H'
            try clear c1
            try clear p2
            try clear c3
            try clear c3b0
            try clear c3b1
            try clear c4
            try clear c4b0
            try clear c4b1
            try clear c5
            try clear p6
            try clear c7
            try clear c7b0
            try clear c8
            try clear c8b0
            try clear p2
            try clear p6
            obtain ⟨x7_2, x9_2, rfl, rfl, HA, HK2, ⟨m2, rfl⟩⟩ := hrel
            cases gk with
            | zero => exact absurd HA.out (by simp [depotref04_ToInt.l1])
            | succ k2 =>
              have H := HA.out
              clear HA
              simp only [depotref04_ToInt.l1] at H
              have HC9 := Aside0.mk H
              clear H
              go_upto_region 12 with (fail)
              go_cut [39] (fun v39 wc => ∃ (kq : Nat) (x39_8 : Bool), v39 = .bool x39_8 ∧ Aside0 (depotref04_ToInt.j3 kq t101 x7_2 x9_2 x39_8 = some (r1, r2)) ∧ Aside0 (kq ≤ k2) ∧ Drawn0 w wc)
              case first =>
                have H := HC9.out
                clear HC9
                by_cases c10 : x9_2 > 0
                · rw [if_pos c10] at H
                  have c10b0 : decide (0 < x9_2) = true := decide_eq_true c10
                  clear c10
                  (first | rw [c10b0] | (simp only [i64_w, i32_w]; rw [c10b0]) | skip)
                  have H' := Aside0.mk H
                  clear H
                  go_wp2
                  go_meet
                  case rel => exact ⟨_, (decide (x7_2 > 0)), (by first | rfl | (simp; done) | (simp [*]; done)), H', ⟨by have := HJ5.out; have := HK2.out; first | omega | exact Nat.le_refl _⟩, by repeat (first | exact Drawn0.refl _ | apply Drawn0.step)⟩
                · rw [if_neg c10] at H
                  have c10b0 : decide (0 < x9_2) = false := decide_eq_false c10
                  clear c10
                  (first | rw [c10b0] | (simp only [i64_w, i32_w]; rw [c10b0]) | skip)
                  have H' := Aside0.mk H
                  clear H
                  go_wp2
                  go_meet
                  case rel => exact ⟨_, (false), (by first | rfl | (simp; done) | (simp [*]; done)), H', ⟨by have := HJ5.out; have := HK2.out; first | omega | exact Nat.le_refl _⟩, by repeat (first | exact Drawn0.refl _ | apply Drawn0.step)⟩
              case rest =>
                clear HC9
                try clear c1
                try clear p2
                try clear c3
                try clear c3b0
                try clear c3b1
                try clear c4
                try clear c4b0
                try clear c4b1
                try clear c5
                try clear p6
                try clear c7
                try clear c7b0
                try clear c8
                try clear c8b0
                try clear c10
                try clear c10b0
                try clear p2
                try clear p6
                obtain ⟨kq, x39_8, rfl, HA, HJ8, ⟨mc8, rfl⟩⟩ := hcut
                cases kq with
                | zero => exact absurd HA.out (by simp [depotref04_ToInt.j3])
                | succ kj8 =>
                  have H := HA.out
                  clear HA
                  simp only [depotref04_ToInt.j3] at H
                  by_cases c11 : x39_8 = true
                  · subst c11
                    have H1 : (if x7_2 ≥ 9223372036854775808 then (some (0, 1)) else (depotref04_ToInt.l1 kj8 t101 (IntKind.u64.wrap (x7_2 * 2)) (wrap64 (x9_2 - 1)))) = some (r1, r2) := by rw [if_pos rfl] at H; exact H
                    clear H
                    have H := H1
                    clear H1
                    by_cases c12 : x7_2 ≥ 9223372036854775808
                    · rw [if_pos c12] at H
                      have c12b0 : decide (9223372036854775808 ≤ x7_2) = true := decide_eq_true c12
                      clear c12
                      simp only [Option.some.injEq, Prod.mk.injEq] at H
                      obtain ⟨rfl, rfl⟩ := H
                      go_wp2
                      go_ret2
                      exact ⟨by first | rfl | (simp; done) | (simp [*]; done), by repeat (first | exact Drawn0.refl _ | apply Drawn0.step)⟩
                    · rw [if_neg c12] at H
                      have c12b0 : decide (9223372036854775808 ≤ x7_2) = false := decide_eq_false c12
                      clear c12
                      have H' := Aside0.mk H
                      clear H
                      go_wp2
                      go_roundg kj8
                      case measure => have := HJ5.out; have := HK2.out; have := HJ8.out; omega
                      case rel => exact ⟨(IntKind.u64.wrap (x7_2 * 2)), (wrap64 (x9_2 - 1)), (by first | rfl | (simp; done) | (simp [*]; done)), (by first | rfl | (simp; done) | (simp [*]; done)), H', ⟨by have := HJ5.out; have := HK2.out; have := HJ8.out; omega⟩, by repeat (first | exact Drawn0.refl _ | apply Drawn0.step)⟩
                  · replace c11 := Bool.eq_false_iff.mpr c11
                    subst c11
                    have H1 : (if t101 < 0 then (if x7_2 > 9223372036854775808 then (some (0, 1)) else (some (wrap64 ((wrap64 (-(wrap64 (IntKind.u64.wrap (x7_2 - 1))))) - 1), 0))) else (if x7_2 ≥ 9223372036854775808 then (some (0, 1)) else (some (wrap64 (x7_2), 0)))) = some (r1, r2) := by rw [if_neg (show ¬ (false = true) by decide)] at H; exact H
                    clear H
                    have H := H1
                    clear H1
                    by_cases c13 : t101 < 0
                    · rw [if_pos c13] at H
                      have c13b0 : decide (t101 < 0) = true := decide_eq_true c13
                      clear c13
                      by_cases c14 : x7_2 > 9223372036854775808
                      · rw [if_pos c14] at H
                        have c14b0 : decide (9223372036854775808 < x7_2) = true := decide_eq_true c14
                        clear c14
                        simp only [Option.some.injEq, Prod.mk.injEq] at H
                        obtain ⟨rfl, rfl⟩ := H
                        go_wp2
                        go_ret2
                        exact ⟨by first | rfl | (simp; done) | (simp [*]; done), by repeat (first | exact Drawn0.refl _ | apply Drawn0.step)⟩
                      · rw [if_neg c14] at H
                        have c14b0 : decide (9223372036854775808 < x7_2) = false := decide_eq_false c14
                        clear c14
                        simp only [Option.some.injEq, Prod.mk.injEq] at H
                        obtain ⟨rfl, rfl⟩ := H
                        go_wp2
                        go_ret2
                        exact ⟨by first | rfl | (simp; done) | (simp [*]; done), by repeat (first | exact Drawn0.refl _ | apply Drawn0.step)⟩
                    · rw [if_neg c13] at H
                      have c13b0 : decide (t101 < 0) = false := decide_eq_false c13
                      clear c13
                      by_cases c15 : x7_2 ≥ 9223372036854775808
                      · rw [if_pos c15] at H
                        have c15b0 : decide (9223372036854775808 ≤ x7_2) = true := decide_eq_true c15
                        clear c15
                        simp only [Option.some.injEq, Prod.mk.injEq] at H
                        obtain ⟨rfl, rfl⟩ := H
                        go_wp2
                        go_ret2
                        exact ⟨by first | rfl | (simp; done) | (simp [*]; done), by repeat (first | exact Drawn0.refl _ | apply Drawn0.step)⟩
                      · rw [if_neg c15] at H
                        have c15b0 : decide (9223372036854775808 ≤ x7_2) = false := decide_eq_false c15
                        clear c15
                        simp only [Option.some.injEq, Prod.mk.injEq] at H
                        obtain ⟨rfl, rfl⟩ := H
                        go_wp2
                        go_ret2
                        exact ⟨by first | rfl | (simp; done) | (simp [*]; done), by repeat (first | exact Drawn0.refl _ | apply Drawn0.step)⟩
    · rw [if_neg c4] at H
      have c4b0 : (t103 == 0) = false := beq_eq_false_iff_ne.mpr c4
      have c4b1 : (t103 != 0) = true := bne_iff_ne.mpr c4
      simp only [Option.some.injEq, Prod.mk.injEq] at H
      obtain ⟨rfl, rfl⟩ := H
      go_enter Tryd.func17, Tryd.ntmps17
      go_wp2_with (first | ((with_reducible refine gate_callee (f := 12) rfl ?_); refine goesL_ (some 12) rfl rfl Tryd.func12 (by kernel_rfl) rfl #[.int .u64 a0] rfl (by (try simp only [List.map_toArray, List.map_cons, List.map_nil]); first | done | rfl | (simp only [List.length_drop, List.length_take]; rfl)) ?_; (with_reducible refine (depotref04_Parts.calls k a0 t101 t102 t103 _ A2.out).mono ?_); rintro e w' ⟨rfl, ⟨nd, rfl⟩⟩; refine ⟨_, rfl, ?_⟩))
      go_ret2
      exact ⟨by first | rfl | (simp; done) | (simp [*]; done), by repeat (first | exact Drawn0.refl _ | apply Drawn0.step)⟩

end Go.Proofs.YtfecgfefchdapaaDoor.PToInt
