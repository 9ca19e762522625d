-- PRINTED BY print.sh 35421559b90ae4d0a3588c463048766b98c2df88dd9212a6774a882060cdf62d: not written by this session
import Derived.Test.YtfecgfefchdapaaDoorPMakex0
namespace Go.Proofs.YtfecgfefchdapaaDoor.PMake
open Go.RowKit Go.Proofs.YtfecgfefchdapaaDoorW.PrintWords Go.Proofs.YtfecgfefchdapaaDoorW.PrintLast Go.Proofs.YtfecgfefchdapaaDoorW.PrintMore
attribute [local go_sem] max2_int min2_int max_two min_two max_three min_three max_four min_four   -- for this text's walks alone
set_option linter.unusedVariables false
set_option linter.unusedSimpArgs false

/-! ### depotref04_length: function 40 -/
def depotref04_length.l0 : Nat → Int → Int → Option (Int)
  | 0, _, _ => none
  | k + 1, x0, x3 => if x0 > 0 then (depotref04_length.l0 k (IntKind.u64.wrap (Int.tdiv x0 2)) (wrap64 (x3 + 1))) else (some x3)
def depotref04_length.f (k : Nat) (a0 : Int) : Option (Int) := depotref04_length.l0 k a0 0
theorem depotref04_length.mono_l : ∀ k, (∀ y0 y1, LeO (depotref04_length.l0 k y0 y1) (depotref04_length.l0 (k + 1) y0 y1))
  | 0 => fun _ _ r h => by simp [depotref04_length.l0] at h
  | k + 1 => by
    have ih0 := depotref04_length.mono_l k
    · intro y0 y1
      unfold depotref04_length.l0
      repeat' first
      | (with_reducible exact ih0 _ _)
      | (with_reducible exact LeO.refl _)
      | (with_reducible exact LeO.none _)
      | (with_reducible refine LeO.ite ?_ ?_)
      | (with_reducible refine LeO.bind ?_ (fun _ => ?_))
      | exact ih0 _ _
      | exact LeO.none _
      | refine LeO.ite ?_ ?_
      | refine LeO.bind ?_ (fun _ => ?_)
theorem depotref04_length.mono : ∀ a0 k, LeO (depotref04_length.f k a0) (depotref04_length.f (k + 1) a0) := by
  intro a0 k
  have ih0 := depotref04_length.mono_l k
  unfold depotref04_length.f
  repeat' first
      | (with_reducible exact ih0 _ _)
      | (with_reducible exact LeO.refl _)
      | (with_reducible exact LeO.none _)
      | (with_reducible refine LeO.ite ?_ ?_)
      | (with_reducible refine LeO.bind ?_ (fun _ => ?_))
      | exact ih0 _ _
      | exact LeO.none _
      | refine LeO.ite ?_ ?_
      | refine LeO.bind ?_ (fun _ => ?_)
set_option maxHeartbeats 8000000 in
set_option maxRecDepth 100000 in
theorem depotref04_length.calls (k : Nat) (a0 : Int) (r : Int) (w : World) (h : depotref04_length.f k a0 = some r) :
    Calls Tryd.prog 40 #[.int .u64 a0] w fun e w' => e = .returned (.int .i64 r) ∧ Drawn0 w w' := by
  have H : (depotref04_length.l0 k a0 0) = some r := h
  clear h
  have H' := Aside0.mk H
  clear H
  go_enter Tryd.func40, Tryd.ntmps40
  go_wp2
  go_loopg [0, 3] k (fun kq v0 v3 w' => ∃ (x0_1 : Int) (x3_1 : Int), v0 = .int .u64 x0_1 ∧ v3 = .int .i64 x3_1 ∧ Aside0 (depotref04_length.l0 kq x0_1 x3_1 = some r) ∧ Aside0 (kq ≤ k) ∧ Drawn0 w w')
  case atStart => exact ⟨(a0), (0), (by first | rfl | (simp; done) | (simp [*]; done)), (by first | rfl | (simp; done) | (simp [*]; done)), H', ⟨Nat.le_refl _⟩, by repeat (first | exact Drawn0.refl _ | apply Drawn0.step)⟩
  case round =>
    clear H'
    obtain ⟨x0_1, x3_1, rfl, rfl, HA, HK1, ⟨m1, rfl⟩⟩ := hrel
    cases gk with
    | zero => exact absurd HA.out (by simp [depotref04_length.l0])
    | succ k1 =>
      have H := HA.out
      clear HA
      simp only [depotref04_length.l0] at H
      by_cases c2 : x0_1 > 0
      · rw [if_pos c2] at H
        have c2b0 : decide (0 < x0_1) = true := decide_eq_true c2
        clear c2
        have H' := Aside0.mk H
        clear H
        go_wp2
        go_roundg k1
        case measure => have := HK1.out; omega
        case rel => exact ⟨(IntKind.u64.wrap (Int.tdiv x0_1 2)), (wrap64 (x3_1 + 1)), (by first | rfl | (simp; done) | (simp [*]; done)), (by first | rfl | (simp; done) | (simp [*]; done)), H', ⟨by have := HK1.out; omega⟩, by repeat (first | exact Drawn0.refl _ | apply Drawn0.step)⟩
      · rw [if_neg c2] at H
        have c2b0 : decide (0 < x0_1) = false := decide_eq_false c2
        clear c2
        obtain rfl := Option.some.inj H
        go_wp2
        go_ret
        exact ⟨by first | rfl | (simp; done) | (simp [*]; done), by repeat (first | exact Drawn0.refl _ | apply Drawn0.step)⟩

/-! ### depotref04_Near: function 33 -/
mutual
def depotref04_Near.j0 : Nat → Int → Int → Bool → Int → Option (Int)
  | 0, _, _, _, _ => none
  | k + 1, x1, x2, x3, x9 => if x1 = 0 then (some x9) else (if x2 > 1100 then (some (IntKind.u64.wrap (x9 + 9218868437227405312))) else (if x2 < (-1300) then (some x9) else ((depotref04_length.f k x1).bind fun t101 => (if (wrap64 ((-1074) - x2)) > (wrap64 (t101 - 53)) then (depotref04_Near.j1 k x1 x2 x3 x9 (wrap64 ((-1074) - x2))) else (depotref04_Near.j1 k x1 x2 x3 x9 (wrap64 (t101 - 53)))))))
def depotref04_Near.j1 : Nat → Int → Int → Bool → Int → Int → Option (Int)
  | 0, _, _, _, _, _ => none
  | k + 1, x1, x2, x3, x9, x11 => depotref04_Near.l0 k x1 x2 x3 x9 x11
def depotref04_Near.l0 : Nat → Int → Int → Bool → Int → Int → Option (Int)
  | 0, _, _, _, _, _ => none
  | k + 1, x1, x2, x3, x9, x11 => if x11 < 0 then (depotref04_Near.l0 k (IntKind.u64.wrap (x1 * 2)) (wrap64 (x2 - 1)) x3 x9 (wrap64 (x11 + 1))) else (depotref04_Near.l1 k x1 x2 x3 x9 x11 false 0)
def depotref04_Near.l1 : Nat → Int → Int → Bool → Int → Int → Bool → Int → Option (Int)
  | 0, _, _, _, _, _, _, _ => none
  | k + 1, x1, x2, x3, x9, x11, x12, x13 => if x13 < x11 then (if x12 = true then (depotref04_Near.l1 k (IntKind.u64.wrap (Int.tdiv x1 2)) (wrap64 (x2 + 1)) true x9 x11 ((Int.tmod x1 2) == 1) (wrap64 (x13 + 1))) else (depotref04_Near.l1 k (IntKind.u64.wrap (Int.tdiv x1 2)) (wrap64 (x2 + 1)) x3 x9 x11 ((Int.tmod x1 2) == 1) (wrap64 (x13 + 1)))) else (if x12 = true then (if x3 = true then (depotref04_Near.j4 k x1 x2 x9 true) else (depotref04_Near.j4 k x1 x2 x9 ((Int.tmod x1 2) == 1))) else (depotref04_Near.j4 k x1 x2 x9 false))
def depotref04_Near.j4 : Nat → Int → Int → Int → Bool → Option (Int)
  | 0, _, _, _, _ => none
  | k + 1, x1, x2, x9, x65 => if x65 = true then (depotref04_Near.j5 k (IntKind.u64.wrap (x1 + 1)) x2 x9) else (depotref04_Near.j5 k x1 x2 x9)
def depotref04_Near.j5 : Nat → Int → Int → Int → Option (Int)
  | 0, _, _, _ => none
  | k + 1, x1, x2, x9 => if x1 = 9007199254740992 then (depotref04_Near.j6 k (IntKind.u64.wrap (Int.tdiv x1 2)) (wrap64 (x2 + 1)) x9) else (depotref04_Near.j6 k x1 x2 x9)
def depotref04_Near.j6 : Nat → Int → Int → Int → Option (Int)
  | 0, _, _, _ => none
  | k + 1, x1, x2, x9 => if x1 < 4503599627370496 then (some (IntKind.u64.wrap (x9 + x1))) else (if (IntKind.u64.wrap (wrap64 (x2 + 1075))) ≥ 2047 then (some (IntKind.u64.wrap (x9 + 9218868437227405312))) else (some (IntKind.u64.wrap ((IntKind.u64.wrap (x9 + (IntKind.u64.wrap ((IntKind.u64.wrap (wrap64 (x2 + 1075))) * 4503599627370496)))) + (IntKind.u64.wrap (x1 - 4503599627370496))))))
end
def depotref04_Near.f (k : Nat) (a0 : Bool) (a1 : Int) (a2 : Int) (a3 : Bool) : Option (Int) := if a0 = true then (depotref04_Near.j0 k a1 a2 a3 9223372036854775808) else (depotref04_Near.j0 k a1 a2 a3 0)
theorem depotref04_Near.mono_l : ∀ k, (∀ y0 y1 y2 y3, LeO (depotref04_Near.j0 k y0 y1 y2 y3) (depotref04_Near.j0 (k + 1) y0 y1 y2 y3)) ∧ (∀ y0 y1 y2 y3 y4, LeO (depotref04_Near.j1 k y0 y1 y2 y3 y4) (depotref04_Near.j1 (k + 1) y0 y1 y2 y3 y4)) ∧ (∀ y0 y1 y2 y3 y4, LeO (depotref04_Near.l0 k y0 y1 y2 y3 y4) (depotref04_Near.l0 (k + 1) y0 y1 y2 y3 y4)) ∧ (∀ y0 y1 y2 y3 y4 y5 y6, LeO (depotref04_Near.l1 k y0 y1 y2 y3 y4 y5 y6) (depotref04_Near.l1 (k + 1) y0 y1 y2 y3 y4 y5 y6)) ∧ (∀ y0 y1 y2 y3, LeO (depotref04_Near.j4 k y0 y1 y2 y3) (depotref04_Near.j4 (k + 1) y0 y1 y2 y3)) ∧ (∀ y0 y1 y2, LeO (depotref04_Near.j5 k y0 y1 y2) (depotref04_Near.j5 (k + 1) y0 y1 y2)) ∧ (∀ y0 y1 y2, LeO (depotref04_Near.j6 k y0 y1 y2) (depotref04_Near.j6 (k + 1) y0 y1 y2))
  | 0 => ⟨fun _ _ _ _ r h => by simp [depotref04_Near.j0] at h, fun _ _ _ _ _ r h => by simp [depotref04_Near.j1] at h, fun _ _ _ _ _ r h => by simp [depotref04_Near.l0] at h, fun _ _ _ _ _ _ _ r h => by simp [depotref04_Near.l1] at h, fun _ _ _ _ r h => by simp [depotref04_Near.j4] at h, fun _ _ _ r h => by simp [depotref04_Near.j5] at h, fun _ _ _ r h => by simp [depotref04_Near.j6] at h⟩
  | k + 1 => by
    obtain ⟨ih0, ih1, ih2, ih3, ih4, ih5, ih6⟩ := depotref04_Near.mono_l k
    refine ⟨?_, ?_, ?_, ?_, ?_, ?_, ?_⟩
    · intro y0 y1 y2 y3
      unfold depotref04_Near.j0
      repeat' first
      | (with_reducible exact ih0 _ _ _ _)
      | (with_reducible exact ih1 _ _ _ _ _)
      | (with_reducible exact ih2 _ _ _ _ _)
      | (with_reducible exact ih3 _ _ _ _ _ _ _)
      | (with_reducible exact ih4 _ _ _ _)
      | (with_reducible exact ih5 _ _ _)
      | (with_reducible exact ih6 _ _ _)
      | (with_reducible exact depotref04_length.mono _ _)
      | (with_reducible exact LeO.refl _)
      | (with_reducible exact LeO.none _)
      | (with_reducible refine LeO.ite ?_ ?_)
      | (with_reducible refine LeO.bind ?_ (fun _ => ?_))
      | exact ih0 _ _ _ _
      | exact ih1 _ _ _ _ _
      | exact ih2 _ _ _ _ _
      | exact ih3 _ _ _ _ _ _ _
      | exact ih4 _ _ _ _
      | exact ih5 _ _ _
      | exact ih6 _ _ _
      | exact depotref04_length.mono _ _
      | exact LeO.none _
      | refine LeO.ite ?_ ?_
      | refine LeO.bind ?_ (fun _ => ?_)
    · intro y0 y1 y2 y3 y4
      unfold depotref04_Near.j1
      repeat' first
      | (with_reducible exact ih0 _ _ _ _)
      | (with_reducible exact ih1 _ _ _ _ _)
      | (with_reducible exact ih2 _ _ _ _ _)
      | (with_reducible exact ih3 _ _ _ _ _ _ _)
      | (with_reducible exact ih4 _ _ _ _)
      | (with_reducible exact ih5 _ _ _)
      | (with_reducible exact ih6 _ _ _)
      | (with_reducible exact depotref04_length.mono _ _)
      | (with_reducible exact LeO.refl _)
      | (with_reducible exact LeO.none _)
      | (with_reducible refine LeO.ite ?_ ?_)
      | (with_reducible refine LeO.bind ?_ (fun _ => ?_))
      | exact ih0 _ _ _ _
      | exact ih1 _ _ _ _ _
      | exact ih2 _ _ _ _ _
      | exact ih3 _ _ _ _ _ _ _
      | exact ih4 _ _ _ _
      | exact ih5 _ _ _
      | exact ih6 _ _ _
      | exact depotref04_length.mono _ _
      | exact LeO.none _
      | refine LeO.ite ?_ ?_
      | refine LeO.bind ?_ (fun _ => ?_)
    · intro y0 y1 y2 y3 y4
      unfold depotref04_Near.l0
      repeat' first
      | (with_reducible exact ih0 _ _ _ _)
      | (with_reducible exact ih1 _ _ _ _ _)
      | (with_reducible exact ih2 _ _ _ _ _)
      | (with_reducible exact ih3 _ _ _ _ _ _ _)
      | (with_reducible exact ih4 _ _ _ _)
      | (with_reducible exact ih5 _ _ _)
      | (with_reducible exact ih6 _ _ _)
      | (with_reducible exact depotref04_length.mono _ _)
      | (with_reducible exact LeO.refl _)
      | (with_reducible exact LeO.none _)
      | (with_reducible refine LeO.ite ?_ ?_)
      | (with_reducible refine LeO.bind ?_ (fun _ => ?_))
      | exact ih0 _ _ _ _
      | exact ih1 _ _ _ _ _
      | exact ih2 _ _ _ _ _
      | exact ih3 _ _ _ _ _ _ _
      | exact ih4 _ _ _ _
      | exact ih5 _ _ _
      | exact ih6 _ _ _
      | exact depotref04_length.mono _ _
      | exact LeO.none _
      | refine LeO.ite ?_ ?_
      | refine LeO.bind ?_ (fun _ => ?_)
    · intro y0 y1 y2 y3 y4 y5 y6
      unfold depotref04_Near.l1
      repeat' first
      | (with_reducible exact ih0 _ _ _ _)
      | (with_reducible exact ih1 _ _ _ _ _)
      | (with_reducible exact ih2 _ _ _ _ _)
      | (with_reducible exact ih3 _ _ _ _ _ _ _)
      | (with_reducible exact ih4 _ _ _ _)
      | (with_reducible exact ih5 _ _ _)
      | (with_reducible exact ih6 _ _ _)
      | (with_reducible exact depotref04_length.mono _ _)
      | (with_reducible exact LeO.refl _)
      | (with_reducible exact LeO.none _)
      | (with_reducible refine LeO.ite ?_ ?_)
      | (with_reducible refine LeO.bind ?_ (fun _ => ?_))
      | exact ih0 _ _ _ _
      | exact ih1 _ _ _ _ _
      | exact ih2 _ _ _ _ _
      | exact ih3 _ _ _ _ _ _ _
      | exact ih4 _ _ _ _
      | exact ih5 _ _ _
      | exact ih6 _ _ _
      | exact depotref04_length.mono _ _
      | exact LeO.none _
      | refine LeO.ite ?_ ?_
      | refine LeO.bind ?_ (fun _ => ?_)
    · intro y0 y1 y2 y3
      unfold depotref04_Near.j4
      repeat' first
      | (with_reducible exact ih0 _ _ _ _)
      | (with_reducible exact ih1 _ _ _ _ _)
      | (with_reducible exact ih2 _ _ _ _ _)
      | (with_reducible exact ih3 _ _ _ _ _ _ _)
      | (with_reducible exact ih4 _ _ _ _)
      | (with_reducible exact ih5 _ _ _)
      | (with_reducible exact ih6 _ _ _)
      | (with_reducible exact depotref04_length.mono _ _)
      | (with_reducible exact LeO.refl _)
      | (with_reducible exact LeO.none _)
      | (with_reducible refine LeO.ite ?_ ?_)
      | (with_reducible refine LeO.bind ?_ (fun _ => ?_))
      | exact ih0 _ _ _ _
      | exact ih1 _ _ _ _ _
      | exact ih2 _ _ _ _ _
      | exact ih3 _ _ _ _ _ _ _
      | exact ih4 _ _ _ _
      | exact ih5 _ _ _
      | exact ih6 _ _ _
      | exact depotref04_length.mono _ _
      | exact LeO.none _
      | refine LeO.ite ?_ ?_
      | refine LeO.bind ?_ (fun _ => ?_)
    · intro y0 y1 y2
      unfold depotref04_Near.j5
      repeat' first
      | (with_reducible exact ih0 _ _ _ _)
      | (with_reducible exact ih1 _ _ _ _ _)
      | (with_reducible exact ih2 _ _ _ _ _)
      | (with_reducible exact ih3 _ _ _ _ _ _ _)
      | (with_reducible exact ih4 _ _ _ _)
      | (with_reducible exact ih5 _ _ _)
      | (with_reducible exact ih6 _ _ _)
      | (with_reducible exact depotref04_length.mono _ _)
      | (with_reducible exact LeO.refl _)
      | (with_reducible exact LeO.none _)
      | (with_reducible refine LeO.ite ?_ ?_)
      | (with_reducible refine LeO.bind ?_ (fun _ => ?_))
      | exact ih0 _ _ _ _
      | exact ih1 _ _ _ _ _
      | exact ih2 _ _ _ _ _
      | exact ih3 _ _ _ _ _ _ _
      | exact ih4 _ _ _ _
      | exact ih5 _ _ _
      | exact ih6 _ _ _
      | exact depotref04_length.mono _ _
      | exact LeO.none _
      | refine LeO.ite ?_ ?_
      | refine LeO.bind ?_ (fun _ => ?_)
    · intro y0 y1 y2
      unfold depotref04_Near.j6
      repeat' first
      | (with_reducible exact ih0 _ _ _ _)
      | (with_reducible exact ih1 _ _ _ _ _)
      | (with_reducible exact ih2 _ _ _ _ _)
      | (with_reducible exact ih3 _ _ _ _ _ _ _)
      | (with_reducible exact ih4 _ _ _ _)
      | (with_reducible exact ih5 _ _ _)
      | (with_reducible exact ih6 _ _ _)
      | (with_reducible exact depotref04_length.mono _ _)
      | (with_reducible exact LeO.refl _)
      | (with_reducible exact LeO.none _)
      | (with_reducible refine LeO.ite ?_ ?_)
      | (with_reducible refine LeO.bind ?_ (fun _ => ?_))
      | exact ih0 _ _ _ _
      | exact ih1 _ _ _ _ _
      | exact ih2 _ _ _ _ _
      | exact ih3 _ _ _ _ _ _ _
      | exact ih4 _ _ _ _
      | exact ih5 _ _ _
      | exact ih6 _ _ _
      | exact depotref04_length.mono _ _
      | exact LeO.none _
      | refine LeO.ite ?_ ?_
      | refine LeO.bind ?_ (fun _ => ?_)
theorem depotref04_Near.mono : ∀ a0 a1 a2 a3 k, LeO (depotref04_Near.f k a0 a1 a2 a3) (depotref04_Near.f (k + 1) a0 a1 a2 a3) := by
  intro a0 a1 a2 a3 k
  obtain ⟨ih0, ih1, ih2, ih3, ih4, ih5, ih6⟩ := depotref04_Near.mono_l k
  unfold depotref04_Near.f
  repeat' first
      | (with_reducible exact ih0 _ _ _ _)
      | (with_reducible exact ih1 _ _ _ _ _)
      | (with_reducible exact ih2 _ _ _ _ _)
      | (with_reducible exact ih3 _ _ _ _ _ _ _)
      | (with_reducible exact ih4 _ _ _ _)
      | (with_reducible exact ih5 _ _ _)
      | (with_reducible exact ih6 _ _ _)
      | (with_reducible exact depotref04_length.mono _ _)
      | (with_reducible exact LeO.refl _)
      | (with_reducible exact LeO.none _)
      | (with_reducible refine LeO.ite ?_ ?_)
      | (with_reducible refine LeO.bind ?_ (fun _ => ?_))
      | exact ih0 _ _ _ _
      | exact ih1 _ _ _ _ _
      | exact ih2 _ _ _ _ _
      | exact ih3 _ _ _ _ _ _ _
      | exact ih4 _ _ _ _
      | exact ih5 _ _ _
      | exact ih6 _ _ _
      | exact depotref04_length.mono _ _
      | exact LeO.none _
      | refine LeO.ite ?_ ?_
      | refine LeO.bind ?_ (fun _ => ?_)
set_option maxHeartbeats 8000000 in
set_option maxRecDepth 100000 in
theorem depotref04_Near.calls (k : Nat) (a0 : Bool) (a1 : Int) (a2 : Int) (a3 : Bool) (r : Int) (w : World) (h : depotref04_Near.f k a0 a1 a2 a3 = some r) :
    Calls Tryd.prog 33 #[.bool a0, .int .u64 a1, .int .i64 a2, .bool a3] w fun e w' => e = .returned (.int .u64 r) ∧ Drawn0 w w' := by
  have H : (if a0 = true then (depotref04_Near.j0 k a1 a2 a3 9223372036854775808) else (depotref04_Near.j0 k a1 a2 a3 0)) = some r := h
  clear h
  have HC5 := Aside0.mk H
  clear H
  go_enter Tryd.func33, Tryd.ntmps33
  go_upto_if 15 with (fail)
  go_cut [9] (fun v9 wc => ∃ (kq : Nat) (x9_4 : Int), v9 = .int .u64 x9_4 ∧ Aside0 (depotref04_Near.j0 kq a1 a2 a3 x9_4 = some r) ∧ Aside0 (kq ≤ k) ∧ Drawn0 w wc)
  case first =>
    have H := HC5.out
    clear HC5
    by_cases c6 : a0 = true
    · subst c6
      have H1 : (depotref04_Near.j0 k a1 a2 a3 9223372036854775808) = some r := by rw [if_pos rfl] at H; exact H
      clear H
      have H := H1
      clear H1
      have H' := Aside0.mk H
      clear H
      go_wp2
      go_meet
      case rel => exact ⟨_, (9223372036854775808), (by first | rfl | (simp; done) | (simp [*]; done)), H', ⟨by first | omega | exact Nat.le_refl _⟩, by repeat (first | exact Drawn0.refl _ | apply Drawn0.step)⟩
    · replace c6 := Bool.eq_false_iff.mpr c6
      subst c6
      have H1 : (depotref04_Near.j0 k a1 a2 a3 0) = some r := by rw [if_neg (show ¬ (false = true) by decide)] at H; exact H
      clear H
      have H := H1
      clear H1
      have H' := Aside0.mk H
      clear H
      go_wp2
      go_meet
      case rel => exact ⟨_, (0), (by first | rfl | (simp; done) | (simp [*]; done)), H', ⟨by first | omega | exact Nat.le_refl _⟩, by repeat (first | exact Drawn0.refl _ | apply Drawn0.step)⟩
  case rest =>
    clear HC5
    try clear p2
    try clear c3
    try clear c6
    obtain ⟨kq, x9_4, rfl, HA, HJ4, ⟨mc4, rfl⟩⟩ := hcut
    cases kq with
    | zero => exact absurd HA.out (by simp [depotref04_Near.j0])
    | succ kj4 =>
      have H := HA.out
      clear HA
      simp only [depotref04_Near.j0] at H
      by_cases c7 : a1 = 0
      · rw [if_pos c7] at H
        have c7b0 : (a1 == 0) = true := beq_iff_eq.mpr c7
        have c7b1 : (a1 != 0) = false := bne_eq_false_iff_eq.mpr c7
        clear c7
        obtain rfl := Option.some.inj H
        go_wp2
        go_ret
        exact ⟨by first | rfl | (simp; done) | (simp [*]; done), by repeat (first | exact Drawn0.refl _ | apply Drawn0.step)⟩
      · rw [if_neg c7] at H
        have c7b0 : (a1 == 0) = false := beq_eq_false_iff_ne.mpr c7
        have c7b1 : (a1 != 0) = true := bne_iff_ne.mpr c7
        by_cases c8 : a2 > 1100
        · rw [if_pos c8] at H
          have c8b0 : decide (1100 < a2) = true := decide_eq_true c8
          clear c8
          obtain rfl := Option.some.inj H
          go_wp2
          go_ret
          exact ⟨by first | rfl | (simp; done) | (simp [*]; done), by repeat (first | exact Drawn0.refl _ | apply Drawn0.step)⟩
        · rw [if_neg c8] at H
          have c8b0 : decide (1100 < a2) = false := decide_eq_false c8
          clear c8
          by_cases c9 : a2 < (-1300)
          · rw [if_pos c9] at H
            have c9b0 : decide (a2 < (-1300)) = true := decide_eq_true c9
            clear c9
            obtain rfl := Option.some.inj H
            go_wp2
            go_ret
            exact ⟨by first | rfl | (simp; done) | (simp [*]; done), by repeat (first | exact Drawn0.refl _ | apply Drawn0.step)⟩
          · rw [if_neg c9] at H
            have c9b0 : decide (a2 < (-1300)) = false := decide_eq_false c9
            clear c9
            replace H := Option.bind_eq_some_iff.mp H
            obtain ⟨t101, A100, H⟩ := H
            replace H : (if (wrap64 ((-1074) - a2)) > (wrap64 (t101 - 53)) then (depotref04_Near.j1 kj4 a1 a2 a3 x9_4 (wrap64 ((-1074) - a2))) else (depotref04_Near.j1 kj4 a1 a2 a3 x9_4 (wrap64 (t101 - 53)))) = some r := H
            have A10 := Aside0.mk A100
            clear A100
            have HC11 := Aside0.mk H
            clear H
            go_upto_if 33 with (first | ((with_reducible refine gate_callee (f := 40) rfl ?_); refine goesL_ (some 27) rfl rfl Tryd.func40 (by kernel_rfl) rfl #[.int .u64 a1] rfl (by (try simp only [List.map_toArray, List.map_cons, List.map_nil]); first | done | rfl | (simp only [List.length_drop, List.length_take]; rfl)) ?_; (with_reducible refine (depotref04_length.calls kj4 a1 t101 _ A10.out).mono ?_); rintro e w' ⟨rfl, ⟨nd, rfl⟩⟩; refine ⟨_, rfl, ?_⟩))
            (try simp only [Act.put, List.setIfInBounds_toArray, List.set_cons_zero, List.set_cons_succ])
            go_cut [11] (fun v11 wc => ∃ (kq : Nat) (x11_10 : Int), v11 = .int .i64 x11_10 ∧ Aside0 (depotref04_Near.j1 kq a1 a2 a3 x9_4 x11_10 = some r) ∧ Aside0 (kq ≤ kj4) ∧ Drawn0 w wc)
            case first =>
              have H := HC11.out
              clear HC11
              by_cases c12 : (wrap64 ((-1074) - a2)) > (wrap64 (t101 - 53))
              · rw [if_pos c12] at H
                have c12b0 : decide ((wrap64 (t101 - 53)) < (wrap64 ((-1074) - a2))) = true := decide_eq_true c12
                clear c12
                (first | rw [c12b0] | (simp only [i64_w, i32_w]; rw [c12b0]) | skip)
                have H' := Aside0.mk H
                clear H
                go_wp2
                go_meet
                case rel => exact ⟨_, (wrap64 ((-1074) - a2)), (by first | rfl | (simp; done) | (simp [*]; done)), H', ⟨by have := HJ4.out; first | omega | exact Nat.le_refl _⟩, by repeat (first | exact Drawn0.refl _ | apply Drawn0.step)⟩
              · rw [if_neg c12] at H
                have c12b0 : decide ((wrap64 (t101 - 53)) < (wrap64 ((-1074) - a2))) = false := decide_eq_false c12
                clear c12
                (first | rw [c12b0] | (simp only [i64_w, i32_w]; rw [c12b0]) | skip)
                have H' := Aside0.mk H
                clear H
                go_wp2
                go_meet
                case rel => exact ⟨_, (wrap64 (t101 - 53)), (by first | rfl | (simp; done) | (simp [*]; done)), H', ⟨by have := HJ4.out; first | omega | exact Nat.le_refl _⟩, by repeat (first | exact Drawn0.refl _ | apply Drawn0.step)⟩
            case rest =>
              clear HC11
              try clear c1
              try clear p2
              try clear c3
              try clear c4
              try clear c6
              try clear p6
              try clear c7
              try clear c7b0
              try clear c7b1
              try clear c8
              try clear c8b0
              try clear c9
              try clear c9b0
              try clear c12
              try clear c12b0
              try clear p2
              obtain ⟨kq, x11_10, rfl, HA, HJ10, ⟨mc10, rfl⟩⟩ := hcut
              cases kq with
              | zero => exact absurd HA.out (by simp [depotref04_Near.j1])
              | succ kj10 =>
                have H := HA.out
                clear HA
                simp only [depotref04_Near.j1] at H
                have H' := Aside0.mk H
                clear H
                go_wp2
                go_loopg [1, 2, 11] kj10 (fun kq v1 v2 v11 w' => ∃ (x1_3 : Int) (x2_3 : Int) (x11_3 : Int), v1 = .int .u64 x1_3 ∧ v2 = .int .i64 x2_3 ∧ v11 = .int .i64 x11_3 ∧ Aside0 (depotref04_Near.l0 kq x1_3 x2_3 a3 x9_4 x11_3 = some r) ∧ Aside0 (kq ≤ kj10) ∧ Drawn0 w w')
                case atStart => exact ⟨(a1), (a2), (x11_10), (by first | rfl | (simp; done) | (simp [*]; done)), (by first | rfl | (simp; done) | (simp [*]; done)), (by first | rfl | (simp; done) | (simp [*]; done)), H', ⟨Nat.le_refl _⟩, by repeat (first | exact Drawn0.refl _ | apply Drawn0.step)⟩
                case round =>
                  clear H'
                  try clear c1
                  try clear p2
                  try clear c3
                  try clear c4
                  try clear c6
                  try clear p6
                  try clear c7
                  try clear c7b0
                  try clear c7b1
                  try clear c8
                  try clear c8b0
                  try clear c9
                  try clear c9b0
                  try clear c10
                  try clear c12
                  try clear c12b0
                  try clear p2
                  try clear p6
                  obtain ⟨x1_3, x2_3, x11_3, rfl, rfl, rfl, HA, HK3, ⟨m3, rfl⟩⟩ := hrel
                  cases gk with
                  | zero => exact absurd HA.out (by simp [depotref04_Near.l0])
                  | succ k3 =>
                    have H := HA.out
                    clear HA
                    simp only [depotref04_Near.l0] at H
                    by_cases c13 : x11_3 < 0
                    · rw [if_pos c13] at H
                      have c13b0 : decide (x11_3 < 0) = true := decide_eq_true c13
                      clear c13
                      have H' := Aside0.mk H
                      clear H
                      go_wp2
                      go_roundg k3
                      case measure => have := HJ4.out; have := HJ10.out; have := HK3.out; omega
                      case rel => exact ⟨(IntKind.u64.wrap (x1_3 * 2)), (wrap64 (x2_3 - 1)), (wrap64 (x11_3 + 1)), (by first | rfl | (simp; done) | (simp [*]; done)), (by first | rfl | (simp; done) | (simp [*]; done)), (by first | rfl | (simp; done) | (simp [*]; done)), H', ⟨by have := HJ4.out; have := HJ10.out; have := HK3.out; omega⟩, by repeat (first | exact Drawn0.refl _ | apply Drawn0.step)⟩
                    · rw [if_neg c13] at H
                      have c13b0 : decide (x11_3 < 0) = false := decide_eq_false c13
                      clear c13
                      have H' := Aside0.mk H
                      clear H
                      go_wp2
                      go_loopg [1, 2, 3, 12, 13] k3 (fun kq v1 v2 v3 v12 v13 w' => ∃ (x1_4 : Int) (x2_4 : Int) (x3_4 : Bool) (x12_4 : Bool) (x13_4 : Int), v1 = .int .u64 x1_4 ∧ v2 = .int .i64 x2_4 ∧ v3 = .bool x3_4 ∧ v12 = .bool x12_4 ∧ v13 = .int .i64 x13_4 ∧ Aside0 (depotref04_Near.l1 kq x1_4 x2_4 x3_4 x9_4 x11_3 x12_4 x13_4 = some r) ∧ Aside0 (kq ≤ k3) ∧ Drawn0 w w')
                      case atStart => exact ⟨(x1_3), (x2_3), (a3), (false), (0), (by first | rfl | (simp; done) | (simp [*]; done)), (by first | rfl | (simp; done) | (simp [*]; done)), (by first | rfl | (simp; done) | (simp [*]; done)), (by first | rfl | (simp; done) | (simp [*]; done)), (by first | rfl | (simp; done) | (simp [*]; done)), H', ⟨Nat.le_refl _⟩, by repeat (first | exact Drawn0.refl _ | apply Drawn0.step)⟩
                      case round =>
                        clear H'
                        try clear c1
                        try clear p2
                        try clear c3
                        try clear c4
                        try clear c6
                        try clear p6
                        try clear c7
                        try clear c7b0
                        try clear c7b1
                        try clear c8
                        try clear c8b0
                        try clear c9
                        try clear c9b0
                        try clear c10
                        try clear c12
                        try clear c12b0
                        try clear c13
                        try clear c13b0
                        try clear p2
                        try clear p6
                        obtain ⟨x1_4, x2_4, x3_4, x12_4, x13_4, rfl, rfl, rfl, rfl, rfl, HA, HK4, ⟨m4, rfl⟩⟩ := hrel
                        cases gk with
                        | zero => exact absurd HA.out (by simp [depotref04_Near.l1])
                        | succ k4 =>
                          have H := HA.out
                          clear HA
                          simp only [depotref04_Near.l1] at H
                          by_cases c14 : x13_4 < x11_3
                          · rw [if_pos c14] at H
                            have c14b0 : decide (x13_4 < x11_3) = true := decide_eq_true c14
                            clear c14
                            by_cases c15 : x12_4 = true
                            · subst c15
                              have H1 : (depotref04_Near.l1 k4 (IntKind.u64.wrap (Int.tdiv x1_4 2)) (wrap64 (x2_4 + 1)) true x9_4 x11_3 ((Int.tmod x1_4 2) == 1) (wrap64 (x13_4 + 1))) = some r := by rw [if_pos rfl] at H; exact H
                              clear H
                              have H := H1
                              clear H1
                              have H' := Aside0.mk H
                              clear H
                              go_wp2
                              go_roundg k4
                              case measure => have := HJ4.out; have := HJ10.out; have := HK3.out; have := HK4.out; omega
                              case rel => exact ⟨(IntKind.u64.wrap (Int.tdiv x1_4 2)), (wrap64 (x2_4 + 1)), (true), (((Int.tmod x1_4 2) == 1)), (wrap64 (x13_4 + 1)), (by first | rfl | (simp; done) | (simp [*]; done)), (by first | rfl | (simp; done) | (simp [*]; done)), (by first | rfl | (simp; done) | (simp [*]; done)), (by first | rfl | (simp; done) | (simp [*]; done)), (by first | rfl | (simp; done) | (simp [*]; done)), H', ⟨by have := HJ4.out; have := HJ10.out; have := HK3.out; have := HK4.out; omega⟩, by repeat (first | exact Drawn0.refl _ | apply Drawn0.step)⟩
                            · replace c15 := Bool.eq_false_iff.mpr c15
                              subst c15
                              have H1 : (depotref04_Near.l1 k4 (IntKind.u64.wrap (Int.tdiv x1_4 2)) (wrap64 (x2_4 + 1)) x3_4 x9_4 x11_3 ((Int.tmod x1_4 2) == 1) (wrap64 (x13_4 + 1))) = some r := by rw [if_neg (show ¬ (false = true) by decide)] at H; exact H
                              clear H
                              have H := H1
                              clear H1
                              have H' := Aside0.mk H
                              clear H
                              go_wp2
                              go_roundg k4
                              case measure => have := HJ4.out; have := HJ10.out; have := HK3.out; have := HK4.out; omega
                              case rel => exact ⟨(IntKind.u64.wrap (Int.tdiv x1_4 2)), (wrap64 (x2_4 + 1)), (x3_4), (((Int.tmod x1_4 2) == 1)), (wrap64 (x13_4 + 1)), (by first | rfl | (simp; done) | (simp [*]; done)), (by first | rfl | (simp; done) | (simp [*]; done)), (by first | rfl | (simp; done) | (simp [*]; done)), (by first | rfl | (simp; done) | (simp [*]; done)), (by first | rfl | (simp; done) | (simp [*]; done)), H', ⟨by have := HJ4.out; have := HJ10.out; have := HK3.out; have := HK4.out; omega⟩, by repeat (first | exact Drawn0.refl _ | apply Drawn0.step)⟩
                          · rw [if_neg c14] at H
                            have c14b0 : decide (x13_4 < x11_3) = false := decide_eq_false c14
                            clear c14
                            have HC16 := Aside0.mk H
                            clear H
                            go_upto_region 27 with (fail)
                            go_cut [65] (fun v65 wc => ∃ (kq : Nat) (x65_15 : Bool), v65 = .bool x65_15 ∧ Aside0 (depotref04_Near.j4 kq x1_4 x2_4 x9_4 x65_15 = some r) ∧ Aside0 (kq ≤ k4) ∧ Drawn0 w wc)
                            case first =>
                              have H := HC16.out
                              clear HC16
                              by_cases c17 : x12_4 = true
                              · subst c17
                                have H1 : (if x3_4 = true then (depotref04_Near.j4 k4 x1_4 x2_4 x9_4 true) else (depotref04_Near.j4 k4 x1_4 x2_4 x9_4 ((Int.tmod x1_4 2) == 1))) = some r := by rw [if_pos rfl] at H; exact H
                                clear H
                                have H := H1
                                clear H1
                                by_cases c18 : x3_4 = true
                                · subst c18
                                  have H1 : (depotref04_Near.j4 k4 x1_4 x2_4 x9_4 true) = some r := by rw [if_pos rfl] at H; exact H
                                  clear H
                                  have H := H1
                                  clear H1
                                  have H' := Aside0.mk H
                                  clear H
                                  go_wp2
                                  go_meet
                                  case rel => exact ⟨_, (true), (by first | rfl | (simp; done) | (simp [*]; done)), H', ⟨by have := HJ4.out; have := HJ10.out; have := HK3.out; have := HK4.out; first | omega | exact Nat.le_refl _⟩, by repeat (first | exact Drawn0.refl _ | apply Drawn0.step)⟩
                                · replace c18 := Bool.eq_false_iff.mpr c18
                                  subst c18
                                  have H1 : (depotref04_Near.j4 k4 x1_4 x2_4 x9_4 ((Int.tmod x1_4 2) == 1)) = some r := by rw [if_neg (show ¬ (false = true) by decide)] at H; exact H
                                  clear H
                                  have H := H1
                                  clear H1
                                  have H' := Aside0.mk H
                                  clear H
                                  go_wp2
                                  go_meet
                                  case rel => exact ⟨_, (((Int.tmod x1_4 2) == 1)), (by first | rfl | (simp; done) | (simp [*]; done)), H', ⟨by have := HJ4.out; have := HJ10.out; have := HK3.out; have := HK4.out; first | omega | exact Nat.le_refl _⟩, by repeat (first | exact Drawn0.refl _ | apply Drawn0.step)⟩
                              · replace c17 := Bool.eq_false_iff.mpr c17
                                subst c17
                                have H1 : (depotref04_Near.j4 k4 x1_4 x2_4 x9_4 false) = some r := by rw [if_neg (show ¬ (false = true) by decide)] at H; exact H
                                clear H
                                have H := H1
                                clear H1
                                have H' := Aside0.mk H
                                clear H
                                go_wp2
                                go_meet
                                case rel => exact ⟨_, (false), (by first | rfl | (simp; done) | (simp [*]; done)), H', ⟨by have := HJ4.out; have := HJ10.out; have := HK3.out; have := HK4.out; first | omega | exact Nat.le_refl _⟩, by repeat (first | exact Drawn0.refl _ | apply Drawn0.step)⟩
                            case rest =>
                              clear HC16
                              try clear c1
                              try clear p2
                              try clear c3
                              try clear c4
                              try clear c6
                              try clear p6
                              try clear c7
                              try clear c7b0
                              try clear c7b1
                              try clear c8
                              try clear c8b0
                              try clear c9
                              try clear c9b0
                              try clear c10
                              try clear c12
                              try clear c12b0
                              try clear c13
                              try clear c13b0
                              try clear c14
                              try clear c14b0
                              try clear c15
                              try clear c17
                              try clear c18
                              try clear p2
                              try clear p6
                              obtain ⟨kq, x65_15, rfl, HA, HJ15, ⟨mc15, rfl⟩⟩ := hcut
                              cases kq with
                              | zero => exact absurd HA.out (by simp [depotref04_Near.j4])
                              | succ kj15 =>
                                have H := HA.out
                                clear HA
                                simp only [depotref04_Near.j4] at H
                                have HC19 := Aside0.mk H
                                clear H
                                go_upto_if 65 with (fail)
                                go_cut [1] (fun v1 wc => ∃ (kq : Nat) (x1_18 : Int), v1 = .int .u64 x1_18 ∧ Aside0 (depotref04_Near.j5 kq x1_18 x2_4 x9_4 = some r) ∧ Aside0 (kq ≤ kj15) ∧ Drawn0 w wc)
                                case first =>
                                  have H := HC19.out
                                  clear HC19
                                  by_cases c20 : x65_15 = true
                                  · subst c20
                                    have H1 : (depotref04_Near.j5 kj15 (IntKind.u64.wrap (x1_4 + 1)) x2_4 x9_4) = some r := by rw [if_pos rfl] at H; exact H
                                    clear H
                                    have H := H1
                                    clear H1
                                    have H' := Aside0.mk H
                                    clear H
                                    go_wp2
                                    go_meet
                                    case rel => exact ⟨_, (IntKind.u64.wrap (x1_4 + 1)), (by first | rfl | (simp; done) | (simp [*]; done)), H', ⟨by have := HJ4.out; have := HJ10.out; have := HK3.out; have := HK4.out; have := HJ15.out; first | omega | exact Nat.le_refl _⟩, by repeat (first | exact Drawn0.refl _ | apply Drawn0.step)⟩
                                  · replace c20 := Bool.eq_false_iff.mpr c20
                                    subst c20
                                    have H1 : (depotref04_Near.j5 kj15 x1_4 x2_4 x9_4) = some r := by rw [if_neg (show ¬ (false = true) by decide)] at H; exact H
                                    clear H
                                    have H := H1
                                    clear H1
                                    have H' := Aside0.mk H
                                    clear H
                                    go_wp2
                                    go_meet
                                    case rel => exact ⟨_, (x1_4), (by first | rfl | (simp; done) | (simp [*]; done)), H', ⟨by have := HJ4.out; have := HJ10.out; have := HK3.out; have := HK4.out; have := HJ15.out; first | omega | exact Nat.le_refl _⟩, by repeat (first | exact Drawn0.refl _ | apply Drawn0.step)⟩
                                case rest =>
                                  clear HC19
                                  try clear c1
                                  try clear c2
                                  try clear p2
                                  try clear c3
                                  try clear c4
                                  try clear c6
                                  try clear p6
                                  try clear c7
                                  try clear c7b0
                                  try clear c7b1
                                  try clear c8
                                  try clear c8b0
                                  try clear c9
                                  try clear c9b0
                                  try clear c10
                                  try clear c12
                                  try clear c12b0
                                  try clear c13
                                  try clear c13b0
                                  try clear c14
                                  try clear c14b0
                                  try clear c15
                                  try clear c17
                                  try clear c18
                                  try clear c20
                                  try clear p2
                                  try clear p6
                                  obtain ⟨kq, x1_18, rfl, HA, HJ18, ⟨mc18, rfl⟩⟩ := hcut
                                  cases kq with
                                  | zero => exact absurd HA.out (by simp [depotref04_Near.j5])
                                  | succ kj18 =>
                                    have H := HA.out
                                    clear HA
                                    simp only [depotref04_Near.j5] at H
                                    have HC21 := Aside0.mk H
                                    clear H
                                    go_upto_if 69 with (fail)
                                    go_cut [1, 2] (fun v1 v2 wc => ∃ (kq : Nat) (x1_20 : Int) (x2_20 : Int), v1 = .int .u64 x1_20 ∧ v2 = .int .i64 x2_20 ∧ Aside0 (depotref04_Near.j6 kq x1_20 x2_20 x9_4 = some r) ∧ Aside0 (kq ≤ kj18) ∧ Drawn0 w wc)
                                    case first =>
                                      have H := HC21.out
                                      clear HC21
                                      by_cases c22 : x1_18 = 9007199254740992
                                      · rw [if_pos c22] at H
                                        have c22b0 : (x1_18 == 9007199254740992) = true := beq_iff_eq.mpr c22
                                        have c22b1 : (x1_18 != 9007199254740992) = false := bne_eq_false_iff_eq.mpr c22
                                        clear c22
                                        (first | rw [c22b0] | (simp only [i64_w, i32_w]; rw [c22b0]) | skip)
                                        have H' := Aside0.mk H
                                        clear H
                                        go_wp2
                                        go_meet
                                        case rel => exact ⟨_, (IntKind.u64.wrap (Int.tdiv x1_18 2)), (wrap64 (x2_4 + 1)), (by first | rfl | (simp; done) | (simp [*]; done)), (by first | rfl | (simp; done) | (simp [*]; done)), H', ⟨by have := HJ4.out; have := HJ10.out; have := HK3.out; have := HK4.out; have := HJ15.out; have := HJ18.out; first | omega | exact Nat.le_refl _⟩, by repeat (first | exact Drawn0.refl _ | apply Drawn0.step)⟩
                                      · rw [if_neg c22] at H
                                        have c22b0 : (x1_18 == 9007199254740992) = false := beq_eq_false_iff_ne.mpr c22
                                        have c22b1 : (x1_18 != 9007199254740992) = true := bne_iff_ne.mpr c22
                                        (first | rw [c22b0] | (simp only [i64_w, i32_w]; rw [c22b0]) | skip)
                                        have H' := Aside0.mk H
                                        clear H
                                        go_wp2
                                        go_meet
                                        case rel => exact ⟨_, (x1_18), (x2_4), (by first | rfl | (simp; done) | (simp [*]; done)), (by first | rfl | (simp; done) | (simp [*]; done)), H', ⟨by have := HJ4.out; have := HJ10.out; have := HK3.out; have := HK4.out; have := HJ15.out; have := HJ18.out; first | omega | exact Nat.le_refl _⟩, by repeat (first | exact Drawn0.refl _ | apply Drawn0.step)⟩
                                    case rest =>
                                      clear HC21
                                      try clear c1
                                      try clear c2
                                      try clear p2
                                      try clear c3
                                      try clear c4
                                      try clear c6
                                      try clear p6
                                      try clear c7
                                      try clear c7b0
                                      try clear c7b1
                                      try clear c8
                                      try clear c8b0
                                      try clear c9
                                      try clear c9b0
                                      try clear c10
                                      try clear c12
                                      try clear c12b0
                                      try clear c13
                                      try clear c13b0
                                      try clear c14
                                      try clear c14b0
                                      try clear c15
                                      try clear c17
                                      try clear c18
                                      try clear c20
                                      try clear c22
                                      try clear c22b0
                                      try clear c22b1
                                      try clear p2
                                      try clear p6
                                      obtain ⟨kq, x1_20, x2_20, rfl, rfl, HA, HJ20, ⟨mc20, rfl⟩⟩ := hcut
                                      cases kq with
                                      | zero => exact absurd HA.out (by simp [depotref04_Near.j6])
                                      | succ kj20 =>
                                        have H := HA.out
                                        clear HA
                                        simp only [depotref04_Near.j6] at H
                                        by_cases c23 : x1_20 < 4503599627370496
                                        · rw [if_pos c23] at H
                                          have c23b0 : decide (x1_20 < 4503599627370496) = true := decide_eq_true c23
                                          clear c23
                                          obtain rfl := Option.some.inj H
                                          go_wp2
                                          go_ret
                                          exact ⟨by first | rfl | (simp; done) | (simp [*]; done), by repeat (first | exact Drawn0.refl _ | apply Drawn0.step)⟩
                                        · rw [if_neg c23] at H
                                          have c23b0 : decide (x1_20 < 4503599627370496) = false := decide_eq_false c23
                                          clear c23
                                          by_cases c24 : (IntKind.u64.wrap (wrap64 (x2_20 + 1075))) ≥ 2047
                                          · rw [if_pos c24] at H
                                            have c24b0 : decide (2047 ≤ (IntKind.u64.wrap (wrap64 (x2_20 + 1075)))) = true := decide_eq_true c24
                                            clear c24
                                            obtain rfl := Option.some.inj H
                                            go_wp2
                                            go_ret
                                            exact ⟨by first | rfl | (simp; done) | (simp [*]; done), by repeat (first | exact Drawn0.refl _ | apply Drawn0.step)⟩
                                          · rw [if_neg c24] at H
                                            have c24b0 : decide (2047 ≤ (IntKind.u64.wrap (wrap64 (x2_20 + 1075)))) = false := decide_eq_false c24
                                            clear c24
                                            obtain rfl := Option.some.inj H
                                            go_wp2
                                            go_ret
                                            exact ⟨by first | rfl | (simp; done) | (simp [*]; done), by repeat (first | exact Drawn0.refl _ | apply Drawn0.step)⟩

/-! ### depotref04_size: function 34 -/
def depotref04_size.f (a0 : Int) : Option (Int) := if a0 < 0 then (some (IntKind.u64.wrap ((IntKind.u64.wrap (wrap64 (-(wrap64 (a0 + 1))))) + 1))) else (some (IntKind.u64.wrap (a0)))
set_option maxHeartbeats 8000000 in
set_option maxRecDepth 100000 in
theorem depotref04_size.calls (a0 : Int) (r : Int) (w : World) (h : depotref04_size.f a0 = some r) :
    Calls Tryd.prog 34 #[.int .i64 a0] w fun e w' => e = .returned (.int .u64 r) ∧ Drawn0 w w' := by
  have H : (if a0 < 0 then (some (IntKind.u64.wrap ((IntKind.u64.wrap (wrap64 (-(wrap64 (a0 + 1))))) + 1))) else (some (IntKind.u64.wrap (a0)))) = some r := h
  clear h
  by_cases c2 : a0 < 0
  · rw [if_pos c2] at H
    have c2b0 : decide (a0 < 0) = true := decide_eq_true c2
    clear c2
    obtain rfl := Option.some.inj H
    go_enter Tryd.func34, Tryd.ntmps34
    go_wp2
    go_ret
    exact ⟨by first | rfl | (simp; done) | (simp [*]; done), by repeat (first | exact Drawn0.refl _ | apply Drawn0.step)⟩
  · rw [if_neg c2] at H
    have c2b0 : decide (a0 < 0) = false := decide_eq_false c2
    clear c2
    obtain rfl := Option.some.inj H
    go_enter Tryd.func34, Tryd.ntmps34
    go_wp2
    go_ret
    exact ⟨by first | rfl | (simp; done) | (simp [*]; done), by repeat (first | exact Drawn0.refl _ | apply Drawn0.step)⟩

/-! ### depotref04_Make: function 15 -/
def depotref04_Make.f (k : Nat) (a0 : Int) (a1 : Int) : Option (Int) := (depotref04_size.f a0).bind fun t102 => ((depotref04_Near.f k (decide (a0 < 0)) t102 a1 false).bind fun t103 => (some t103))
theorem depotref04_Make.mono : ∀ a0 a1 k, LeO (depotref04_Make.f k a0 a1) (depotref04_Make.f (k + 1) a0 a1) := by
  intro a0 a1 k
  unfold depotref04_Make.f
  repeat' first
      | (with_reducible exact depotref04_Near.mono _ _ _ _ _)
      | (with_reducible exact LeO.refl _)
      | (with_reducible exact LeO.none _)
      | (with_reducible refine LeO.ite ?_ ?_)
      | (with_reducible refine LeO.bind ?_ (fun _ => ?_))
      | exact depotref04_Near.mono _ _ _ _ _
      | exact LeO.none _
      | refine LeO.ite ?_ ?_
      | refine LeO.bind ?_ (fun _ => ?_)
set_option maxHeartbeats 8000000 in
set_option maxRecDepth 100000 in
theorem depotref04_Make.calls (k : Nat) (a0 : Int) (a1 : Int) (r : Int) (w : World) (h : depotref04_Make.f k a0 a1 = some r) :
    Calls Tryd.prog 15 #[.int .i64 a0, .int .i64 a1] w fun e w' => e = .returned (.int .u64 r) ∧ Drawn0 w w' := by
  have H : ((depotref04_size.f a0).bind fun t102 => ((depotref04_Near.f k (decide (a0 < 0)) t102 a1 false).bind fun t103 => (some t103))) = some r := h
  clear h
  replace H := Option.bind_eq_some_iff.mp H
  obtain ⟨t102, A30, H⟩ := H
  replace H : ((depotref04_Near.f k (decide (a0 < 0)) t102 a1 false).bind fun t103 => (some t103)) = some r := H
  have A3 := Aside0.mk A30
  clear A30
  replace H := Option.bind_eq_some_iff.mp H
  obtain ⟨t103, A40, H⟩ := H
  replace H : (some t103) = some r := H
  have A4 := Aside0.mk A40
  clear A40
  obtain rfl := Option.some.inj H
  go_enter Tryd.func15, Tryd.ntmps15
  go_wp2_with (first | ((with_reducible refine gate_callee (f := 34) rfl ?_); refine goesL_ (some 8) rfl rfl Tryd.func34 (by kernel_rfl) rfl #[.int .i64 a0] rfl (by (try simp only [List.map_toArray, List.map_cons, List.map_nil]); first | done | rfl | (simp only [List.length_drop, List.length_take]; rfl)) ?_; (with_reducible refine (depotref04_size.calls a0 t102 _ A3.out).mono ?_); rintro e w' ⟨rfl, ⟨nd, rfl⟩⟩; refine ⟨_, rfl, ?_⟩) | ((with_reducible refine gate_callee (f := 33) rfl ?_); refine goesL_ (some 10) rfl rfl Tryd.func33 (by kernel_rfl) rfl #[.bool (decide (a0 < 0)), .int .u64 t102, .int .i64 a1, .bool false] rfl (by (try simp only [List.map_toArray, List.map_cons, List.map_nil]); first | done | rfl | (simp only [List.length_drop, List.length_take]; rfl)) ?_; (with_reducible refine (depotref04_Near.calls k (decide (a0 < 0)) t102 a1 false t103 _ A4.out).mono ?_); rintro e w' ⟨rfl, ⟨nd, rfl⟩⟩; refine ⟨_, rfl, ?_⟩))
  go_ret
  exact ⟨by first | rfl | (simp; done) | (simp [*]; done), by repeat (first | exact Drawn0.refl _ | apply Drawn0.step)⟩

end Go.Proofs.YtfecgfefchdapaaDoor.PMake
