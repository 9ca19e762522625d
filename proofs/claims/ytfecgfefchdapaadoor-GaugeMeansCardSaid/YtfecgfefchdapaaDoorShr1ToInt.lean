/- Plain facts on the printed functions of depotref04: Parts. -/
import Derived.Test.YtfecgfefchdapaaDoorNear1Make
import Derived.Test.YtfecgfefchdapaaDoorPToIntx1
namespace Go.Proofs.YtfecgfefchdapaaDoor.NearToInt
open Go.RowKit Go.Proofs.YtfecgfefchdapaaDoor.PToInt Go.Proofs.YtfecgfefchdapaaDoorW.PrintWords FL Go.Proofs.YtfecgfefchdapaaDoor.NearMake

theorem strip_ev (neg : Bool) (m : Nat) (hm0 : m ≠ 0) (hm : m < 9007199254740992) : ∀ (e : Int), -5000 ≤ e → e + m ≤ 9007199254750000 →
    ∃ t o : Nat, m = o * 2 ^ t ∧ o % 2 = 1 ∧ Ev (fun k => depotref04_Parts.l0 k (m : Int) e neg) ((if neg then -(o : Int) else o), e + t, 0) := by
  induction m using Nat.strongRecOn with
  | ind m ih =>
    intro e he he2
    by_cases h : m % 2 = 1
    · refine ⟨0, m, by simp, h, Ev.step (f := fun _ => some ((if neg then -(m : Int) else m), e + (0 : Nat), 0)) (fun k => ?_) (Ev.now _)⟩
      simp only [depotref04_Parts.l0]
      rw [if_neg (by rw [Int.tmod_eq_emod_of_nonneg (by omega)]; omega)]
      cases neg
      · simp
      · have e1 : wrap64 (-(m : Int)) = -(m : Int) := by unfold wrap64; omega
        rw [e1]; simp
    · obtain ⟨t, o, h1, h2, h3⟩ := ih (m / 2) (by omega) (by omega) (by omega) (e + 1) (by omega) (by omega)
      refine ⟨t + 1, o, ?_, h2, ?_⟩
      · rw [Nat.pow_succ, ← Nat.mul_assoc, ← h1]; omega
      · rw [show e + ((t + 1 : Nat) : Int) = e + 1 + t by omega]
        refine Ev.step (fun k => ?_) h3
        simp only [depotref04_Parts.l0]
        rw [if_pos (by rw [Int.tmod_eq_emod_of_nonneg (by omega)]; omega), show (m : Int).tdiv 2 = ((m / 2 : Nat) : Int) by rw [Int.tdiv_eq_ediv_of_nonneg (by omega)]; omega,
          show wrap64 ((m / 2 : Nat) : Int) = ((m / 2 : Nat) : Int) by unfold wrap64; omega, show wrap64 (e + 1) = e + 1 by unfold wrap64; omega]

theorem parts_word (neg : Bool) (r : Nat) (hr : r < 9218868437227405312) (k : Nat) :
    depotref04_Parts.f k ((sgnW neg + r : Nat) : Int) = depotref04_Parts.j0 k (sg r : Int) ((pl r : Int) + 1) neg := by
  unfold depotref04_Parts.f
  have hs := sgnW_or neg
  have hs2 : neg = decide (sgnW neg = 9223372036854775808) := by unfold sgnW; cases neg <;> rfl
  have e1 : (((sgnW neg + r : Nat) : Int) / 4503599627370496).tmod 2048 = ((r / 4503599627370496 : Nat) : Int) := by
    rw [Int.tmod_eq_emod_of_nonneg (by omega)]; omega
  have e2 : ((sgnW neg + r : Nat) : Int).tmod 4503599627370496 = ((r % 4503599627370496 : Nat) : Int) := by
    rw [Int.tmod_eq_emod_of_nonneg (by omega)]; omega
  have e3 : ((((sgnW neg + r : Nat) : Int) / 9223372036854775808 == 1) : Bool) = neg := by
    rw [Bool.eq_iff_iff]
    conv => rhs; rw [hs2]
    simp only [beq_iff_eq, decide_eq_true_eq]
    omega
  rw [e1, e2, e3]
  have w1 : wrap64 ((r / 4503599627370496 : Nat) : Int) = ((r / 4503599627370496 : Nat) : Int) := by unfold wrap64; omega
  have w2 : wrap64 ((r % 4503599627370496 : Nat) : Int) = ((r % 4503599627370496 : Nat) : Int) := by unfold wrap64; omega
  have w3 : wrap64 (((r % 4503599627370496 : Nat) : Int) + 4503599627370496) = ((4503599627370496 + r % 4503599627370496 : Nat) : Int) := by unfold wrap64; omega
  rw [w1, w2, w3, if_neg (by omega)]
  unfold sg pl
  by_cases h : r < 4503599627370496
  · rw [if_pos (by omega), if_pos h, Nat.mod_eq_of_lt h, show r / 4503599627370496 - 1 = 0 by omega]
    rfl
  · rw [if_neg (by omega), if_neg h]
    congr 1
    omega

theorem parts_ev (neg : Bool) (r : Nat) (h0 : 0 < r) (hr : r < 9218868437227405312) :
    ∃ t o : Nat, sg r = o * 2 ^ t ∧ o % 2 = 1 ∧ Ev (fun k => depotref04_Parts.f k ((sgnW neg + r : Nat) : Int)) ((if neg then -(o : Int) else o), (pl r : Int) - 1074 + t, 0) := by
  have hs := sg_lt r
  have hp := sg_pos h0
  have hpl : pl r ≤ 2046 := by unfold pl; omega
  obtain ⟨t, o, h1, h2, h3⟩ := strip_ev neg (sg r) (by omega) hs ((pl r : Int) - 1074) (by omega) (by omega)
  refine ⟨t, o, h1, h2, Ev.congr (parts_word neg r hr) (Ev.step (fun k => ?_) h3)⟩
  simp only [depotref04_Parts.j0]
  rw [if_neg (by omega), show wrap64 ((pl r : Int) + 1 - 1075) = (pl r : Int) - 1074 by unfold wrap64; omega]

theorem parts_zero (neg : Bool) : Ev (fun k => depotref04_Parts.f k ((sgnW neg + 0 : Nat) : Int)) (0, 0, 0) := by
  refine Ev.congr (parts_word neg 0 (by omega)) (Ev.step (f := fun _ => some (0, 0, 0)) (fun k => ?_) (Ev.now _))
  simp only [depotref04_Parts.j0]
  rw [if_pos (by rfl)]

theorem wrap_nat (x : Nat) (h : x < 9007199254740992) : wrap64 (x : Int) = x := by unfold wrap64; omega
end Go.Proofs.YtfecgfefchdapaaDoor.NearToInt
