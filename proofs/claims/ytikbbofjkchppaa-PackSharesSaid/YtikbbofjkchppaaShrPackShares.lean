/- Plain facts on the printed functions of depotref04: Parts and Share. -/
import Derived.Test.YtikbbofjkchppaaNearPackShares
namespace Go.Proofs.Ytikbbofjkchppaa.NearPackShares
open Go.RowKit Go.Proofs.Ytikbbofjkchppaa.PPackShares Go.Proofs.YtikbbofjkchppaaW.PrintWords FL

theorem strip_ev (neg : Bool) (m : Nat) (hm0 : m ≠ 0) (hm : m < 9007199254740992) : ∀ (e : Int), -5000 ≤ e → e + m ≤ 9007199254750000 →
    ∃ t o : Nat, m = o * 2 ^ t ∧ o % 2 = 1 ∧ Ev (fun k => depotref04_Parts.l0 k (m : Int) e neg) ((if neg then -(o : Int) else o), e + t, 0) := by
  induction m using Nat.strongRecOn with
  | ind m ih =>
    intro e he he2
    by_cases h : m % 2 = 1
    · refine ⟨0, m, by simp, h, Ev.step (f := fun _ => some ((if neg then -(m : Int) else m), e + (0 : Nat), 0)) (fun k => ?_) (Ev.now _)⟩
      simp only [depotref04_Parts.l0]
      rw [if_neg (by rw [Int.tmod_eq_emod_of_nonneg (by omega)]; omega)]
      cases neg
      · simp
      · have e1 : wrap64 (-(m : Int)) = -(m : Int) := by unfold wrap64; omega
        rw [e1]; simp
    · obtain ⟨t, o, h1, h2, h3⟩ := ih (m / 2) (by omega) (by omega) (by omega) (e + 1) (by omega) (by omega)
      refine ⟨t + 1, o, ?_, h2, ?_⟩
      · rw [Nat.pow_succ, ← Nat.mul_assoc, ← h1]; omega
      · rw [show e + ((t + 1 : Nat) : Int) = e + 1 + t by omega]
        refine Ev.step (fun k => ?_) h3
        simp only [depotref04_Parts.l0]
        rw [if_pos (by rw [Int.tmod_eq_emod_of_nonneg (by omega)]; omega), show (m : Int).tdiv 2 = ((m / 2 : Nat) : Int) by rw [Int.tdiv_eq_ediv_of_nonneg (by omega)]; omega,
          show wrap64 ((m / 2 : Nat) : Int) = ((m / 2 : Nat) : Int) by unfold wrap64; omega, show wrap64 (e + 1) = e + 1 by unfold wrap64; omega]

theorem parts_word (neg : Bool) (r : Nat) (hr : r < 9218868437227405312) (k : Nat) :
    depotref04_Parts.f k ((sgnW neg + r : Nat) : Int) = depotref04_Parts.j0 k (sg r : Int) ((pl r : Int) + 1) neg := by
  unfold depotref04_Parts.f
  have hs := sgnW_or neg
  have hs2 : neg = decide (sgnW neg = 9223372036854775808) := by unfold sgnW; cases neg <;> rfl
  have e1 : (((sgnW neg + r : Nat) : Int) / 4503599627370496).tmod 2048 = ((r / 4503599627370496 : Nat) : Int) := by
    rw [Int.tmod_eq_emod_of_nonneg (by omega)]; omega
  have e2 : ((sgnW neg + r : Nat) : Int).tmod 4503599627370496 = ((r % 4503599627370496 : Nat) : Int) := by
    rw [Int.tmod_eq_emod_of_nonneg (by omega)]; omega
  have e3 : ((((sgnW neg + r : Nat) : Int) / 9223372036854775808 == 1) : Bool) = neg := by
    rw [Bool.eq_iff_iff]
    conv => rhs; rw [hs2]
    simp only [beq_iff_eq, decide_eq_true_eq]
    omega
  rw [e1, e2, e3]
  have w1 : wrap64 ((r / 4503599627370496 : Nat) : Int) = ((r / 4503599627370496 : Nat) : Int) := by unfold wrap64; omega
  have w2 : wrap64 ((r % 4503599627370496 : Nat) : Int) = ((r % 4503599627370496 : Nat) : Int) := by unfold wrap64; omega
  have w3 : wrap64 (((r % 4503599627370496 : Nat) : Int) + 4503599627370496) = ((4503599627370496 + r % 4503599627370496 : Nat) : Int) := by unfold wrap64; omega
  rw [w1, w2, w3, if_neg (by omega)]
  unfold sg pl
  by_cases h : r < 4503599627370496
  · rw [if_pos (by omega), if_pos h, Nat.mod_eq_of_lt h, show r / 4503599627370496 - 1 = 0 by omega]
    rfl
  · rw [if_neg (by omega), if_neg h]
    congr 1
    omega

theorem parts_ev (neg : Bool) (r : Nat) (h0 : 0 < r) (hr : r < 9218868437227405312) :
    ∃ t o : Nat, sg r = o * 2 ^ t ∧ o % 2 = 1 ∧ Ev (fun k => depotref04_Parts.f k ((sgnW neg + r : Nat) : Int)) ((if neg then -(o : Int) else o), (pl r : Int) - 1074 + t, 0) := by
  have hs := sg_lt r
  have hp := sg_pos h0
  have hpl : pl r ≤ 2046 := by unfold pl; omega
  obtain ⟨t, o, h1, h2, h3⟩ := strip_ev neg (sg r) (by omega) hs ((pl r : Int) - 1074) (by omega) (by omega)
  refine ⟨t, o, h1, h2, Ev.congr (parts_word neg r hr) (Ev.step (fun k => ?_) h3)⟩
  simp only [depotref04_Parts.j0]
  rw [if_neg (by omega), show wrap64 ((pl r : Int) + 1 - 1075) = (pl r : Int) - 1074 by unfold wrap64; omega]

theorem parts_zero (neg : Bool) : Ev (fun k => depotref04_Parts.f k ((sgnW neg + 0 : Nat) : Int)) (0, 0, 0) := by
  refine Ev.congr (parts_word neg 0 (by omega)) (Ev.step (f := fun _ => some (0, 0, 0)) (fun k => ?_) (Ev.now _))
  simp only [depotref04_Parts.j0]
  rw [if_pos (by rfl)]

theorem of_int (n : Nat) (hn : n < 18446744073709551616) : Ev (fun k => depotref04_Near.f k false (n : Int) 0 false) ((rn n : Nat) : Int) := by
  have h := near_ev false n 0 false hn (by omega) (by omega) (fun h => by cases h)
  rw [Bool.toNat_false, Nat.add_zero, rung_double] at h
  rw [show ((rn n : Nat) : Int) = ((sgnW false + rung n 0 : Nat) : Int) by unfold sgnW rn; simp]
  exact h

theorem gt0 (rem : Nat) : (decide (rem > 0)).toNat = (rem != 0).toNat := by cases rem <;> simp
theorem wrap_nat (x : Nat) (h : x < 9007199254740992) : wrap64 (x : Int) = x := by unfold wrap64; omega

theorem share_loop (n m : Nat) (i j : Int) (hn : n < 9007199254740992) (hm0 : 0 < m) (hi : -2000 ≤ i ∧ i ≤ 2000) (hj : -2000 ≤ j ∧ j ≤ 2000) (R : Nat)
    (hR : ∀ s q rem : Nat, s ≤ 200 → 36028797018963968 ≤ q → q < 18446744073709551616 → rem < n → n * q + rem = m * 2 ^ s → rung (2 * q + (rem != 0).toNat) (i - j - s - 1) = R) (d : Nat) :
    ∀ (s q rem : Nat), s + d = 110 → q < 72057594037927936 → rem < n → n * q + rem = m * 2 ^ s →
      Ev (fun k => depotref04_Share.l0 k (n : Int) (q : Int) (rem : Int) (i - j - s)) ((R : Int), 0) := by
  induction d with
  | zero =>
    intro s q rem hs hq hrem h
    -- so many rounds are not met
    by_cases hc : q < 36028797018963968
    · exfalso
      have h1 : n * q ≤ 9007199254740991 * 36028797018963967 := Nat.mul_le_mul (by omega) (by omega)
      have h2 : 1 * 2 ^ 110 ≤ m * 2 ^ s := by rw [show s = 110 by omega]; exact Nat.mul_le_mul_right _ hm0
      omega
    · have hn1 := near_ev false q (i - j - s) (decide (rem > 0)) (by omega) (by omega) (by omega) (fun _ => by omega)
      rw [gt0 rem, hR s q rem (by omega) (by omega) (by omega) hrem h] at hn1
      refine Ev.step (f := fun k => (depotref04_Near.f k false (q : Int) (i - j - s) (decide (rem > 0))).bind fun t => some (t, 0)) (fun k => ?_) ?_
      · simp only [depotref04_Share.l0]
        rw [if_neg (by omega), IntKind.wrap_u64, show (q : Int) % 18446744073709551616 = q by omega, show (decide ((rem : Int) > 0)) = decide (rem > 0) by simp]
      · refine Ev.bind hn1 ?_
        rw [show sgnW false = 0 from rfl, Nat.zero_add]
        exact Ev.now _
  | succ d ih =>
    intro s q rem hs hq hrem h
    by_cases hc : q < 36028797018963968
    · have e2 : m * 2 ^ (s + 1) = 2 * (n * q) + 2 * rem := by rw [Nat.pow_succ, ← Nat.mul_assoc, ← h]; omega
      by_cases hb : n ≤ 2 * rem
      · have h7 := ih (s + 1) (2 * q + 1) (2 * rem - n) (by omega) (by omega) (by omega) (by rw [e2, Nat.mul_add, Nat.mul_one, Nat.mul_left_comm]; omega)
        refine Ev.step (fun k => ?_) h7
        simp only [depotref04_Share.l0]
        rw [if_pos (by omega), show wrap64 ((rem : Int) * 2) = ((2 * rem : Nat) : Int) by unfold wrap64; omega, if_pos (by omega), show wrap64 ((q : Int) * 2) = ((2 * q : Nat) : Int) by unfold wrap64; omega,
          show wrap64 (((2 * q : Nat) : Int) + 1) = ((2 * q + 1 : Nat) : Int) by unfold wrap64; omega, show wrap64 (((2 * rem : Nat) : Int) - (n : Int)) = ((2 * rem - n : Nat) : Int) by unfold wrap64; omega,
          show wrap64 (i - j - (s : Int) - 1) = i - j - ((s + 1 : Nat) : Int) by unfold wrap64; omega]
      · have h7 := ih (s + 1) (2 * q) (2 * rem) (by omega) (by omega) (by omega) (by rw [e2, Nat.mul_left_comm])
        refine Ev.step (fun k => ?_) h7
        simp only [depotref04_Share.l0]
        rw [if_pos (by omega), show wrap64 ((rem : Int) * 2) = ((2 * rem : Nat) : Int) by unfold wrap64; omega, if_neg (by omega), show wrap64 ((q : Int) * 2) = ((2 * q : Nat) : Int) by unfold wrap64; omega,
          show wrap64 (i - j - (s : Int) - 1) = i - j - ((s + 1 : Nat) : Int) by unfold wrap64; omega]
    · have hn1 := near_ev false q (i - j - s) (decide (rem > 0)) (by omega) (by omega) (by omega) (fun _ => by omega)
      rw [gt0 rem, hR s q rem (by omega) (by omega) (by omega) hrem h] at hn1
      refine Ev.step (f := fun k => (depotref04_Near.f k false (q : Int) (i - j - s) (decide (rem > 0))).bind fun t => some (t, 0)) (fun k => ?_) ?_
      · simp only [depotref04_Share.l0]
        rw [if_neg (by omega), IntKind.wrap_u64, show (q : Int) % 18446744073709551616 = q by omega, show (decide ((rem : Int) > 0)) = decide (rem > 0) by simp]
      · refine Ev.bind hn1 ?_
        rw [show sgnW false = 0 from rfl, Nat.zero_add]
        exact Ev.now _

/-- the document's Share is the model's quotient -/
theorem share_ev (p w : Int) (hp : 0 ≤ p) (hp' : p < 18446744073709551616) (hw : 0 < w) (hw' : w < 18446744073709551616) :
    Ev (fun k => depotref04_Share.f k p w) ((shB p w : Int), 0) := by
  obtain ⟨P, rfl⟩ : ∃ P : Nat, p = P := ⟨p.toNat, by omega⟩
  obtain ⟨W, rfl⟩ : ∃ W : Nat, w = W := ⟨w.toNat, by omega⟩
  have hB0 := rn_pos W (by omega)
  have hB := rn_lt W 64 (by omega) (by omega)
  have hA := rn_lt P 64 (by omega) (by omega)
  obtain ⟨tb, ob, hb1, hb2, hb3⟩ := parts_ev false (rn W) hB0 hB
  have hsb := sg_lt (rn W)
  have hplA : pl (rn P) ≤ 1100 := by
    have h1 := rn_le_of P (2 ^ 64) (by omega)
    rw [rn_pow 64 (by omega)] at h1
    unfold pw at h1; unfold pl; omega
  have hplB : pl (rn W) ≤ 1100 := by
    have h1 := rn_le_of W (2 ^ 64) (by omega)
    rw [rn_pow 64 (by omega)] at h1
    unfold pw at h1; unfold pl; omega
  have small : ∀ x o t : Nat, x < 9007199254740992 → x = o * 2 ^ t → o % 2 = 1 → t ≤ 53 ∧ o ≤ x := by
    intro x o t hx h1 h2
    have h3 : 1 * 2 ^ t ≤ o * 2 ^ t := Nat.mul_le_mul_right _ (by omega)
    have h5 : o * 1 ≤ o * 2 ^ t := Nat.mul_le_mul_left _ (Nat.one_le_two_pow)
    rcases Nat.lt_or_ge 53 t with h4 | h4
    · have : 2 ^ 54 ≤ 2 ^ t := Nat.pow_le_pow_right (by omega) h4
      omega
    · exact ⟨h4, by omega⟩
  obtain ⟨htb, hob⟩ := small _ _ _ hsb hb1 hb2
  rw [if_neg (by decide), show sgnW false = 0 from rfl, Nat.zero_add] at hb3
  have oA := of_int P (by omega)
  have oB := of_int W (by omega)
  unfold depotref04_Share.f
  by_cases hP : P = 0
  · subst hP
    have e : shB ((0 : Nat) : Int) (W : Int) = 0 := by
      unfold shB
      rw [show ((0 : Nat) : Int).toNat = 0 from rfl, rn_zero, quo_zero _ (by simpa using hB0)]
    rw [e]
    rw [rn_zero] at oA
    have pz := parts_zero false
    rw [show (sgnW false + 0 : Nat) = 0 from rfl] at pz
    refine Ev.congr (fun k => by rw [if_neg (by omega)]) ?_
    refine Ev.bind oA (Ev.bind pz (Ev.bind oB (Ev.bind hb3 ?_)))
    refine Ev.congr (fun k => by simp only; rw [if_pos trivial]; rfl) (Ev.now _)
  · have hA0 := rn_pos P (by omega)
    obtain ⟨ta, oa, ha1, ha2, ha3⟩ := parts_ev false (rn P) hA0 hA
    have hsa := sg_lt (rn P)
    obtain ⟨hta, hoa⟩ := small _ _ _ hsa ha1 ha2
    rw [if_neg (by decide), show sgnW false = 0 from rfl, Nat.zero_add] at ha3
    have hlp := share_loop ob oa ((pl (rn P) : Int) - 1074 + ta) ((pl (rn W) : Int) - 1074 + tb) (by omega) (by omega) (by omega) (by omega) (quo (rn P) (rn W)) (by
      intro s q rem hs hq hq' hrem h
      refine rung_ext (rung_le _ _) (quo_le _ _) fun r hr => ?_
      rw [quo_cut _ _ _ hB0 hr]
      refine sticky_rung (rn P) (rn W) oa ob s q rem _ _ (by omega) (by omega) ?_ ?_ h hrem (fun _ => by omega) r hr
      · unfold vv
        rw [ha1, show ((pl (rn P) : Int) - 1074 + ta + 1074).toNat = ta + pl (rn P) by omega, Nat.pow_add, Nat.mul_assoc]
      · unfold vv
        rw [hb1, show ((pl (rn W) : Int) - 1074 + tb + 1074).toNat = tb + pl (rn W) by omega, Nat.pow_add, Nat.mul_assoc]) 110 0 (oa / ob) (oa % ob) rfl (by have := Nat.div_le_self oa ob; omega) (Nat.mod_lt _ (by omega)) (by rw [Nat.pow_zero, Nat.mul_one]; exact Nat.div_add_mod oa ob)
    have e : shB (P : Int) (W : Int) = quo (rn P) (rn W) := by unfold shB; simp
    rw [e]
    refine Ev.congr (fun k => by rw [if_neg (by omega)]) ?_
    refine Ev.bind oA (Ev.bind ha3 (Ev.bind oB (Ev.bind hb3 ?_)))
    refine Ev.congr (fun k => ?_) hlp
    simp only
    rw [if_neg (by omega), if_neg (by omega)]
    have hd : oa / ob ≤ oa := Nat.div_le_self _ _
    have hmd : oa % ob ≤ oa := Nat.mod_le _ _
    rw [Int.tdiv_eq_ediv_of_nonneg (by omega), Int.tmod_eq_emod_of_nonneg (by omega), ← Int.natCast_ediv, ← Int.natCast_emod,
      wrap_nat _ (Nat.lt_of_le_of_lt hd (by omega)),
      show wrap64 (((pl (rn P) : Int) - 1074 + ta) - ((pl (rn W) : Int) - 1074 + tb)) = ((pl (rn P) : Int) - 1074 + ta) - ((pl (rn W) : Int) - 1074 + tb) - ((0 : Nat) : Int) by unfold wrap64; omega]

end Go.Proofs.Ytikbbofjkchppaa.NearPackShares
