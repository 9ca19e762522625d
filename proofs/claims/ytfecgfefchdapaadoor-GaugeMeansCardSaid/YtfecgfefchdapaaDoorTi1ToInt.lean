/- Plain facts on the printed functions of depotref04: ToInt. -/
import Derived.Test.YtfecgfefchdapaaDoorShr1ToInt
import Derived.Test.YtfecgfefchdapaaDoorFi
namespace Go.Proofs.YtfecgfefchdapaaDoor.NearToInt
open Go.RowKit Go.Proofs.YtfecgfefchdapaaDoor.PToInt Go.Proofs.YtfecgfefchdapaaDoorW.PrintWords FL Go.Proofs.YtfecgfefchdapaaDoor.NearMake
open Ieee

theorem parts_inf (W : Nat) (hW : W % 9223372036854775808 = 9218868437227405312) (hW2 : W < 18446744073709551616) (k : Nat) : ∃ c : Int, (c = 1 ∨ c = 2) ∧ depotref04_Parts.f k (W : Int) = some (0, 0, c) := by
  unfold depotref04_Parts.f
  have e1 : ((W : Int) / 4503599627370496).tmod 2048 = 2047 := by
    rw [Int.tmod_eq_emod_of_nonneg (by omega)]; omega
  have e2 : (W : Int).tmod 4503599627370496 = 0 := by
    rw [Int.tmod_eq_emod_of_nonneg (by omega)]; omega
  have w1 : wrap64 2047 = 2047 := by unfold wrap64; omega
  have w2 : wrap64 0 = 0 := by unfold wrap64; omega
  rw [e1, e2, w1, w2, if_pos rfl, if_pos rfl]
  by_cases h : (W : Int) / 9223372036854775808 = 1
  · exact ⟨2, .inr rfl, if_pos h⟩
  · exact ⟨1, .inl rfl, if_neg h⟩

theorem parts_nan (w : Nat) (hw : w < 18446744073709551616) (h : 9218868437227405312 < w % 9223372036854775808) (k : Nat) : depotref04_Parts.f k (w : Int) = some (0, 0, 3) := by
  unfold depotref04_Parts.f
  have e1 : ((w : Int) / 4503599627370496).tmod 2048 = 2047 := by
    rw [Int.tmod_eq_emod_of_nonneg (by omega)]; omega
  have e2 : (w : Int).tmod 4503599627370496 = ((w % 4503599627370496 : Nat) : Int) := by
    rw [Int.tmod_eq_emod_of_nonneg (by omega)]; omega
  have w1 : wrap64 2047 = 2047 := by unfold wrap64; omega
  have w2 : wrap64 ((w % 4503599627370496 : Nat) : Int) = ((w % 4503599627370496 : Nat) : Int) := by unfold wrap64; omega
  rw [e1, e2, w1, w2, if_pos rfl, if_neg (by omega)]

/-- the last steps -/
def endI (neg : Bool) (x : Nat) : Int × Int :=
  if -9223372036854775808 ≤ (if neg then -(x : Int) else x) ∧ (if neg then -(x : Int) else x) < 9223372036854775808 then (if neg then -(x : Int) else x, 0) else (0, 1)

theorem j3_end (neg : Bool) (m4 : Int) (hm4 : neg = true ↔ m4 < 0) (x : Nat) (hx : x < 18446744073709551616) (x9 : Int) (k : Nat) : depotref04_ToInt.j3 (k + 1) m4 (x : Int) x9 false = some (endI neg x) := by
  simp only [depotref04_ToInt.j3]
  rw [if_neg (by decide)]
  unfold endI
  cases neg
  · rw [if_neg (by rw [← hm4]; decide)]
    simp only [Bool.false_eq_true, if_false]
    by_cases h : 9223372036854775808 ≤ x
    · rw [if_pos (by omega), if_neg (by omega)]
    · rw [if_neg (by omega), if_pos (by omega), show wrap64 (x : Int) = x by unfold wrap64; omega]
  · rw [if_pos (hm4.1 rfl)]
    simp only [if_true]
    by_cases h : 9223372036854775808 < x
    · rw [if_pos (by omega), if_neg (by omega)]
    · rw [if_neg (by omega), if_pos (by omega)]
      refine congrArg some ?_
      refine Prod.ext ?_ rfl
      simp only [IntKind.wrap_u64]
      unfold wrap64
      omega

/-- doubling, as long as it fits -/
theorem l1_ev' (neg : Bool) (m4 : Int) (hm4 : neg = true ↔ m4 < 0) (d : Nat) : ∀ (x : Nat), x < 18446744073709551616 → d ≤ 5000 → (0 < x ∨ d = 0) →
    Ev (fun k => depotref04_ToInt.l1 k m4 (x : Int) (d : Int)) (endI neg (x * 2 ^ d)) := by
  induction d with
  | zero =>
    intro x hx _ _
    rw [Nat.pow_zero, Nat.mul_one]
    refine Ev.step (f := fun k => depotref04_ToInt.j3 k m4 (x : Int) 0 false) (fun k => ?_) ?_
    · simp only [depotref04_ToInt.l1]
      rw [if_neg (by omega)]
      rfl
    · exact Ev.step (f := fun _ => some (endI neg x)) (fun k => j3_end neg m4 hm4 x hx 0 k) (Ev.now _)
  | succ d ih =>
    intro x hx hd h0
    have hx0 : 0 < x := by omega
    have st : ∀ R, Ev (fun k => depotref04_ToInt.j3 k m4 (x : Int) ((d + 1 : Nat) : Int) true) R → Ev (fun k => depotref04_ToInt.l1 k m4 (x : Int) ((d + 1 : Nat) : Int)) R := by
      intro R h
      refine Ev.step (fun k => ?_) h
      simp only [depotref04_ToInt.l1]
      rw [if_pos (by omega), show decide ((x : Int) > 0) = true by simp; omega]
    refine st _ ?_
    by_cases hb : 9223372036854775808 ≤ x
    · have e : endI neg (x * 2 ^ (d + 1)) = (0, 1) := by
        unfold endI
        have h1 : x * 2 ≤ x * 2 ^ (d + 1) := Nat.mul_le_mul_left _ (by rw [Nat.pow_succ]; have := Nat.one_le_two_pow (n := d); omega)
        generalize x * 2 ^ (d + 1) = y at *
        cases neg
        · simp only [Bool.false_eq_true, if_false]; rw [if_neg (by omega)]
        · simp only [if_true]; rw [if_neg (by omega)]
      rw [e]
      refine Ev.step (f := fun _ => some (0, 1)) (fun k => ?_) (Ev.now _)
      simp only [depotref04_ToInt.j3]
      rw [if_pos trivial, if_pos (by omega)]
    · have h7 := ih (2 * x) (by omega) (by omega) (.inl (by omega))
      rw [show x * 2 ^ (d + 1) = 2 * x * 2 ^ d by rw [Nat.pow_succ, Nat.mul_comm (2 ^ d) 2, ← Nat.mul_assoc, Nat.mul_comm x 2]]
      refine Ev.step (fun k => ?_) h7
      simp only [depotref04_ToInt.j3]
      rw [if_pos trivial, if_neg (by omega), IntKind.wrap_u64, show (x : Int) * 2 % 18446744073709551616 = ((2 * x : Nat) : Int) by omega, show wrap64 (((d + 1 : Nat) : Int) - 1) = (d : Int) by unfold wrap64; omega]

theorem j1_low (neg : Bool) (m4 : Int) (hm4 : neg = true ↔ m4 < 0) (x : Nat) (hx : x < 18446744073709551616) (x5 : Int) (h5 : x5 ≤ 0) : Ev (fun k => depotref04_ToInt.j1 k m4 x5 (x : Int)) (endI neg x) := by
  refine Ev.step (f := fun k => depotref04_ToInt.l1 k m4 (x : Int) x5) (fun k => by simp only [depotref04_ToInt.j1]) ?_
  refine Ev.step (f := fun k => depotref04_ToInt.j3 k m4 (x : Int) x5 false) (fun k => ?_) ?_
  · simp only [depotref04_ToInt.l1]
    rw [if_neg (by omega)]
  · exact Ev.step (f := fun _ => some (endI neg x)) (fun k => j3_end neg m4 hm4 x hx x5 k) (Ev.now _)

theorem l0_low (neg : Bool) (m4 : Int) (hm4 : neg = true ↔ m4 < 0) (x5 : Int) (h5 : x5 ≤ 0) (d : Nat) : ∀ (x : Nat), x < 18446744073709551616 → d ≤ 5000 →
    Ev (fun k => depotref04_ToInt.l0 k m4 x5 (x : Int) (-(d : Int))) (endI neg (x / 2 ^ d)) := by
  induction d with
  | zero =>
    intro x hx _
    rw [Nat.pow_zero, Nat.div_one]
    refine Ev.step (fun k => ?_) (j1_low neg m4 hm4 x hx x5 h5)
    simp only [depotref04_ToInt.l0]
    rw [if_neg (by omega)]
  | succ d ih =>
    intro x hx hd
    by_cases h0 : x = 0
    · subst h0
      rw [Nat.zero_div]
      refine Ev.step (fun k => ?_) (j1_low neg m4 hm4 0 (by omega) x5 h5)
      simp only [depotref04_ToInt.l0]
      rw [if_pos (by omega), if_neg (by omega)]
    · have h7 := ih (x / 2) (by omega) (by omega)
      rw [show x / 2 ^ (d + 1) = x / 2 / 2 ^ d by rw [Nat.pow_succ, Nat.mul_comm, Nat.div_div_eq_div_mul]]
      refine Ev.step (fun k => ?_) h7
      simp only [depotref04_ToInt.l0]
      rw [if_pos (by omega), if_pos (by omega), show (x : Int).tdiv 2 = ((x / 2 : Nat) : Int) by rw [Int.tdiv_eq_ediv_of_nonneg (by omega)]; omega, IntKind.wrap_u64,
        show ((x / 2 : Nat) : Int) % 18446744073709551616 = ((x / 2 : Nat) : Int) by omega, show wrap64 (-((d + 1 : Nat) : Int) + 1) = -(d : Int) by unfold wrap64; omega]

theorem size_is (neg : Bool) (o : Nat) (ho : o < 9007199254740992) : depotref04_size.f (if neg then -(o : Int) else o) = some (o : Int) := by
  unfold depotref04_size.f
  cases neg
  · simp only [Bool.false_eq_true, if_false]
    rw [if_neg (by omega), IntKind.wrap_u64, show (o : Int) % 18446744073709551616 = o by omega]
  · simp only [if_true]
    simp only [IntKind.wrap_u64]
    split
    · refine congrArg some ?_
      unfold wrap64; omega
    · refine congrArg some ?_
      omega

theorem toInt_odd (neg : Bool) (o : Nat) (e : Int) (ho : o < 9007199254740992) (ho0 : 0 < o) (he : -5000 ≤ e ∧ e ≤ 5000) :
    Ev (fun k => depotref04_ToInt.l0 k (if neg then -(o : Int) else o) e (o : Int) e) (endI neg (trc o e)) := by
  have hm4 : neg = true ↔ (if neg then -(o : Int) else o) < 0 := by cases neg <;> simp <;> omega
  generalize (if neg = true then -(o : Int) else (o : Int)) = m4 at *
  unfold trc
  rcases Int.le_total e 0 with h | h
  · obtain ⟨d, rfl⟩ : ∃ d : Nat, e = -(d : Int) := ⟨(-e).toNat, by omega⟩
    rw [show (-(d : Int)).toNat = 0 by omega, Nat.pow_zero, Nat.mul_one, show (- -(d : Int)).toNat = d by omega]
    exact l0_low neg m4 hm4 _ (by omega) d o (by omega) (by omega)
  · obtain ⟨d, rfl⟩ : ∃ d : Nat, e = (d : Int) := ⟨e.toNat, by omega⟩
    rw [show (-(d : Int)).toNat = 0 by omega, Nat.pow_zero, Nat.div_one, show (d : Int).toNat = d by omega]
    refine Ev.step (f := fun k => depotref04_ToInt.j1 k m4 (d : Int) (o : Int)) (fun k => ?_) ?_
    · simp only [depotref04_ToInt.l0]
      rw [if_neg (by omega)]
    · refine Ev.step (fun k => ?_) (l1_ev' neg m4 hm4 d o (by omega) (by omega) (.inl ho0))
      simp only [depotref04_ToInt.j1]

theorem endI_toIV (neg : Bool) (r : Nat) (hr : r < 9218868437227405312) : endI neg (trc (sg r) ((pl r : Int) - 1074)) = toIV (sgnW neg + r) := by
  unfold toIV sgnW
  have e : double.read ((if neg = true then 9223372036854775808 else 0) + r) = .number neg (sg r) ((pl r : Int) - 1074) := by
    cases neg
    · simp only [Bool.false_eq_true, if_false, Nat.zero_add]; exact read_pos r hr
    · simp only [if_true]; exact read_neg r hr
  rw [e]
  rfl

theorem toInt_nan (w : Nat) (hw : w < 18446744073709551616) (hn : 9218868437227405312 < w % 9223372036854775808) : Ev (fun k => depotref04_ToInt.f k (w : Int)) (toIV w) := by
  have e : toIV w = (0, 40) := by
    obtain ⟨s, f, h⟩ := read_nan w hn
    unfold toIV; rw [h]
  rw [e]
  refine Ev.congr (fun k => ?_) (Ev.now _)
  unfold depotref04_ToInt.f
  rw [parts_nan w hw hn k]
  simp only [Option.bind_some]
  rw [if_pos trivial]

theorem toInt_inf (W : Nat) (hW : W % 9223372036854775808 = 9218868437227405312) (hW2 : W < 18446744073709551616) : Ev (fun k => depotref04_ToInt.f k (W : Int)) (toIV W) := by
  have e : toIV W = (0, 1) := by
    unfold toIV
    rcases word_cases W hW2 with ⟨k1, s1, f1, r1⟩ | ⟨s1, k1, r1⟩ | ⟨s1, a, ha, k1, r1⟩
    · unfold key at k1; rw [if_neg (by omega)] at k1; cases k1
    · rw [r1]
    · exfalso
      unfold key at k1
      rw [if_neg (by omega)] at k1
      have := Option.some.inj k1
      split at this <;> split at this <;> omega
  rw [e]
  refine Ev.congr (fun k => ?_) (Ev.now _)
  obtain ⟨c, hc, h⟩ := parts_inf W hW hW2 k
  unfold depotref04_ToInt.f
  rw [h]
  simp only [Option.bind_some]
  rw [if_neg (by omega), if_neg (by omega)]

theorem endI_zero (neg : Bool) : endI neg 0 = (0, 0) := by unfold endI; cases neg <;> simp

theorem toInt_zero (neg : Bool) : Ev (fun k => depotref04_ToInt.f k ((sgnW neg + 0 : Nat) : Int)) (toIV (sgnW neg + 0)) := by
  have e : toIV (sgnW neg + 0) = (0, 0) := by
    rw [← endI_toIV neg 0 (by omega), trc_vv, vv_zero, Nat.zero_div, endI_zero]
  rw [e]
  have hs0 : depotref04_size.f 0 = some 0 := size_is false 0 (by omega)
  have h7 := l0_low false 0 (by simp) 0 (by omega) 0 0 (by omega) (by omega)
  rw [Nat.zero_div, endI_zero] at h7
  unfold depotref04_ToInt.f
  refine Ev.bind (parts_zero neg) ?_
  refine Ev.congr (fun k => ?_) h7
  simp only
  rw [if_neg (by decide), if_pos trivial, hs0]
  simp only [Option.bind_some]
  rfl

theorem toInt_pos (neg : Bool) (r : Nat) (h0 : 0 < r) (hr : r < 9218868437227405312) : Ev (fun k => depotref04_ToInt.f k ((sgnW neg + r : Nat) : Int)) (toIV (sgnW neg + r)) := by
  obtain ⟨t, o, h1, h2, h3⟩ := parts_ev neg r h0 hr
  have hs := sg_lt r
  have hpl : pl r ≤ 2046 := by unfold pl; omega
  have h4 : 1 * 2 ^ t ≤ o * 2 ^ t := Nat.mul_le_mul_right _ (by omega)
  have h5 : o * 1 ≤ o * 2 ^ t := Nat.mul_le_mul_left _ (Nat.one_le_two_pow)
  have ht : t ≤ 53 := by
    rcases Nat.lt_or_ge 53 t with h | h
    · have : 2 ^ 54 ≤ 2 ^ t := Nat.pow_le_pow_right (by omega) h
      omega
    · exact h
  have ho : o < 9007199254740992 := by omega
  have h7 := toInt_odd neg o ((pl r : Int) - 1074 + t) ho (by omega) (by omega)
  rw [← trc_shift, ← h1, endI_toIV neg r hr] at h7
  unfold depotref04_ToInt.f
  refine Ev.bind h3 (Ev.congr (fun k => ?_) h7)
  simp only
  rw [if_neg (by decide), if_pos trivial, size_is neg o ho]
  simp only [Option.bind_some]

theorem toInt_ev (w : Nat) (hw : w < 18446744073709551616) : Ev (fun k => depotref04_ToInt.f k (w : Int)) (toIV w) := by
  by_cases hn : 9218868437227405312 < w % 9223372036854775808
  · exact toInt_nan w hw hn
  · by_cases hi : w % 9223372036854775808 = 9218868437227405312
    · exact toInt_inf w hi hw
    · obtain ⟨neg, hneg⟩ : ∃ neg : Bool, w = sgnW neg + w % 9223372036854775808 := by
        by_cases h : 9223372036854775808 ≤ w
        · exact ⟨true, by unfold sgnW; rw [if_pos rfl]; omega⟩
        · exact ⟨false, by unfold sgnW; rw [if_neg (by decide)]; omega⟩
      generalize w % 9223372036854775808 = r at *
      subst hneg
      rcases Nat.eq_zero_or_pos r with h0 | h0
      · subst h0
        exact toInt_zero neg
      · exact toInt_pos neg r h0 (by omega)

end Go.Proofs.YtfecgfefchdapaaDoor.NearToInt
