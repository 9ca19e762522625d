/- The pure part of the law ShaPads: for every int n both paddings are one list of bytes (no condition). -/
import Derived.Test.YtemioilfedpohaaPShaPadsx1
import Derived.Test.YtemioilfedpohaaPadwShaPads
namespace Go.Proofs.Ytemioilfedpohaa.Pure
open Go.RowKit Go.Proofs.Ytemioilfedpohaa.PShaPads Go.Proofs.YtemioilfedpohaaW.PrintWords Go.Proofs.YtemioilfedpohaaW.PrintLast
open Go.Proofs.Ytemioilfedpohaa.PadwShaPads

theorem ref1 (n : Int) (i : Nat) (hi : i < 8) (k : Nat) (s : ByteArray) (hs : s.size ≤ 200) :
    depotref01_Pad.l1 (k + 1) s (n * 8 % 18446744073709551616) (i : Int) = depotref01_Pad.l1 k (s ++ strOfNums [bx n i]) (n * 8 % 18446744073709551616) ((i : Int) - 1) := by
  have e0 : wrap64 (8 * (i : Int)) = 8 * (i : Int) := by unfold wrap64; omega
  have e1 : IntKind.u64.wrap (8 * (i : Int)) = 8 * (i : Int) := by rw [IntKind.wrap_u64]; omega
  have e2 : wrap64 ((i : Int) - 1) = (i : Int) - 1 := by unfold wrap64; omega
  have e3 : Go.bits .and .u64 (shr .u64 (n * 8 % 18446744073709551616) (8 * (i : Int))) 255 % 256 = bx n i := by
    rw [shr8 _ i hi]
    unfold bx
    have h0 : 0 ≤ n * 8 % 18446744073709551616 / 2 ^ (8 * i) := Int.ediv_nonneg (by omega) (by exact_mod_cast Nat.zero_le (2 ^ (8 * i)))
    have h1 : n * 8 % 18446744073709551616 / 2 ^ (8 * i) ≤ n * 8 % 18446744073709551616 := Int.ediv_le_self _ (by omega)
    generalize n * 8 % 18446744073709551616 / 2 ^ (8 * i) = y at *
    rw [u64_and y 255 h0 (by omega) (by omega) (by omega), show (255 : Int).toNat = 255 from rfl, nat_mask8]
    omega
  simp only [depotref01_Pad.l1]
  rw [if_pos (by omega), e0, e1, e2, e3, if_pos (by omega)]
  simp only [Option.bind_some]
  rw [if_pos (by rw [str_size]; simp; omega)]

theorem ref0 (n : Int) (h : 0 ≤ n) (d : Nat) : ∀ (j k : Nat), j + d = zs n → depotref01_Pad.l0 (k + 10 + d) n (strOfNums (128 :: List.replicate j 0)) = some (strOfNums (padL n)) := by
  have hz := zs_le n
  induction d with
  | zero =>
    intro j k hj
    have hsz : (strOfNums (128 :: List.replicate j 0)).size = j + 1 := by rw [str_size]; simp
    show depotref01_Pad.l0 (k + 9 + 1) n _ = _
    simp only [depotref01_Pad.l0]
    have ew : wrap64 ((n.tmod 64) + ((j + 1 : Nat) : Int)) = n % 64 + (j + 1) := by
      rw [Int.tmod_eq_emod_of_nonneg h]; unfold wrap64; omega
    rw [hsz, ew, if_pos (by rw [Int.tmod_eq_emod_of_nonneg (by omega)]; unfold zs at hj; omega), wrapu n]
    have s7 := ref1 n 7 (by omega) (k + 8) (strOfNums (128 :: List.replicate j 0)) (by omega)
    show depotref01_Pad.l1 (k + 8 + 1) _ _ ((7 : Nat) : Int) = _
    rw [s7]
    have st : ∀ (i : Nat) (k : Nat) (xs : List Int), i < 8 → xs.length ≤ 100 → depotref01_Pad.l1 (k + 1) (strOfNums xs) (n * 8 % 18446744073709551616) (i : Int) = depotref01_Pad.l1 k (strOfNums (xs ++ [bx n i])) (n * 8 % 18446744073709551616) ((i : Int) - 1) := by
      intro i k xs hi hx
      rw [ref1 n i hi k _ (by rw [str_size]; omega), str_app]
    rw [← str_app]
    rw [show ((7 : Nat) : Int) - 1 = ((6 : Nat) : Int) from rfl, st 6 (k + 7) _ (by omega) (by simp; omega),
      show ((6 : Nat) : Int) - 1 = ((5 : Nat) : Int) from rfl, st 5 (k + 6) _ (by omega) (by simp; omega),
      show ((5 : Nat) : Int) - 1 = ((4 : Nat) : Int) from rfl, st 4 (k + 5) _ (by omega) (by simp; omega),
      show ((4 : Nat) : Int) - 1 = ((3 : Nat) : Int) from rfl, st 3 (k + 4) _ (by omega) (by simp; omega),
      show ((3 : Nat) : Int) - 1 = ((2 : Nat) : Int) from rfl, st 2 (k + 3) _ (by omega) (by simp; omega),
      show ((2 : Nat) : Int) - 1 = ((1 : Nat) : Int) from rfl, st 1 (k + 2) _ (by omega) (by simp; omega),
      show ((1 : Nat) : Int) - 1 = ((0 : Nat) : Int) from rfl, st 0 (k + 1) _ (by omega) (by simp; omega)]
    simp only [depotref01_Pad.l1]
    rw [if_neg (by omega)]
    obtain rfl : j = zs n := by omega
    simp only [padL, tail8, List.append_assoc, List.cons_append, List.nil_append]
  | succ d ih =>
    intro j k hj
    have hsz : (strOfNums (128 :: List.replicate j 0)).size = j + 1 := by rw [str_size]; simp
    show depotref01_Pad.l0 (k + 10 + d + 1) n _ = _
    simp only [depotref01_Pad.l0]
    have ew : wrap64 ((n.tmod 64) + ((j + 1 : Nat) : Int)) = n % 64 + (j + 1) := by
      rw [Int.tmod_eq_emod_of_nonneg h]; unfold wrap64; omega
    rw [hsz, ew, if_neg (by rw [Int.tmod_eq_emod_of_nonneg (by omega)]; unfold zs at hj; omega), if_pos (by omega)]
    have e : strOfNums (128 :: List.replicate j 0) ++ (⟨#[0]⟩ : ByteArray) = strOfNums (128 :: List.replicate (j + 1) 0) := by
      have e1 : (⟨#[0]⟩ : ByteArray) = strOfNums [0] := rfl
      rw [e1, ← str_app, List.cons_append, List.replicate_succ']
    rw [e]
    exact ih (j + 1) k (by omega)

theorem ref_is (n : Int) (h : 0 ≤ n) (k : Nat) : depotref01_Pad.f (k + 10 + zs n) n = some (strOfNums (padL n)) := by
  unfold depotref01_Pad.f
  rw [if_neg (by omega)]
  exact ref0 n h (zs n) 0 k (by omega)

theorem ShaPads : depotlaw01_ShaPads.Pure := by
  intro n hn
  have hb : n ≤ 9223372036854775807 := by
    simp [Lit.wf, IntKind.max, IntKind.bits, IntKind.signed, IntKind.min] at hn
    omega
  refine ⟨1 + (9 + 10 + zs n), ?_⟩
  have p55 : strOfNums (padL 55) = ⟨#[128, 0, 0, 0, 0, 0, 0, 1, 184]⟩ := by decide +kernel
  unfold depotlaw01_ShaPads.f
  have h55 := pad_is 55 (by omega) (by omega) (1 + (10 + zs n))
  rw [show 1 + (9 + 10 + zs n) = 1 + (10 + zs n) + 9 by omega, h55]
  simp only [Option.bind_some]
  rw [p55]
  have s9 : (((⟨#[128, 0, 0, 0, 0, 0, 0, 1, 184]⟩ : ByteArray).size : Nat) : Int) = 9 := rfl
  have b0 : bt (⟨#[128, 0, 0, 0, 0, 0, 0, 1, 184]⟩ : ByteArray) 0 = 128 := by decide +kernel
  have b8 : bt (⟨#[128, 0, 0, 0, 0, 0, 0, 1, 184]⟩ : ByteArray) 8 = 184 := by decide +kernel
  have b7 : (bt (⟨#[128, 0, 0, 0, 0, 0, 0, 1, 184]⟩ : ByteArray) 7 != 1) = false := by decide +kernel
  rw [s9, b0, b8, b7]
  simp only [if_true, Int.reduceLT]
  rw [show 1 + (10 + zs n) + 9 = (19 + zs n) + 1 by omega]
  simp only [depotlaw01_ShaPads.j0]
  rw [if_neg (by decide)]
  by_cases h : n < 0
  · rw [pad_neg n h]
    unfold depotref01_Pad.f
    rw [if_pos h]
    decide +kernel
  · have h1 := pad_is n (by omega) hb (10 + zs n)
    have h2 := ref_is n (by omega) 9
    rw [show 19 + zs n = 10 + zs n + 9 by omega, h1, show 10 + zs n + 9 = 9 + 10 + zs n by omega, h2]
    simp

end Go.Proofs.Ytemioilfedpohaa.Pure
