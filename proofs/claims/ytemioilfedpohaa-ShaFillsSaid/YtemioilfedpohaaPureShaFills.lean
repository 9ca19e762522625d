/- The pure part of the law ShaFills: for every int n the padding fills whole blocks and ends in the length in bits (no condition). -/
import Derived.Test.YtemioilfedpohaaPShaFillsx1
import Derived.Test.YtemioilfedpohaaPadwShaFills
namespace Go.Proofs.Ytemioilfedpohaa.Pure
open Go.RowKit Go.Proofs.Ytemioilfedpohaa.PShaFills Go.Proofs.YtemioilfedpohaaW.PrintWords Go.Proofs.YtemioilfedpohaaW.PrintLast
open Go.Proofs.Ytemioilfedpohaa.PadwShaFills

theorem or_join (a b : Int) (h1 : 0 ≤ a) (h2 : a < 72057594037927936) (h3 : 0 ≤ b) (h4 : b < 256) :
    Go.bits .or .u64 (IntKind.u64.wrap (a * 256)) (IntKind.u64.wrap b) = a * 256 + b := by
  rw [IntKind.wrap_u64, IntKind.wrap_u64, show a * 256 % 18446744073709551616 = a * 256 by omega, show b % 18446744073709551616 = b by omega,
    u64_or _ _ (by omega) (by omega) h3 (by omega), nat_join 8 _ _ (by omega) (by omega)]
  omega

/-- the zero bytes -/
theorem zeros (n : Int) (s : ByteArray) (d : Nat) : ∀ (i k : Nat), 1 ≤ i → i + d + 8 = s.size → s.size ≤ 100 → (∀ j : Nat, 1 ≤ j → j + 8 < s.size → bt s (j : Int) = 0) →
    depotlaw01_ShaFills.l0 (k + d) n s 0 (i : Int) = depotlaw01_ShaFills.l0 k n s 0 ((i + d : Nat) : Int) := by
  induction d with
  | zero => intro i k _ _ _ _; rfl
  | succ d ih =>
    intro i k h1 h2 h3 hz
    show depotlaw01_ShaFills.l0 (k + d + 1) n s 0 (i : Int) = _
    have e1 : wrap64 ((s.size : Int) - 8) = (s.size : Int) - 8 := by unfold wrap64; omega
    have e2 : wrap64 ((i : Int) + 1) = ((i + 1 : Nat) : Int) := by unfold wrap64; omega
    simp only [depotlaw01_ShaFills.l0]
    rw [if_pos (by omega), e1, if_pos (by omega), if_pos (by omega), hz i h1 (by omega), if_pos rfl, e2, or_join 0 0 (by omega) (by omega) (by omega) (by omega)]
    have := ih (i + 1) k (by omega) (by omega) h3 hz
    rw [show i + 1 + d = i + (d + 1) by omega] at this
    exact this

/-- one of the last eight bytes -/
theorem last (n : Int) (s : ByteArray) (i k : Nat) (a b : Int) (h1 : 1 ≤ i) (h2 : s.size ≤ i + 8) (h3 : i < s.size) (h4 : s.size ≤ 100) (hb : bt s (i : Int) = b) (b1 : 0 ≤ b ∧ b < 256) (a1 : 0 ≤ a) (a2 : a < 72057594037927936) :
    depotlaw01_ShaFills.l0 (k + 1) n s a (i : Int) = depotlaw01_ShaFills.l0 k n s (a * 256 + b) ((i + 1 : Nat) : Int) := by
  have e1 : wrap64 ((s.size : Int) - 8) = (s.size : Int) - 8 := by unfold wrap64; omega
  have e2 : wrap64 ((i : Int) + 1) = ((i + 1 : Nat) : Int) := by unfold wrap64; omega
  simp only [depotlaw01_ShaFills.l0]
  rw [if_pos (by omega), e1, if_neg (by omega), if_pos (by omega), hb, e2, or_join a b a1 a2 b1.1 b1.2]

theorem acc (B : Int) (_h : 0 ≤ B) :
    B / 72057594037927936 % 256 = B / 72057594037927936 % 256 ∧ (B / 72057594037927936) * 256 + B / 281474976710656 % 256 = B / 281474976710656 ∧ (B / 281474976710656) * 256 + B / 1099511627776 % 256 = B / 1099511627776 ∧
    (B / 1099511627776) * 256 + B / 4294967296 % 256 = B / 4294967296 ∧ (B / 4294967296) * 256 + B / 16777216 % 256 = B / 16777216 ∧ (B / 16777216) * 256 + B / 65536 % 256 = B / 65536 ∧
    (B / 65536) * 256 + B / 256 % 256 = B / 256 ∧ (B / 256) * 256 + B % 256 = B := by omega

theorem ShaFills : depotlaw01_ShaFills.Pure := by
  intro n hn
  have hb : n ≤ 9223372036854775807 := by
    simp [Lit.wf, IntKind.max, IntKind.bits, IntKind.signed, IntKind.min] at hn
    omega
  refine ⟨2 + (9 + 10 + zs n), ?_⟩
  have h64 : (((strOfNums (padL 0)).size : Nat) : Int) = 64 := by rw [str_size, padL_length]; rfl
  unfold depotlaw01_ShaFills.f
  have h0 := pad_is 0 (by omega) (by omega) (2 + (10 + zs n))
  rw [show 2 + (9 + 10 + zs n) = 2 + (10 + zs n) + 9 by omega, h0]
  simp only [Option.bind_some]
  rw [if_pos h64]
  by_cases h : n < 0
  · rw [pad_neg n h]
    simp only [Option.bind_some]
    rw [if_pos h]
    decide +kernel
  · rw [pad_is n (by omega) hb]
    simp only [Option.bind_some]
    rw [if_neg h]
    have hs : (strOfNums (padL n)).size = zs n + 9 := by rw [str_size, padL_length]
    have hz := zs_le n
    rw [hs, if_neg (by omega), if_neg (by omega), if_pos (by
      rw [Int.tmod_eq_emod_of_nonneg (show 0 ≤ n by omega)]
      have e : wrap64 (n % 64 + ((zs n + 9 : Nat) : Int)) = n % 64 + ((zs n + 9 : Nat) : Int) := by unfold wrap64; omega
      rw [e, Int.tmod_eq_emod_of_nonneg (by omega)]
      unfold zs; omega), if_pos (by omega)]
    have b0 : bt (strOfNums (padL n)) 0 = 128 := bt_str (padL n) 0 (by rw [padL_length]; omega) (by simp [padL])
    rw [b0]
    simp only [bne_self_eq_false]
    rw [show 2 + (10 + zs n) + 9 = (20 + zs n) + 1 by omega]
    simp only [depotlaw01_ShaFills.j0]
    rw [if_neg (by decide), show 20 + zs n = 20 + zs n from rfl]
    have hzero : ∀ j : Nat, 1 ≤ j → j + 8 < (strOfNums (padL n)).size → bt (strOfNums (padL n)) (j : Int) = 0 := by
      intro j h1 h2
      rw [hs] at h2
      have e : (padL n)[j]'(by rw [padL_length]; omega) = 0 := by
        obtain ⟨m, rfl⟩ : ∃ m, j = m + 1 := ⟨j - 1, by omega⟩
        simp only [padL, List.getElem_cons_succ]
        rw [List.getElem_append_left (by simp; omega)]
        simp
      rw [bt_str (padL n) j (by rw [padL_length]; omega) (by rw [e]; omega), e]
    have htail : ∀ i : Nat, i < 8 → bt (strOfNums (padL n)) ((zs n + 1 + i : Nat) : Int) = bx n (7 - i) := by
      intro i hi
      have e : (padL n)[zs n + 1 + i]'(by rw [padL_length]; omega) = bx n (7 - i) := by
        simp only [padL]
        rw [List.getElem_cons, dif_neg (by omega), List.getElem_append_right (by rw [List.length_replicate]; omega)]
        simp only [List.length_replicate, show zs n + 1 + i - 1 - zs n = i by omega]
        match i, hi with
        | 0, _ => rfl
        | 1, _ => rfl
        | 2, _ => rfl
        | 3, _ => rfl
        | 4, _ => rfl
        | 5, _ => rfl
        | 6, _ => rfl
        | 7, _ => rfl
      have hbd := bx_bound n (7 - i)
      rw [bt_str (padL n) _ (by rw [padL_length]; omega) (by rw [e]; exact hbd), e]
    have hz1 := zeros n (strOfNums (padL n)) (zs n) 1 20 (by omega) (by omega) (by omega) hzero
    rw [show ((1 : Nat) : Int) = (1 : Int) from rfl] at hz1
    rw [hz1, show 1 + zs n = zs n + 1 + 0 by omega]
    have hB : 0 ≤ n * 8 % 18446744073709551616 ∧ n * 8 % 18446744073709551616 < 18446744073709551616 := by omega
    have b7 : bx n 7 = n * 8 % 18446744073709551616 / 72057594037927936 % 256 := rfl
    have b6 : bx n 6 = n * 8 % 18446744073709551616 / 281474976710656 % 256 := rfl
    have b5 : bx n 5 = n * 8 % 18446744073709551616 / 1099511627776 % 256 := rfl
    have b4 : bx n 4 = n * 8 % 18446744073709551616 / 4294967296 % 256 := rfl
    have b3 : bx n 3 = n * 8 % 18446744073709551616 / 16777216 % 256 := rfl
    have b2 : bx n 2 = n * 8 % 18446744073709551616 / 65536 % 256 := rfl
    have b1 : bx n 1 = n * 8 % 18446744073709551616 / 256 % 256 := rfl
    have bz : bx n 0 = n * 8 % 18446744073709551616 % 256 := by unfold bx; omega
    have t0 := htail 0 (by omega)
    have t1 := htail 1 (by omega)
    have t2 := htail 2 (by omega)
    have t3 := htail 3 (by omega)
    have t4 := htail 4 (by omega)
    have t5 := htail 5 (by omega)
    have t6 := htail 6 (by omega)
    have t7 := htail 7 (by omega)
    simp only [Nat.reduceSub] at t0 t1 t2 t3 t4 t5 t6 t7
    rw [b7] at t0
    rw [b6] at t1
    rw [b5] at t2
    rw [b4] at t3
    rw [b3] at t4
    rw [b2] at t5
    rw [b1] at t6
    rw [bz] at t7
    have eW := wrapu n
    generalize n * 8 % 18446744073709551616 = B at *
    obtain ⟨_, a1, a2, a3, a4, a5, a6, a7⟩ := acc B hB.1
    have a0 : (0 : Int) * 256 + B / 72057594037927936 % 256 = B / 72057594037927936 := by omega
    rw [last n _ _ 19 0 _ (by omega) (by omega) (by omega) (by omega) t0 (by omega) (by omega) (by omega), a0,
      last n _ _ 18 _ _ (by omega) (by omega) (by omega) (by omega) t1 (by omega) (by omega) (by omega), a1,
      last n _ _ 17 _ _ (by omega) (by omega) (by omega) (by omega) t2 (by omega) (by omega) (by omega), a2,
      last n _ _ 16 _ _ (by omega) (by omega) (by omega) (by omega) t3 (by omega) (by omega) (by omega), a3,
      last n _ _ 15 _ _ (by omega) (by omega) (by omega) (by omega) t4 (by omega) (by omega) (by omega), a4,
      last n _ _ 14 _ _ (by omega) (by omega) (by omega) (by omega) t5 (by omega) (by omega) (by omega), a5,
      last n _ _ 13 _ _ (by omega) (by omega) (by omega) (by omega) t6 (by omega) (by omega) (by omega), a6,
      last n _ _ 12 _ _ (by omega) (by omega) (by omega) (by omega) t7 (by omega) (by omega) (by omega), a7]
    simp only [depotlaw01_ShaFills.l0]
    rw [if_neg (by omega), eW]
    simp

end Go.Proofs.Ytemioilfedpohaa.Pure
