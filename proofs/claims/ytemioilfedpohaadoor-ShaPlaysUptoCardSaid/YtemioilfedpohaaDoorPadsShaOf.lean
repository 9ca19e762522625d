/- The contracts of sha.Pad and depotref01.Pad: the padding of n bytes as a list of bytes. -/
import Derived.Test.YtemioilfedpohaaDoorPadwShaOf
import Derived.Test.YtemioilfedpohaaDoorShs
namespace Go.Proofs.YtemioilfedpohaaDoor
set_option linter.unusedVariables false
set_option linter.unusedSimpArgs false
open Go.RowKit Go.Proofs.YtemioilfedpohaaDoor.PShaOf Go.Proofs.YtemioilfedpohaaDoorW.PrintWords Go.Proofs.YtemioilfedpohaaDoorW.PrintLast
open Go.Proofs.YtemioilfedpohaaDoor.PadwShaOf

theorem ref1 (n : Int) (i : Nat) (hi : i < 8) (k : Nat) (s : ByteArray) (hs : s.size ≤ 200) :
    depotref01_Pad.l1 (k + 1) s (n * 8 % 18446744073709551616) (i : Int) = depotref01_Pad.l1 k (s ++ strOfNums [bx n i]) (n * 8 % 18446744073709551616) ((i : Int) - 1) := by
  have e0 : wrap64 (8 * (i : Int)) = 8 * (i : Int) := by unfold wrap64; omega
  have e1 : IntKind.u64.wrap (8 * (i : Int)) = 8 * (i : Int) := by rw [IntKind.wrap_u64]; omega
  have e2 : wrap64 ((i : Int) - 1) = (i : Int) - 1 := by unfold wrap64; omega
  have e3 : Go.bits .and .u64 (shr .u64 (n * 8 % 18446744073709551616) (8 * (i : Int))) 255 % 256 = bx n i := by
    rw [shr8 _ i hi]
    unfold bx
    have h0 : 0 ≤ n * 8 % 18446744073709551616 / 2 ^ (8 * i) := Int.ediv_nonneg (by omega) (by exact_mod_cast Nat.zero_le (2 ^ (8 * i)))
    have h1 : n * 8 % 18446744073709551616 / 2 ^ (8 * i) ≤ n * 8 % 18446744073709551616 := Int.ediv_le_self _ (by omega)
    generalize n * 8 % 18446744073709551616 / 2 ^ (8 * i) = y at *
    rw [u64_and y 255 h0 (by omega) (by omega) (by omega), show (255 : Int).toNat = 255 from rfl, nat_mask8]
    omega
  simp only [depotref01_Pad.l1]
  rw [if_pos (by omega), e0, e1, e2, e3, if_pos (by omega)]
  simp only [Option.bind_some]
  rw [if_pos (by rw [str_size]; simp; omega)]

theorem ref0 (n : Int) (h : 0 ≤ n) (d : Nat) : ∀ (j k : Nat), j + d = zs n → depotref01_Pad.l0 (k + 10 + d) n (strOfNums (128 :: List.replicate j 0)) = some (strOfNums (padL n)) := by
  have hz := zs_le n
  induction d with
  | zero =>
    intro j k hj
    have hsz : (strOfNums (128 :: List.replicate j 0)).size = j + 1 := by rw [str_size]; simp
    show depotref01_Pad.l0 (k + 9 + 1) n _ = _
    simp only [depotref01_Pad.l0]
    have ew : wrap64 ((n.tmod 64) + ((j + 1 : Nat) : Int)) = n % 64 + (j + 1) := by
      rw [Int.tmod_eq_emod_of_nonneg h]; unfold wrap64; omega
    rw [hsz, ew, if_pos (by rw [Int.tmod_eq_emod_of_nonneg (by omega)]; unfold zs at hj; omega), wrapu n]
    have s7 := ref1 n 7 (by omega) (k + 8) (strOfNums (128 :: List.replicate j 0)) (by omega)
    show depotref01_Pad.l1 (k + 8 + 1) _ _ ((7 : Nat) : Int) = _
    rw [s7]
    have st : ∀ (i : Nat) (k : Nat) (xs : List Int), i < 8 → xs.length ≤ 100 → depotref01_Pad.l1 (k + 1) (strOfNums xs) (n * 8 % 18446744073709551616) (i : Int) = depotref01_Pad.l1 k (strOfNums (xs ++ [bx n i])) (n * 8 % 18446744073709551616) ((i : Int) - 1) := by
      intro i k xs hi hx
      rw [ref1 n i hi k _ (by rw [str_size]; omega), str_app]
    rw [← str_app]
    rw [show ((7 : Nat) : Int) - 1 = ((6 : Nat) : Int) from rfl, st 6 (k + 7) _ (by omega) (by simp; omega),
      show ((6 : Nat) : Int) - 1 = ((5 : Nat) : Int) from rfl, st 5 (k + 6) _ (by omega) (by simp; omega),
      show ((5 : Nat) : Int) - 1 = ((4 : Nat) : Int) from rfl, st 4 (k + 5) _ (by omega) (by simp; omega),
      show ((4 : Nat) : Int) - 1 = ((3 : Nat) : Int) from rfl, st 3 (k + 4) _ (by omega) (by simp; omega),
      show ((3 : Nat) : Int) - 1 = ((2 : Nat) : Int) from rfl, st 2 (k + 3) _ (by omega) (by simp; omega),
      show ((2 : Nat) : Int) - 1 = ((1 : Nat) : Int) from rfl, st 1 (k + 2) _ (by omega) (by simp; omega),
      show ((1 : Nat) : Int) - 1 = ((0 : Nat) : Int) from rfl, st 0 (k + 1) _ (by omega) (by simp; omega)]
    simp only [depotref01_Pad.l1]
    rw [if_neg (by omega)]
    obtain rfl : j = zs n := by omega
    simp only [padL, tail8, List.append_assoc, List.cons_append, List.nil_append]
  | succ d ih =>
    intro j k hj
    have hsz : (strOfNums (128 :: List.replicate j 0)).size = j + 1 := by rw [str_size]; simp
    show depotref01_Pad.l0 (k + 10 + d + 1) n _ = _
    simp only [depotref01_Pad.l0]
    have ew : wrap64 ((n.tmod 64) + ((j + 1 : Nat) : Int)) = n % 64 + (j + 1) := by
      rw [Int.tmod_eq_emod_of_nonneg h]; unfold wrap64; omega
    rw [hsz, ew, if_neg (by rw [Int.tmod_eq_emod_of_nonneg (by omega)]; unfold zs at hj; omega), if_pos (by omega)]
    have e : strOfNums (128 :: List.replicate j 0) ++ (⟨#[0]⟩ : ByteArray) = strOfNums (128 :: List.replicate (j + 1) 0) := by
      have e1 : (⟨#[0]⟩ : ByteArray) = strOfNums [0] := rfl
      rw [e1, ← str_app, List.cons_append, List.replicate_succ']
    rw [e]
    exact ih (j + 1) k (by omega)

theorem ref_is (n : Int) (h : 0 ≤ n) (k : Nat) : depotref01_Pad.f (k + 10 + zs n) n = some (strOfNums (padL n)) := by
  unfold depotref01_Pad.f
  rw [if_neg (by omega)]
  exact ref0 n h (zs n) 0 k (by omega)


theorem nb_nums : ∀ xs : List Int, (∀ x ∈ xs, 0 ≤ x ∧ x < 256) → nb (strOfNums xs) = xs.map Int.toNat := by
  intro xs h
  simp only [nb, strOfNums, List.map_map]
  apply List.map_congr_left
  intro x hx
  have := h x hx
  simp
  omega
theorem padL_bound (n : Int) : ∀ x ∈ padL n, 0 ≤ x ∧ x < 256 := by
  intro x hx
  simp only [padL, tail8, List.mem_cons, List.mem_append, List.mem_replicate, List.not_mem_nil, or_false] at hx
  rcases hx with rfl | ⟨_, rfl⟩ | rfl | rfl | rfl | rfl | rfl | rfl | rfl | rfl
  · omega
  · omega
  all_goals exact bx_bound _ _
theorem bx_nat (n i : Nat) : (bx (n : Int) i).toNat = bxN n i := by
  unfold bx bxN
  have e : ((n : Int) * 8 % 18446744073709551616) / 2 ^ (8 * i) % 256 = ((n * 8 % 18446744073709551616 / 2 ^ (8 * i) % 256 : Nat) : Int) := by
    have h : ∀ M P : Nat, ((n : Int) * 8 % (M : Int)) / (P : Int) % 256 = ((n * 8 % M / P % 256 : Nat) : Int) := by
      intro M P
      rw [Int.natCast_emod, Int.natCast_ediv, Int.natCast_emod, Int.natCast_mul]
      rfl
    have h2 := h 18446744073709551616 (2 ^ (8 * i))
    rw [Int.natCast_pow] at h2
    exact h2
  rw [e, Int.toNat_natCast]
theorem padL_nat (n : Nat) : (padL (n : Int)).map Int.toNat = padN n := by
  have hz : zs (n : Int) = zsN n := by unfold zs zsN; omega
  simp only [padL, tail8, padN, List.map_cons, List.map_append, List.map_replicate, List.map_nil, bx_nat, hz]
  rfl

/-- a padding is handed back -/
def PadOut (w : World) (n : Nat) (e : Ending) (w' : World) : Prop := ∃ s : ByteArray, e = .returned (.string s) ∧ nb s = padN n ∧ Below w.heap.size w w'
theorem spad_any (n : Nat) (h : n ≤ 9223372036854775807) (w : World) : Calls Tryd.prog 20 #[.int .i64 (n : Int)] w (PadOut w n) :=
  (sha_Pad.calls 9 n _ w (pad_is n (by omega) (by omega) 0)).mono fun _ _ ⟨he, hb⟩ => ⟨_, he, by rw [nb_nums _ (padL_bound n), padL_nat], hb⟩
theorem rpad_any (n : Nat) (w : World) : Calls Tryd.prog 34 #[.int .i64 (n : Int)] w (PadOut w n) :=
  (depotref01_Pad.calls _ n _ w (ref_is n (by omega) 0)).mono fun _ _ ⟨he, hb⟩ => ⟨_, he, by rw [nb_nums _ (padL_bound n), padL_nat], hb⟩
end Go.Proofs.YtemioilfedpohaaDoor
