/- The reference's Read: plain facts on the machine, and the walks of Num and Read. -/
import Derived.Test.YtikbbofjkchppaaPackShort
import Derived.Deep.DeepCutAuto
import Derived.Deep.CutRange
namespace Go.Proofs.Ytikbbofjkchppaa
set_option linter.unusedVariables false
set_option linter.unusedSimpArgs false
open Go.RowKit

/-! ### the number ahead -/
def numHi (L : List Nat) : Nat → Nat
  | 0 => 0
  | j + 1 => numHi L j * 256 + L.getD (7 - j) 0
theorem numHi_lt (L : List Nat) (hb : Bytes L) : ∀ j, numHi L j < 256 ^ j
  | 0 => by simp [numHi]
  | j + 1 => by
    have h1 := numHi_lt L hb j
    have h2 := bytes_getD hb (7 - j)
    rw [numHi, Nat.pow_succ]
    omega
def numLo (L : List Nat) : Nat → Nat
  | 0 => 0
  | j + 1 => numLo L j + L.getD j 0 * 2 ^ (8 * j)
theorem num_same (L : List Nat) : numLo L 8 = numHi L 8 := by
  simp only [numLo, numHi, Nat.sub_zero, Nat.reduceSub, Nat.reduceMul, Nat.reducePow, Nat.mul_zero, Nat.pow_zero]
  omega
theorem hd_low (s h c : Nat) (h3 : h < 7) : (hd s h).one c = hd (s + c * 2 ^ (8 * h)) (h + 1) := by
  have ht : (hd s h).take c = ({ hd s h with size := s + c * 2 ^ (8 * h), head := h + 1 }, true) := by
    unfold US.take
    rw [if_pos (show (hd s h).head < 8 from Nat.lt_of_lt_of_le h3 (by decide)), if_neg (show ¬((hd s h).head = 7 ∧ 1048576 < (hd s h).size + c * 2 ^ (8 * (hd s h).head)) from fun q => by have := q.1; simp only [hd] at this; omega)]
    rfl
  rw [one_go (hd s h) c rfl rfl, ht]
  rfl
theorem take_snoc (L : List Nat) (j : Nat) (h : j < L.length) : L.take (j + 1) = L.take j ++ [L.getD j 0] := by
  rw [List.take_succ_eq_append_getElem h]
  simp [List.getD_eq_getElem?_getD, h]
theorem feed_low (L : List Nat) : ∀ j, j ≤ 7 → j ≤ L.length → US.new.feed (L.take j) = hd (numLo L j) j
  | 0, _, _ => rfl
  | j + 1, h, hl => by
    rw [take_snoc L j (by omega), feed_append, feed_low L j (by omega) (by omega), feed_cons, feed_nil, hd_low _ _ _ (by omega)]
    rfl
/-- the eighth byte -/
theorem feed_eight (L : List Nat) (hl : 8 ≤ L.length) : US.new.feed (L.take 8) = if 1048576 < numHi L 8 then ⟨7, 2, 0, false, numHi L 8, 7, [], 0, [], 0⟩ else hd (numHi L 8) 8 := by
  rw [take_snoc L 7 (by omega), feed_append, feed_low L 7 (Nat.le_refl _) (by omega), feed_cons, feed_nil, ← num_same]
  have hsum : numLo L 8 = numLo L 7 + L.getD 7 0 * 2 ^ (8 * 7) := rfl
  by_cases hbig : 1048576 < numLo L 8
  · rw [if_pos hbig]
    have ht : (hd (numLo L 7) 7).take (L.getD 7 0) = (⟨7, 2, 0, false, numLo L 8, 7, [], 0, [], 0⟩, false) := by
      unfold US.take
      rw [if_pos (show (hd (numLo L 7) 7).head < 8 from (by decide : 7 < 8)), if_pos (show (hd (numLo L 7) 7).head = 7 ∧ 1048576 < (hd (numLo L 7) 7).size + L.getD 7 0 * 2 ^ (8 * (hd (numLo L 7) 7).head) from ⟨rfl, by rw [hsum] at hbig; exact hbig⟩)]
      rfl
    rw [one_go (hd (numLo L 7) 7) _ rfl rfl, ht]
    rfl
  · rw [if_neg hbig]
    exact hd_one _ 7 _ (numLo L 8) (by decide) (by rw [← hsum]; omega) hsum

/-! ### a token -/
/-- an unpacker ahead of a token -/
def tokU (n : Nat) (o : List Nat) (at_ st : Nat) : US := ⟨at_, 0, 0, false, n, 8, o, st, [], 0⟩
theorem tok_done (n : Nat) (o : List Nat) (a st c : Nat) (h : o.length = n) : (tokU n o a st).one c = ⟨a, 5, a, false, n, 8, o, st, [], 0⟩ := by
  have ht : (tokU n o a st).take c = (⟨a, 5, a, false, n, 8, o, st, [], 0⟩, false) := by
    unfold US.take
    rw [if_neg (show ¬ (tokU n o a st).head < 8 from (by decide : ¬ 8 < 8)), if_neg (show ¬ 0 < (tokU n o a st).plain from (by decide : ¬ 0 < 0)), if_neg (show ¬ 0 < (tokU n o a st).token.length from (by decide : ¬ 0 < 0)), if_pos (show (tokU n o a st).out.length = (tokU n o a st).size from h)]
    rfl
  rw [one_go _ c rfl rfl, ht]
  rfl
theorem tok_take (n : Nat) (o : List Nat) (a st c : Nat) (h : o.length < n) : (tokU n o a st).take c = (tokU n o a st).begin c := by
  unfold US.take
  rw [if_neg (show ¬ (tokU n o a st).head < 8 from (by decide : ¬ 8 < 8)), if_neg (show ¬ 0 < (tokU n o a st).plain from (by decide : ¬ 0 < 0)), if_neg (show ¬ 0 < (tokU n o a st).token.length from (by decide : ¬ 0 < 0)), if_neg (show ¬ (tokU n o a st).out.length = (tokU n o a st).size from Nat.ne_of_lt h)]
theorem tok_over (n : Nat) (o : List Nat) (a st c : Nat) (h : o.length < n) (h1 : n - o.length < lenOf c) : (tokU n o a st).one c = ⟨a, 101, a, false, n, 8, o, a, [], 0⟩ := by
  have ht : (tokU n o a st).take c = (⟨a, 101, a, false, n, 8, o, a, [], 0⟩, false) := by
    rw [tok_take n o a st c h]
    unfold US.begin
    rw [if_pos (show (tokU n o a st).size - (tokU n o a st).out.length < lenOf c from h1)]
    rfl
  rw [one_go _ c rfl rfl, ht]
  rfl
theorem tok_back (n : Nat) (o : List Nat) (a st c : Nat) (h : o.length < n) (h1 : ¬ n - o.length < lenOf c) (h2 : 128 ≤ c) : (tokU n o a st).one c = ⟨a + 1, 0, 0, false, n, 8, o, a, [c], 0⟩ := by
  have ht : (tokU n o a st).take c = (⟨a, 0, 0, false, n, 8, o, a, [c], 0⟩, true) := by
    rw [tok_take n o a st c h]
    unfold US.begin
    rw [if_neg (show ¬ (tokU n o a st).size - (tokU n o a st).out.length < lenOf c from h1), if_pos h2]
    rfl
  rw [one_go _ c rfl rfl, ht]
  rfl
theorem tok_run (n : Nat) (o : List Nat) (a st c : Nat) (h : o.length < n) (h1 : ¬ n - o.length < lenOf c) (h2 : ¬ 128 ≤ c) : (tokU n o a st).one c = ⟨a + 1, 0, 0, false, n, 8, o, a, [], c + 1⟩ := by
  have ht : (tokU n o a st).take c = (⟨a, 0, 0, false, n, 8, o, a, [], c + 1⟩, true) := by
    rw [tok_take n o a st c h]
    unfold US.begin
    rw [if_neg (show ¬ (tokU n o a st).size - (tokU n o a st).out.length < lenOf c from h1), if_neg h2, lenOf_lo (by omega)]
    rfl
  rw [one_go _ c rfl rfl, ht]
  rfl
theorem tok_plain (n : Nat) (o : List Nat) (a st q : Nat) (xs : List Nat) : (⟨a, 0, 0, false, n, 8, o, st, [], xs.length + q⟩ : US).feed xs = ⟨a + xs.length, 0, 0, false, n, 8, o ++ xs, st, [], q⟩ :=
  feed_plain xs _ q rfl rfl rfl rfl
theorem tok_second (n : Nat) (o : List Nat) (a st c x : Nat) : (⟨a, 0, 0, false, n, 8, o, st, [c], 0⟩ : US).one x = ⟨a + 1, 0, 0, false, n, 8, o, st, [c, x], 0⟩ := by
  have ht : (⟨a, 0, 0, false, n, 8, o, st, [c], 0⟩ : US).take x = (⟨a, 0, 0, false, n, 8, o, st, [c, x], 0⟩, true) := by
    unfold US.take
    simp
  rw [one_go _ x rfl rfl, ht]
  rfl
theorem tok_third (n : Nat) (o : List Nat) (a st c x y : Nat) : (⟨a, 0, 0, false, n, 8, o, st, [c, x], 0⟩ : US).one y = if o.length < x + y * 256 + 1 then ⟨a, 100, st, false, n, 8, o, st, [c, x, y], 0⟩ else ⟨a + 1, 0, 0, false, n, 8, copyOut (x + y * 256 + 1) (c - 124) o, st, [], 0⟩ := by
  have ht : (⟨a, 0, 0, false, n, 8, o, st, [c, x], 0⟩ : US).take y = (⟨a, 0, 0, false, n, 8, o, st, [c, x, y], 0⟩ : US).copy := by
    unfold US.take
    simp
  rw [one_go _ y rfl rfl, ht]
  have hfo : farOf [c, x, y] = x + y * 256 + 1 := rfl
  have h0 : ([c, x, y] : List Nat).getD 0 0 = c := rfl
  unfold US.copy
  simp only [hfo, h0]
  by_cases h : o.length < x + y * 256 + 1
  · rw [if_pos h, if_pos h]
    rfl
  · rw [if_neg h, if_neg h]
    simp only [if_true]

set_option maxRecDepth 100000 in
set_option maxHeartbeats 2000000 in
theorem num_any (s : ByteArray) (hs : 8 ≤ s.size) (hs2 : s.size ≤ 140737488351232) (w : World) : Calls Try.prog 38 #[.string s, .int .i64 0] w fun e w' => e = .returned (.int .u64 (numHi (nb s) 8 : Nat)) ∧ w = w' := by
  have HB := Lib.hid (numHi_lt (nb s) (nb_bytes s))
  have HS := Lib.hid hs
  have h8 : (8 : Int) ≤ s.size := by omega
  clear hs
  go_enter Try.func38, Try.ntmps38
  go_wp2_with fail
  go_loop [5, 6] (fun x5 x6 => ∃ j : Nat, j ≤ 8 ∧ x5 = .int .u64 (numHi (nb s) j : Nat) ∧ x6 = .int .i64 (7 - (j : Int))) (fun _ x6 => (intOf x6 + 1).toNat)
  case atStart => exact ⟨0, by omega, rfl, rfl⟩
  case round =>
    obtain ⟨j, hj, rfl, rfl⟩ := hrel
    have hj0 : (0 : Int) ≤ j := by omega
    by_cases hlt : j < 8
    · have hltI : (0 : Int) ≤ 7 - (j : Int) := by omega
      have hl7 : (7 : Int) - (j : Int) < s.size := by omega
      have ht7 : ((7 : Int) - (j : Int)).toNat = 7 - j := by omega
      have hx : (s[7 - j]'(by have := HS.out; omega)).toNat = (nb s).getD (7 - j) 0 := (getD_nb s (7 - j) (by have := HS.out; omega)).symm
      have hstep : numHi (nb s) (j + 1) = numHi (nb s) j * 256 + (nb s).getD (7 - j) 0 := rfl
      have hb := HB.out j
      have hb1 := HB.out (j + 1)
      have hp : 256 ^ (j + 1) ≤ 256 ^ 8 := Nat.pow_le_pow_right (by omega) (by omega)
      rw [hstep] at hb1
      have hc := bytes_getD (nb_bytes s) (7 - j)
      generalize (nb s).getD (7 - j) 0 = c at *
      generalize numHi (nb s) j = v at *
      have hv : (v : Int) * 256 + c < 18446744073709551616 := by
        have : 256 ^ 8 = 18446744073709551616 := by decide
        omega
      have hv0 : (0 : Int) ≤ v := by omega
      have hc0 : (0 : Int) ≤ c := by omega
      have hc1 : (c : Int) < 256 := by omega
      have hv1 : (v : Int) * 256 < 18446744073709551616 := by omega
      have w1 : IntKind.u64.wrap ((v : Int) * 256) = (v : Int) * 256 := IntWalk.u64_in _ (by omega)
      have w2 : IntKind.u64.wrap (c : Int) = c := IntWalk.u64_in _ (by omega)
      have w3 : IntKind.u64.wrap ((v : Int) * 256 + c) = (v : Int) * 256 + c := IntWalk.u64_in _ (by omega)
      have HST := Lib.hid hstep
      clear hb hb1 hp hc hstep hv hv1
      go_wp2_with fail
      go_round
      case rel => exact ⟨j + 1, by omega, by rw [HST.out]; go_num, by congr 1; omega⟩
      case measure => simp [intOf]; omega
    · obtain rfl : j = 8 := by omega
      go_wp2_with fail
      go_ret
      exact ⟨rfl, rfl⟩
end Go.Proofs.Ytikbbofjkchppaa

