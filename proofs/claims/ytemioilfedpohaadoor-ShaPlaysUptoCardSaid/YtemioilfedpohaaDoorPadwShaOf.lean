/- The padding as a list: plain facts on the printed functions of sha.Pad. -/
import Derived.Test.YtemioilfedpohaaDoorPShaOfx1
namespace Go.Proofs.YtemioilfedpohaaDoor.PadwShaOf
set_option linter.unusedVariables false
open Go.RowKit Go.Proofs.YtemioilfedpohaaDoor.PShaOf Go.Proofs.YtemioilfedpohaaDoorW.PrintWords Go.Proofs.YtemioilfedpohaaDoorW.PrintLast

/-- how many zero bytes stand behind the first -/
def zs (n : Int) : Nat := ((119 - n % 64) % 64).toNat
/-- byte i of the length in bits -/
def bx (n : Int) (i : Nat) : Int := (n * 8 % 18446744073709551616) / 2 ^ (8 * i) % 256
def tail8 (n : Int) : List Int := [bx n 7, bx n 6, bx n 5, bx n 4, bx n 3, bx n 2, bx n 1, bx n 0]
def padL (n : Int) : List Int := 128 :: (List.replicate (zs n) 0 ++ tail8 n)

theorem zs_le (n : Int) : zs n ≤ 63 := by unfold zs; omega

theorem shr8 (x : Int) (i : Nat) (hi : i < 8) : shr .u64 x (8 * (i : Int)) = x / 2 ^ (8 * i) := by
  unfold shr
  have h1 : (8 * (i : Int)).toNat = 8 * i := by omega
  have h2 : IntKind.u64.bits = 64 := rfl
  rw [h1, h2, Nat.min_eq_left (by omega)]

theorem step (k : Nat) (xs : List Int) (x : Int) (i : Nat) (hi : i < 8) (h1 : 9 ≤ xs.length) (h2 : xs.length ≤ 100) :
    sha_Pad.l0 (k + 1) xs x (i : Int) = sha_Pad.l0 k (xs.set (xs.length - 1 - i) (x / 2 ^ (8 * i) % 256)) x ((i + 1 : Nat) : Int) := by
  have e0 : wrap64 (8 * (i : Int)) = 8 * (i : Int) := by unfold wrap64; omega
  have e1 : wrap64 ((xs.length : Int) - 1) = (xs.length : Int) - 1 := by unfold wrap64; omega
  have e2 : wrap64 ((xs.length : Int) - 1 - (i : Int)) = (xs.length : Int) - 1 - (i : Int) := by unfold wrap64; omega
  have e3 : wrap64 ((i : Int) + 1) = ((i + 1 : Nat) : Int) := by unfold wrap64; omega
  have e4 : ((xs.length : Int) - 1 - (i : Int)).toNat = xs.length - 1 - i := by omega
  simp only [sha_Pad.l0]
  rw [if_pos (by omega), e0, e1, e2, e3, e4, if_pos (by omega), if_pos (by omega), if_pos (by omega), shr8 x i hi]

theorem set_tail (A : List Int) (b0 b1 b2 b3 b4 b5 b6 b7 : Int) :
    ((((((((A ++ [b0, b1, b2, b3, b4, b5, b6, b7]) : List Int)))))).length = A.length + 8) := by simp

theorem set_app (A B : List Int) (j : Nat) (v : Int) : (A ++ B).set (A.length + j) v = A ++ B.set j v := by
  rw [List.set_append_right _ _ (by omega)]
  congr 2; omega

theorem loop (A : List Int) (x : Int) (h1 : 1 ≤ A.length) (h2 : A.length ≤ 90) (k : Nat) :
    sha_Pad.l0 (k + 9) (A ++ [0, 0, 0, 0, 0, 0, 0, 0]) x 0 =
      some (strOfNums (A ++ [x / 2 ^ 56 % 256, x / 2 ^ 48 % 256, x / 2 ^ 40 % 256, x / 2 ^ 32 % 256, x / 2 ^ 24 % 256, x / 2 ^ 16 % 256, x / 2 ^ 8 % 256, x / 2 ^ 0 % 256])) := by
  have st : ∀ (k : Nat) (B : List Int) (i : Nat), i < 8 → B.length = 8 → sha_Pad.l0 (k + 1) (A ++ B) x (i : Int) = sha_Pad.l0 k (A ++ B.set (7 - i) (x / 2 ^ (8 * i) % 256)) x ((i + 1 : Nat) : Int) := by
    intro k B i hi hB
    rw [step k _ x i hi (by simp; omega) (by simp; omega)]
    rw [show (A ++ B).length - 1 - i = A.length + (7 - i) by simp; omega, set_app]
  show sha_Pad.l0 (k + 8 + 1) _ x ((0 : Nat) : Int) = _
  rw [st (k + 8) _ 0 (by omega) rfl, st (k + 7) _ 1 (by omega) rfl, st (k + 6) _ 2 (by omega) rfl, st (k + 5) _ 3 (by omega) rfl, st (k + 4) _ 4 (by omega) rfl, st (k + 3) _ 5 (by omega) rfl, st (k + 2) _ 6 (by omega) rfl, st (k + 1) _ 7 (by omega) rfl]
  simp only [sha_Pad.l0]
  rw [if_neg (by omega)]
  rfl

theorem wrapu (n : Int) : IntKind.u64.wrap (IntKind.u64.wrap n * 8) = n * 8 % 18446744073709551616 := by
  have e : ∀ m : Int, IntKind.u64.wrap m = m % 18446744073709551616 := fun m => by simp [IntKind.wrap, IntKind.bits, IntKind.signed]
  rw [e, e]; omega

theorem pad_is (n : Int) (h : 0 ≤ n) (h' : n ≤ 9223372036854775807) (k : Nat) : sha_Pad.f (k + 9) n = some (strOfNums (padL n)) := by
  unfold sha_Pad.f
  rw [if_neg (by omega)]
  have e : wrap64 (wrap64 (1 + (wrap64 (119 - n.tmod 64)).tmod 64) + 8) = (zs n : Int) + 9 := by
    rw [Int.tmod_eq_emod_of_nonneg h]
    have h0 : wrap64 (119 - n % 64) = 119 - n % 64 := by unfold wrap64; omega
    rw [h0, Int.tmod_eq_emod_of_nonneg (by omega)]
    unfold zs wrap64
    omega
  rw [e, wrapu n]
  have hz := zs_le n
  rw [if_pos (by omega), if_pos (by omega)]
  simp only [Option.bind_some, List.length_replicate]
  rw [if_pos (by omega)]
  have e2 : (List.replicate ((zs n : Int) + 9).toNat 0 : List Int).set (0 : Int).toNat 128 = (128 :: List.replicate (zs n) 0) ++ [0, 0, 0, 0, 0, 0, 0, 0] := by
    rw [show ((zs n : Int) + 9).toNat = zs n + 8 + 1 by omega, List.replicate_succ, show (0 : Int).toNat = 0 from rfl, List.set_cons_zero, ← List.replicate_append_replicate]
    rfl
  rw [e2, loop _ _ (by simp) (by simp; omega)]
  simp only [padL, tail8, bx]
  rfl

theorem pad_neg (n : Int) (h : n < 0) (k : Nat) : sha_Pad.f k n = some ⟨#[]⟩ := by
  unfold sha_Pad.f; rw [if_pos h]

theorem str_app (xs ys : List Int) : strOfNums (xs ++ ys) = strOfNums xs ++ strOfNums ys := by
  apply ByteArray.ext
  simp [strOfNums]
theorem str_size (xs : List Int) : (strOfNums xs).size = xs.length := by
  simp [strOfNums, ByteArray.size]
theorem bt_str (xs : List Int) (i : Nat) (h : i < xs.length) (hb : 0 ≤ xs[i] ∧ xs[i] < 256) : bt (strOfNums xs) (i : Int) = xs[i] := by
  unfold bt
  rw [dif_pos (by rw [str_size]; omega)]
  have e : (strOfNums xs)[(i : Int).toNat]'(by rw [str_size]; omega) = UInt8.ofNat xs[i].toNat := by
    simp [strOfNums, ByteArray.getElem_eq_getElem_data]
  rw [e]
  simp
  omega
theorem bx_bound (n : Int) (i : Nat) : 0 ≤ bx n i ∧ bx n i < 256 := by unfold bx; omega
theorem padL_length (n : Int) : (padL n).length = zs n + 9 := by simp [padL, tail8]
end Go.Proofs.YtemioilfedpohaaDoor.PadwShaOf
