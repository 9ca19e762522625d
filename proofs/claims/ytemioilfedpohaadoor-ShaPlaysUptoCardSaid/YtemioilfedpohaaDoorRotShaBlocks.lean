/- The words of 32 bits, turned: contracts of sha.right and depotref01.turn. -/
import Derived.Test.YtemioilfedpohaaDoorPShaBlocksx1
import Derived.Lib.Hide
import Derived.WalkKit
namespace Go.Proofs.YtemioilfedpohaaDoor
open Go.RowKit Go.Proofs.YtemioilfedpohaaDoor.PShaBlocks Go.Proofs.YtemioilfedpohaaDoorW.PrintWords Go.Proofs.YtemioilfedpohaaDoorW.PrintMore

/-- x turned to the right by n bits -/
def rot (x n : Nat) : Nat := x / 2 ^ n ||| x * 2 ^ (32 - n) % 4294967296

theorem rot_lt (x n : Nat) (hx : x < 4294967296) : rot x n < 4294967296 := by
  unfold rot
  refine Nat.or_lt_two_pow (n := 32) ?_ (Nat.mod_lt _ (by omega))
  exact Nat.lt_of_le_of_lt (Nat.div_le_self _ _) hx

theorem right_is (x n : Nat) (hx : x < 4294967296) (h1 : 1 ≤ n) (h2 : n ≤ 31) : sha_right.f (x : Int) (n : Int) = some (rot x n : Int) := by
  unfold sha_right.f
  have e1 : IntKind.u64.wrap (32 - (n : Int)) = ((32 - n : Nat) : Int) := by rw [IntKind.wrap_u64]; omega
  rw [if_pos (by omega), e1, if_pos (by omega)]
  refine congrArg some ?_
  have e2 : shr .u32 (x : Int) (n : Int) = ((x / 2 ^ n : Nat) : Int) := by
    unfold shr
    rw [show IntKind.u32.bits = 32 from rfl, show (n : Int).toNat = n by omega, Nat.min_eq_left (by omega), Int.natCast_ediv]
    simp
  have e3 : shl .u32 (x : Int) ((32 - n : Nat) : Int) = ((x * 2 ^ (32 - n) % 4294967296 : Nat) : Int) := by
    unfold shl
    rw [show IntKind.u32.bits = 32 from rfl, show ((32 - n : Nat) : Int).toNat = 32 - n by omega, Nat.min_eq_left (by omega), IntKind.wrap_u32']
    simp
  rw [e2, e3]
  have h3 : x / 2 ^ n < 4294967296 := Nat.lt_of_le_of_lt (Nat.div_le_self _ _) hx
  rw [u32_or_nat _ _ h3 (Nat.mod_lt _ (by omega))]
  rfl

theorem right_any (x n : Nat) (hx : x < 4294967296) (h1 : 1 ≤ n) (h2 : n ≤ 31) (w : World) :
    Calls Tryd.prog 28 #[.int .u32 (x : Int), .int .u64 (n : Int)] w fun e w' => e = .returned (.int .u32 (rot x n : Int)) ∧ ∃ m, w' = w.drewN m :=
  (sha_right.calls (x : Int) (n : Int) _ w (right_is x n hx h1 h2)).mono fun _ _ ⟨h, hd⟩ => ⟨h, hd.out⟩

theorem turn_is (x n : Nat) (hx : x < 4294967296) (h1 : 1 ≤ n) (h2 : n ≤ 31) : depotref01_turn.f (x : Int) (n : Int) = some (rot x n : Int) := by
  unfold depotref01_turn.f
  rw [if_pos (by omega)]
  refine congrArg some ?_
  have e1 : IntKind.u64.wrap (x : Int) = x := by rw [IntKind.wrap_u64]; omega
  have e2 : IntKind.u64.wrap ((x : Int) * 4294967296) = ((x * 4294967296 : Nat) : Int) := by rw [IntKind.wrap_u64]; omega
  rw [e1, e2, u64_or_nat _ _ (by omega) (by omega), nat_join 32 _ _ (by omega) (by omega)]
  unfold shr
  rw [show IntKind.u64.bits = 64 from rfl, show (n : Int).toNat = n by omega, Nat.min_eq_left (by omega)]
  rw [show (((x * 4294967296 + x : Nat) : Int) / 2 ^ n % 4294967296) = (((x * 4294967296 + x) / 2 ^ n % 4294967296 : Nat) : Int) by simp]
  congr 1
  -- by the place of each bit
  unfold rot
  have hp : 2 ^ (32 - n) * 2 ^ n = 4294967296 := by rw [← Nat.pow_add, show 32 - n + n = 32 by omega]
  have e3 : (x * 4294967296 + x) / 2 ^ n = x * 2 ^ (32 - n) + x / 2 ^ n := by
    rw [← hp, ← Nat.mul_assoc, Nat.mul_comm, Nat.mul_add_div (Nat.two_pow_pos _)]
  have hq : x / 2 ^ n < 2 ^ (32 - n) := by
    rw [Nat.div_lt_iff_lt_mul (Nat.two_pow_pos _), hp]; exact hx
  have hdvd : x * 2 ^ (32 - n) % 4294967296 % 2 ^ (32 - n) = 0 := by
    rw [Nat.mod_mod_of_dvd _ ⟨2 ^ n, hp.symm⟩, Nat.mul_mod_left]
  rw [e3, Nat.or_comm, nat_join (32 - n) _ _ hdvd hq]
  have hle : x * 2 ^ (32 - n) % 4294967296 + x / 2 ^ n < 4294967296 := by
    have h5 : x * 2 ^ (32 - n) % 4294967296 < 4294967296 := Nat.mod_lt _ (by omega)
    obtain ⟨c, hc⟩ := Nat.dvd_of_mod_eq_zero hdvd
    rw [hc] at h5 ⊢
    have h6 : c < 2 ^ n := by
      rw [← hp] at h5
      exact Nat.lt_of_mul_lt_mul_left h5
    have h7 : 2 ^ (32 - n) * (c + 1) ≤ 2 ^ (32 - n) * 2 ^ n := Nat.mul_le_mul_left _ h6
    rw [hp, Nat.mul_add, Nat.mul_one] at h7
    omega
  rw [Nat.add_mod, Nat.mod_eq_of_lt (show x / 2 ^ n < 4294967296 from Nat.lt_of_le_of_lt (Nat.div_le_self _ _) hx), Nat.mod_eq_of_lt hle]

theorem turn_any (x n : Nat) (hx : x < 4294967296) (h1 : 1 ≤ n) (h2 : n ≤ 31) (w : World) :
    Calls Tryd.prog 36 #[.int .u32 (x : Int), .int .u64 (n : Int)] w fun e w' => e = .returned (.int .u32 (rot x n : Int)) ∧ ∃ m, w' = w.drewN m :=
  (depotref01_turn.calls (x : Int) (n : Int) _ w (turn_is x n hx h1 h2)).mono fun _ _ ⟨h, hd⟩ => ⟨h, hd.out⟩
-- right_lit

theorem rot_lit (x n : Nat) (p q : Int) (hx : x < 4294967296) (hp : p = ((2 ^ n : Nat) : Int)) (hq : q = ((2 ^ (32 - n) : Nat) : Int)) :
    Go.bits .or .u32 ((x : Int) / p) ((x : Int) * q % 4294967296) = (rot x n : Int) := by
  subst hp; subst hq
  rw [show (x : Int) / ((2 ^ n : Nat) : Int) = ((x / 2 ^ n : Nat) : Int) by rw [Int.natCast_ediv], show (x : Int) * ((2 ^ (32 - n) : Nat) : Int) = ((x * 2 ^ (32 - n) : Nat) : Int) by rw [Int.natCast_mul],
    show ((x * 2 ^ (32 - n) : Nat) : Int) % 4294967296 = ((x * 2 ^ (32 - n) % 4294967296 : Nat) : Int) by omega]
  have h3 : x / 2 ^ n < 4294967296 := Nat.lt_of_le_of_lt (Nat.div_le_self _ _) hx
  rw [u32_or_nat _ _ h3 (Nat.mod_lt _ (by omega))]
  rfl

theorem right_2 (x : Nat) (hx : x < 4294967296) (w : World) :
    Calls Tryd.prog 28 #[.int .u32 (x : Int), .int .u64 2] w fun e w' => e = .returned (.int .u32 (rot x 2 : Int)) ∧ w = w' := by
  have e := rot_lit x 2 4 1073741824 hx (by decide) (by decide)
  clear hx
  go_enter Tryd.func28, Tryd.ntmps28
  go_wp2
  go_ret
  exact ⟨rfl, rfl⟩

theorem right_6 (x : Nat) (hx : x < 4294967296) (w : World) :
    Calls Tryd.prog 28 #[.int .u32 (x : Int), .int .u64 6] w fun e w' => e = .returned (.int .u32 (rot x 6 : Int)) ∧ w = w' := by
  have e := rot_lit x 6 64 67108864 hx (by decide) (by decide)
  clear hx
  go_enter Tryd.func28, Tryd.ntmps28
  go_wp2
  go_ret
  exact ⟨rfl, rfl⟩

theorem right_7 (x : Nat) (hx : x < 4294967296) (w : World) :
    Calls Tryd.prog 28 #[.int .u32 (x : Int), .int .u64 7] w fun e w' => e = .returned (.int .u32 (rot x 7 : Int)) ∧ w = w' := by
  have e := rot_lit x 7 128 33554432 hx (by decide) (by decide)
  clear hx
  go_enter Tryd.func28, Tryd.ntmps28
  go_wp2
  go_ret
  exact ⟨rfl, rfl⟩

theorem right_11 (x : Nat) (hx : x < 4294967296) (w : World) :
    Calls Tryd.prog 28 #[.int .u32 (x : Int), .int .u64 11] w fun e w' => e = .returned (.int .u32 (rot x 11 : Int)) ∧ w = w' := by
  have e := rot_lit x 11 2048 2097152 hx (by decide) (by decide)
  clear hx
  go_enter Tryd.func28, Tryd.ntmps28
  go_wp2
  go_ret
  exact ⟨rfl, rfl⟩

theorem right_13 (x : Nat) (hx : x < 4294967296) (w : World) :
    Calls Tryd.prog 28 #[.int .u32 (x : Int), .int .u64 13] w fun e w' => e = .returned (.int .u32 (rot x 13 : Int)) ∧ w = w' := by
  have e := rot_lit x 13 8192 524288 hx (by decide) (by decide)
  clear hx
  go_enter Tryd.func28, Tryd.ntmps28
  go_wp2
  go_ret
  exact ⟨rfl, rfl⟩

theorem right_17 (x : Nat) (hx : x < 4294967296) (w : World) :
    Calls Tryd.prog 28 #[.int .u32 (x : Int), .int .u64 17] w fun e w' => e = .returned (.int .u32 (rot x 17 : Int)) ∧ w = w' := by
  have e := rot_lit x 17 131072 32768 hx (by decide) (by decide)
  clear hx
  go_enter Tryd.func28, Tryd.ntmps28
  go_wp2
  go_ret
  exact ⟨rfl, rfl⟩

theorem right_18 (x : Nat) (hx : x < 4294967296) (w : World) :
    Calls Tryd.prog 28 #[.int .u32 (x : Int), .int .u64 18] w fun e w' => e = .returned (.int .u32 (rot x 18 : Int)) ∧ w = w' := by
  have e := rot_lit x 18 262144 16384 hx (by decide) (by decide)
  clear hx
  go_enter Tryd.func28, Tryd.ntmps28
  go_wp2
  go_ret
  exact ⟨rfl, rfl⟩

theorem right_19 (x : Nat) (hx : x < 4294967296) (w : World) :
    Calls Tryd.prog 28 #[.int .u32 (x : Int), .int .u64 19] w fun e w' => e = .returned (.int .u32 (rot x 19 : Int)) ∧ w = w' := by
  have e := rot_lit x 19 524288 8192 hx (by decide) (by decide)
  clear hx
  go_enter Tryd.func28, Tryd.ntmps28
  go_wp2
  go_ret
  exact ⟨rfl, rfl⟩

theorem right_22 (x : Nat) (hx : x < 4294967296) (w : World) :
    Calls Tryd.prog 28 #[.int .u32 (x : Int), .int .u64 22] w fun e w' => e = .returned (.int .u32 (rot x 22 : Int)) ∧ w = w' := by
  have e := rot_lit x 22 4194304 1024 hx (by decide) (by decide)
  clear hx
  go_enter Tryd.func28, Tryd.ntmps28
  go_wp2
  go_ret
  exact ⟨rfl, rfl⟩

theorem right_25 (x : Nat) (hx : x < 4294967296) (w : World) :
    Calls Tryd.prog 28 #[.int .u32 (x : Int), .int .u64 25] w fun e w' => e = .returned (.int .u32 (rot x 25 : Int)) ∧ w = w' := by
  have e := rot_lit x 25 33554432 128 hx (by decide) (by decide)
  clear hx
  go_enter Tryd.func28, Tryd.ntmps28
  go_wp2
  go_ret
  exact ⟨rfl, rfl⟩
end Go.Proofs.YtemioilfedpohaaDoor
