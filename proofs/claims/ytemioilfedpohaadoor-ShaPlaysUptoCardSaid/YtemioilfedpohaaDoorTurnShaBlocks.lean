/- depotref01.turn by its literals: the world stays as it is. -/
import Derived.Test.YtemioilfedpohaaDoorRotShaBlocks
namespace Go.Proofs.YtemioilfedpohaaDoor
open Go.RowKit Go.Proofs.YtemioilfedpohaaDoor.PShaBlocks Go.Proofs.YtemioilfedpohaaDoorW.PrintWords Go.Proofs.YtemioilfedpohaaDoorW.PrintMore

theorem turn_lit (x n : Nat) (p : Int) (hx : x < 4294967296) (h1 : 1 ≤ n) (h2 : n ≤ 31) (hp : p = ((2 ^ n : Nat) : Int)) :
    Go.bits .or .u64 ((x : Int) * 4294967296) (x : Int) / p % 4294967296 = (rot x n : Int) := by
  subst hp
  have h := turn_is x n hx h1 h2
  unfold Go.Proofs.YtemioilfedpohaaDoor.PShaBlocks.depotref01_turn.f at h
  rw [if_pos (by omega)] at h
  have h3 := Option.some.inj h
  rw [← h3]
  have e1 : IntKind.u64.wrap (x : Int) = x := by rw [IntKind.wrap_u64]; omega
  have e2 : IntKind.u64.wrap ((x : Int) * 4294967296) = (x : Int) * 4294967296 := by rw [IntKind.wrap_u64]; omega
  rw [e1, e2]
  unfold shr
  rw [show IntKind.u64.bits = 64 from rfl, show (n : Int).toNat = n by omega, Nat.min_eq_left (by omega)]
  simp

theorem turn_2 (x : Nat) (hx : x < 4294967296) (w : World) :
    Calls Tryd.prog 36 #[.int .u32 (x : Int), .int .u64 2] w fun e w' => e = .returned (.int .u32 (rot x 2 : Int)) ∧ w = w' := by
  have e := turn_lit x 2 4 hx (by decide) (by decide) (by decide)
  have hx0 : (x : Int) * 4294967296 % 18446744073709551616 = (x : Int) * 4294967296 := by omega
  have hx1 : (x : Int) % 18446744073709551616 = x := by omega
  go_enter Tryd.func36, Tryd.ntmps36
  go_wp2
  go_ret
  refine ⟨?_, rfl⟩
  rw [← e]
  rfl

theorem turn_6 (x : Nat) (hx : x < 4294967296) (w : World) :
    Calls Tryd.prog 36 #[.int .u32 (x : Int), .int .u64 6] w fun e w' => e = .returned (.int .u32 (rot x 6 : Int)) ∧ w = w' := by
  have e := turn_lit x 6 64 hx (by decide) (by decide) (by decide)
  have hx0 : (x : Int) * 4294967296 % 18446744073709551616 = (x : Int) * 4294967296 := by omega
  have hx1 : (x : Int) % 18446744073709551616 = x := by omega
  go_enter Tryd.func36, Tryd.ntmps36
  go_wp2
  go_ret
  refine ⟨?_, rfl⟩
  rw [← e]
  rfl

theorem turn_7 (x : Nat) (hx : x < 4294967296) (w : World) :
    Calls Tryd.prog 36 #[.int .u32 (x : Int), .int .u64 7] w fun e w' => e = .returned (.int .u32 (rot x 7 : Int)) ∧ w = w' := by
  have e := turn_lit x 7 128 hx (by decide) (by decide) (by decide)
  have hx0 : (x : Int) * 4294967296 % 18446744073709551616 = (x : Int) * 4294967296 := by omega
  have hx1 : (x : Int) % 18446744073709551616 = x := by omega
  go_enter Tryd.func36, Tryd.ntmps36
  go_wp2
  go_ret
  refine ⟨?_, rfl⟩
  rw [← e]
  rfl

theorem turn_11 (x : Nat) (hx : x < 4294967296) (w : World) :
    Calls Tryd.prog 36 #[.int .u32 (x : Int), .int .u64 11] w fun e w' => e = .returned (.int .u32 (rot x 11 : Int)) ∧ w = w' := by
  have e := turn_lit x 11 2048 hx (by decide) (by decide) (by decide)
  have hx0 : (x : Int) * 4294967296 % 18446744073709551616 = (x : Int) * 4294967296 := by omega
  have hx1 : (x : Int) % 18446744073709551616 = x := by omega
  go_enter Tryd.func36, Tryd.ntmps36
  go_wp2
  go_ret
  refine ⟨?_, rfl⟩
  rw [← e]
  rfl

theorem turn_13 (x : Nat) (hx : x < 4294967296) (w : World) :
    Calls Tryd.prog 36 #[.int .u32 (x : Int), .int .u64 13] w fun e w' => e = .returned (.int .u32 (rot x 13 : Int)) ∧ w = w' := by
  have e := turn_lit x 13 8192 hx (by decide) (by decide) (by decide)
  have hx0 : (x : Int) * 4294967296 % 18446744073709551616 = (x : Int) * 4294967296 := by omega
  have hx1 : (x : Int) % 18446744073709551616 = x := by omega
  go_enter Tryd.func36, Tryd.ntmps36
  go_wp2
  go_ret
  refine ⟨?_, rfl⟩
  rw [← e]
  rfl

theorem turn_17 (x : Nat) (hx : x < 4294967296) (w : World) :
    Calls Tryd.prog 36 #[.int .u32 (x : Int), .int .u64 17] w fun e w' => e = .returned (.int .u32 (rot x 17 : Int)) ∧ w = w' := by
  have e := turn_lit x 17 131072 hx (by decide) (by decide) (by decide)
  have hx0 : (x : Int) * 4294967296 % 18446744073709551616 = (x : Int) * 4294967296 := by omega
  have hx1 : (x : Int) % 18446744073709551616 = x := by omega
  go_enter Tryd.func36, Tryd.ntmps36
  go_wp2
  go_ret
  refine ⟨?_, rfl⟩
  rw [← e]
  rfl

theorem turn_18 (x : Nat) (hx : x < 4294967296) (w : World) :
    Calls Tryd.prog 36 #[.int .u32 (x : Int), .int .u64 18] w fun e w' => e = .returned (.int .u32 (rot x 18 : Int)) ∧ w = w' := by
  have e := turn_lit x 18 262144 hx (by decide) (by decide) (by decide)
  have hx0 : (x : Int) * 4294967296 % 18446744073709551616 = (x : Int) * 4294967296 := by omega
  have hx1 : (x : Int) % 18446744073709551616 = x := by omega
  go_enter Tryd.func36, Tryd.ntmps36
  go_wp2
  go_ret
  refine ⟨?_, rfl⟩
  rw [← e]
  rfl

theorem turn_19 (x : Nat) (hx : x < 4294967296) (w : World) :
    Calls Tryd.prog 36 #[.int .u32 (x : Int), .int .u64 19] w fun e w' => e = .returned (.int .u32 (rot x 19 : Int)) ∧ w = w' := by
  have e := turn_lit x 19 524288 hx (by decide) (by decide) (by decide)
  have hx0 : (x : Int) * 4294967296 % 18446744073709551616 = (x : Int) * 4294967296 := by omega
  have hx1 : (x : Int) % 18446744073709551616 = x := by omega
  go_enter Tryd.func36, Tryd.ntmps36
  go_wp2
  go_ret
  refine ⟨?_, rfl⟩
  rw [← e]
  rfl

theorem turn_22 (x : Nat) (hx : x < 4294967296) (w : World) :
    Calls Tryd.prog 36 #[.int .u32 (x : Int), .int .u64 22] w fun e w' => e = .returned (.int .u32 (rot x 22 : Int)) ∧ w = w' := by
  have e := turn_lit x 22 4194304 hx (by decide) (by decide) (by decide)
  have hx0 : (x : Int) * 4294967296 % 18446744073709551616 = (x : Int) * 4294967296 := by omega
  have hx1 : (x : Int) % 18446744073709551616 = x := by omega
  go_enter Tryd.func36, Tryd.ntmps36
  go_wp2
  go_ret
  refine ⟨?_, rfl⟩
  rw [← e]
  rfl

theorem turn_25 (x : Nat) (hx : x < 4294967296) (w : World) :
    Calls Tryd.prog 36 #[.int .u32 (x : Int), .int .u64 25] w fun e w' => e = .returned (.int .u32 (rot x 25 : Int)) ∧ w = w' := by
  have e := turn_lit x 25 33554432 hx (by decide) (by decide) (by decide)
  have hx0 : (x : Int) * 4294967296 % 18446744073709551616 = (x : Int) * 4294967296 := by omega
  have hx1 : (x : Int) % 18446744073709551616 = x := by omega
  go_enter Tryd.func36, Tryd.ntmps36
  go_wp2
  go_ret
  refine ⟨?_, rfl⟩
  rw [← e]
  rfl
end Go.Proofs.YtemioilfedpohaaDoor
