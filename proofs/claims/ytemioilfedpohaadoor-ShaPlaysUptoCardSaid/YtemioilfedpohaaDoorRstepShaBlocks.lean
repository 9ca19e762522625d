/- The walks of depotref01.step and depotref01.constants. -/
import Derived.Test.YtemioilfedpohaaDoorTurnShaBlocks
import Derived.Test.YtemioilfedpohaaDoorBlk1ShaBlocks
namespace Go.Proofs.YtemioilfedpohaaDoor
open Go.RowKit

/-- the document's way to the same bits -/
theorem or_ch (E F G : Nat) : (E &&& F) ||| ((4294967295 - E) &&& G) = chf E F G ∨ 4294967296 ≤ E := by
  rcases Nat.lt_or_ge E 4294967296 with h | h
  · left
    unfold chf
    apply Nat.eq_of_testBit_eq
    intro i
    rw [show 4294967295 - E = 2 ^ 32 - (E + 1) by omega]
    simp only [Nat.testBit_or, Nat.testBit_and, Nat.testBit_xor, Nat.testBit_two_pow_sub_succ (show E < 2 ^ 32 by omega)]
    cases E.testBit i <;> cases F.testBit i <;> cases G.testBit i <;> cases decide (i < 32) <;> rfl
  · exact .inr h
theorem or_maj (A B C : Nat) : ((A &&& B) ||| (A &&& C)) ||| (B &&& C) = maj A B C := by
  unfold maj
  apply Nat.eq_of_testBit_eq
  intro i
  simp only [Nat.testBit_or, Nat.testBit_and, Nat.testBit_xor]
  cases A.testBit i <;> cases B.testBit i <;> cases C.testBit i <;> rfl

theorem ch_bits' (E F G : Nat) (hE : E < 4294967296) (hF : F < 4294967296) (hG : G < 4294967296) :
    bits .or .u32 (bits .and .u32 (E : Int) (F : Int)) (bits .and .u32 (bits .xor .u32 (if IntKind.u32.signed = true then -1 else IntKind.u32.max) (E : Int)) (G : Int)) = (chf E F G : Int) := by
  have e : (if IntKind.u32.signed = true then -1 else IntKind.u32.max : Int) = ((4294967295 : Nat) : Int) := by decide
  have hx : (4294967295 : Nat) ^^^ E = 4294967295 - E := by
    apply Nat.eq_of_testBit_eq
    intro i
    rw [Nat.testBit_xor, show 4294967295 - E = 2 ^ 32 - (E + 1) by omega, Nat.testBit_two_pow_sub_succ (by omega), show (4294967295 : Nat) = 2 ^ 32 - 1 by decide, Nat.testBit_two_pow_sub_one]
    by_cases hi : i < 32
    · simp [hi]
    · have h2 : E.testBit i = false := Nat.testBit_lt_two_pow (Nat.lt_of_lt_of_le (show E < 2 ^ 32 by omega) (Nat.pow_le_pow_right (by omega) (by omega)))
      simp [hi, h2]
  rw [e, u32_xor_nat _ _ (by omega) hE, hx, u32_and_nat _ _ hE hF, u32_and_nat _ _ (by omega) hG, u32_or_nat _ _ (and_lt' hE) (and_lt' (by omega))]
  rcases or_ch E F G with h | h
  · rw [h]
  · omega
theorem maj_bits' (A B C : Nat) (hA : A < 4294967296) (hB : B < 4294967296) (hC : C < 4294967296) :
    bits .or .u32 (bits .or .u32 (bits .and .u32 (A : Int) (B : Int)) (bits .and .u32 (A : Int) (C : Int))) (bits .and .u32 (B : Int) (C : Int)) = (maj A B C : Int) := by
  rw [u32_and_nat _ _ hA hB, u32_and_nat _ _ hA hC, u32_and_nat _ _ hB hC, u32_or_nat _ _ (and_lt' hA) (and_lt' hA), u32_or_nat _ _ (Nat.or_lt_two_pow (n := 32) (and_lt' hA) (and_lt' hA)) (and_lt' hB), or_maj]

theorem turn_at (x : Nat) (N : Int) (hx : x < 4294967296) (h1 : 1 ≤ N) (h2 : N ≤ 31) (w : World) :
    Calls Tryd.prog 36 #[.int .u32 (x : Int), .int .u64 N] w fun e w' => e = .returned (.int .u32 (rot x N.toNat : Int)) ∧ ∃ m, w' = w.drewN m := by
  obtain ⟨n, rfl⟩ : ∃ n : Nat, N = n := ⟨N.toNat, by omega⟩
  rw [Int.toNat_natCast]
  exact turn_any x n hx (by omega) (by omega) w

theorem rstep_a (Q s c k b m : Nat) : (((Q : Int) + s + c + k) % 4294967296 + ((b : Int) + m) % 4294967296) % 4294967296 = ((((Q + s + c + k) % 4294967296 + (b + m) % 4294967296) % 4294967296 : Nat) : Int) := by omega

set_option maxRecDepth 100000 in
set_option maxHeartbeats 4000000 in
theorem rstep_any (A B C D E F G Q x : Nat) (hs : Small [A, B, C, D, E, F, G, Q]) (w : World) :
    Calls Tryd.prog 31 #[.agg (cw .u32 [A, B, C, D, E, F, G, Q]), .int .u32 (x : Int)] w fun e w' => e = .returned (.agg (cw .u32 (rnd [A, B, C, D, E, F, G, Q] x))) ∧ Below w.heap.size w w' := by
  have hA : A < 4294967296 := hs _ (by simp)
  have hB : B < 4294967296 := hs _ (by simp)
  have hC : C < 4294967296 := hs _ (by simp)
  have hE : E < 4294967296 := hs _ (by simp)
  have hF : F < 4294967296 := hs _ (by simp)
  have hG : G < 4294967296 := hs _ (by simp)
  obtain ⟨fs1, fs0, _⟩ := round_bits A B C E hA hB hE
  have fch := ch_bits' E F G hE hF hG
  have fmj := maj_bits' A B C hA hB hC
  have q0 : (cw .u32 [A, B, C, D, E, F, G, Q])[0]? = some (.int .u32 (A : Int)) := rfl
  have q1 : (cw .u32 [A, B, C, D, E, F, G, Q])[1]? = some (.int .u32 (B : Int)) := rfl
  have q2 : (cw .u32 [A, B, C, D, E, F, G, Q])[2]? = some (.int .u32 (C : Int)) := rfl
  have q3 : (cw .u32 [A, B, C, D, E, F, G, Q])[3]? = some (.int .u32 (D : Int)) := rfl
  have q4 : (cw .u32 [A, B, C, D, E, F, G, Q])[4]? = some (.int .u32 (E : Int)) := rfl
  have q5 : (cw .u32 [A, B, C, D, E, F, G, Q])[5]? = some (.int .u32 (F : Int)) := rfl
  have q6 : (cw .u32 [A, B, C, D, E, F, G, Q])[6]? = some (.int .u32 (G : Int)) := rfl
  have q7 : (cw .u32 [A, B, C, D, E, F, G, Q])[7]? = some (.int .u32 (Q : Int)) := rfl
  have hr : ((w.alloc (.cells (cw .u32 [A, B, C, D, E, F, G, Q]) 23)).alloc (.cells (cw .u32 [0, 0, 0, 0, 0, 0, 0, 0]) 23)).heap[w.heap.size + 1]? = some (.cells (cw .u32 [0, 0, 0, 0, 0, 0, 0, 0]) 23 (0, 0)) := by
    show ((w.heap.push _).push _)[w.heap.size + 1]? = _
    simp only [Array.getElem?_push, Array.size_push]
    rw [if_pos trivial]
  have hbel : Below w.heap.size w ((w.alloc (.cells (cw .u32 [A, B, C, D, E, F, G, Q]) 23)).alloc (.cells (cw .u32 [0, 0, 0, 0, 0, 0, 0, 0]) 23)) :=
    ((Below.refl _ _).alloc (Nat.le_refl _) _).alloc (by simp) _
  have hval : (#[.int .u32 (((Q : Int) + (bg1 E : Int) + (chf E F G : Int) + (x : Int) + ((bg0 A : Int) + (maj A B C : Int))) % 4294967296), .int .u32 (A : Int), .int .u32 (B : Int), .int .u32 (C : Int), .int .u32 (((D : Int) + ((Q : Int) + (bg1 E : Int) + (chf E F G : Int) + (x : Int))) % 4294967296), .int .u32 (E : Int), .int .u32 (F : Int), .int .u32 (G : Int)] : Array Value) = cw .u32 (rnd [A, B, C, D, E, F, G, Q] x) := by
    have e1 : ((Q : Int) + (bg1 E : Int) + (chf E F G : Int) + (x : Int) + ((bg0 A : Int) + (maj A B C : Int))) % 4294967296 = ((((Q + bg1 E + chf E F G + x) % 4294967296 + (bg0 A + maj A B C) % 4294967296) % 4294967296 : Nat) : Int) := by omega
    have e2 : ((D : Int) + ((Q : Int) + (bg1 E : Int) + (chf E F G : Int) + (x : Int))) % 4294967296 = (((D + (Q + bg1 E + chf E F G + x) % 4294967296) % 4294967296 : Nat) : Int) := by omega
    rw [e1, e2]
    rfl
  have hone : (#[.int .u32 (((Q : Int) + (bg1 E : Int) + (chf E F G : Int) + (x : Int) + ((bg0 A : Int) + (maj A B C : Int))) % 4294967296), .int .u32 (A : Int), .int .u32 (B : Int), .int .u32 (C : Int), .int .u32 (((D : Int) + ((Q : Int) + (bg1 E : Int) + (chf E F G : Int) + (x : Int))) % 4294967296), .int .u32 (E : Int), .int .u32 (F : Int), .int .u32 (G : Int)] : Array Value).all (·.oneCell') = true := one8 _ _ _ _ _ _ _ _
  have hbd : ∀ (a0 a1 a2 a3 a4 a5 a6 a7 : Int) (w1 : World), (Instr.build 23 #[(0, .int .u32 a0), (1, .int .u32 a1), (2, .int .u32 a2), (3, .int .u32 a3), (4, .int .u32 a4), (5, .int .u32 a5), (6, .int .u32 a6), (7, .int .u32 a7)]).run Tryd.prog w1 =
      .ok (.agg #[.int .u32 a0, .int .u32 a1, .int .u32 a2, .int .u32 a3, .int .u32 a4, .int .u32 a5, .int .u32 a6, .int .u32 a7]) w1 := fun _ _ _ _ _ _ _ _ w1 => run_build w1 23 _ _ (by kernel_rfl)
  have HR := Lib.hid hr
  have HB := Lib.hid hbel
  have HV := Lib.hid hval
  have HO := Lib.hid hone
  clear hs hr hbel hval hone
  go_enter Tryd.func31, Tryd.ntmps31
  go_wp2_with fail
  go_quiet ((go_at_call 36; exact Calls.quiet_of (turn_at E _ hE (by omega) (by omega) _)))
  revert nq; intro q1
  go_wp2_with fail
  go_quiet ((go_at_call 36; first | exact quiet2 (turn_at A _ hA (by omega) (by omega)) | exact Calls.quiet_of (turn_at A _ hA (by omega) (by omega) _)))
  revert nq; intro q2
  clear fs1 fs0 fch fmj
  go_wp2_with (with_reducible refine wpList_store_row rfl 23 _ _ rfl (w.heap.size + 1) _ rfl rfl 23 (cw .u32 [0, 0, 0, 0, 0, 0, 0, 0]) ?_ ?_ ?_ ?_ ?_)
  · exact HR.out
  · kernel_rfl
  · rfl
  · exact HO.out
  · go_wp2_with fail
    refine bodyPost_ret (results_cell_row rfl _ _ (w.heap.size + 1) 23 _ (0, 0) _ rfl (setRow_heap _ _ _ _ _ _ HR.out) Tryd.underlying23 rfl (by kernel_rfl)) rfl ⟨?_, ?_⟩
    · rw [HV.out]
    · refine below_setRow (B := w.heap.size) (g := w.heap.size + 1) (w0 := w) (w := World.drewN (((w.alloc (.cells (cw .u32 [A, B, C, D, E, F, G, Q]) 23)).alloc (.cells (cw .u32 [0, 0, 0, 0, 0, 0, 0, 0]) 23))) (q1 + q2)) ?_ (by omega) _
      exact ⟨HB.out.os, HB.out.tape, HB.out.output, HB.out.size, HB.out.block⟩
end Go.Proofs.YtemioilfedpohaaDoor
