/- The walk of wire.Int: a number in eight bytes, the lowest first. -/
import Derived.Test.YtlcppkcclolgcaaPkb
namespace Go.Proofs.Ytlcppkcclolgcaa
set_option linter.unusedVariables false
set_option linter.unusedSimpArgs false
open Go.RowKit

/-- the bytes so far -/
def fl8 (n : Nat) : Nat → List Nat
  | 0 => List.replicate 8 0
  | j + 1 => (fl8 n j).set j (n / 2 ^ (8 * j) % 256)
theorem fl8_length (n : Nat) : ∀ j, (fl8 n j).length = 8
  | 0 => by simp [fl8]
  | j + 1 => by simp [fl8, fl8_length n j]
/-- a number in eight bytes, the lowest first -/
def le8 (n : Nat) : List Nat := fl8 n 8
theorem fl8_bytes (n : Nat) : ∀ j, Bytes (fl8 n j)
  | 0 => by intro x hx; simp [fl8] at hx; omega
  | j + 1 => by
    intro x hx
    rcases List.mem_or_eq_of_mem_set hx with h | h
    · exact fl8_bytes n j x h
    · rw [h]; exact Nat.mod_lt _ (by omega)
set_option maxRecDepth 100000 in
set_option maxHeartbeats 2000000 in
theorem wint_any (n : Nat) (hn : n < 18446744073709551616) (w : World) : Calls Try.prog 15 #[.int .u64 (n : Int)] w fun e w' => e = .returned (.string (strOf (le8 n))) ∧ Below w.heap.size w w' := by
  go_enter Try.func15, Try.ntmps15
  go_wp2_with fail
  go_loopw [5] (fun i wr => ∃ j : Nat, j ≤ 8 ∧ i = .int .i64 j ∧ wr.heap[w.heap.size]? = some (.cells (cw .u8 (fl8 n j)) 89 (0, 0)) ∧ Below w.heap.size w wr) (fun i _ => 8 - (intOf i).toNat)
  case atStart => exact ⟨0, by omega, rfl, heap_alloc_new _ _, (Below.refl _ _).alloc (Nat.le_refl _) _⟩
  case round =>
    obtain ⟨j, hj, rfl, hrow, hb⟩ := hrel
    by_cases hlt : j < 8
    · have h0 : (0 : Int) ≤ j := by omega
      have h1 : (j : Int) < 8 := by omega
      have hc := row_cell hrow j (by rw [fl8_length]; omega)
      have hf := row_free hrow j
      have hst := row_store hrow j (n / 2 ^ (8 * j) % 256)
      have hb2 : Below w.heap.size w (wr.setCell ⟨w.heap.size, j, none⟩ (.int .u8 ((n / 2 ^ (8 * j) % 256 : Nat) : Int))) := hb.setCell (by simp) _
      rw [show (fl8 n j).set j (n / 2 ^ (8 * j) % 256) = fl8 n (j + 1) from rfl] at hst
      generalize (fl8 n j).getD j 0 = y at *
      have hsh1 : (n : Int) / 2 ^ (8 * (j : Int)).toNat = ((n / 2 ^ (8 * j) : Nat) : Int) := by
        rw [show (8 * (j : Int)).toNat = 8 * j by omega, Int.natCast_ediv]
        congr 1
      have hsh2 : (n : Int) / 2 ^ (8 * j) = ((n / 2 ^ (8 * j) : Nat) : Int) := by
        rw [Int.natCast_ediv]
        congr 1
      have h80 : (0 : Int) ≤ 8 * (j : Int) := by omega
      have h81 : 8 * (j : Int) ≤ 64 := by omega
      have hw8 : wrap64 (8 * (j : Int)) = 8 * (j : Int) := by unfold wrap64; omega
      generalize n / 2 ^ (8 * j) = m at *
      have hwm : IntKind.u8.wrap (m : Int) = ((m % 256 : Nat) : Int) := by rw [Int.natCast_emod]; simp [IntKind.wrap, IntKind.bits, IntKind.signed]
      generalize m % 256 = r at *
      have HST := Lib.hid hst
      have HB := Lib.hid hb2
      clear hst hb2 hrow
      go_wp2_with fail
      go_roundw
      case rel => exact ⟨j + 1, by omega, by go_num, HST.out, HB.out⟩
      case measure => simp [intOf]; omega
    · obtain rfl : j = 8 := by omega
      have hcv := run_conv_row (n := 8) (cap := 8) hrow (by rw [fl8_length]; omega) (fl8_bytes n 8)
      rw [List.take_of_length_le (by rw [fl8_length]; omega)] at hcv
      go_wp2_with fail
      go_ret
      exact ⟨rfl, hb⟩
end Go.Proofs.Ytlcppkcclolgcaa

