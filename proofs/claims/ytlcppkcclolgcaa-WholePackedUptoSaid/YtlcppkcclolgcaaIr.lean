/- The walks of strings.IndexRune over the two bytes that no name holds, of strings.IndexAny and name.Check. -/
import Derived.Laws.RangeAny
import Derived.WalkMore
import Derived.Laws.Runes
import Derived.BigQuiet
import Derived.Deep.QuietTactic
import Derived.Test.YtlcppkcclolgcaaPkb
import Derived.Test.YtlcppkcclolgcaaLibT
import Derived.Test.YtlcppkcclolgcaaLibN
namespace Go.Proofs.Ytlcppkcclolgcaa
set_option linter.unusedVariables false
set_option linter.unusedSimpArgs false
open Go.RowKit

def Cc : ByteArray := ⟨#[47, 0]⟩
theorem enc_two (c : Int) (h : 128 ≤ c) (hv : Utf8.valid c = true) (h2 : c < 2048) : ∃ b0 b1 : UInt8, Utf8.encode c = ⟨#[b0, b1]⟩ ∧ 128 ≤ b1.toNat := by
  refine ⟨UInt8.ofNat (0xC0 + c.toNat / 64), UInt8.ofNat (0x80 + c.toNat % 64), ?_, ?_⟩
  · have h1 : ¬ c.toNat < 128 := by omega
    have h3 : c.toNat < 2048 := by omega
    unfold Utf8.encode
    simp only [hv, if_true, h1, if_false, h3]
  · simp; omega
theorem enc_more (c : Int) (hv : Utf8.valid c = true) (h2 : 2048 ≤ c) : 3 ≤ (Utf8.encode c).size := by
  have h1 : ¬ c.toNat < 128 := by omega
  have h3 : ¬ c.toNat < 2048 := by omega
  unfold Utf8.encode
  simp only [hv, if_true, h1, if_false, h3]
  split
  · show 3 ≤ 3; omega
  · show 3 ≤ 4; omega
set_option maxRecDepth 100000 in
set_option maxHeartbeats 1000000 in
theorem ir_bad (c : Int) (h : 128 ≤ c) (h2 : c ≤ 2147483647) (hne : c ≠ 65533) (hv : Lib.validRune c = false) (w : World) :
    Calls Try.prog 84 #[.string Cc, .int .i32 c] w fun e w' => e = .returned (.int .i64 (-1)) ∧ Below w.heap.size w w' := by
  have h0 : (0 : Int) ≤ c := by omega
  have h1 : ¬ c < (128 : Int) := by omega
  have CV : ∀ w, Calls Try.prog 90 #[.int .i32 c] w fun e w' => e = .returned (.bool false) ∧ w' = w := fun w => by
    have h := Try.utf8_ValidRune c w
    rw [hv] at h
    exact h
  have KV := Lib.hid CV
  clear CV hv
  go_enter Try.func84, Try.ntmps84
  go_wp2_with (go_at_call 90; refine (KV.out _).mono ?_; rintro e w' ⟨rfl, rfl⟩)
  go_ret
  exact ⟨rfl, Below.refl _ _⟩
set_option maxRecDepth 100000 in
set_option maxHeartbeats 1000000 in
theorem ir_two (c : Int) (h : 128 ≤ c) (h2 : c ≤ 2147483647) (hne : c ≠ 65533) (hv : Lib.validRune c = true) (b0 b1 : UInt8) (he : Utf8.encode c = ⟨#[b0, b1]⟩) (hb : 128 ≤ b1.toNat) (w : World) :
    Calls Try.prog 84 #[.string Cc, .int .i32 c] w fun e w' => e = .returned (.int .i64 (-1)) ∧ Below w.heap.size w w' := by
  have h0 : (0 : Int) ≤ c := by omega
  have h1 : ¬ c < (128 : Int) := by omega
  have CV : ∀ w, Calls Try.prog 90 #[.int .i32 c] w fun e w' => e = .returned (.bool true) ∧ w' = w := fun w => by
    have h := Try.utf8_ValidRune c w
    rw [hv] at h
    exact h
  have KV := Lib.hid CV
  have hbn : ¬ ((0 : Int) = (b1.toNat : Int)) := by omega
  have hbn2 : ((b1.toNat : Int) == 0) = false := by simp; omega
  clear CV hv
  unfold Cc
  go_enter Try.func84, Try.ntmps84
  go_wp2_with (go_at_call 90; refine (KV.out _).mono ?_; rintro e w' ⟨rfl, rfl⟩)

  go_step3
  go_wp2_with fail
  go_loopw [9] (fun x9 wr => x9 = .int .i64 1 ∧ wr = w') (fun _ _ => 1)
  case atStart => exact ⟨rfl, rfl⟩
  case round =>
    obtain ⟨rfl, rfl⟩ := hrel
    have KB := Lib.hid (fun s n w => Try.strings_IndexByte s n w)
    have ht : ∀ g1 g2, ((((⟨#[47, 0]⟩ : ByteArray)[1]'g1).toNat : Int) != (((⟨#[b0, b1]⟩ : ByteArray)[1]'g2).toNat : Int)) = true := by
      intro g1 g2
      show ((0 : Int) != (b1.toNat : Int)) = true
      simp; omega
    go_wp2_with fail
    go_step3
    go_wp2_with fail
    go_quiet (fail)
    go_wp2_with fail
    have hw2 : IntKind.i64.wrap 2 = 2 := by decide +kernel
    have hq : Below wr.heap.size wr (wr.drewN nq) := ⟨rfl, rfl, rfl, Nat.le_refl _, fun _ _ => rfl⟩
    generalize wr.drewN nq = wq at *
    go_quiet ((go_at_call 57; exact Calls.quiet_of_same (KB.out _ _ _)))
    have hz : ∀ x : UInt8, Lib.indexByte (ByteArray.empty).data.toList x = -1 := fun x => by rfl
    have hq2 : Below wr.heap.size wr (wq.drewN nq) := ⟨hq.os, hq.tape, hq.output, hq.size, hq.block⟩
    go_wp2_with fail
    show bodyPost Try.prog Try.f84 (fun e w' => e = .returned (.int .i64 (-1)) ∧ Below wr.heap.size wr w') Exit.ret _ _
    go_ret
    exact ⟨rfl, hq2⟩
set_option maxRecDepth 100000 in
set_option maxHeartbeats 1000000 in
theorem ir_more (c : Int) (h : 128 ≤ c) (h2 : c ≤ 2147483647) (hne : c ≠ 65533) (hv : Lib.validRune c = true) (n : Nat) (he : (Utf8.encode c).size = n) (hn : 3 ≤ n) (hn2 : n ≤ 4) (w : World) :
    Calls Try.prog 84 #[.string Cc, .int .i32 c] w fun e w' => e = .returned (.int .i64 (-1)) ∧ Below w.heap.size w w' := by
  have h0 : (0 : Int) ≤ c := by omega
  have h1 : ¬ c < (128 : Int) := by omega
  have CV : ∀ w, Calls Try.prog 90 #[.int .i32 c] w fun e w' => e = .returned (.bool true) ∧ w' = w := fun w => by
    have h := Try.utf8_ValidRune c w
    rw [hv] at h
    exact h
  have KV := Lib.hid CV
  have hnI : ¬ ((n : Int) - 1 < 2) := by omega
  have hnJ : (3 : Int) ≤ n := by omega
  have hnK : (n : Int) ≤ 4 := by omega
  have hnL : decide ((n : Int) - 1 < 2) = false := by simp; omega
  clear CV hv
  generalize hg : Utf8.encode c = rs at *
  unfold Cc
  go_enter Try.func84, Try.ntmps84
  go_wp2_with (go_at_call 90; refine (KV.out _).mono ?_; rintro e w' ⟨rfl, rfl⟩)
  go_step3
  go_wp2_with fail
  go_loopw [9] (fun x9 wr => x9 = .int .i64 ((n : Int) - 1) ∧ wr = w') (fun _ _ => 1)
  case atStart => exact ⟨rfl, rfl⟩
  case round =>
    obtain ⟨rfl, rfl⟩ := hrel
    go_wp2_with fail
    show bodyPost Try.prog Try.f84 (fun e w' => e = .returned (.int .i64 (-1)) ∧ Below wr.heap.size wr w') Exit.ret _ _
    go_ret
    exact ⟨rfl, Below.refl _ _⟩
set_option maxRecDepth 100000 in
set_option maxHeartbeats 1000000 in
theorem ir_err (w : World) :
    Calls Try.prog 84 #[.string Cc, .int .i32 65533] w fun e w' => e = .returned (.int .i64 (-1)) ∧ Below w.heap.size w w' := by
  have n0 : ∀ ty, (Instr.next (.pointer (some ⟨w.heap.size, 0, none⟩)) true ty).run Try.prog (w.iter (⟨#[47, 0]⟩ : ByteArray) 0) = .ok (.tuple #[.bool true, .int .i64 0, .int .i32 47]) (w.iter (⟨#[47, 0]⟩ : ByteArray) 1) := fun ty => run_next_ascii (P := Try.prog) w (⟨#[47, 0]⟩ : ByteArray) 0 ty (by decide) (by decide)
  have n1 : ∀ ty, (Instr.next (.pointer (some ⟨w.heap.size, 0, none⟩)) true ty).run Try.prog (w.iter (⟨#[47, 0]⟩ : ByteArray) 1) = .ok (.tuple #[.bool true, .int .i64 1, .int .i32 0]) (w.iter (⟨#[47, 0]⟩ : ByteArray) 2) := fun ty => run_next_ascii (P := Try.prog) w (⟨#[47, 0]⟩ : ByteArray) 1 ty (by decide) (by decide)
  have n2 := fun ty => run_next_end (P := Try.prog) w (⟨#[47, 0]⟩ : ByteArray) 2 ty (by decide)
  unfold Cc
  go_enter Try.func84, Try.ntmps84
  go_wp2_with fail
  go_loopw [5, 6] (fun _ _ wr => ∃ i, i ≤ 2 ∧ wr = w.iter (⟨#[47, 0]⟩ : ByteArray) i) (fun _ _ wr => 2 - wr.iterPos w.heap.size)
  case atStart => exact ⟨0, by omega, rfl⟩
  case round =>
    obtain ⟨i, hi, rfl⟩ := hrel
    obtain rfl | rfl | rfl : i = 0 ∨ i = 1 ∨ i = 2 := by omega
    · go_wp2_with fail
      go_roundw
      case rel => exact ⟨1, by omega, rfl⟩
      case measure => simp
    · go_wp2_with fail
      go_roundw
      case rel => exact ⟨2, by omega, rfl⟩
      case measure => simp
    · go_wp2_with fail
      go_ret
      exact ⟨rfl, (Below.refl _ _).alloc (Nat.le_refl _) _⟩
/-- where the two bytes hold a rune -/
def irV (c : Int) : Int := if c < 128 then Lib.indexByte Cc.data.toList c.toNat.toUInt8 else -1
theorem ir_any (c : Int) (h : 0 ≤ c) (h2 : c ≤ 2147483647) (w : World) :
    Calls Try.prog 84 #[.string Cc, .int .i32 c] w fun e w' => e = .returned (.int .i64 (irV c)) ∧ Below w.heap.size w w' := by
  unfold irV
  by_cases h1 : c < 128
  · rw [if_pos h1]
    exact (Try.strings_IndexRune_ascii Cc c w h h1).mono fun e w' ⟨e1, e2⟩ => ⟨e1, e2 ▸ Below.refl _ _⟩
  · rw [if_neg h1]
    by_cases hne : c = 65533
    · subst hne; exact ir_err w
    · cases hv : Lib.validRune c with
      | false => exact ir_bad c (by omega) h2 hne hv w
      | true =>
        have hv2 : Utf8.valid c = true := (validRune_eq c).trans hv
        by_cases hc : c < 2048
        · obtain ⟨b0, b1, he, hb⟩ := enc_two c (by omega) hv2 hc
          exact ir_two c (by omega) h2 hne hv b0 b1 he hb w
        · have h3 := enc_more c hv2 (by omega)
          have h4 := (encode_facts c hv2 (by omega)).2.1
          exact ir_more c (by omega) h2 hne hv _ rfl h3 h4 w
end Go.Proofs.Ytlcppkcclolgcaa

