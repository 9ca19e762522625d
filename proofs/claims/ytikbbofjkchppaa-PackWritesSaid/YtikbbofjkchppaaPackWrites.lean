/- The walk of PackWrites. -/
import Derived.Test.YtikbbofjkchppaaAw
import Derived.Test.YtikbbofjkchppaaWr3
namespace Go.Proofs.Ytikbbofjkchppaa
set_option linter.unusedVariables false
set_option linter.unusedSimpArgs false
open Go.RowKit
set_option maxRecDepth 100000 in
set_option maxHeartbeats 2000000 in
theorem rpack_big (s : ByteArray) (w : World) (hs : ¬ s.size ≤ 1048576) :
    Calls Try.prog 17 #[.string s] w fun e w' => e = .returned (.tuple #[.string ⟨#[]⟩, .int .i64 2]) ∧ Below w.heap.size w w' := by
  have hsI : (1048576 : Int) < s.size := by omega
  clear hs
  go_enter Try.func17, Try.ntmps17
  go_wp2_with fail
  go_ret2
  exact ⟨rfl, Below.refl _ _⟩
theorem rpack_all (s : ByteArray) (w : World) :
    Calls Try.prog 17 #[.string s] w fun e w' => e = .returned (.tuple #[.string (packText s), .int .i64 (packCode s : Nat)]) ∧ Below w.heap.size w w' := by
  unfold packText packCode
  by_cases hs : s.size ≤ 1048576
  · rw [if_pos hs, if_pos hs]
    exact rpack_any s w hs
  · rw [if_neg hs, if_neg hs]
    exact rpack_big s w hs
set_option maxRecDepth 100000 in
set_option maxHeartbeats 2000000 in
theorem writes_law (s : ByteArray) (hs : s.size ≤ 140737488351232) (w : World) : Calls Try.prog 4 #[.string s] w fun e w' => e = .returned (.bool true) ∧ Below w.heap.size w w' := by
  have hu := fun W => pack_all s W
  have hr := fun W => rpack_all s W
  generalize packText s = rt at *
  generalize packCode s = rc at *
  have HU := Lib.hid hu
  have HR := Lib.hid hr
  clear hu hr
  go_enter Try.func4, Try.ntmps4
  go_wp2_with (first | (go_at_call 15; refine (awake_any _).mono ?_; rintro e w1 ⟨rfl, h1⟩; have H1 := Lib.hid h1; clear h1) | (go_at_call 16; refine (HU.out _).mono ?_; rintro e w2 ⟨rfl, h2⟩; have H2 := Lib.hid h2; clear h2) | (go_at_call 17; refine (HR.out _).mono ?_; rintro e w4 ⟨rfl, h4⟩; have H4 := Lib.hid h4; clear h4))
  go_ret
  exact ⟨rfl, bl_step (bl_step H1.out H2.out) H4.out⟩
end Go.Proofs.Ytikbbofjkchppaa

