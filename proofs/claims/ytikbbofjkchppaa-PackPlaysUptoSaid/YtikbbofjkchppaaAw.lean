/- The walk of the law's own first question. -/
import Derived.Test.YtikbbofjkchppaaPack
import Derived.Test.YtikbbofjkchppaaUn
namespace Go.Proofs.Ytikbbofjkchppaa
set_option linter.unusedVariables false
set_option linter.unusedSimpArgs false
open Go.RowKit

def eightA : ByteArray := ⟨#[97, 97, 97, 97, 97, 97, 97, 97]⟩
theorem packed8 : packL (nb eightA) = [8, 0, 0, 0, 0, 0, 0, 0, 0, 97, 131, 0, 0] := by decide +kernel
theorem unpacked8 : closeText (US.new.feed [8, 0, 0, 0, 0, 0, 0, 0, 0, 97, 131, 0, 0]) = eightA ∧ closeCode (US.new.feed [8, 0, 0, 0, 0, 0, 0, 0, 0, 97, 131, 0, 0]) = 0 ∧ closeAt (US.new.feed [8, 0, 0, 0, 0, 0, 0, 0, 0, 97, 131, 0, 0]) = 0 := by
  refine ⟨nb_inj ?_, ?_, ?_⟩
  · decide +kernel
  · decide +kernel
  · decide +kernel
def thirteen : ByteArray := strOf [8, 0, 0, 0, 0, 0, 0, 0, 0, 97, 131, 0, 0]
theorem nb13 : nb thirteen = [8, 0, 0, 0, 0, 0, 0, 0, 0, 97, 131, 0, 0] := by decide +kernel
theorem size13 : thirteen.size = 13 := by decide +kernel
theorem at13 (j : Nat) (h : j < thirteen.size) : (thirteen[j]'h).toNat = (nb thirteen).getD j 0 := (getD_nb thirteen j h).symm

set_option maxRecDepth 100000 in
set_option maxHeartbeats 4000000 in
theorem awake_any (w : World) : Calls Try.prog 15 #[] w fun e w' => e = .returned (.bool true) ∧ Below w.heap.size w w' := by
  have hp : ∀ W, Calls Try.prog 16 #[.string eightA] W fun e w' => e = .returned (.tuple #[.string thirteen, .int .i64 0]) ∧ Below W.heap.size W w' := fun W => by
    have h := pack_any eightA W (by decide +kernel)
    rw [packed8] at h
    exact h
  have hu : ∀ W, Calls Try.prog 18 #[.string thirteen] W fun e w' => e = .returned (.tuple #[.string eightA, .agg #[.int .i64 0, .int .i64 0]]) ∧ Below W.heap.size W w' := fun W => by
    have h := unpack_any thirteen W (by decide +kernel)
    rw [nb13, unpacked8.1, unpacked8.2.1, unpacked8.2.2] at h
    exact h
  have HP := Lib.hid hp
  have HU := Lib.hid hu
  have b8 : (thirteen[8]'(by rw [size13]; omega)).toNat = 0 := by rw [at13, nb13]; rfl
  have b9 : (thirteen[9]'(by rw [size13]; omega)).toNat = 97 := by rw [at13, nb13]; rfl
  have b10 : (thirteen[10]'(by rw [size13]; omega)).toNat = 131 := by rw [at13, nb13]; rfl
  have b11 : (thirteen[11]'(by rw [size13]; omega)).toNat = 0 := by rw [at13, nb13]; rfl
  have b12 : (thirteen[12]'(by rw [size13]; omega)).toNat = 0 := by rw [at13, nb13]; rfl
  have hs := size13
  have he : ({ data := #[97, 97, 97, 97, 97, 97, 97, 97] } : ByteArray) = eightA := rfl
  have heq : (eightA.toList == [97, 97, 97, 97, 97, 97, 97, 97]) = true := by decide +kernel
  have HE := Lib.hid he
  clear hp hu he
  go_enter Try.func15, Try.ntmps15
  go_upto_region 3 with (first | (go_at_call 16; refine (HP.out _).mono ?_; rintro e w2 ⟨rfl, h2⟩; have H2 := Lib.hid h2; clear h2) | (go_at_call 18; refine (HU.out _).mono ?_; rintro e w3 ⟨rfl, h3⟩; have H3 := Lib.hid h3; clear h3))
  go_wp2_with fail
  go_ret
  exact ⟨rfl, (H2.out.trans (H3.out.mono H2.out.size)).alloc (by have h1 := H2.out.size; have h2 := H3.out.size; omega) _⟩

set_option maxRecDepth 100000 in
set_option maxHeartbeats 4000000 in
/-- a text above the most is not packed -/
theorem pack_big (s : ByteArray) (w : World) (hs : ¬ s.size ≤ 1048576) :
    Calls Try.prog 16 #[.string s] w fun e w' => e = .returned (.tuple #[.string ⟨#[]⟩, .int .i64 2]) ∧ Below w.heap.size w w' := by
  have hsI : (1048576 : Int) < s.size := by omega
  clear hs
  go_enter Try.func16, Try.ntmps16
  go_wp2_with fail
  go_ret2
  exact ⟨rfl, Below.refl _ _⟩
/-- every Pack -/
def packText (s : ByteArray) : ByteArray := if s.size ≤ 1048576 then strOf (packL (nb s)) else ⟨#[]⟩
def packCode (s : ByteArray) : Nat := if s.size ≤ 1048576 then 0 else 2
theorem pack_all (s : ByteArray) (w : World) :
    Calls Try.prog 16 #[.string s] w fun e w' => e = .returned (.tuple #[.string (packText s), .int .i64 (packCode s : Nat)]) ∧ Below w.heap.size w w' := by
  unfold packText packCode
  by_cases hs : s.size ≤ 1048576
  · rw [if_pos hs, if_pos hs]
    exact pack_any s w hs
  · rw [if_neg hs, if_neg hs]
    exact pack_big s w hs
end Go.Proofs.Ytikbbofjkchppaa

