/- The walks of wire.Text and wire.Framed. -/
import Derived.Test.YtlcppkcclolgcaaWint
import Derived.Test.YtlcppkcclolgcaaLibT
import Derived.Lib.Repeat
namespace Go.Proofs.Ytlcppkcclolgcaa
set_option linter.unusedVariables false
set_option linter.unusedSimpArgs false
open Go.RowKit

/-- the noughts behind a text of n bytes -/
def padN (n : Nat) : Nat := (8 - n % 8) % 8
/-- a text, framed -/
def frameL (xs : List Nat) : List Nat := le8 xs.length ++ xs ++ List.replicate (padN xs.length) 0
theorem le8_length (n : Nat) : (le8 n).length = 8 := fl8_length n 8
theorem le8_bytes (n : Nat) : Bytes (le8 n) := fl8_bytes n 8
theorem frameL_length (xs : List Nat) : (frameL xs).length = 8 + (xs.length + 7) / 8 * 8 := by
  simp only [frameL, List.length_append, le8_length, List.length_replicate, padN]
  omega
theorem frameL_bytes (xs : List Nat) (h : Bytes xs) : Bytes (frameL xs) := by
  intro x hx
  simp only [frameL, List.mem_append, List.mem_replicate] at hx
  rcases hx with (hx | hx) | hx
  · exact le8_bytes _ x hx
  · exact h x hx
  · omega
theorem strOf_append (a b : List Nat) : strOf (a ++ b) = strOf a ++ strOf b := by
  apply ByteArray.ext
  simp [strOf]
theorem strOf_nb (s : ByteArray) : strOf (nb s) = s := by
  apply nb_inj
  rw [nb_strOf _ (nb_bytes s)]
theorem repeat_zero : ∀ c, Lib.repeatL [0] c = List.replicate c 0
  | 0 => rfl
  | c + 1 => by
    rw [Lib.repeatL, repeat_zero c]
    rfl
theorem pad_str (c : Nat) : (⟨(Lib.repeatL (⟨#[0]⟩ : ByteArray).data.toList c).toArray⟩ : ByteArray) = strOf (List.replicate c 0) := by
  show (⟨(Lib.repeatL [0] c).toArray⟩ : ByteArray) = _
  rw [repeat_zero]
  apply ByteArray.ext
  simp [strOf]
set_option maxRecDepth 100000 in
set_option maxHeartbeats 2000000 in
theorem text_any (s : ByteArray) (hs : s.size ≤ 140737488351232) (w : World) :
    Calls Try.prog 52 #[.string s] w fun e w' => e = .returned (.string (strOf (frameL (nb s)))) ∧ Below w.heap.size w w' := by
  have C1 := Lib.hid (fun w => wint_any s.size (by omega) w)
  have hp : padN s.size ≤ 7 := by unfold padN; omega
  have C2 : Hid (∀ w, Calls Try.prog 64 #[.string ⟨#[0]⟩, .int .i64 ((padN s.size : Nat) : Int)] w fun e w' => e = .returned (.string (strOf (List.replicate (padN s.size) 0))) ∧ Below w.heap.size w w') := Lib.hid fun w => by
    have h := Go.Proofs.Try.strings_Repeat ⟨#[0]⟩ (padN s.size) w (by omega) (by show 1 * _ ≤ _; omega)
    rw [pad_str] at h
    exact h
  have hpI : -((s.size : Int) % 8) % 8 = (padN s.size : Nat) := by
    unfold padN
    omega
  have hfin : strOf (le8 s.size) ++ s ++ strOf (List.replicate (padN s.size) 0) = strOf (frameL (nb s)) := by
    unfold frameL
    rw [nb_length, strOf_append, strOf_append, strOf_nb]
  have l1 : (strOf (le8 s.size)).size = 8 := by rw [strOf_size, le8_length]
  have l2 : (strOf (List.replicate (padN s.size) 0)).size ≤ 7 := by rw [strOf_size, List.length_replicate]; exact hp
  have l3 : (strOf (le8 s.size) ++ s).size ≤ 140737488351240 := by rw [ByteArray.size_append]; omega
  rw [← hfin]
  clear hfin hp
  generalize padN s.size = c at *
  generalize strOf (le8 s.size) = A at *
  generalize strOf (List.replicate c 0) = Z at *
  go_enter Try.func52, Try.ntmps52
  go_wp2_with (first | (go_at_call 15; refine (C1.out _).mono ?_; rintro e w1 ⟨rfl, h1⟩; have H1 := Lib.hid h1; clear h1) | (go_at_call 64; refine (C2.out _).mono ?_; rintro e w2 ⟨rfl, h2⟩; have H2 := Lib.hid h2; clear h2))
  go_ret
  exact ⟨rfl, H1.out.trans (H2.out.mono H1.out.size)⟩
end Go.Proofs.Ytlcppkcclolgcaa

