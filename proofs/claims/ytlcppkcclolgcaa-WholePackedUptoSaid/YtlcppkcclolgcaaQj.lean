/- The walk of small; archives read back. -/
import Derived.Test.YtlcppkcclolgcaaQi
namespace Go.Proofs.Ytlcppkcclolgcaa
set_option linter.unusedVariables false
set_option linter.unusedSimpArgs false
open Go.RowKit
theorem arc_bytes (n : ND) : Bytes (arc n) := frames_bytes _
theorem prs_arc {n : ND} (h : serE n = 0) : clN (prs (strOf (arc n))) = n ∧ clC (prs (strOf (arc n))) = 0 ∧ clA (prs (strOf (arc n))) = 0 := by
  obtain ⟨k, hp⟩ := parse_arc h
  have e : prs (strOf (arc n)) = ⟨(arc n).length, (arc n).length, 0, 0, false, [], ⟨k, [], true, n⟩⟩ := by
    unfold prs
    rw [nb_strOf _ (arc_bytes n), hp]
  have hc : (prs (strOf (arc n))).close.code = 0 := by
    rw [e]
    rfl
  refine ⟨?_, hc, ?_⟩
  · unfold clN
    rw [if_pos hc, e]
  · unfold clA
    rw [if_pos hc]
def n0 : ND := .leaf 3 false emp
theorem serE_n0 : serE n0 = 0 := by rfl
theorem len_n0 : (arc n0).length = 96 := by rfl
theorem serT_n0 : serT n0 = strOf (arc n0) := by unfold serT; rw [if_pos serE_n0]
theorem n0_small : n0.small 1048576 := Nat.zero_le _
set_option maxRecDepth 100000 in
set_option maxHeartbeats 4000000 in
theorem small_any (w : World) : Calls Try.prog 6 #[] w fun e w' => e = .returned (.bool true) ∧ Below w.heap.size w w' := by
  have hser : Calls Try.prog 13 #[.agg #[.int .i64 3, .bool false, .string ⟨#[]⟩, .slice none 0 0]] w fun e w' => e = .returned (.tuple #[.string (strOf (arc n0)), .int .i64 0]) ∧ Below w.heap.size w w' := by
    have h := serial_any n0 none 0 w n0_small (.inl rfl)
    rw [serT_n0, serE_n0] at h
    exact h
  have hsz : (strOf (arc n0)).size = 96 := by rw [strOf_size, len_n0]
  have hpar : ∀ w1 : World, Calls Try.prog 7 #[.string (strOf (arc n0))] w1 fun e w' => ∃ a c, e = .returned (.tuple #[.agg #[.int .i64 3, .bool false, .string ⟨#[]⟩, .slice a 0 c], .agg #[.int .i64 0, .int .i64 0]]) ∧ Below w1.heap.size w1 w' := fun w1 => by
    refine (parse_any (strOf (arc n0)) w1 (by rw [hsz]; decide)).mono ?_
    rintro e w' ⟨a, c, he, _, hb⟩
    obtain ⟨h1, h2, h3⟩ := prs_arc serE_n0
    rw [h1, h2, h3] at he
    exact ⟨a, c, he, hb⟩
  have HSER := Lib.hid hser
  have HPAR := Lib.hid hpar
  clear hser hpar
  generalize strOf (arc n0) = T at *
  have hszI : (T.size : Int) = 96 := by omega
  go_enter Try.func6, Try.ntmps6
  go_upto_region 2 with (go_at_call 13; refine HSER.out.mono ?_; rintro e w1 ⟨rfl, h1⟩; have HB1 := Lib.hid h1; clear h1)
  go_upto_region 3 with (go_at_call 7; refine (HPAR.out w1).mono ?_; rintro e w2 ⟨a, c, rfl, h2⟩; have HB2 := Lib.hid h2; clear h2)
  go_wp2_with fail
  go_ret
  have h := below_trans2 HB1.out HB2.out
  exact ⟨rfl, (h.alloc h.size _).alloc (by have := h.size; simp; omega) _⟩
end Go.Proofs.Ytlcppkcclolgcaa

