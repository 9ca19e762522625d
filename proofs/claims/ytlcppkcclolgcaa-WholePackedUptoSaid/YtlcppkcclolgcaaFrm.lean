/- The walks of wire.Framed and tree.framed. -/
import Derived.Test.YtlcppkcclolgcaaNd
namespace Go.Proofs.Ytlcppkcclolgcaa
set_option linter.unusedVariables false
set_option linter.unusedSimpArgs false
open Go.RowKit

/-- a row of strings of the call's own -/
def strs (ss : List ByteArray) : Array Value := (ss.map Value.string).toArray
theorem strs_get (ss : List ByteArray) (i : Nat) (h : i < ss.length) : (strs ss)[i]? = some (.string ss[i]) := by
  simp [strs, List.getElem?_eq_getElem h]
theorem Framed_any (n : Nat) (hn : n ≤ 1048576) (w : World) :
    Calls Try.prog 68 #[.int .i64 (n : Int)] w fun e w' => e = .returned (.int .i64 ((fr n : Nat) : Int)) ∧ w = w' := by
  have e1 : (8 : Int) + ((n : Int) + 7) / 8 * 8 = ((fr n : Nat) : Int) := by unfold fr; omega
  have e2 : (n : Int) ≤ 1048576 := by omega
  have e3 : (0 : Int) ≤ n := by omega
  go_enter Try.func68, Try.ntmps68
  go_wp2_with fail
  go_ret
  exact ⟨rfl, rfl⟩
theorem frSum_le (ss : List ByteArray) (h : ∀ s ∈ ss, s.size ≤ 1048576) : frSum ss ≤ ss.length * 1048592 := by
  induction ss with
  | nil => simp [frSum]
  | cons s r ih =>
    have h1 := ih fun x hx => h x (List.mem_cons_of_mem _ hx)
    have h2 := h s (List.mem_cons_self ..)
    have h3 : frSum (s :: r) = fr s.size + frSum r := by simp [frSum]
    rw [h3, List.length_cons]
    unfold fr
    omega
theorem frSum_take (ss : List ByteArray) (i : Nat) (h : i < ss.length) : frSum (ss.take (i + 1)) = frSum (ss.take i) + fr ss[i].size := by
  rw [List.take_add_one, frSum_append]
  simp [frSum, List.getElem?_eq_getElem h]
set_option maxRecDepth 100000 in
set_option maxHeartbeats 2000000 in
theorem framed_any (ss : List ByteArray) (g len cap : Nat) (t : TypeId) (w : World) (hrow : w.heap[g]? = some (.cells (strs ss) t (0, 0))) (hs : ∀ s ∈ ss, s.size ≤ 1048576) (hl : ss.length ≤ 10) (hlen : len = ss.length) :
    Calls Try.prog 60 #[.slice (some ⟨g, 0, none⟩) len cap] w fun e w' => e = .returned (.int .i64 ((frSum ss : Nat) : Int)) ∧ w = w' := by
  have hcell : ∀ i, (h : i < ss.length) → w.cell? ⟨g, i, none⟩ = some (.string ss[i]) := fun i h => (cell_of_row w g i _ _ _ hrow).trans (strs_get ss i h)
  have HC := Lib.hid hcell
  have HS := Lib.hid hs
  have HL := Lib.hid hlen
  have hl2 : len ≤ 10 := by omega
  clear hcell hrow hs hlen
  go_enter Try.func60, Try.ntmps60
  go_wp2_with fail
  go_loopw [3, 8] (fun x3 x8 wr => ∃ i : Nat, i ≤ len ∧ x3 = .int .i64 ((frSum (ss.take i) : Nat) : Int) ∧ x8 = .int .i64 (i : Int) ∧ wr = w) (fun _ x8 _ => len - (intOf x8).toNat)
  case atStart => exact ⟨0, Nat.zero_le _, by simp [frSum], rfl, rfl⟩
  case round =>
    obtain ⟨i, hi, rfl, rfl, rfl⟩ := hrel
    have hi0 : (0 : Int) ≤ i := by omega
    have hb := frSum_le (ss.take i) fun s hm => HS.out s (List.mem_of_mem_take hm)
    rw [List.length_take] at hb
    have hb2 : ((frSum (ss.take i) : Nat) : Int) ≤ 20000000 := by have := hl2; omega
    have hb0 : (0 : Int) ≤ ((frSum (ss.take i) : Nat) : Int) := by omega
    by_cases hlt : i < len
    · have hlt2 : i < ss.length := by rw [← HL.out]; exact hlt
      have c0 := HC.out i hlt2
      have hsz := HS.out ss[i] (List.getElem_mem _)
      have hn := frSum_take ss i hlt2
      have CF := Lib.hid (fun w => Framed_any ss[i].size hsz w)
      have hfr : fr ss[i].size ≤ 1048592 := by unfold fr; omega
      have hfrI : ((fr ss[i].size : Nat) : Int) ≤ 1048592 := by omega
      have hfr0 : (0 : Int) ≤ ((fr ss[i].size : Nat) : Int) := by omega
      have hltI : (i : Int) < len := by omega
      have HN := Lib.hid hn
      generalize ss[i] = s at *
      clear hn hlt2
      go_wp2_with (go_at_call 68; refine (CF.out _).mono ?_; rintro e w' ⟨rfl, rfl⟩)
      go_roundw
      case rel => exact ⟨i + 1, by omega, by rw [HN.out]; go_num, by go_num, trivial⟩
      case measure => simp [intOf]; omega
    · have hltI : ¬ (i : Int) < len := by omega
      have hfin : frSum ss = frSum (ss.take i) := by rw [List.take_of_length_le (by rw [← HL.out]; omega)]
      go_wp2_with fail
      go_ret
      exact ⟨rfl, rfl⟩
end Go.Proofs.Ytlcppkcclolgcaa

