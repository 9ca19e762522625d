/- A framed word's reader: its fields are those of the bytes so far; the walk of NewReader. -/
import Derived.Test.YtlcppkcclolgcaaRc
namespace Go.Proofs.Ytlcppkcclolgcaa
set_option linter.unusedVariables false
set_option linter.unusedSimpArgs false
open Go.RowKit

/-- the reader behind the bytes of a word so far -/
def rcOf (ws : List Nat) : RC where
  taken := ws.length
  code := 0
  fat := 0
  item := 0
  start := 0
  state := if ws.length < 8 then 0 else if ws.length < 8 + val8 (ws.take 8) then 1 else 2
  num := val8 (ws.take 8)
  need := if ws.length < 8 then 8 - ws.length else if ws.length < 8 + val8 (ws.take 8) then 8 + val8 (ws.take 8) - ws.length else fr (val8 (ws.take 8)) - ws.length
  text := (ws.drop 8).take (val8 (ws.take 8))
theorem rc_eq {a b : RC} (h1 : a.taken = b.taken) (h2 : a.code = b.code) (h3 : a.fat = b.fat) (h4 : a.item = b.item) (h5 : a.start = b.start) (h6 : a.state = b.state) (h7 : a.num = b.num) (h8 : a.need = b.need) (h9 : a.text = b.text) : a = b := by
  cases a; cases b
  simp only at h1 h2 h3 h4 h5 h6 h7 h8 h9
  subst h1 h2 h3 h4 h5 h6 h7 h8 h9
  rfl
theorem p256 (n : Nat) : (256 : Nat) ^ n = 2 ^ (8 * n) := by rw [Nat.pow_mul]
theorem rc_fine {ws : List Nat} (h : Pre ws) : RFine (rcOf ws) := by
  have hl := h.len
  by_cases h8 : ws.length < 8
  · have hv := val8_lt _ (h.by_.take 8)
    have ht : (ws.take 8).length = ws.length := by rw [List.length_take]; omega
    rw [ht, p256] at hv
    have hd : ws.drop 8 = [] := List.drop_eq_nil_of_le (by omega)
    refine ⟨rfl, rfl, by show ws.length ≤ _; omega, ?_, ?_, ?_, ?_, ?_, ?_, ?_, ?_⟩
    · simp only [rcOf, if_pos h8]; omega
    · simp only [rcOf, if_pos h8]; omega
    · simp only [rcOf, if_pos h8]; omega
    · intro _; simp only [rcOf, if_pos h8]; omega
    · intro _
      simp only [rcOf, if_pos h8]
      rw [show 8 - (8 - ws.length) = ws.length by omega]
      exact hv
    · intro hne; simp only [rcOf, if_pos h8] at hne; exact absurd rfl hne
    · simp only [rcOf, hd, List.take_nil, List.length_nil]; omega
    · simp only [rcOf, hd, List.take_nil]; intro x hx; cases hx
  · have h8' : 8 ≤ ws.length := by omega
    have h1 := h.le h8'
    have h2 := h.lt h8'
    have htl : ((ws.drop 8).take (val8 (ws.take 8))).length ≤ 1048576 := by rw [List.length_take]; omega
    have htb : Bytes ((ws.drop 8).take (val8 (ws.take 8))) := (h.by_.drop 8).take _
    by_cases hn : ws.length < 8 + val8 (ws.take 8)
    · refine ⟨rfl, rfl, by show ws.length ≤ _; omega, ?_, ?_, ?_, ?_, ?_, fun _ => h1, htl, htb⟩
      all_goals simp only [rcOf, if_neg h8, if_pos hn]
      all_goals first | omega | (intro h; cases h)
    · unfold fr at h2
      refine ⟨rfl, rfl, by show ws.length ≤ _; omega, ?_, ?_, ?_, ?_, ?_, fun _ => h1, htl, htb⟩
      all_goals simp only [rcOf, if_neg h8, if_neg hn]
      all_goals first | omega | (unfold fr; omega) | (intro h; cases h)
/-- one more byte, by the reader's fields -/
theorem feedB_step {ws : List Nat} {c : Nat} (h : Pre ws) (hc : c < 256) :
    match frStep ws c with
    | .cont => (rcOf ws).feedB c = (rcOf (ws ++ [c]), true, none)
    | .whole s => ∃ c', (rcOf ws).feedB c = (c', true, some s) ∧ c'.code = 0 ∧ c'.fat = 0
    | .bad q off => ∃ c', (rcOf ws).feedB c = (c', false, none) ∧ c'.code = q ∧ c'.fat = off := by
  have hl1 : (ws ++ [c]).length = ws.length + 1 := by simp
  by_cases h8 : ws.length < 8
  · have hst : (rcOf ws).state = 0 := by simp only [rcOf, if_pos h8]
    have hnd : 8 - (rcOf ws).need = ws.length := by simp only [rcOf, if_pos h8]; omega
    have ht8 : ws.take 8 = ws := List.take_of_length_le (by omega)
    have hnum : (rcOf ws).num + c * 2 ^ (8 * ws.length) = val8 (ws ++ [c]) := by
      show val8 (ws.take 8) + _ = _
      rw [ht8, val8_snoc, p256]
    have hd8 : ws.drop 8 = [] := List.drop_eq_nil_of_le (by omega)
    have hd9 : (ws ++ [c]).drop 8 = [] := List.drop_eq_nil_of_le (by omega)
    have ht9 : (ws ++ [c]).take 8 = ws ++ [c] := List.take_of_length_le (by omega)
    have htext : (rcOf ws).text = [] := by simp only [rcOf, hd8, List.take_nil]
    have htake : (rcOf ws).takeB c = (rcOf ws).head c ws.length := by unfold RC.takeB; rw [if_pos hst, hnd]
    have hneed : (rcOf ws).need = 8 - ws.length := by simp only [rcOf, if_pos h8]
    unfold frStep
    rw [if_pos h8]
    by_cases h7 : ws.length = 7
    · rw [if_pos h7]
      by_cases hb : 1048576 < val8 (ws ++ [c])
      · rw [if_pos hb]
        have e : (rcOf ws).head c ws.length = ({ rcOf ws with num := (rcOf ws).num + c * 2 ^ (8 * ws.length), code := 6, fat := (rcOf ws).start }, false) := by
          unfold RC.head
          rw [if_pos ⟨h7, by rw [hnum]; exact hb⟩]
        refine ⟨{ rcOf ws with num := (rcOf ws).num + c * 2 ^ (8 * ws.length), code := 6, fat := (rcOf ws).start }, ?_, rfl, rfl⟩
        unfold RC.feedB
        rw [htake, e, if_pos rfl]
      · rw [if_neg hb]
        have e : (rcOf ws).head c ws.length = ({ rcOf ws with num := val8 (ws ++ [c]), need := (rcOf ws).need - 1 }, true) := by
          unfold RC.head
          rw [hnum, if_neg (fun h => hb h.2)]
        have e2 : (rcOf ws).feedB c = (({ rcOf ws with num := val8 (ws ++ [c]), need := (rcOf ws).need - 1, taken := (rcOf ws).taken + 1 } : RC).nextR.1, true, ({ rcOf ws with num := val8 (ws ++ [c]), need := (rcOf ws).need - 1, taken := (rcOf ws).taken + 1 } : RC).nextR.2) := by
          unfold RC.feedB
          rw [htake, e, if_neg (by simp), if_neg (by show ¬ 0 < (rcOf ws).need - 1; rw [hneed]; omega)]
        by_cases h0 : val8 (ws ++ [c]) = 0
        · rw [if_pos h0]
          have e3 : ({ rcOf ws with num := val8 (ws ++ [c]), need := (rcOf ws).need - 1, taken := (rcOf ws).taken + 1 } : RC).nextR = (({ rcOf ws with num := val8 (ws ++ [c]), need := (rcOf ws).need - 1, taken := (rcOf ws).taken + 1 } : RC).doneR, some (strOf (rcOf ws).text)) := by
            unfold RC.nextR
            rw [if_neg (by simp only; omega), if_neg (by simp only; omega)]
          rw [e3, htext, strOf_nil] at e2
          exact ⟨_, e2, rfl, rfl⟩
        · rw [if_neg h0]
          show _ = _
          rw [e2]
          have e3 : ({ rcOf ws with num := val8 (ws ++ [c]), need := (rcOf ws).need - 1, taken := (rcOf ws).taken + 1 } : RC).nextR = ({ rcOf ws with num := val8 (ws ++ [c]), taken := (rcOf ws).taken + 1, state := 1, need := val8 (ws ++ [c]) }, none) := by
            unfold RC.nextR
            rw [if_pos ⟨hst, by simp only; omega⟩]
          rw [e3]
          congr 1
          refine rc_eq ?_ rfl rfl rfl rfl ?_ ?_ ?_ ?_
          · simp only [rcOf, hl1]
          · simp only [rcOf, hl1, ht9]; rw [if_neg (by omega), if_pos (by omega)]
          · simp only [rcOf, ht9]
          · simp only [rcOf, hl1, ht9]; rw [if_neg (by omega), if_pos (by omega)]; omega
          · simp only [rcOf, hd9, hd8, List.take_nil]
    · rw [if_neg h7]
      show _ = _
      have e : (rcOf ws).head c ws.length = ({ rcOf ws with num := val8 (ws ++ [c]), need := (rcOf ws).need - 1 }, true) := by
        unfold RC.head
        rw [hnum, if_neg (fun h => h7 h.1)]
      unfold RC.feedB
      rw [htake, e, if_neg (by simp), if_pos (by show 0 < (rcOf ws).need - 1; rw [hneed]; omega)]
      congr 1
      refine rc_eq ?_ rfl rfl rfl rfl ?_ ?_ ?_ ?_
      · simp only [rcOf, hl1]
      · simp only [rcOf, hl1]; rw [if_pos h8, if_pos (by omega)]
      · simp only [rcOf, ht9]
      · simp only [rcOf, hl1]; rw [if_pos h8, if_pos (by omega)]; omega
      · simp only [rcOf, hd9, hd8, List.take_nil]
  · have h8' : 8 ≤ ws.length := by omega
    have h1 := h.le h8'
    have h2 := h.lt h8'
    have ht := take8_snoc (c := c) h8'
    have hdr : (ws ++ [c]).drop 8 = ws.drop 8 ++ [c] := List.drop_append_of_le_length h8'
    have hdl : (ws.drop 8).length = ws.length - 8 := by simp
    unfold frStep
    rw [if_neg h8]
    by_cases hn : ws.length < 8 + val8 (ws.take 8)
    · rw [if_pos hn]
      have hst : (rcOf ws).state = 1 := by simp only [rcOf, if_neg h8, if_pos hn]
      have hneed : (rcOf ws).need = 8 + val8 (ws.take 8) - ws.length := by simp only [rcOf, if_neg h8, if_pos hn]
      have htext : (rcOf ws).text = ws.drop 8 := by simp only [rcOf]; exact List.take_of_length_le (by omega)
      have htake : (rcOf ws).takeB c = ({ rcOf ws with text := ws.drop 8 ++ [c], need := (rcOf ws).need - 1 }, true) := by
        unfold RC.takeB
        rw [if_neg (by omega), if_pos hst, htext]
      by_cases hlast : ws.length + 1 = 8 + val8 (ws.take 8)
      · have e2 : (rcOf ws).feedB c = (({ rcOf ws with text := ws.drop 8 ++ [c], need := (rcOf ws).need - 1, taken := (rcOf ws).taken + 1 } : RC).nextR.1, true, ({ rcOf ws with text := ws.drop 8 ++ [c], need := (rcOf ws).need - 1, taken := (rcOf ws).taken + 1 } : RC).nextR.2) := by
          unfold RC.feedB
          rw [htake, if_neg (by simp), if_neg (by show ¬ 0 < (rcOf ws).need - 1; rw [hneed]; omega)]
        by_cases hm : val8 (ws.take 8) % 8 = 0
        · rw [if_pos ⟨hlast, hm⟩]
          have e3 : ({ rcOf ws with text := ws.drop 8 ++ [c], need := (rcOf ws).need - 1, taken := (rcOf ws).taken + 1 } : RC).nextR = (({ rcOf ws with text := ws.drop 8 ++ [c], need := (rcOf ws).need - 1, taken := (rcOf ws).taken + 1 } : RC).doneR, some (strOf (ws.drop 8 ++ [c]))) := by
            unfold RC.nextR
            rw [if_neg (by simp only; omega), if_neg (fun hh => hh.2 hm)]
          rw [e3] at e2
          exact ⟨_, e2, rfl, rfl⟩
        · rw [if_neg (fun hh => hm hh.2)]
          show _ = _
          have e3 : ({ rcOf ws with text := ws.drop 8 ++ [c], need := (rcOf ws).need - 1, taken := (rcOf ws).taken + 1 } : RC).nextR = ({ rcOf ws with text := ws.drop 8 ++ [c], taken := (rcOf ws).taken + 1, state := 2, need := 8 - val8 (ws.take 8) % 8 }, none) := by
            unfold RC.nextR
            rw [if_neg (by simp only; omega), if_pos ⟨hst, hm⟩]
            rfl
          rw [e2, e3]
          congr 1
          refine rc_eq ?_ rfl rfl rfl rfl ?_ ?_ ?_ ?_
          · simp only [rcOf, hl1]
          · simp only [rcOf, hl1, ht]; rw [if_neg (by omega), if_neg (by omega)]
          · simp only [rcOf, ht]
          · simp only [rcOf, hl1, ht]; rw [if_neg (by omega), if_neg (by omega)]; unfold fr; omega
          · simp only [rcOf, ht, hdr]; exact (List.take_of_length_le (by simp; omega)).symm
      · rw [if_neg (fun hh => hlast hh.1)]
        show _ = _
        unfold RC.feedB
        rw [htake, if_neg (by simp), if_pos (by show 0 < (rcOf ws).need - 1; rw [hneed]; omega)]
        congr 1
        refine rc_eq ?_ rfl rfl rfl rfl ?_ ?_ ?_ ?_
        · simp only [rcOf, hl1]
        · simp only [rcOf, hl1, ht]; rw [if_neg h8, if_pos hn, if_neg (by omega), if_pos (by omega)]
        · simp only [rcOf, ht]
        · simp only [rcOf, hl1, ht]; rw [if_neg h8, if_pos hn, if_neg (by omega), if_pos (by omega)]; omega
        · simp only [rcOf, ht, hdr]; exact (List.take_of_length_le (by simp; omega)).symm
    · rw [if_neg hn]
      have hst : (rcOf ws).state = 2 := by simp only [rcOf, if_neg h8, if_neg hn]
      have hneed : (rcOf ws).need = fr (val8 (ws.take 8)) - ws.length := by simp only [rcOf, if_neg h8, if_neg hn]
      have htk : (ws.drop 8 ++ [c]).take (val8 (ws.take 8)) = (ws.drop 8).take (val8 (ws.take 8)) := List.take_append_of_le_length (by omega)
      by_cases h0 : c = 0
      · rw [if_neg (by omega)]
        have htake : (rcOf ws).takeB c = ({ rcOf ws with need := (rcOf ws).need - 1 }, true) := by
          unfold RC.takeB
          rw [if_neg (by omega), if_neg (by omega), if_pos h0]
        by_cases hw : ws.length + 1 = fr (val8 (ws.take 8))
        · rw [if_pos hw]
          have e2 : (rcOf ws).feedB c = (({ rcOf ws with need := (rcOf ws).need - 1, taken := (rcOf ws).taken + 1 } : RC).nextR.1, true, ({ rcOf ws with need := (rcOf ws).need - 1, taken := (rcOf ws).taken + 1 } : RC).nextR.2) := by
            unfold RC.feedB
            rw [htake, if_neg (by simp), if_neg (by show ¬ 0 < (rcOf ws).need - 1; rw [hneed]; omega)]
          have e3 : ({ rcOf ws with need := (rcOf ws).need - 1, taken := (rcOf ws).taken + 1 } : RC).nextR = (({ rcOf ws with need := (rcOf ws).need - 1, taken := (rcOf ws).taken + 1 } : RC).doneR, some (strOf ((ws.drop 8).take (val8 (ws.take 8))))) := by
            unfold RC.nextR
            rw [if_neg (by simp only; omega), if_neg (by simp only; omega)]
            rfl
          rw [e3] at e2
          exact ⟨_, e2, rfl, rfl⟩
        · rw [if_neg hw]
          show _ = _
          unfold RC.feedB
          rw [htake, if_neg (by simp), if_pos (by show 0 < (rcOf ws).need - 1; rw [hneed]; omega)]
          congr 1
          refine rc_eq ?_ rfl rfl rfl rfl ?_ ?_ ?_ ?_
          · simp only [rcOf, hl1]
          · simp only [rcOf, hl1, ht]; rw [if_neg h8, if_neg hn, if_neg (by omega), if_neg (by omega)]
          · simp only [rcOf, ht]
          · simp only [rcOf, hl1, ht]; rw [if_neg h8, if_neg hn, if_neg (by omega), if_neg (by omega)]; omega
          · simp only [rcOf, ht, hdr]; exact htk.symm
      · rw [if_pos h0]
        have htake : (rcOf ws).takeB c = ({ rcOf ws with code := 7, fat := (rcOf ws).taken }, false) := by
          unfold RC.takeB
          rw [if_neg (by omega), if_neg (by omega), if_neg h0]
        refine ⟨{ rcOf ws with code := 7, fat := (rcOf ws).taken }, ?_, rfl, rfl⟩
        unfold RC.feedB
        rw [htake, if_pos rfl]
set_option maxRecDepth 100000 in
set_option maxHeartbeats 2000000 in
theorem newr_any (w : World) :
    Calls Try.prog 23 #[.string ⟨#[116]⟩, .int .i64 1048576] w fun e w' => e = .returned (.pointer (some ⟨w.heap.size, 0, none⟩)) ∧ RdS w (fun _ => False) w' w.heap.size w.heap.size (.slice none 0 0) (rcOf []) := by
  have hk1 : ∀ q, (((((⟨#[116]⟩ : ByteArray)[0]'q).toNat : Int)) != 105) = true := fun _ => rfl
  have hk2 : ∀ q, (((((⟨#[116]⟩ : ByteArray)[0]'q).toNat : Int)) != 116) = false := fun _ => rfl
  go_enter Try.func23, Try.ntmps23
  go_wp2_with fail
  go_loopw [14] (fun x14 wr => ∃ j : Nat, j ≤ 1 ∧ x14 = .int .i64 (j : Nat) ∧ wr = w.alloc (.cells (rcells (rcOf []) (.slice none 0 0)) 73)) (fun x14 _ => 1 - (intOf x14).toNat)
  case atStart => exact ⟨0, by omega, rfl, rfl⟩
  case round =>
    obtain ⟨j, hj, rfl, rfl⟩ := hrel
    by_cases h : j = 0
    · subst h
      have k0 : ((0 : Nat) : Int) = 0 := rfl
      rw [k0]
      go_wp2_with fail
      go_roundw
      case rel => exact ⟨1, by omega, rfl, by trivial⟩
      case measure => simp [intOf]
    · obtain rfl : j = 1 := by omega
      have k0 : ((1 : Nat) : Int) = 1 := rfl
      rw [k0]
      go_wp2_with fail
      go_ret
      exact ⟨rfl, heap_alloc_new w _, OwnB.nil _ _, Nat.le_refl _, Away.of_below ((Below.refl _ _).alloc (Nat.le_refl _) _), fun h => by omega, fun k e => by simp [Value.ownBlock] at e⟩
end Go.Proofs.Ytlcppkcclolgcaa

