/- Plain: the reader of one framed word, byte by byte. -/
import Derived.Test.YtlcppkcclolgcaaNd
namespace Go.Proofs.Ytlcppkcclolgcaa
set_option linter.unusedVariables false
set_option linter.unusedSimpArgs false
open Go.RowKit

/-- a number, the lowest byte first -/
def val8 : List Nat → Nat
  | [] => 0
  | c :: r => c + 256 * val8 r
def leN : Nat → Nat → List Nat
  | 0, _ => []
  | k + 1, n => n % 256 :: leN k (n / 256)
theorem val8_snoc (c : Nat) : ∀ ws : List Nat, val8 (ws ++ [c]) = val8 ws + c * 256 ^ ws.length
  | [] => by simp [val8]
  | x :: r => by
    show x + 256 * val8 (r ++ [c]) = x + 256 * val8 r + c * 256 ^ (r.length + 1)
    rw [val8_snoc c r, Nat.pow_succ, Nat.mul_add, Nat.mul_comm (256 ^ r.length) 256, ← Nat.mul_assoc c, Nat.mul_comm c 256, Nat.mul_assoc]
    omega
theorem val8_lt : ∀ (ws : List Nat), Bytes ws → val8 ws < 256 ^ ws.length
  | [], _ => by simp [val8]
  | x :: r, h => by
    have h1 := val8_lt r fun y hy => h y (List.mem_cons_of_mem _ hy)
    have h2 := h x (List.mem_cons_self ..)
    show x + 256 * val8 r < 256 ^ (r.length + 1)
    rw [Nat.pow_succ]
    omega
theorem leN_length : ∀ k n, (leN k n).length = k
  | 0, _ => rfl
  | k + 1, n => by simp [leN, leN_length k]
theorem val8_leN : ∀ k n, n < 256 ^ k → val8 (leN k n) = n
  | 0, n, h => by simp at h; subst h; rfl
  | k + 1, n, h => by
    rw [Nat.pow_succ] at h
    show n % 256 + 256 * val8 (leN k (n / 256)) = n
    rw [val8_leN k (n / 256) (Nat.div_lt_of_lt_mul (by rw [Nat.mul_comm]; exact h))]
    omega
theorem leN_val8 : ∀ (ws : List Nat), Bytes ws → leN ws.length (val8 ws) = ws
  | [], _ => rfl
  | x :: r, h => by
    have h1 := leN_val8 r fun y hy => h y (List.mem_cons_of_mem _ hy)
    have h2 := h x (List.mem_cons_self ..)
    show (x + 256 * val8 r) % 256 :: leN r.length ((x + 256 * val8 r) / 256) = x :: r
    rw [show (x + 256 * val8 r) % 256 = x by omega, show (x + 256 * val8 r) / 256 = val8 r by omega, h1]
theorem le8_leN (n : Nat) : le8 n = leN 8 n := by
  simp [le8, fl8, leN, Nat.div_div_eq_div_mul]
theorem val8_le8 (n : Nat) (h : n < 18446744073709551616) : val8 (le8 n) = n := by
  rw [le8_leN]
  exact val8_leN 8 n h
theorem le8_val8 (ws : List Nat) (hb : Bytes ws) (hl : ws.length = 8) : le8 (val8 ws) = ws := by
  rw [le8_leN, ← hl]
  exact leN_val8 ws hb

/-- what one more byte brings -/
inductive FrR where
  | cont
  | whole (s : ByteArray)
  | bad (q : Int) (off : Nat)
/-- the bytes of a word so far; one more -/
def frStep (ws : List Nat) (c : Nat) : FrR :=
  if ws.length < 8 then
    (if ws.length = 7 then (if 1048576 < val8 (ws ++ [c]) then .bad 6 0 else if val8 (ws ++ [c]) = 0 then .whole ⟨#[]⟩ else .cont) else .cont)
  else if ws.length < 8 + val8 (ws.take 8) then
    (if ws.length + 1 = 8 + val8 (ws.take 8) ∧ val8 (ws.take 8) % 8 = 0 then .whole (strOf (ws.drop 8 ++ [c])) else .cont)
  else if c ≠ 0 then .bad 7 ws.length
  else if ws.length + 1 = fr (val8 (ws.take 8)) then .whole (strOf ((ws.drop 8).take (val8 (ws.take 8)))) else .cont
/-- bytes of a word that isn't whole -/
structure Pre (ws : List Nat) : Prop where
  by_ : Bytes ws
  le : 8 ≤ ws.length → val8 (ws.take 8) ≤ 1048576
  lt : 8 ≤ ws.length → ws.length < fr (val8 (ws.take 8))
  pad : 8 ≤ ws.length → ∀ x ∈ ws.drop (8 + val8 (ws.take 8)), x = 0
theorem Pre.nil : Pre [] := ⟨(fun x hx => by cases hx), by simp, by simp, by simp⟩
theorem Pre.len {ws : List Nat} (h : Pre ws) : ws.length ≤ 1048600 := by
  by_cases h8 : 8 ≤ ws.length
  · have h1 := h.le h8
    have h2 := h.lt h8
    unfold fr at h2
    omega
  · omega
theorem Bytes.snoc {ws : List Nat} {c : Nat} (h : Bytes ws) (hc : c < 256) : Bytes (ws ++ [c]) := by
  intro x hx
  rw [List.mem_append, List.mem_singleton] at hx
  rcases hx with hx | rfl
  · exact h x hx
  · exact hc
theorem take8_snoc {ws : List Nat} {c : Nat} (h : 8 ≤ ws.length) : (ws ++ [c]).take 8 = ws.take 8 := List.take_append_of_le_length h
theorem take8_full {ws : List Nat} {c : Nat} (h : ws.length = 7) : (ws ++ [c]).take 8 = ws ++ [c] := List.take_of_length_le (by simp; omega)
theorem Pre.cont {ws : List Nat} {c : Nat} (h : Pre ws) (hc : c < 256) (e : frStep ws c = .cont) : Pre (ws ++ [c]) := by
  unfold frStep at e
  by_cases h8 : ws.length < 8
  · rw [if_pos h8] at e
    by_cases h7 : ws.length = 7
    · rw [if_pos h7] at e
      by_cases hb : 1048576 < val8 (ws ++ [c])
      · rw [if_pos hb] at e; cases e
      · rw [if_neg hb] at e
        by_cases h0 : val8 (ws ++ [c]) = 0
        · rw [if_pos h0] at e; cases e
        · have ht := take8_full (c := c) h7
          refine ⟨h.by_.snoc hc, fun _ => by rw [ht]; omega, fun _ => ?_, fun _ => ?_⟩
          · rw [ht]; simp only [List.length_append, List.length_singleton]; unfold fr; omega
          · rw [ht, List.drop_eq_nil_of_le (by simp; omega)]; intro x hx; cases hx
    · exact ⟨h.by_.snoc hc, fun h' => by simp at h'; omega, fun h' => by simp at h'; omega, fun h' => by simp at h'; omega⟩
  · rw [if_neg h8] at e
    have h8' : 8 ≤ ws.length := by omega
    have ht := take8_snoc (c := c) h8'
    have h1 := h.le h8'
    have h2 := h.lt h8'
    by_cases hn : ws.length < 8 + val8 (ws.take 8)
    · rw [if_pos hn] at e
      by_cases hw : ws.length + 1 = 8 + val8 (ws.take 8) ∧ val8 (ws.take 8) % 8 = 0
      · rw [if_pos hw] at e; cases e
      · refine ⟨h.by_.snoc hc, fun _ => by rw [ht]; exact h1, fun _ => ?_, fun _ => ?_⟩
        · rw [ht]; simp only [List.length_append, List.length_singleton]; unfold fr at h2 ⊢; omega
        · rw [ht, List.drop_eq_nil_of_le (by simp; omega)]; intro x hx; cases hx
    · rw [if_neg hn] at e
      by_cases h0 : c ≠ 0
      · rw [if_pos h0] at e; cases e
      · rw [if_neg h0] at e
        have h0' : c = 0 := by omega
        by_cases hw : ws.length + 1 = fr (val8 (ws.take 8))
        · rw [if_pos hw] at e; cases e
        · refine ⟨h.by_.snoc hc, fun _ => by rw [ht]; exact h1, fun _ => ?_, fun _ => ?_⟩
          · rw [ht]; simp only [List.length_append, List.length_singleton]; omega
          · rw [ht, List.drop_append_of_le_length (by omega)]
            intro x hx
            rw [List.mem_append, List.mem_singleton] at hx
            rcases hx with hx | rfl
            · exact h.pad h8' x hx
            · exact h0'
theorem zeros_of {l : List Nat} {n : Nat} (h : ∀ x ∈ l, x = 0) (hl : l.length = n) : l = List.replicate n 0 := by
  rw [List.eq_replicate_iff]
  exact ⟨hl, h⟩
theorem strOf_nil : strOf [] = ⟨#[]⟩ := rfl
theorem Bytes.drop {ws : List Nat} (h : Bytes ws) (n : Nat) : Bytes (ws.drop n) := fun x hx => h x (List.mem_of_mem_drop hx)
theorem Bytes.take {ws : List Nat} (h : Bytes ws) (n : Nat) : Bytes (ws.take n) := fun x hx => h x (List.mem_of_mem_take hx)
theorem fr_pad (n : Nat) : fr n = 8 + n + padN n := by unfold fr padN; omega
/-- a word that is whole is a framed text -/
theorem Pre.whole {ws : List Nat} {c : Nat} {s : ByteArray} (h : Pre ws) (hc : c < 256) (e : frStep ws c = .whole s) : ws ++ [c] = frameL (nb s) ∧ s.size ≤ 1048576 := by
  unfold frStep at e
  have hB := h.by_.snoc hc
  by_cases h8 : ws.length < 8
  · rw [if_pos h8] at e
    by_cases h7 : ws.length = 7
    · rw [if_pos h7] at e
      by_cases hb : 1048576 < val8 (ws ++ [c])
      · rw [if_pos hb] at e; cases e
      · rw [if_neg hb] at e
        by_cases h0 : val8 (ws ++ [c]) = 0
        · rw [if_pos h0] at e
          injection e with e
          subst e
          refine ⟨?_, by decide⟩
          have h1 := le8_val8 (ws ++ [c]) hB (by simp; omega)
          rw [h0] at h1
          rw [← h1]
          rfl
        · rw [if_neg h0] at e; cases e
    · rw [if_neg h7] at e; cases e
  · rw [if_neg h8] at e
    have h8' : 8 ≤ ws.length := by omega
    have ht := take8_snoc (c := c) h8'
    have h1 := h.le h8'
    have h2 := h.lt h8'
    have hle : le8 (val8 (ws.take 8)) = ws.take 8 := le8_val8 _ (h.by_.take 8) (by rw [List.length_take]; omega)
    by_cases hn : ws.length < 8 + val8 (ws.take 8)
    · rw [if_pos hn] at e
      by_cases hw : ws.length + 1 = 8 + val8 (ws.take 8) ∧ val8 (ws.take 8) % 8 = 0
      · rw [if_pos hw] at e
        injection e with e
        subst e
        have hbd : Bytes (ws.drop 8 ++ [c]) := (h.by_.drop 8).snoc hc
        have hlen : (ws.drop 8 ++ [c]).length = val8 (ws.take 8) := by simp; omega
        refine ⟨?_, by rw [strOf_size, hlen]; omega⟩
        unfold frameL
        rw [nb_strOf _ hbd, hlen, hle, show padN (val8 (ws.take 8)) = 0 by unfold padN; omega]
        rw [List.replicate_zero, List.append_nil, ← List.append_assoc, List.take_append_drop]
      · rw [if_neg hw] at e; cases e
    · rw [if_neg hn] at e
      by_cases h0 : c ≠ 0
      · rw [if_pos h0] at e; cases e
      · rw [if_neg h0] at e
        have h0' : c = 0 := by omega
        by_cases hw : ws.length + 1 = fr (val8 (ws.take 8))
        · rw [if_pos hw] at e
          injection e with e
          subst e
          have hbd : Bytes ((ws.drop 8).take (val8 (ws.take 8))) := (h.by_.drop 8).take _
          have hlen : ((ws.drop 8).take (val8 (ws.take 8))).length = val8 (ws.take 8) := by simp; omega
          refine ⟨?_, by rw [strOf_size, hlen]; omega⟩
          unfold frameL
          rw [nb_strOf _ hbd, hlen, hle]
          rw [fr_pad] at hw
          have hz : ws.drop (8 + val8 (ws.take 8)) ++ [c] = List.replicate (padN (val8 (ws.take 8))) 0 := by
            refine zeros_of ?_ (by simp; omega)
            intro x hx
            rw [List.mem_append, List.mem_singleton] at hx
            rcases hx with hx | rfl
            · exact h.pad h8' x hx
            · exact h0'
          rw [← hz, ← List.drop_drop]
          have e1 : ws = ws.take 8 ++ ((ws.drop 8).take (val8 (ws.take 8)) ++ (ws.drop 8).drop (val8 (ws.take 8))) := by rw [List.take_append_drop, List.take_append_drop]
          generalize val8 (ws.take 8) = n at *
          conv => lhs; rw [e1]
          simp only [List.append_assoc]
        · rw [if_neg hw] at e; cases e
/-- along a framed text the reader goes on, and is done with its last byte -/
theorem fr_run (s : ByteArray) (hs : s.size ≤ 1048576) (ws : List Nat) (c : Nat) (rest : List Nat) (h : frameL (nb s) = ws ++ c :: rest) :
    frStep ws c = if rest = [] then .whole s else .cont := by
  have hL : (frameL (nb s)).length = fr s.size := by rw [frameL_length, nb_length]; rfl
  have hlen : ws.length + 1 + rest.length = fr s.size := by rw [← hL, h]; simp; omega
  have hr : rest = [] ↔ ws.length + 1 = fr s.size := by
    rw [← List.length_eq_zero_iff]; omega
  have ht8 : (frameL (nb s)).take 8 = le8 s.size := by
    unfold frameL
    rw [List.append_assoc, List.take_append_of_le_length (by rw [le8_length]; exact Nat.le_refl _), List.take_of_length_le (by rw [le8_length]; exact Nat.le_refl _), nb_length]
  have hd8 : (frameL (nb s)).drop 8 = nb s ++ List.replicate (padN s.size) 0 := by
    unfold frameL
    rw [List.append_assoc, List.drop_append_of_le_length (by rw [le8_length]; exact Nat.le_refl _), List.drop_eq_nil_of_le (by rw [le8_length]; exact Nat.le_refl _), nb_length]
    rfl
  have hv : val8 (le8 s.size) = s.size := val8_le8 _ (by omega)
  have hfp := fr_pad s.size
  unfold frStep
  by_cases h8 : ws.length < 8
  · rw [if_pos h8]
    by_cases h7 : ws.length = 7
    · have e1 : ws ++ [c] = le8 s.size := by
        rw [← ht8, h, show ws ++ c :: rest = (ws ++ [c]) ++ rest by simp, List.take_append_of_le_length (by simp; omega), List.take_of_length_le (by simp; omega)]
      rw [if_pos h7, e1, hv, if_neg (by omega)]
      by_cases h0 : s.size = 0
      · rw [if_pos h0, if_pos (hr.2 (by rw [h0] at *; rw [h7]; rfl))]
        have : s = ⟨#[]⟩ := by
          apply ByteArray.ext
          exact Array.eq_empty_of_size_eq_zero h0
        rw [this]
      · rw [if_neg h0, if_neg (fun e => by have := hr.1 e; omega)]
    · rw [if_neg h7, if_neg (fun e => by have := hr.1 e; omega)]
  · rw [if_neg h8]
    have e1 : ws.take 8 = le8 s.size := by
      rw [← ht8, h, List.take_append_of_le_length (by omega)]
    have e2 : ws.drop 8 ++ c :: rest = nb s ++ List.replicate (padN s.size) 0 := by
      rw [← hd8, h, List.drop_append_of_le_length (by omega)]
    rw [e1, hv]
    have l2 : (ws.drop 8).length = ws.length - 8 := by simp
    by_cases hn : ws.length < 8 + s.size
    · rw [if_pos hn]
      by_cases hw : ws.length + 1 = 8 + s.size ∧ s.size % 8 = 0
      · have hp : padN s.size = 0 := by unfold padN; omega
        have hrr : rest = [] := hr.2 (by omega)
        rw [if_pos hw, if_pos hrr]
        subst hrr
        rw [hp, List.replicate_zero, List.append_nil] at e2
        rw [e2, strOf_nb]
      · rw [if_neg hw, if_neg (fun e => hw (by have h1 := hr.1 e; unfold padN at hfp; omega))]
    · rw [if_neg hn]
      have e3 : ws.drop 8 = nb s ++ (List.replicate (padN s.size) 0).take (ws.length - 8 - s.size) := by
        have := congrArg (List.take (ws.length - 8)) e2
        rw [List.take_append_of_le_length (by omega), List.take_of_length_le (by omega), List.take_append, List.take_of_length_le (by rw [nb_length]; omega), nb_length] at this
        exact this
      have hc0 : c = 0 := by
        have hm : (ws.drop 8 ++ c :: rest)[ws.length - 8]? = some c := by
          rw [List.getElem?_append_right (by omega), l2, Nat.sub_self]; rfl
        rw [e2, List.getElem?_append_right (by rw [nb_length]; omega)] at hm
        have := List.mem_of_getElem? hm
        exact (List.mem_replicate.1 this).2
      rw [if_neg (by omega)]
      by_cases hw : ws.length + 1 = fr s.size
      · rw [if_pos hw, if_pos (hr.2 hw), e3, List.take_append_of_le_length (by rw [nb_length]; exact Nat.le_refl _), List.take_of_length_le (by rw [nb_length]; exact Nat.le_refl _), strOf_nb]
      · rw [if_neg hw, if_neg (fun e => hw (hr.1 e))]
end Go.Proofs.Ytlcppkcclolgcaa

