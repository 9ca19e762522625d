/- Plain: the reader of one framed word, byte by byte. Plain: the parser as a machine over words and over bytes; what it takes is the archive of its tree. Plain: what the machine over words takes is the words of a well-formed tree, and each such tree's words are taken. Plain: the parser as a machine over bytes. -/
import Derived.Test.YtlcppkcclolgcaaDoorDBa
import Derived.Test.YtlcppkcclolgcaaDoorDBc
namespace Go.Proofs.YtlcppkcclolgcaaDoor
set_option linter.unusedVariables false
set_option linter.unusedSimpArgs false
open Go.RowKit

/-- a number, the lowest byte first -/
def val8 : List Nat → Nat
  | [] => 0
  | c :: r => c + 256 * val8 r
def leN : Nat → Nat → List Nat
  | 0, _ => []
  | k + 1, n => n % 256 :: leN k (n / 256)
theorem val8_snoc (c : Nat) : ∀ ws : List Nat, val8 (ws ++ [c]) = val8 ws + c * 256 ^ ws.length
  | [] => by simp [val8]
  | x :: r => by
    show x + 256 * val8 (r ++ [c]) = x + 256 * val8 r + c * 256 ^ (r.length + 1)
    rw [val8_snoc c r, Nat.pow_succ, Nat.mul_add, Nat.mul_comm (256 ^ r.length) 256, ← Nat.mul_assoc c, Nat.mul_comm c 256, Nat.mul_assoc]
    omega
theorem val8_lt : ∀ (ws : List Nat), Bytes ws → val8 ws < 256 ^ ws.length
  | [], _ => by simp [val8]
  | x :: r, h => by
    have h1 := val8_lt r fun y hy => h y (List.mem_cons_of_mem _ hy)
    have h2 := h x (List.mem_cons_self ..)
    show x + 256 * val8 r < 256 ^ (r.length + 1)
    rw [Nat.pow_succ]
    omega
theorem leN_length : ∀ k n, (leN k n).length = k
  | 0, _ => rfl
  | k + 1, n => by simp [leN, leN_length k]
theorem val8_leN : ∀ k n, n < 256 ^ k → val8 (leN k n) = n
  | 0, n, h => by simp at h; subst h; rfl
  | k + 1, n, h => by
    rw [Nat.pow_succ] at h
    show n % 256 + 256 * val8 (leN k (n / 256)) = n
    rw [val8_leN k (n / 256) (Nat.div_lt_of_lt_mul (by rw [Nat.mul_comm]; exact h))]
    omega
theorem leN_val8 : ∀ (ws : List Nat), Bytes ws → leN ws.length (val8 ws) = ws
  | [], _ => rfl
  | x :: r, h => by
    have h1 := leN_val8 r fun y hy => h y (List.mem_cons_of_mem _ hy)
    have h2 := h x (List.mem_cons_self ..)
    show (x + 256 * val8 r) % 256 :: leN r.length ((x + 256 * val8 r) / 256) = x :: r
    rw [show (x + 256 * val8 r) % 256 = x by omega, show (x + 256 * val8 r) / 256 = val8 r by omega, h1]
theorem le8_leN (n : Nat) : le8 n = leN 8 n := by
  simp [le8, fl8, leN, Nat.div_div_eq_div_mul]
theorem val8_le8 (n : Nat) (h : n < 18446744073709551616) : val8 (le8 n) = n := by
  rw [le8_leN]
  exact val8_leN 8 n h
theorem le8_val8 (ws : List Nat) (hb : Bytes ws) (hl : ws.length = 8) : le8 (val8 ws) = ws := by
  rw [le8_leN, ← hl]
  exact leN_val8 ws hb

/-- what one more byte brings -/
inductive FrR where
  | cont
  | whole (s : ByteArray)
  | bad (q : Int) (off : Nat)
/-- the bytes of a word so far; one more -/
def frStep (ws : List Nat) (c : Nat) : FrR :=
  if ws.length < 8 then
    (if ws.length = 7 then (if 1048576 < val8 (ws ++ [c]) then .bad 6 0 else if val8 (ws ++ [c]) = 0 then .whole ⟨#[]⟩ else .cont) else .cont)
  else if ws.length < 8 + val8 (ws.take 8) then
    (if ws.length + 1 = 8 + val8 (ws.take 8) ∧ val8 (ws.take 8) % 8 = 0 then .whole (strOf (ws.drop 8 ++ [c])) else .cont)
  else if c ≠ 0 then .bad 7 ws.length
  else if ws.length + 1 = fr (val8 (ws.take 8)) then .whole (strOf ((ws.drop 8).take (val8 (ws.take 8)))) else .cont
/-- bytes of a word that isn't whole -/
structure Pre (ws : List Nat) : Prop where
  by_ : Bytes ws
  le : 8 ≤ ws.length → val8 (ws.take 8) ≤ 1048576
  lt : 8 ≤ ws.length → ws.length < fr (val8 (ws.take 8))
  pad : 8 ≤ ws.length → ∀ x ∈ ws.drop (8 + val8 (ws.take 8)), x = 0
theorem Pre.nil : Pre [] := ⟨(fun x hx => by cases hx), by simp, by simp, by simp⟩
theorem Pre.len {ws : List Nat} (h : Pre ws) : ws.length ≤ 1048600 := by
  by_cases h8 : 8 ≤ ws.length
  · have h1 := h.le h8
    have h2 := h.lt h8
    unfold fr at h2
    omega
  · omega
theorem Bytes.snoc {ws : List Nat} {c : Nat} (h : Bytes ws) (hc : c < 256) : Bytes (ws ++ [c]) := by
  intro x hx
  rw [List.mem_append, List.mem_singleton] at hx
  rcases hx with hx | rfl
  · exact h x hx
  · exact hc
theorem take8_snoc {ws : List Nat} {c : Nat} (h : 8 ≤ ws.length) : (ws ++ [c]).take 8 = ws.take 8 := List.take_append_of_le_length h
theorem take8_full {ws : List Nat} {c : Nat} (h : ws.length = 7) : (ws ++ [c]).take 8 = ws ++ [c] := List.take_of_length_le (by simp; omega)
theorem Pre.cont {ws : List Nat} {c : Nat} (h : Pre ws) (hc : c < 256) (e : frStep ws c = .cont) : Pre (ws ++ [c]) := by
  unfold frStep at e
  by_cases h8 : ws.length < 8
  · rw [if_pos h8] at e
    by_cases h7 : ws.length = 7
    · rw [if_pos h7] at e
      by_cases hb : 1048576 < val8 (ws ++ [c])
      · rw [if_pos hb] at e; cases e
      · rw [if_neg hb] at e
        by_cases h0 : val8 (ws ++ [c]) = 0
        · rw [if_pos h0] at e; cases e
        · have ht := take8_full (c := c) h7
          refine ⟨h.by_.snoc hc, fun _ => by rw [ht]; omega, fun _ => ?_, fun _ => ?_⟩
          · rw [ht]; simp only [List.length_append, List.length_singleton]; unfold fr; omega
          · rw [ht, List.drop_eq_nil_of_le (by simp; omega)]; intro x hx; cases hx
    · exact ⟨h.by_.snoc hc, fun h' => by simp at h'; omega, fun h' => by simp at h'; omega, fun h' => by simp at h'; omega⟩
  · rw [if_neg h8] at e
    have h8' : 8 ≤ ws.length := by omega
    have ht := take8_snoc (c := c) h8'
    have h1 := h.le h8'
    have h2 := h.lt h8'
    by_cases hn : ws.length < 8 + val8 (ws.take 8)
    · rw [if_pos hn] at e
      by_cases hw : ws.length + 1 = 8 + val8 (ws.take 8) ∧ val8 (ws.take 8) % 8 = 0
      · rw [if_pos hw] at e; cases e
      · refine ⟨h.by_.snoc hc, fun _ => by rw [ht]; exact h1, fun _ => ?_, fun _ => ?_⟩
        · rw [ht]; simp only [List.length_append, List.length_singleton]; unfold fr at h2 ⊢; omega
        · rw [ht, List.drop_eq_nil_of_le (by simp; omega)]; intro x hx; cases hx
    · rw [if_neg hn] at e
      by_cases h0 : c ≠ 0
      · rw [if_pos h0] at e; cases e
      · rw [if_neg h0] at e
        have h0' : c = 0 := by omega
        by_cases hw : ws.length + 1 = fr (val8 (ws.take 8))
        · rw [if_pos hw] at e; cases e
        · refine ⟨h.by_.snoc hc, fun _ => by rw [ht]; exact h1, fun _ => ?_, fun _ => ?_⟩
          · rw [ht]; simp only [List.length_append, List.length_singleton]; omega
          · rw [ht, List.drop_append_of_le_length (by omega)]
            intro x hx
            rw [List.mem_append, List.mem_singleton] at hx
            rcases hx with hx | rfl
            · exact h.pad h8' x hx
            · exact h0'
theorem zeros_of {l : List Nat} {n : Nat} (h : ∀ x ∈ l, x = 0) (hl : l.length = n) : l = List.replicate n 0 := by
  rw [List.eq_replicate_iff]
  exact ⟨hl, h⟩
theorem strOf_nil : strOf [] = ⟨#[]⟩ := rfl
theorem Bytes.drop {ws : List Nat} (h : Bytes ws) (n : Nat) : Bytes (ws.drop n) := fun x hx => h x (List.mem_of_mem_drop hx)
theorem Bytes.take {ws : List Nat} (h : Bytes ws) (n : Nat) : Bytes (ws.take n) := fun x hx => h x (List.mem_of_mem_take hx)
theorem fr_pad (n : Nat) : fr n = 8 + n + padN n := by unfold fr padN; omega
/-- a word that is whole is a framed text -/
theorem Pre.whole {ws : List Nat} {c : Nat} {s : ByteArray} (h : Pre ws) (hc : c < 256) (e : frStep ws c = .whole s) : ws ++ [c] = frameL (nb s) ∧ s.size ≤ 1048576 := by
  unfold frStep at e
  have hB := h.by_.snoc hc
  by_cases h8 : ws.length < 8
  · rw [if_pos h8] at e
    by_cases h7 : ws.length = 7
    · rw [if_pos h7] at e
      by_cases hb : 1048576 < val8 (ws ++ [c])
      · rw [if_pos hb] at e; cases e
      · rw [if_neg hb] at e
        by_cases h0 : val8 (ws ++ [c]) = 0
        · rw [if_pos h0] at e
          injection e with e
          subst e
          refine ⟨?_, by decide⟩
          have h1 := le8_val8 (ws ++ [c]) hB (by simp; omega)
          rw [h0] at h1
          rw [← h1]
          rfl
        · rw [if_neg h0] at e; cases e
    · rw [if_neg h7] at e; cases e
  · rw [if_neg h8] at e
    have h8' : 8 ≤ ws.length := by omega
    have ht := take8_snoc (c := c) h8'
    have h1 := h.le h8'
    have h2 := h.lt h8'
    have hle : le8 (val8 (ws.take 8)) = ws.take 8 := le8_val8 _ (h.by_.take 8) (by rw [List.length_take]; omega)
    by_cases hn : ws.length < 8 + val8 (ws.take 8)
    · rw [if_pos hn] at e
      by_cases hw : ws.length + 1 = 8 + val8 (ws.take 8) ∧ val8 (ws.take 8) % 8 = 0
      · rw [if_pos hw] at e
        injection e with e
        subst e
        have hbd : Bytes (ws.drop 8 ++ [c]) := (h.by_.drop 8).snoc hc
        have hlen : (ws.drop 8 ++ [c]).length = val8 (ws.take 8) := by simp; omega
        refine ⟨?_, by rw [strOf_size, hlen]; omega⟩
        unfold frameL
        rw [nb_strOf _ hbd, hlen, hle, show padN (val8 (ws.take 8)) = 0 by unfold padN; omega]
        rw [List.replicate_zero, List.append_nil, ← List.append_assoc, List.take_append_drop]
      · rw [if_neg hw] at e; cases e
    · rw [if_neg hn] at e
      by_cases h0 : c ≠ 0
      · rw [if_pos h0] at e; cases e
      · rw [if_neg h0] at e
        have h0' : c = 0 := by omega
        by_cases hw : ws.length + 1 = fr (val8 (ws.take 8))
        · rw [if_pos hw] at e
          injection e with e
          subst e
          have hbd : Bytes ((ws.drop 8).take (val8 (ws.take 8))) := (h.by_.drop 8).take _
          have hlen : ((ws.drop 8).take (val8 (ws.take 8))).length = val8 (ws.take 8) := by simp; omega
          refine ⟨?_, by rw [strOf_size, hlen]; omega⟩
          unfold frameL
          rw [nb_strOf _ hbd, hlen, hle]
          rw [fr_pad] at hw
          have hz : ws.drop (8 + val8 (ws.take 8)) ++ [c] = List.replicate (padN (val8 (ws.take 8))) 0 := by
            refine zeros_of ?_ (by simp; omega)
            intro x hx
            rw [List.mem_append, List.mem_singleton] at hx
            rcases hx with hx | rfl
            · exact h.pad h8' x hx
            · exact h0'
          rw [← hz, ← List.drop_drop]
          have e1 : ws = ws.take 8 ++ ((ws.drop 8).take (val8 (ws.take 8)) ++ (ws.drop 8).drop (val8 (ws.take 8))) := by rw [List.take_append_drop, List.take_append_drop]
          generalize val8 (ws.take 8) = n at *
          conv => lhs; rw [e1]
          simp only [List.append_assoc]
        · rw [if_neg hw] at e; cases e
/-- along a framed text the reader goes on, and is done with its last byte -/
theorem fr_run (s : ByteArray) (hs : s.size ≤ 1048576) (ws : List Nat) (c : Nat) (rest : List Nat) (h : frameL (nb s) = ws ++ c :: rest) :
    frStep ws c = if rest = [] then .whole s else .cont := by
  have hL : (frameL (nb s)).length = fr s.size := by rw [frameL_length, nb_length]; rfl
  have hlen : ws.length + 1 + rest.length = fr s.size := by rw [← hL, h]; simp; omega
  have hr : rest = [] ↔ ws.length + 1 = fr s.size := by
    rw [← List.length_eq_zero_iff]; omega
  have ht8 : (frameL (nb s)).take 8 = le8 s.size := by
    unfold frameL
    rw [List.append_assoc, List.take_append_of_le_length (by rw [le8_length]; exact Nat.le_refl _), List.take_of_length_le (by rw [le8_length]; exact Nat.le_refl _), nb_length]
  have hd8 : (frameL (nb s)).drop 8 = nb s ++ List.replicate (padN s.size) 0 := by
    unfold frameL
    rw [List.append_assoc, List.drop_append_of_le_length (by rw [le8_length]; exact Nat.le_refl _), List.drop_eq_nil_of_le (by rw [le8_length]; exact Nat.le_refl _), nb_length]
    rfl
  have hv : val8 (le8 s.size) = s.size := val8_le8 _ (by omega)
  have hfp := fr_pad s.size
  unfold frStep
  by_cases h8 : ws.length < 8
  · rw [if_pos h8]
    by_cases h7 : ws.length = 7
    · have e1 : ws ++ [c] = le8 s.size := by
        rw [← ht8, h, show ws ++ c :: rest = (ws ++ [c]) ++ rest by simp, List.take_append_of_le_length (by simp; omega), List.take_of_length_le (by simp; omega)]
      rw [if_pos h7, e1, hv, if_neg (by omega)]
      by_cases h0 : s.size = 0
      · rw [if_pos h0, if_pos (hr.2 (by rw [h0] at *; rw [h7]; rfl))]
        have : s = ⟨#[]⟩ := by
          apply ByteArray.ext
          exact Array.eq_empty_of_size_eq_zero h0
        rw [this]
      · rw [if_neg h0, if_neg (fun e => by have := hr.1 e; omega)]
    · rw [if_neg h7, if_neg (fun e => by have := hr.1 e; omega)]
  · rw [if_neg h8]
    have e1 : ws.take 8 = le8 s.size := by
      rw [← ht8, h, List.take_append_of_le_length (by omega)]
    have e2 : ws.drop 8 ++ c :: rest = nb s ++ List.replicate (padN s.size) 0 := by
      rw [← hd8, h, List.drop_append_of_le_length (by omega)]
    rw [e1, hv]
    have l2 : (ws.drop 8).length = ws.length - 8 := by simp
    by_cases hn : ws.length < 8 + s.size
    · rw [if_pos hn]
      by_cases hw : ws.length + 1 = 8 + s.size ∧ s.size % 8 = 0
      · have hp : padN s.size = 0 := by unfold padN; omega
        have hrr : rest = [] := hr.2 (by omega)
        rw [if_pos hw, if_pos hrr]
        subst hrr
        rw [hp, List.replicate_zero, List.append_nil] at e2
        rw [e2, strOf_nb]
      · rw [if_neg hw, if_neg (fun e => hw (by have h1 := hr.1 e; unfold padN at hfp; omega))]
    · rw [if_neg hn]
      have e3 : ws.drop 8 = nb s ++ (List.replicate (padN s.size) 0).take (ws.length - 8 - s.size) := by
        have := congrArg (List.take (ws.length - 8)) e2
        rw [List.take_append_of_le_length (by omega), List.take_of_length_le (by omega), List.take_append, List.take_of_length_le (by rw [nb_length]; omega), nb_length] at this
        exact this
      have hc0 : c = 0 := by
        have hm : (ws.drop 8 ++ c :: rest)[ws.length - 8]? = some c := by
          rw [List.getElem?_append_right (by omega), l2, Nat.sub_self]; rfl
        rw [e2, List.getElem?_append_right (by rw [nb_length]; omega)] at hm
        have := List.mem_of_getElem? hm
        exact (List.mem_replicate.1 this).2
      rw [if_neg (by omega)]
      by_cases hw : ws.length + 1 = fr s.size
      · rw [if_pos hw, if_pos (hr.2 hw), e3, List.take_append_of_le_length (by rw [nb_length]; exact Nat.le_refl _), List.take_of_length_le (by rw [nb_length]; exact Nat.le_refl _), strOf_nb]
      · rw [if_neg hw, if_neg (fun e => hw (hr.1 e))]
end Go.Proofs.YtlcppkcclolgcaaDoor

namespace Go.Proofs.YtlcppkcclolgcaaDoor
set_option linter.unusedVariables false
set_option linter.unusedSimpArgs false
open Go.RowKit

/-- a node with other fields of its own -/
def ND.own (k : Int) (x : Bool) (t : ByteArray) : ND → ND
  | .leaf _ _ _ => .leaf k x t
  | .add p s c => .add (p.own k x t) s c
/-- a node that is open, and the name of the kid that is being read -/
structure Lv where
  node : ND
  kid : ByteArray
/-- a parser between two words; the innermost open node first -/
structure WS where
  next : Nat
  stack : List Lv
  whole : Bool
  root : ND
def emp : ByteArray := ⟨#[]⟩
def plainW (k : Nat) : Option (ByteArray × Nat) :=
  if k = 0 then some (wMagic, 1) else if k = 2 then some (wType, 3) else if k = 5 then some (wEmpty, 6) else if k = 6 then some (wContents, 7)
  else if k = 8 then some (wTarget, 9) else if k = 12 then some (wOpen, 13) else if k = 13 then some (wName, 14) else if k = 15 then some (wNode, 1)
  else if k = 16 then some (wClose, 11) else none
def topSet (f : Lv → Lv) : List Lv → List Lv
  | [] => []
  | l :: r => f l :: r
def WS.close (x : WS) : WS :=
  match x.stack with
  | [] => x
  | [l] => { x with stack := [], root := l.node, whole := true }
  | l :: m :: r => { x with stack := { m with node := .add m.node m.kid l.node } :: r, next := 16 }
def kindSet (k : Int) (l : Lv) : Lv := { l with node := l.node.own k l.node.exec l.node.text }
def execSet (l : Lv) : Lv := { l with node := l.node.own l.node.kind true l.node.text }
def textSet (t : ByteArray) (l : Lv) : Lv := { l with node := l.node.own l.node.kind l.node.exec t }
def kidSet (t : ByteArray) (l : Lv) : Lv := { l with kid := t }
def WS.put (x : WS) (n : Nat) (f : Lv → Lv) : WS := { x with stack := topSet f x.stack, next := n }
def topND : List Lv → ND
  | [] => .leaf 0 false emp
  | l :: _ => l.node
/-- a word is whole -/
def WS.word (x : WS) (s : ByteArray) : Except Int WS :=
  match plainW x.next with
  | some (want, t) => if s = want then .ok { x with next := t } else .error 70
  | none =>
    if x.next = 1 then (if s ≠ wOpen then .error 70 else if x.stack.length = 32 then .error 61 else .ok { x with stack := ⟨.leaf 0 false emp, emp⟩ :: x.stack, next := 2 })
    else if x.next = 3 then (if s = wRegular then .ok (x.put 4 (kindSet 1)) else if s = wSymlink then .ok (x.put 8 (kindSet 2)) else if s = wDirectory then .ok (x.put 11 (kindSet 3)) else .error 70)
    else if x.next = 4 then (if s = wExec then .ok (x.put 5 execSet) else if s = wContents then .ok { x with next := 7 } else .error 70)
    else if x.next = 11 then (if s = wEntry then .ok { x with next := 12 } else if s = wClose then .ok x.close else .error 70)
    else if x.next = 7 then .ok (x.put 10 (textSet s))
    else if x.next = 9 then (if tgE s ≠ 0 then .error (tgE s) else .ok (x.put 10 (textSet s)))
    else if x.next = 14 then (if nm s ≠ 0 then .error (nm s) else if 0 < (topND x.stack).cnt ∧ leB s (topND x.stack).last = true then .error 64 else .ok (x.put 15 (kidSet s)))
    else if x.next = 10 then (if s ≠ wClose then .error 70 else .ok x.close)
    else .ok x
/-! ### which trees are well-formed -/
def ND.nOk (n : ND) (K : Prop) (d : Nat) : Prop := d ≤ 32 ∧ n.fldE = 0 ∧ K
def ND.kOk : ND → Nat → Prop
  | .leaf _ _ _, _ => True
  | .add p s c, d => p.kOk d ∧ nm s = 0 ∧ ¬ (0 < p.cnt ∧ leB s p.last = true) ∧ c.nOk (c.kOk (d + 1)) (d + 1)
def ND.Ok (n : ND) (d : Nat) : Prop := n.nOk (n.kOk d) d
theorem leaf_of {n : ND} (h : n.cnt = 0) : n = .leaf n.kind n.exec n.text := by
  cases n with
  | leaf => rfl
  | add p s c => simp [ND.cnt] at h
theorem fld_leaf {n : ND} (h : n.fldE = 0) (h2 : n.kind = 1 ∨ n.kind = 2) : n.cnt = 0 := by
  unfold ND.fldE at h
  rcases h2 with h2 | h2
  · rw [if_pos h2] at h
    split at h
    · cases h
    · omega
  · rw [if_neg (by omega), if_pos h2] at h
    split at h
    · cases h
    · next hh => rcases Nat.eq_zero_or_pos n.cnt with h0 | h0; exact h0; exact absurd (.inr h0) hh
theorem fld_link {n : ND} (h : n.fldE = 0) (h2 : n.kind = 2) : n.exec = false ∧ tgE n.text = 0 := by
  unfold ND.fldE at h
  rw [if_neg (by omega), if_pos h2] at h
  split at h
  · cases h
  · next hh =>
    refine ⟨?_, h⟩
    cases he : n.exec with
    | false => rfl
    | true => exact absurd (.inl he) hh
theorem fld_dir {n : ND} (h : n.fldE = 0) (h2 : n.kind = 3) : n.exec = false ∧ n.text = emp := by
  unfold ND.fldE at h
  rw [if_neg (by omega), if_neg (by omega), if_pos h2] at h
  split at h
  · cases h
  · next hh =>
    refine ⟨?_, ?_⟩
    · cases he : n.exec with
      | false => rfl
      | true => exact absurd (.inl he) hh
    · by_cases ht : n.text = ⟨#[]⟩
      · exact ht
      · exact absurd (.inr ht) hh
theorem leaf_kOk {n : ND} (h : n.cnt = 0) (d : Nat) : n.kOk d := by
  rw [leaf_of h]; trivial
/-- the walk's verdict, plainly -/
theorem ok_of_walk : ∀ n : ND, (∀ d b b', n.kidsC nm d b = .ok b' → n.kOk d) ∧ (∀ d b b', n.nodeC (fun b3 => n.kidsC nm d b3) d b = .ok b' → n.Ok d) := by
  have key : ∀ n : ND, (∀ d b b', n.kidsC nm d b = .ok b' → n.kOk d) → ∀ d b b', n.nodeC (fun b3 => n.kidsC nm d b3) d b = .ok b' → n.Ok d := by
    intro n hk d b b' e
    unfold ND.nodeC at e
    split at e
    · cases e
    split at e
    · cases e
    next hd hf =>
    have hf : n.fldE = 0 := Classical.not_not.1 hf
    refine ⟨by omega, hf, ?_⟩
    split at e
    · next h1 => exact leaf_kOk (fld_leaf hf (.inl h1)) d
    split at e
    · next h2 => exact leaf_kOk (fld_leaf hf (.inr h2)) d
    obtain ⟨b3, _, e2⟩ := bind_ok e
    exact hk d b3 b' e2
  intro n
  induction n with
  | leaf k x t => exact ⟨fun _ _ _ _ => trivial, key _ fun _ _ _ _ => trivial⟩
  | add p s c ihp ihc =>
    have hk : ∀ d b b', (ND.add p s c).kidsC nm d b = .ok b' → (ND.add p s c).kOk d := by
      intro d b b' e
      unfold ND.kidsC at e
      obtain ⟨b1, e1, e2⟩ := bind_ok e
      split at e2
      · cases e2
      split at e2
      · cases e2
      next h1 h2 =>
      obtain ⟨b2, e3, e4⟩ := bind_ok e2
      exact ⟨ihp.1 d b b1 e1, Classical.not_not.1 h1, h2, ihc.2 _ _ _ e4⟩
    exact ⟨hk, key _ hk⟩
theorem addC_le {b n : Nat} (h : b + n ≤ 1048576) : addC b n = .ok (b + n) := if_pos h
theorem walk_of_ok : ∀ n : ND, (∀ d b, n.kOk d → b + frSum n.kwords ≤ 1048576 → n.kidsC nm d b = .ok (b + frSum n.kwords)) ∧ (∀ d b, n.Ok d → b + frSum n.words ≤ 1048576 → n.nodeC (fun b3 => n.kidsC nm d b3) d b = .ok (b + frSum n.words)) := by
  have q1 := q_exec
  have q2 : frSum [wOpen, wType, wDirectory, wClose] = 72 := by decide +kernel
  have key : ∀ n : ND, (∀ d b, n.kOk d → b + frSum n.kwords ≤ 1048576 → n.kidsC nm d b = .ok (b + frSum n.kwords)) → ∀ d b, n.Ok d → b + frSum n.words ≤ 1048576 → n.nodeC (fun b3 => n.kidsC nm d b3) d b = .ok (b + frSum n.words) := by
    intro n hk d b h hb
    obtain ⟨h1, h2, h3⟩ := h
    unfold ND.nodeC
    rw [if_neg (by omega), if_neg (by omega)]
    unfold ND.words ND.wordsOf at hb ⊢
    rcases fld_kind h2 with k1 | k1 | k1
    · rw [if_pos k1] at hb ⊢
      rw [if_pos k1]
      have e9 : frSum ([wOpen, wType] ++ ([wRegular] ++ (if n.exec = true then [wExec, wEmpty] else []) ++ [wContents, n.text]) ++ [wClose]) = frSum [wOpen, wType, wRegular, wContents, n.text, wClose] + if n.exec = true then 32 else 0 := by
        cases n.exec
        · simp [frSum]
        · simp [frSum, List.map_cons, List.map_nil, List.sum_cons, List.sum_nil] at q1 ⊢
          omega
      rw [e9] at hb ⊢
      exact addC_le hb
    · rw [if_neg (by omega), if_pos k1] at hb ⊢
      rw [if_neg (by omega), if_pos k1]
      have e9 : frSum ([wOpen, wType] ++ [wSymlink, wTarget, n.text] ++ [wClose]) = frSum [wOpen, wType, wSymlink, wTarget, n.text, wClose] := by simp [frSum]
      rw [e9] at hb ⊢
      exact addC_le hb
    · rw [if_neg (by omega), if_neg (by omega)] at hb ⊢
      rw [if_neg (by omega), if_neg (by omega)]
      have e9 : frSum ([wOpen, wType] ++ ([wDirectory] ++ n.kwords) ++ [wClose]) = 72 + frSum n.kwords := by
        rw [← q2]
        simp [frSum]
        omega
      rw [e9] at hb ⊢
      rw [addC_le (by omega), ok_bind _ _ _ rfl, hk d (b + 72) h3 (by omega)]
      congr 1
      omega
  intro n
  induction n with
  | leaf k x t =>
    have hk : ∀ d b, (ND.leaf k x t).kOk d → b + frSum (ND.leaf k x t).kwords ≤ 1048576 → (ND.leaf k x t).kidsC nm d b = .ok (b + frSum (ND.leaf k x t).kwords) := fun d b _ _ => by simp [ND.kidsC, ND.kwords, frSum]
    exact ⟨hk, key _ hk⟩
  | add p s c ihp ihc =>
    have hk : ∀ d b, (ND.add p s c).kOk d → b + frSum (ND.add p s c).kwords ≤ 1048576 → (ND.add p s c).kidsC nm d b = .ok (b + frSum (ND.add p s c).kwords) := by
      intro d b h hb
      obtain ⟨h1, h2, h3, h4⟩ := h
      have e9 : frSum (ND.add p s c).kwords = frSum p.kwords + frSum [wEntry, wOpen, wName, s, wNode, wClose] + frSum c.words := by
        simp [ND.kwords, ND.words, frSum]
        omega
      rw [e9] at hb ⊢
      unfold ND.kidsC
      rw [ihp.1 d b h1 (by omega), ok_bind _ _ _ rfl, if_neg (by simpa using h2), if_neg h3, addC_le (by omega), ok_bind _ _ _ rfl, ihc.2 _ _ h4 (by omega)]
      congr 1
      omega
    exact ⟨hk, key _ hk⟩
theorem serE_ok {n : ND} : serE n = 0 ↔ n.Ok 1 ∧ (arc n).length ≤ 1048576 := by
  have q : fr wMagic.size = 24 := by decide +kernel
  have hl : (arc n).length = 24 + frSum n.words := by
    unfold arc
    rw [frames_length]
    simp only [frSum, List.map_cons, List.sum_cons]
    rw [q]
  unfold serE
  rw [errC_zero]
  constructor
  · rintro ⟨b, h⟩
    obtain ⟨h1, h2, h3⟩ := walk_sum h
    exact ⟨(ok_of_walk n).2 _ _ _ h, by omega⟩
  · rintro ⟨h, hb⟩
    exact ⟨_, (walk_of_ok n).2 1 24 h (by omega)⟩
end Go.Proofs.YtlcppkcclolgcaaDoor

namespace Go.Proofs.YtlcppkcclolgcaaDoor
set_option linter.unusedVariables false
set_option linter.unusedSimpArgs false
open Go.RowKit

def Pend (l : Lv) (d : Nat) : Prop := l.node.kind = 3 ∧ l.node.fldE = 0 ∧ l.node.kOk d ∧ nm l.kid = 0 ∧ ¬ (0 < l.node.cnt ∧ leB l.kid l.node.last = true)
def PendAll : List Lv → Prop
  | [] => True
  | l :: r => Pend l (r.length + 1) ∧ PendAll r
def dirW (n : ND) : List ByteArray := [wOpen, wType, wDirectory] ++ n.kwords
def pwP : List Lv → List ByteArray
  | [] => []
  | l :: r => pwP r ++ (dirW l.node ++ [wEntry, wOpen, wName, l.kid, wNode])
def DirN (n : ND) (d : Nat) : Prop := n.kind = 3 ∧ n.fldE = 0 ∧ n.kOk d
/-- what has been read of the innermost open node -/
inductive TopOk : Nat → Lv → Nat → List ByteArray → Prop where
  | k2 (kd d) : TopOk 2 ⟨.leaf 0 false emp, kd⟩ d [wOpen]
  | k3 (kd d) : TopOk 3 ⟨.leaf 0 false emp, kd⟩ d [wOpen, wType]
  | k4 (kd d) : TopOk 4 ⟨.leaf 1 false emp, kd⟩ d [wOpen, wType, wRegular]
  | k5 (kd d) : TopOk 5 ⟨.leaf 1 true emp, kd⟩ d [wOpen, wType, wRegular, wExec]
  | k6 (kd d) : TopOk 6 ⟨.leaf 1 true emp, kd⟩ d [wOpen, wType, wRegular, wExec, wEmpty]
  | k7 (x kd d) : TopOk 7 ⟨.leaf 1 x emp, kd⟩ d ([wOpen, wType] ++ ([wRegular] ++ (if x = true then [wExec, wEmpty] else []) ++ [wContents]))
  | k8 (kd d) : TopOk 8 ⟨.leaf 2 false emp, kd⟩ d [wOpen, wType, wSymlink]
  | k9 (kd d) : TopOk 9 ⟨.leaf 2 false emp, kd⟩ d [wOpen, wType, wSymlink, wTarget]
  | k10 (n kd d t) (h1 : n.fldE = 0) (h2 : n.kind = 1 ∨ n.kind = 2) (h3 : t ++ [wClose] = n.words) : TopOk 10 ⟨n, kd⟩ d t
  | k11 (n kd d) (h : DirN n d) : TopOk 11 ⟨n, kd⟩ d (dirW n)
  | k12 (n kd d) (h : DirN n d) : TopOk 12 ⟨n, kd⟩ d (dirW n ++ [wEntry])
  | k13 (n kd d) (h : DirN n d) : TopOk 13 ⟨n, kd⟩ d (dirW n ++ [wEntry, wOpen])
  | k14 (n kd d) (h : DirN n d) : TopOk 14 ⟨n, kd⟩ d (dirW n ++ [wEntry, wOpen, wName])
  | k15 (l d) (h : Pend l d) : TopOk 15 l d (dirW l.node ++ [wEntry, wOpen, wName, l.kid])
  | k16 (n kd d t) (h : DirN n d) (h3 : t ++ [wClose] = dirW n) : TopOk 16 ⟨n, kd⟩ d t
inductive Inv : WS → List ByteArray → Prop where
  | done (k n) (h : n.Ok 1) : Inv ⟨k, [], true, n⟩ (wMagic :: n.words)
  | magic (n) : Inv ⟨0, [], false, n⟩ []
  | open_ (st n) (h1 : st.length ≤ 32) (h2 : PendAll st) : Inv ⟨1, st, false, n⟩ (wMagic :: pwP st)
  | top (k l r n t) (h1 : r.length < 32) (h2 : PendAll r) (h3 : TopOk k l (r.length + 1) t) : Inv ⟨k, l :: r, false, n⟩ (wMagic :: (pwP r ++ t))
theorem fld3 {n : ND} (h : n.kind = 3) : n.fldE = 0 ↔ n.exec = false ∧ n.text = emp := by
  constructor
  · intro hf; exact fld_dir hf h
  · rintro ⟨h1, h2⟩
    unfold ND.fldE
    rw [if_neg (by omega), if_neg (by omega), if_pos h]
    exact if_neg (by rw [h1, h2]; rintro (h | h); cases h; exact h rfl)
theorem words_dir {n : ND} (h : n.kind = 3) : n.words = dirW n ++ [wClose] := by
  unfold ND.words ND.wordsOf dirW
  rw [if_neg (by omega), if_neg (by omega)]
  simp
theorem dirW_add (p : ND) (s : ByteArray) (c : ND) : dirW (.add p s c) = dirW p ++ [wEntry, wOpen, wName, s, wNode] ++ c.words ++ [wClose] := by
  simp [dirW, ND.kwords, ND.words]
/-- a node is closed -/
theorem close_inv (k : Nat) (n0 n : ND) (kd : ByteArray) (r : List Lv) (h1 : r.length < 32) (h2 : PendAll r) (hn : n.Ok (r.length + 1)) :
    Inv (WS.close ⟨k, ⟨n, kd⟩ :: r, false, n0⟩) (wMagic :: (pwP r ++ n.words)) := by
  cases r with
  | nil => exact Inv.done k n hn
  | cons m r =>
    obtain ⟨⟨a1, a2, a3, a4, a5⟩, hp⟩ := h2
    have h1' : r.length < 32 := by simp only [List.length_cons] at h1; omega
    have hd : DirN (.add m.node m.kid n) (r.length + 1) := ⟨a1, (fld3 (n := .add m.node m.kid n) a1).2 ((fld3 (n := m.node) a1).1 a2), a3, a4, a5, hn⟩
    have e : pwP (m :: r) ++ n.words = pwP r ++ (dirW m.node ++ [wEntry, wOpen, wName, m.kid, wNode] ++ n.words) := by simp [pwP]
    rw [e]
    exact Inv.top 16 ⟨_, m.kid⟩ r n0 _ h1' hp (TopOk.k16 _ _ _ _ hd (by rw [dirW_add]))
theorem dir_ok {n : ND} {d : Nat} (h : DirN n d) (hd : d ≤ 32) : n.Ok d := ⟨hd, h.2.1, h.2.2⟩
theorem snoc_cons (a : ByteArray) (b : List ByteArray) (s : ByteArray) : (a :: b) ++ [s] = a :: (b ++ [s]) := rfl
theorem word_inv {x y : WS} {ws : List ByteArray} {s : ByteArray} (h : Inv x ws) (hw : x.whole = false) (e : x.word s = .ok y) : Inv y (ws ++ [s]) := by
  cases h with
  | done => cases hw
  | magic n =>
    simp only [WS.word, plainW, if_true] at e
    split at e
    · next h => injection e with e; subst e; subst h; exact Inv.open_ [] n (by simp) trivial
    · cases e
  | open_ st n h1 h2 =>
    simp only [WS.word, plainW, Nat.reduceEqDiff, if_false, if_true] at e
    split at e
    · cases e
    next hs =>
    split at e
    · cases e
    next hl =>
    injection e with e
    subst e
    have hs : s = wOpen := Classical.not_not.1 hs
    subst hs
    exact Inv.top 2 _ st n [wOpen] (by have : ¬ st.length = 32 := hl; omega) h2 (TopOk.k2 _ _)
  | top k l r n t h1 h2 h3 =>
    rw [snoc_cons, List.append_assoc]
    cases h3 with
    | k2 kd =>
      simp only [WS.word, plainW, Nat.reduceEqDiff, if_false, if_true] at e
      split at e
      · next h => injection e with e; subst e; subst h; exact Inv.top 3 _ r n _ h1 h2 (TopOk.k3 _ _)
      · cases e
    | k3 kd =>
      simp only [WS.word, plainW, Nat.reduceEqDiff, if_false, if_true] at e
      split at e
      · next h => injection e with e; subst e; subst h; exact Inv.top 4 _ r n _ h1 h2 (TopOk.k4 _ _)
      split at e
      · next h => injection e with e; subst e; subst h; exact Inv.top 8 _ r n _ h1 h2 (TopOk.k8 _ _)
      split at e
      · next h =>
        injection e with e; subst e; subst h
        exact Inv.top 11 _ r n _ h1 h2 (TopOk.k11 (.leaf 3 false emp) _ _ ⟨rfl, (fld3 rfl).2 ⟨rfl, rfl⟩, trivial⟩)
      · cases e
    | k4 kd =>
      simp only [WS.word, plainW, Nat.reduceEqDiff, if_false, if_true] at e
      split at e
      · next h => injection e with e; subst e; subst h; exact Inv.top 5 _ r n _ h1 h2 (TopOk.k5 _ _)
      split at e
      · next h => injection e with e; subst e; subst h; exact Inv.top 7 _ r n _ h1 h2 (TopOk.k7 false _ _)
      · cases e
    | k5 kd =>
      simp only [WS.word, plainW, Nat.reduceEqDiff, if_false, if_true] at e
      split at e
      · next h => injection e with e; subst e; subst h; exact Inv.top 6 _ r n _ h1 h2 (TopOk.k6 _ _)
      · cases e
    | k6 kd =>
      simp only [WS.word, plainW, Nat.reduceEqDiff, if_false, if_true] at e
      split at e
      · next h => injection e with e; subst e; subst h; exact Inv.top 7 _ r n _ h1 h2 (TopOk.k7 true _ _)
      · cases e
    | k7 x kd =>
      simp only [WS.word, plainW, Nat.reduceEqDiff, if_false, if_true] at e
      injection e with e
      subst e
      refine Inv.top 10 _ r n _ h1 h2 (TopOk.k10 (.leaf 1 x s) _ _ _ (by simp [ND.fldE, ND.kind, ND.cnt]) (.inl rfl) ?_)
      cases x <;> rfl
    | k8 kd =>
      simp only [WS.word, plainW, Nat.reduceEqDiff, if_false, if_true] at e
      split at e
      · next h => injection e with e; subst e; subst h; exact Inv.top 9 _ r n _ h1 h2 (TopOk.k9 _ _)
      · cases e
    | k9 kd =>
      simp only [WS.word, plainW, Nat.reduceEqDiff, if_false, if_true] at e
      split at e
      · cases e
      next ht =>
      injection e with e
      subst e
      have ht : tgE s = 0 := Classical.not_not.1 ht
      refine Inv.top 10 _ r n _ h1 h2 (TopOk.k10 (.leaf 2 false s) _ _ _ (by simp [ND.fldE, ND.kind, ND.cnt, ND.exec, ND.text, ht]) (.inr rfl) ?_)
      simp [ND.words, ND.wordsOf, ND.kind, ND.exec, ND.text]
    | k10 m kd d t a1 a2 a3 =>
      simp only [WS.word, plainW, Nat.reduceEqDiff, if_false, if_true] at e
      split at e
      · cases e
      next hs =>
      injection e with e
      subst e
      have hs : s = wClose := Classical.not_not.1 hs
      subst hs
      rw [a3]
      exact close_inv 10 n m kd r h1 h2 ⟨by omega, a1, leaf_kOk (fld_leaf a1 a2) _⟩
    | k11 m kd d h =>
      simp only [WS.word, plainW, Nat.reduceEqDiff, if_false, if_true] at e
      split at e
      · next h' => injection e with e; subst e; subst h'; exact Inv.top 12 _ r n _ h1 h2 (TopOk.k12 _ _ _ h)
      split at e
      · next h' =>
        injection e with e; subst e; subst h'
        rw [← words_dir h.1]
        exact close_inv 11 n m kd r h1 h2 (dir_ok h (by omega))
      · cases e
    | k12 m kd d h =>
      simp only [WS.word, plainW, Nat.reduceEqDiff, if_false, if_true] at e
      split at e
      · next h' => injection e with e; subst e; subst h'; rw [List.append_assoc]; exact Inv.top 13 _ r n _ h1 h2 (TopOk.k13 _ _ _ h)
      · cases e
    | k13 m kd d h =>
      simp only [WS.word, plainW, Nat.reduceEqDiff, if_false, if_true] at e
      split at e
      · next h' => injection e with e; subst e; subst h'; rw [List.append_assoc]; exact Inv.top 14 _ r n _ h1 h2 (TopOk.k14 _ _ _ h)
      · cases e
    | k14 m kd d h =>
      simp only [WS.word, plainW, Nat.reduceEqDiff, if_false, if_true] at e
      split at e
      · cases e
      next a1 =>
      split at e
      · cases e
      next a2 =>
      injection e with e
      subst e
      rw [List.append_assoc]
      exact Inv.top 15 _ r n _ h1 h2 (TopOk.k15 ⟨m, s⟩ _ ⟨h.1, h.2.1, h.2.2, Classical.not_not.1 a1, a2⟩)
    | k15 l d h =>
      simp only [WS.word, plainW, Nat.reduceEqDiff, if_false, if_true] at e
      split at e
      · next h' =>
        injection e with e; subst e; subst h'
        rw [List.append_assoc]
        exact Inv.open_ (l :: r) n (by simp only [List.length_cons]; omega) ⟨h, h2⟩
      · cases e
    | k16 m kd d t h a3 =>
      simp only [WS.word, plainW, Nat.reduceEqDiff, if_false, if_true] at e
      split at e
      · next h' =>
        injection e with e; subst e; subst h'
        rw [a3]
        exact Inv.top 11 _ r n _ h1 h2 (TopOk.k11 _ _ _ h)
      · cases e
/-! ### each well-formed tree's words are taken -/
def runW : WS → List ByteArray → Except Int WS
  | x, [] => .ok x
  | x, s :: r => if x.whole = true then .error 5 else match x.word s with
    | .ok y => runW y r
    | .error q => .error q
theorem runW_cons {x y : WS} {s : ByteArray} {r : List ByteArray} (hw : x.whole = false) (h : x.word s = .ok y) : runW x (s :: r) = runW y r := by
  simp only [runW, hw, h]
  rfl
theorem runW_append {x y : WS} {a b : List ByteArray} (h : runW x a = .ok y) : runW x (a ++ b) = runW y b := by
  induction a generalizing x with
  | nil => injection h with h; subst h; rfl
  | cons s r ih =>
    simp only [runW, List.cons_append] at h ⊢
    split at h
    · cases h
    next hw =>
    split at h
    · next z hz => rw [if_neg hw]; exact ih h
    · cases h
/-- a node has been read -/
def Aft (x : WS) (n : ND) (y : WS) : Prop :=
  match x.stack with
  | [] => ∃ k, y = ⟨k, [], true, n⟩
  | m :: r => y = ⟨16, { m with node := .add m.node m.kid n } :: r, false, x.root⟩
def ND.base : ND → ND
  | .leaf k x t => .leaf k x t
  | .add p _ _ => p.base
theorem base_eq (n : ND) : n.base = .leaf n.kind n.exec n.text := by
  induction n with
  | leaf => rfl
  | add p s c ih _ => exact ih
theorem close_aft (k : Nat) (n root : ND) (kd : ByteArray) (st : List Lv) (x : WS) (hx : x.stack = st) (hr : x.root = root) : Aft x n (WS.close ⟨k, ⟨n, kd⟩ :: st, false, root⟩) := by
  subst hx
  subst hr
  unfold Aft
  cases h : x.stack with
  | nil => exact ⟨k, rfl⟩
  | cons m r => rfl
theorem own_leaf (n : ND) (h : n.cnt = 0) : n = .leaf n.kind n.exec n.text := leaf_of h
def KRun (n : ND) : Prop := ∀ (kd : ByteArray) (r : List Lv) (root : ND), n.kOk (r.length + 1) → ∃ kd', runW ⟨11, ⟨n.base, kd⟩ :: r, false, root⟩ n.kwords = .ok ⟨11, ⟨n, kd'⟩ :: r, false, root⟩
def NRun (n : ND) : Prop := ∀ (st : List Lv) (root : ND), n.Ok (st.length + 1) → ∃ y, runW ⟨1, st, false, root⟩ n.words = .ok y ∧ Aft ⟨1, st, false, root⟩ n y
theorem wne1 : wSymlink ≠ wRegular := by decide
theorem wne2 : wDirectory ≠ wRegular := by decide
theorem wne3 : wDirectory ≠ wSymlink := by decide
theorem wne4 : wContents ≠ wExec := by decide
theorem wne5 : wClose ≠ wEntry := by decide
theorem nrun_of (n : ND) (hk : KRun n) : NRun n := by
  intro st root h
  obtain ⟨h1, h2, h3⟩ := h
  have s1 : WS.word ⟨1, st, false, root⟩ wOpen = .ok ⟨2, ⟨.leaf 0 false emp, emp⟩ :: st, false, root⟩ := by
    simp only [WS.word, plainW, Nat.reduceEqDiff, if_false, if_true, ne_eq, not_true_eq_false]
    exact if_neg (by omega)
  have s2 : ∀ l, WS.word ⟨2, l :: st, false, root⟩ wType = .ok ⟨3, l :: st, false, root⟩ := fun l => by
    simp only [WS.word, plainW, Nat.reduceEqDiff, if_false, if_true]
  have s10 : ∀ l, WS.word ⟨10, l :: st, false, root⟩ wClose = .ok (WS.close ⟨10, l :: st, false, root⟩) := fun l => by
    simp only [WS.word, plainW, Nat.reduceEqDiff, if_false, if_true, ne_eq, not_true_eq_false]
  have s11 : ∀ l, WS.word ⟨11, l :: st, false, root⟩ wClose = .ok (WS.close ⟨11, l :: st, false, root⟩) := fun l => by
    simp only [WS.word, plainW, Nat.reduceEqDiff, if_false, if_true, if_neg wne5]
  unfold ND.words ND.wordsOf
  show ∃ y, runW _ (wOpen :: wType :: _) = _ ∧ _
  rw [runW_cons rfl s1, runW_cons rfl (s2 _)]
  show ∃ y, runW _ (_ ++ [wClose]) = _ ∧ _
  rcases fld_kind h2 with k1 | k1 | k1
  · have hc := fld_leaf h2 (.inl k1)
    have en := leaf_of hc
    rw [k1] at en
    have e7 : ∀ l, WS.word ⟨7, l :: st, false, root⟩ n.text = .ok ⟨10, textSet n.text l :: st, false, root⟩ := fun l => by
      simp only [WS.word, plainW, Nat.reduceEqDiff, if_false, if_true, WS.put, topSet]
    have e3 : ∀ l, WS.word ⟨3, l :: st, false, root⟩ wRegular = .ok ⟨4, kindSet 1 l :: st, false, root⟩ := fun l => by
      simp only [WS.word, plainW, Nat.reduceEqDiff, if_false, if_true, WS.put, topSet]
    have e4 : ∀ l, WS.word ⟨4, l :: st, false, root⟩ wContents = .ok ⟨7, l :: st, false, root⟩ := fun l => by
      simp only [WS.word, plainW, Nat.reduceEqDiff, if_false, if_true, if_neg wne4]
    have e4b : ∀ l, WS.word ⟨4, l :: st, false, root⟩ wExec = .ok ⟨5, execSet l :: st, false, root⟩ := fun l => by
      simp only [WS.word, plainW, Nat.reduceEqDiff, if_false, if_true, WS.put, topSet]
    have e5 : ∀ l, WS.word ⟨5, l :: st, false, root⟩ wEmpty = .ok ⟨6, l :: st, false, root⟩ := fun l => by
      simp only [WS.word, plainW, Nat.reduceEqDiff, if_false, if_true]
    have e6 : ∀ l, WS.word ⟨6, l :: st, false, root⟩ wContents = .ok ⟨7, l :: st, false, root⟩ := fun l => by
      simp only [WS.word, plainW, Nat.reduceEqDiff, if_false, if_true]
    rw [if_pos k1]
    refine ⟨WS.close ⟨10, ⟨n, emp⟩ :: st, false, root⟩, ?_, close_aft 10 n root emp st _ rfl rfl⟩
    cases hx : n.exec with
    | false =>
      rw [hx] at en
      show runW _ [wRegular, wContents, n.text, wClose] = _
      rw [runW_cons rfl (e3 _), runW_cons rfl (e4 _), runW_cons rfl (e7 _), runW_cons rfl (s10 _)]
      show Except.ok _ = _
      conv => rhs; rw [en]
      rfl
    | true =>
      rw [hx] at en
      show runW _ [wRegular, wExec, wEmpty, wContents, n.text, wClose] = _
      rw [runW_cons rfl (e3 _), runW_cons rfl (e4b _), runW_cons rfl (e5 _), runW_cons rfl (e6 _), runW_cons rfl (e7 _), runW_cons rfl (s10 _)]
      show Except.ok _ = _
      conv => rhs; rw [en]
      rfl
  · have hc := fld_leaf h2 (.inr k1)
    have en := leaf_of hc
    obtain ⟨hx, ht⟩ := fld_link h2 k1
    rw [k1, hx] at en
    have e3 : ∀ l, WS.word ⟨3, l :: st, false, root⟩ wSymlink = .ok ⟨8, kindSet 2 l :: st, false, root⟩ := fun l => by
      simp only [WS.word, plainW, Nat.reduceEqDiff, if_false, if_true, WS.put, topSet, if_neg wne1]
    have e8 : ∀ l, WS.word ⟨8, l :: st, false, root⟩ wTarget = .ok ⟨9, l :: st, false, root⟩ := fun l => by
      simp only [WS.word, plainW, Nat.reduceEqDiff, if_false, if_true]
    have e9 : ∀ l, WS.word ⟨9, l :: st, false, root⟩ n.text = .ok ⟨10, textSet n.text l :: st, false, root⟩ := fun l => by
      simp only [WS.word, plainW, Nat.reduceEqDiff, if_false, if_true, WS.put, topSet, ht, ne_eq, not_true_eq_false]
    rw [if_neg (by omega), if_pos k1]
    refine ⟨WS.close ⟨10, ⟨n, emp⟩ :: st, false, root⟩, ?_, close_aft 10 n root emp st _ rfl rfl⟩
    show runW _ [wSymlink, wTarget, n.text, wClose] = _
    rw [runW_cons rfl (e3 _), runW_cons rfl (e8 _), runW_cons rfl (e9 _), runW_cons rfl (s10 _)]
    show Except.ok _ = _
    conv => rhs; rw [en]
    rfl
  · obtain ⟨hx, ht⟩ := fld_dir h2 k1
    have hb : n.base = .leaf 3 false emp := by rw [base_eq, k1, hx, ht]
    have e3 : ∀ l, WS.word ⟨3, l :: st, false, root⟩ wDirectory = .ok ⟨11, kindSet 3 l :: st, false, root⟩ := fun l => by
      simp only [WS.word, plainW, Nat.reduceEqDiff, if_false, if_true, WS.put, topSet, if_neg wne2, if_neg wne3]
    rw [if_neg (by omega), if_neg (by omega)]
    obtain ⟨kd, hr⟩ := hk emp st root h3
    rw [hb] at hr
    refine ⟨WS.close ⟨11, ⟨n, kd⟩ :: st, false, root⟩, ?_, close_aft 11 n root kd st _ rfl rfl⟩
    show runW _ (wDirectory :: (n.kwords ++ [wClose])) = _
    rw [runW_cons rfl (e3 _)]
    show runW ⟨11, ⟨.leaf 3 false emp, emp⟩ :: st, false, root⟩ _ = _
    rw [runW_append hr, runW_cons rfl (s11 _)]
    rfl
theorem krun_all : ∀ n : ND, KRun n := by
  intro n
  induction n with
  | leaf k x t => exact fun kd r root _ => ⟨kd, rfl⟩
  | add p s c ihp ihc =>
    intro kd r root h
    obtain ⟨h1, h2, h3, h4⟩ := h
    obtain ⟨kd1, hr⟩ := ihp kd r root h1
    obtain ⟨y, hy, ha⟩ := nrun_of c ihc (⟨p, s⟩ :: r) root h4
    have e11 : WS.word ⟨11, ⟨p, kd1⟩ :: r, false, root⟩ wEntry = .ok ⟨12, ⟨p, kd1⟩ :: r, false, root⟩ := by
      simp only [WS.word, plainW, Nat.reduceEqDiff, if_false, if_true]
    have e12 : WS.word ⟨12, ⟨p, kd1⟩ :: r, false, root⟩ wOpen = .ok ⟨13, ⟨p, kd1⟩ :: r, false, root⟩ := by
      simp only [WS.word, plainW, Nat.reduceEqDiff, if_false, if_true]
    have e13 : WS.word ⟨13, ⟨p, kd1⟩ :: r, false, root⟩ wName = .ok ⟨14, ⟨p, kd1⟩ :: r, false, root⟩ := by
      simp only [WS.word, plainW, Nat.reduceEqDiff, if_false, if_true]
    have e14 : WS.word ⟨14, ⟨p, kd1⟩ :: r, false, root⟩ s = .ok ⟨15, ⟨p, s⟩ :: r, false, root⟩ := by
      simp only [WS.word, plainW, Nat.reduceEqDiff, if_false, if_true, topND, ne_eq, h2, not_true_eq_false]
      exact (if_neg h3).trans rfl
    have e15 : WS.word ⟨15, ⟨p, s⟩ :: r, false, root⟩ wNode = .ok ⟨1, ⟨p, s⟩ :: r, false, root⟩ := by
      simp only [WS.word, plainW, Nat.reduceEqDiff, if_false, if_true]
    have e16 : ∀ l, WS.word ⟨16, l :: r, false, root⟩ wClose = .ok ⟨11, l :: r, false, root⟩ := fun l => by
      simp only [WS.word, plainW, Nat.reduceEqDiff, if_false, if_true]
    refine ⟨s, ?_⟩
    have ek : (ND.add p s c).kwords = p.kwords ++ (wEntry :: wOpen :: wName :: s :: wNode :: (c.words ++ [wClose])) := by simp [ND.kwords, ND.words]
    rw [ek]
    show runW ⟨11, ⟨p.base, kd⟩ :: r, false, root⟩ _ = _
    rw [runW_append hr, runW_cons rfl e11, runW_cons rfl e12, runW_cons rfl e13, runW_cons rfl e14, runW_cons rfl e15, runW_append hy]
    have hy' : y = ⟨16, ⟨.add p s c, s⟩ :: r, false, root⟩ := ha
    subst hy'
    rw [runW_cons rfl (e16 _)]
    rfl
theorem run_arc (n root : ND) (h : n.Ok 1) : ∃ k, runW ⟨0, [], false, root⟩ (wMagic :: n.words) = .ok ⟨k, [], true, n⟩ := by
  obtain ⟨y, hy, k, ha⟩ := nrun_of n (krun_all n) [] root h
  subst ha
  refine ⟨k, ?_⟩
  have e0 : WS.word ⟨0, [], false, root⟩ wMagic = .ok ⟨1, [], false, root⟩ := by
    simp only [WS.word, plainW, if_true]
  rw [runW_cons rfl e0]
  exact hy
end Go.Proofs.YtlcppkcclolgcaaDoor

namespace Go.Proofs.YtlcppkcclolgcaaDoor
set_option linter.unusedVariables false
set_option linter.unusedSimpArgs false
open Go.RowKit

structure PS where
  at_ : Nat
  start : Nat
  code : Int
  fat : Nat
  shut : Bool
  ws : List Nat
  x : WS
def PS.new : PS := ⟨0, 0, 0, 0, false, [], ⟨0, [], false, .leaf 0 false emp⟩⟩
def PS.wordR (p : PS) : Except Int WS → PS
  | .error q => { p with code := q, fat := p.start }
  | .ok y => { p with at_ := p.at_ + 1, start := p.at_ + 1, ws := [], x := y }
def PS.frR (p : PS) (c : Nat) : FrR → PS
  | .cont => { p with at_ := p.at_ + 1, ws := p.ws ++ [c] }
  | .bad q off => { p with code := q, fat := p.start + off }
  | .whole s => p.wordR (p.x.word s)
def PS.step (p : PS) (c : Nat) : PS :=
  if p.shut = true ∨ p.code ≠ 0 then p
  else if p.x.whole = true then { p with code := 5, fat := p.at_ }
  else if p.at_ = 1048576 then { p with code := 2, fat := p.at_ }
  else p.frR c (frStep p.ws c)
def PS.feed (p : PS) (bs : List Nat) : PS := bs.foldl PS.step p
def PS.close (p : PS) : PS := if p.shut = false ∧ p.x.whole = false ∧ p.code = 0 then { p with code := 4, fat := p.at_, shut := true } else { p with shut := true }
theorem feed_append (p : PS) (a b : List Nat) : p.feed (a ++ b) = (p.feed a).feed b := by simp [PS.feed]
theorem feed_cons (p : PS) (c : Nat) (b : List Nat) : p.feed (c :: b) = (p.step c).feed b := rfl
theorem feed_stop {p : PS} (h : p.shut = true ∨ p.code ≠ 0) : ∀ bs, p.feed bs = p
  | [] => rfl
  | c :: r => by rw [feed_cons, PS.step, if_pos h]; exact feed_stop h r
/-- what holds of a parser that has been fed bs -/
structure PInv (p : PS) (bs : List Nat) : Prop where
  shut : p.shut = false
  bad : p.fat ≤ bs.length
  len : p.at_ ≤ bs.length
  most : p.at_ ≤ 1048576
  st : p.start ≤ p.at_
  dep : p.x.stack.length ≤ 32
  cnt : ∀ l ∈ p.x.stack, l.node.cnt ≤ p.start
  good : p.code = 0 → ∃ ws, Inv p.x ws ∧ bs = frames ws ++ p.ws ∧ Pre p.ws ∧ p.at_ = bs.length ∧ p.at_ = p.start + p.ws.length ∧ (p.x.whole = true → p.ws = [])
theorem PInv.new : PInv PS.new [] :=
  ⟨rfl, Nat.le_refl _, Nat.le_refl _, by decide, Nat.le_refl _, by decide, by intro l h; simp [PS.new] at h, fun _ => ⟨[], Inv.magic _, rfl, Pre.nil, rfl, rfl, fun _ => rfl⟩⟩
theorem Inv.dep {x : WS} {ws : List ByteArray} (h : Inv x ws) : x.stack.length ≤ 32 := by
  cases h with
  | done => simp
  | magic => simp
  | open_ => assumption
  | top k l r n t h1 => simp; omega
/-- a word adds one kid at most -/
theorem word_cnt {x y : WS} {s : ByteArray} (e : x.word s = .ok y) (m : Nat) (h : ∀ l ∈ x.stack, l.node.cnt ≤ m) : ∀ l ∈ y.stack, l.node.cnt ≤ m + 1 := by
  have own : ∀ (n : ND) k b t, (n.own k b t).cnt = n.cnt := by
    intro n k b t
    induction n with
    | leaf => rfl
    | add p s c ih _ => simp [ND.own, ND.cnt, ih]
  have top : ∀ (f : Lv → Lv), (∀ l, (f l).node.cnt = l.node.cnt) → ∀ l ∈ topSet f x.stack, l.node.cnt ≤ m + 1 := by
    intro f hf l hl
    cases hs : x.stack with
    | nil => rw [hs] at hl; simp [topSet] at hl
    | cons a r =>
      rw [hs] at hl h
      simp only [topSet, List.mem_cons] at hl
      rcases hl with rfl | hl
      · rw [hf]; have := h a (List.mem_cons_self ..); omega
      · have := h l (List.mem_cons_of_mem _ hl); omega
  have same : ∀ l ∈ x.stack, l.node.cnt ≤ m + 1 := fun l hl => by have := h l hl; omega
  have cl : ∀ l ∈ x.close.stack, l.node.cnt ≤ m + 1 := by
    intro l hl
    unfold WS.close at hl
    cases hs : x.stack with
    | nil => simp only [hs] at hl; cases hl
    | cons a r =>
      cases r with
      | nil => simp only [hs] at hl; cases hl
      | cons b r =>
        rw [hs] at h
        simp only [hs, List.mem_cons] at hl
        rcases hl with rfl | hl
        · simp only [ND.cnt]; have := h b (by simp); omega
        · have := h l (by simp [hl]); omega
  unfold WS.word at e
  split at e
  · split at e
    · injection e with e; subst e; exact same
    · cases e
  · split at e
    · split at e
      · cases e
      split at e
      · cases e
      injection e with e
      subst e
      intro l hl
      simp only [List.mem_cons] at hl
      rcases hl with rfl | hl
      · simp [ND.cnt]
      · exact same l hl
    split at e
    · split at e
      · injection e with e; subst e; exact top _ (fun l => own _ _ _ _)
      split at e
      · injection e with e; subst e; exact top _ (fun l => own _ _ _ _)
      split at e
      · injection e with e; subst e; exact top _ (fun l => own _ _ _ _)
      · cases e
    split at e
    · split at e
      · injection e with e; subst e; exact top _ (fun l => own _ _ _ _)
      split at e
      · injection e with e; subst e; exact same
      · cases e
    split at e
    · split at e
      · injection e with e; subst e; exact same
      split at e
      · injection e with e; subst e; exact cl
      · cases e
    split at e
    · injection e with e; subst e; exact top _ (fun l => own _ _ _ _)
    split at e
    · split at e
      · cases e
      · injection e with e; subst e; exact top _ (fun l => own _ _ _ _)
    split at e
    · split at e
      · cases e
      split at e
      · cases e
      · injection e with e; subst e; exact top _ (fun l => rfl)
    split at e
    · split at e
      · cases e
      · injection e with e; subst e; exact cl
    injection e with e; subst e; exact same
theorem frStep_bad {ws : List Nat} {c : Nat} {q : Int} {off : Nat} (e : frStep ws c = .bad q off) : off ≤ ws.length ∧ (q = 6 ∨ q = 7) := by
  unfold frStep at e
  split at e
  · split at e
    · split at e
      · injection e with e1 e2; omega
      split at e
      · cases e
      · cases e
    · cases e
  split at e
  · split at e
    · cases e
    · cases e
  split at e
  · injection e with e1 e2; omega
  split at e
  · cases e
  · cases e
theorem tgE_ne {s : ByteArray} : tgE s = 63 ∨ tgE s = 0 := by
  unfold tgE
  split
  · exact .inl rfl
  · exact .inr rfl
theorem word_err {x : WS} {s : ByteArray} {q : Int} (e : x.word s = .error q) : q ≠ 0 := by
  unfold WS.word at e
  split at e
  · split at e
    · cases e
    · injection e with e; subst e; decide
  · split at e
    · split at e
      · injection e with e; subst e; decide
      split at e
      · injection e with e; subst e; decide
      · cases e
    split at e
    · split at e
      · cases e
      split at e
      · cases e
      split at e
      · cases e
      · injection e with e; subst e; decide
    split at e
    · split at e
      · cases e
      split at e
      · cases e
      · injection e with e; subst e; decide
    split at e
    · split at e
      · cases e
      split at e
      · cases e
      · injection e with e; subst e; decide
    split at e
    · cases e
    split at e
    · split at e
      · next h => injection e with e; subst e; exact h
      · cases e
    split at e
    · split at e
      · next h => injection e with e; subst e; exact h
      split at e
      · injection e with e; subst e; decide
      · cases e
    split at e
    · split at e
      · injection e with e; subst e; decide
      · cases e
    cases e
theorem step_inv {p : PS} {bs : List Nat} {c : Nat} (h : PInv p bs) (hc : c < 256) : PInv (p.step c) (bs ++ [c]) := by
  have hl : (bs ++ [c]).length = bs.length + 1 := by simp
  unfold PS.step
  by_cases h1 : p.shut = true ∨ p.code ≠ 0
  · rw [if_pos h1]
    refine ⟨h.shut, by have := h.bad; omega, by have := h.len; omega, h.most, h.st, h.dep, h.cnt, fun h0 => ?_⟩
    rcases h1 with h1 | h1
    · rw [h.shut] at h1; cases h1
    · exact absurd h0 h1
  rw [if_neg h1]
  have h0 : p.code = 0 := Classical.byContradiction fun h' => h1 (.inr h')
  obtain ⟨ws, hi, hb, hp, ha, hs, hw⟩ := h.good h0
  by_cases h2 : p.x.whole = true
  · rw [if_pos h2]
    exact ⟨h.shut, by show p.at_ ≤ _; have := h.len; omega, by show p.at_ ≤ _; have := h.len; omega, h.most, h.st, h.dep, h.cnt, fun h' => by cases h'⟩
  rw [if_neg h2]
  have h2' : p.x.whole = false := by simpa using h2
  by_cases h3 : p.at_ = 1048576
  · rw [if_pos h3]
    exact ⟨h.shut, by show p.at_ ≤ _; have := h.len; omega, by show p.at_ ≤ _; have := h.len; omega, h.most, h.st, h.dep, h.cnt, fun h' => by cases h'⟩
  rw [if_neg h3]
  have hm := h.most
  cases e : frStep p.ws c with
  | cont =>
    refine ⟨h.shut, ?_, ?_, ?_, ?_, h.dep, h.cnt, fun _ => ⟨ws, hi, ?_, hp.cont hc e, ?_, ?_, fun hh => absurd hh h2⟩⟩
    · show p.fat ≤ _; have := h.bad; omega
    · show p.at_ + 1 ≤ _; omega
    · show p.at_ + 1 ≤ _; omega
    · show p.start ≤ p.at_ + 1; omega
    · rw [hb, List.append_assoc]; rfl
    · show p.at_ + 1 = _; omega
    · show p.at_ + 1 = p.start + (p.ws ++ [c]).length; simp; omega
  | bad q off =>
    have hq := frStep_bad e
    refine ⟨h.shut, ?_, ?_, h.most, h.st, h.dep, h.cnt, fun h' => ?_⟩
    · show p.start + off ≤ _; omega
    · show p.at_ ≤ _; omega
    · have h' : q = 0 := h'; omega
  | whole s =>
    obtain ⟨hf, hsz⟩ := hp.whole hc e
    show PInv (p.wordR (p.x.word s)) _
    cases e2 : p.x.word s with
    | error q =>
      refine ⟨h.shut, ?_, ?_, h.most, h.st, h.dep, h.cnt, fun h' => absurd h' (word_err e2)⟩
      · show p.start ≤ _; omega
      · show p.at_ ≤ _; omega
    | ok y =>
      have hy := word_inv hi h2' e2
      refine ⟨h.shut, ?_, ?_, ?_, Nat.le_refl _, hy.dep, ?_, fun _ => ⟨ws ++ [s], hy, ?_, Pre.nil, ?_, ?_, fun _ => rfl⟩⟩
      · show p.fat ≤ _; have := h.bad; omega
      · show p.at_ + 1 ≤ _; omega
      · show p.at_ + 1 ≤ _; omega
      · intro l hl
        have := word_cnt e2 p.start h.cnt l hl
        show _ ≤ p.at_ + 1
        omega
      · rw [hb, frames_append, frames_cons, frames_nil, ← hf, List.append_nil, List.append_assoc]; exact (List.append_nil _).symm
      · show p.at_ + 1 = _; omega
      · show p.at_ + 1 = p.at_ + 1 + 0; rfl
theorem feed_inv : ∀ (cs : List Nat) {p : PS} {bs : List Nat}, PInv p bs → Bytes cs → PInv (p.feed cs) (bs ++ cs)
  | [], p, bs, h, _ => by simpa [PS.feed] using h
  | c :: r, p, bs, h, hb => by
    rw [feed_cons]
    have h1 := step_inv h (hb c (List.mem_cons_self ..))
    have h2 := feed_inv r h1 fun x hx => hb x (List.mem_cons_of_mem _ hx)
    rwa [List.append_assoc] at h2
theorem new_inv {bs : List Nat} (hb : Bytes bs) : PInv (PS.new.feed bs) bs := feed_inv bs PInv.new hb
/-! ### what was taken is an archive -/
theorem parse_sound {bs : List Nat} (hb : Bytes bs) (h0 : (PS.new.feed bs).code = 0) (hw : (PS.new.feed bs).x.whole = true) :
    serE (PS.new.feed bs).x.root = 0 ∧ arc (PS.new.feed bs).x.root = bs := by
  have h := new_inv hb
  generalize PS.new.feed bs = p at *
  obtain ⟨ws, hi, e, hp, ha, hs, hn⟩ := h.good h0
  have hm := h.most
  have hn := hn hw
  have key : ∀ (x : WS) (ws : List ByteArray), Inv x ws → x.whole = true → x.root.Ok 1 ∧ ws = wMagic :: x.root.words := by
    intro x ws hi hw
    cases hi with
    | done k n hok => exact ⟨hok, rfl⟩
    | magic => cases hw
    | open_ => cases hw
    | top => cases hw
  obtain ⟨hok, ew⟩ := key _ _ hi hw
  subst ew
  rw [hn, List.append_nil] at e
  have ea : arc p.x.root = bs := e.symm
  refine ⟨serE_ok.2 ⟨hok, ?_⟩, ea⟩
  rw [ea]
  omega
/-! ### an archive is taken -/
theorem feed_word {p : PS} {s : ByteArray} {y : WS} (hs : s.size ≤ 1048576) (h1 : p.shut = false) (h0 : p.code = 0) (hw : p.x.whole = false) (ha : p.at_ + fr s.size ≤ 1048576) (e : p.x.word s = .ok y) :
    ∀ (rest pre : List Nat), frameL (nb s) = pre ++ rest → rest ≠ [] →
      PS.feed { p with at_ := p.at_ + pre.length, ws := pre } rest = { p with at_ := p.at_ + fr s.size, start := p.at_ + fr s.size, ws := [], x := y } := by
  have hL : (frameL (nb s)).length = fr s.size := by rw [frameL_length, nb_length]; rfl
  intro rest
  induction rest with
  | nil => intro pre _ h; exact absurd rfl h
  | cons c r ih =>
    intro pre hf _
    have hstep := fr_run s hs pre c r hf
    have hlen : pre.length + 1 + r.length = fr s.size := by rw [← hL, hf]; simp; omega
    rw [feed_cons]
    have hns : ¬ (p.shut = true ∨ p.code ≠ 0) := by rintro (h | h); rw [h1] at h; cases h; exact h h0
    unfold PS.step
    rw [if_neg hns]
    simp only [hw, Bool.false_eq_true, if_false]
    rw [if_neg (by show ¬ p.at_ + pre.length = 1048576; omega)]
    by_cases hr : r = []
    · subst hr
      rw [if_pos rfl] at hstep
      simp only [List.length_nil] at hlen
      rw [hstep]
      show PS.wordR _ (p.x.word s) = _
      rw [e]
      show PS.mk _ _ _ _ _ _ _ = PS.mk _ _ _ _ _ _ _
      rw [show p.at_ + pre.length + 1 = p.at_ + fr s.size by omega]
    · rw [if_neg hr] at hstep
      rw [hstep]
      have h2 := ih (pre ++ [c]) (by rw [hf]; simp) hr
      rw [← h2]
      have el : p.at_ + (pre ++ [c]).length = p.at_ + pre.length + 1 := by rw [List.length_append]; rfl
      rw [el]
      rfl
theorem frame_ne (s : ByteArray) : frameL (nb s) ≠ [] := by
  intro h
  have := congrArg List.length h
  rw [frameL_length] at this
  simp at this
theorem feed_words : ∀ (ws : List ByteArray) {p : PS} {y : WS}, p.shut = false → p.code = 0 → p.ws = [] → p.start = p.at_ → p.at_ + frSum ws ≤ 1048576 → runW p.x ws = .ok y →
      p.feed (frames ws) = { p with at_ := p.at_ + frSum ws, start := p.at_ + frSum ws, ws := [], x := y }
  | [], p, y, h1, h0, hn, hs, ha, e => by
    injection e with e
    subst e
    obtain ⟨a, b, c, d, f, g, x⟩ := p
    simp only at hn hs
    subst hn
    subst hs
    rfl
  | s :: r, p, y, h1, h0, hn, hs, ha, e => by
    have e9 : frSum (s :: r) = fr s.size + frSum r := by simp [frSum]
    rw [e9] at ha ⊢
    simp only [runW] at e
    split at e
    · cases e
    next hw =>
    have hw : p.x.whole = false := by simpa using hw
    split at e
    · next z hz =>
      have hsz : s.size ≤ 1048576 := by have : s.size ≤ fr s.size := by unfold fr; omega
                                        omega
      have h2 := feed_word (p := p) hsz h1 h0 hw (by omega) hz (frameL (nb s)) [] rfl (frame_ne s)
      have ep : { p with at_ := p.at_ + ([] : List Nat).length, ws := [] } = p := by
        obtain ⟨a, b, c, d, f, g, x⟩ := p
        simp only at hn
        subst hn
        rfl
      rw [ep] at h2
      rw [frames_cons, feed_append, h2]
      have h3 := feed_words r (p := { p with at_ := p.at_ + fr s.size, start := p.at_ + fr s.size, ws := [], x := z }) (y := y) h1 h0 rfl rfl (by show p.at_ + fr s.size + _ ≤ _; omega) e
      rw [h3]
      simp only [Nat.add_assoc]
    · cases e
theorem parse_arc {n : ND} (h : serE n = 0) : ∃ k, PS.new.feed (arc n) = ⟨(arc n).length, (arc n).length, 0, 0, false, [], ⟨k, [], true, n⟩⟩ := by
  obtain ⟨hok, hl⟩ := serE_ok.1 h
  obtain ⟨k, hr⟩ := run_arc n (.leaf 0 false emp) hok
  refine ⟨k, ?_⟩
  have e : (arc n).length = frSum (wMagic :: n.words) := frames_length _
  have h2 := feed_words (wMagic :: n.words) (p := PS.new) rfl rfl rfl rfl (by show 0 + _ ≤ _; omega) hr
  show PS.new.feed (frames (wMagic :: n.words)) = _
  rw [h2, e]
  simp only [PS.new, Nat.zero_add]
/-- ahead of the end an archive's beginning is taken whole -/
theorem parse_pre {n : ND} (h : serE n = 0) {a b : List Nat} (e : arc n = a ++ b) : (PS.new.feed a).code = 0 ∧ (PS.new.feed a).at_ = a.length ∧ (b ≠ [] → (PS.new.feed a).x.whole = false) := by
  obtain ⟨k, hp⟩ := parse_arc h
  have hB : Bytes (arc n) := frames_bytes _
  have hba : Bytes a := fun x hx => hB x (by rw [e]; exact List.mem_append_left _ hx)
  have hi := new_inv hba
  rw [e, feed_append] at hp
  have h0 : (PS.new.feed a).code = 0 := by
    by_cases hc : (PS.new.feed a).code = 0
    · exact hc
    · rw [feed_stop (.inr hc)] at hp
      rw [hp]
  obtain ⟨ws, h1, h2, h3, h4, _⟩ := hi.good h0
  refine ⟨h0, h4, fun hb => ?_⟩
  cases hw : (PS.new.feed a).x.whole with
  | false => rfl
  | true =>
    exfalso
    cases b with
    | nil => exact hb rfl
    | cons c r =>
      rw [feed_cons] at hp
      have hs : (PS.new.feed a).step c = { PS.new.feed a with code := 5, fat := (PS.new.feed a).at_ } := by
        unfold PS.step
        rw [if_neg (by rintro (h | h); rw [hi.shut] at h; cases h; exact h h0), if_pos hw]
      rw [hs, feed_stop (.inr (by show (5 : Int) ≠ 0; decide))] at hp
      have := congrArg PS.code hp
      cases this
/-- a length above the most -/
theorem long_fault {p : PS} (L : Nat) (h1 : p.shut = false) (h0 : p.code = 0) (hn : p.ws = []) (hw : p.x.whole = false) (hs : p.start = p.at_) (ha : p.at_ + 8 ≤ 1048576) (hL : 1048576 < L) (hL2 : L < 18446744073709551616) :
    (p.feed (le8 L)).code = 6 ∧ (p.feed (le8 L)).fat = p.at_ ∧ (p.feed (le8 L)).at_ = p.at_ + 7 := by
  have hl := le8_length L
  have hv := val8_le8 L hL2
  generalize le8 L = bs at *
  obtain ⟨b0, b1, b2, b3, b4, b5, b6, b7, rfl⟩ : ∃ b0 b1 b2 b3 b4 b5 b6 b7, bs = [b0, b1, b2, b3, b4, b5, b6, b7] := by
    match bs, hl with
    | [b0, b1, b2, b3, b4, b5, b6, b7], _ => exact ⟨_, _, _, _, _, _, _, _, rfl⟩
  obtain ⟨a, s, c, d, f, g, x⟩ := p
  simp only at h1 h0 hn hw hs ha ⊢
  subst h1 h0 hn hs
  have st : ∀ (g : List Nat) (k c : Nat), g.length = k → k < 7 → PS.step ⟨s + k, s, 0, d, false, g, x⟩ c = ⟨s + (k + 1), s, 0, d, false, g ++ [c], x⟩ := by
    intro g k c hg hk
    unfold PS.step
    rw [if_neg (by simp)]
    simp only [hw, Bool.false_eq_true, if_false]
    rw [if_neg (by omega)]
    have : frStep g c = .cont := by
      unfold frStep
      rw [if_pos (by omega), if_neg (by omega)]
    rw [this]
    rfl
  have e7 : PS.step ⟨s + 7, s, 0, d, false, [b0, b1, b2, b3, b4, b5, b6], x⟩ b7 = ⟨s + 7, s, 6, s + 0, false, [b0, b1, b2, b3, b4, b5, b6], x⟩ := by
    unfold PS.step
    rw [if_neg (by simp)]
    simp only [hw, Bool.false_eq_true, if_false]
    rw [if_neg (by omega)]
    have : frStep [b0, b1, b2, b3, b4, b5, b6] b7 = .bad 6 0 := by
      unfold frStep
      exact (if_pos (show 7 < 8 by omega)).trans ((if_pos rfl).trans (if_pos (show 1048576 < val8 [b0, b1, b2, b3, b4, b5, b6, b7] by omega)))
    rw [this]
    rfl
  have e : PS.feed ⟨s, s, 0, d, false, [], x⟩ [b0, b1, b2, b3, b4, b5, b6, b7] = ⟨s + 7, s, 6, s + 0, false, [b0, b1, b2, b3, b4, b5, b6], x⟩ := by
    have s0 : PS.step ⟨s + 0, s, 0, d, false, [], x⟩ b0 = ⟨s + 1, s, 0, d, false, [b0], x⟩ := st [] 0 b0 rfl (by omega)
    have s1 : PS.step ⟨s + 1, s, 0, d, false, [b0], x⟩ b1 = ⟨s + 2, s, 0, d, false, [b0, b1], x⟩ := st [b0] 1 b1 rfl (by omega)
    have s2 : PS.step ⟨s + 2, s, 0, d, false, [b0, b1], x⟩ b2 = ⟨s + 3, s, 0, d, false, [b0, b1, b2], x⟩ := st [b0, b1] 2 b2 rfl (by omega)
    have s3 : PS.step ⟨s + 3, s, 0, d, false, [b0, b1, b2], x⟩ b3 = ⟨s + 4, s, 0, d, false, [b0, b1, b2, b3], x⟩ := st [b0, b1, b2] 3 b3 rfl (by omega)
    have s4 : PS.step ⟨s + 4, s, 0, d, false, [b0, b1, b2, b3], x⟩ b4 = ⟨s + 5, s, 0, d, false, [b0, b1, b2, b3, b4], x⟩ := st [b0, b1, b2, b3] 4 b4 rfl (by omega)
    have s5 : PS.step ⟨s + 5, s, 0, d, false, [b0, b1, b2, b3, b4], x⟩ b5 = ⟨s + 6, s, 0, d, false, [b0, b1, b2, b3, b4, b5], x⟩ := st [b0, b1, b2, b3, b4] 5 b5 rfl (by omega)
    have s6 : PS.step ⟨s + 6, s, 0, d, false, [b0, b1, b2, b3, b4, b5], x⟩ b6 = ⟨s + 7, s, 0, d, false, [b0, b1, b2, b3, b4, b5, b6], x⟩ := st [b0, b1, b2, b3, b4, b5] 6 b6 rfl (by omega)
    show PS.feed ⟨s + 0, s, 0, d, false, [], x⟩ _ = _
    rw [feed_cons, s0, feed_cons, s1, feed_cons, s2, feed_cons, s3, feed_cons, s4, feed_cons, s5, feed_cons, s6, feed_cons, e7]
    rfl
  rw [e]
  exact ⟨rfl, rfl, rfl⟩
end Go.Proofs.YtlcppkcclolgcaaDoor
