/- Plain: the parser as a machine over words and over bytes; what it takes is the archive of its tree. -/
import Derived.Test.YtlcppkcclolgcaaPf
import Derived.Test.YtlcppkcclolgcaaSz
namespace Go.Proofs.Ytlcppkcclolgcaa
set_option linter.unusedVariables false
set_option linter.unusedSimpArgs false
open Go.RowKit

/-- a node with other fields of its own -/
def ND.own (k : Int) (x : Bool) (t : ByteArray) : ND → ND
  | .leaf _ _ _ => .leaf k x t
  | .add p s c => .add (p.own k x t) s c
/-- a node that is open, and the name of the kid that is being read -/
structure Lv where
  node : ND
  kid : ByteArray
/-- a parser between two words; the innermost open node first -/
structure WS where
  next : Nat
  stack : List Lv
  whole : Bool
  root : ND
def emp : ByteArray := ⟨#[]⟩
def plainW (k : Nat) : Option (ByteArray × Nat) :=
  if k = 0 then some (wMagic, 1) else if k = 2 then some (wType, 3) else if k = 5 then some (wEmpty, 6) else if k = 6 then some (wContents, 7)
  else if k = 8 then some (wTarget, 9) else if k = 12 then some (wOpen, 13) else if k = 13 then some (wName, 14) else if k = 15 then some (wNode, 1)
  else if k = 16 then some (wClose, 11) else none
def topSet (f : Lv → Lv) : List Lv → List Lv
  | [] => []
  | l :: r => f l :: r
def WS.close (x : WS) : WS :=
  match x.stack with
  | [] => x
  | [l] => { x with stack := [], root := l.node, whole := true }
  | l :: m :: r => { x with stack := { m with node := .add m.node m.kid l.node } :: r, next := 16 }
def kindSet (k : Int) (l : Lv) : Lv := { l with node := l.node.own k l.node.exec l.node.text }
def execSet (l : Lv) : Lv := { l with node := l.node.own l.node.kind true l.node.text }
def textSet (t : ByteArray) (l : Lv) : Lv := { l with node := l.node.own l.node.kind l.node.exec t }
def kidSet (t : ByteArray) (l : Lv) : Lv := { l with kid := t }
def WS.put (x : WS) (n : Nat) (f : Lv → Lv) : WS := { x with stack := topSet f x.stack, next := n }
def topND : List Lv → ND
  | [] => .leaf 0 false emp
  | l :: _ => l.node
/-- a word is whole -/
def WS.word (x : WS) (s : ByteArray) : Except Int WS :=
  match plainW x.next with
  | some (want, t) => if s = want then .ok { x with next := t } else .error 70
  | none =>
    if x.next = 1 then (if s ≠ wOpen then .error 70 else if x.stack.length = 32 then .error 61 else .ok { x with stack := ⟨.leaf 0 false emp, emp⟩ :: x.stack, next := 2 })
    else if x.next = 3 then (if s = wRegular then .ok (x.put 4 (kindSet 1)) else if s = wSymlink then .ok (x.put 8 (kindSet 2)) else if s = wDirectory then .ok (x.put 11 (kindSet 3)) else .error 70)
    else if x.next = 4 then (if s = wExec then .ok (x.put 5 execSet) else if s = wContents then .ok { x with next := 7 } else .error 70)
    else if x.next = 11 then (if s = wEntry then .ok { x with next := 12 } else if s = wClose then .ok x.close else .error 70)
    else if x.next = 7 then .ok (x.put 10 (textSet s))
    else if x.next = 9 then (if tgE s ≠ 0 then .error (tgE s) else .ok (x.put 10 (textSet s)))
    else if x.next = 14 then (if nm s ≠ 0 then .error (nm s) else if 0 < (topND x.stack).cnt ∧ leB s (topND x.stack).last = true then .error 64 else .ok (x.put 15 (kidSet s)))
    else if x.next = 10 then (if s ≠ wClose then .error 70 else .ok x.close)
    else .ok x
/-! ### which trees are well-formed -/
def ND.nOk (n : ND) (K : Prop) (d : Nat) : Prop := d ≤ 32 ∧ n.fldE = 0 ∧ K
def ND.kOk : ND → Nat → Prop
  | .leaf _ _ _, _ => True
  | .add p s c, d => p.kOk d ∧ nm s = 0 ∧ ¬ (0 < p.cnt ∧ leB s p.last = true) ∧ c.nOk (c.kOk (d + 1)) (d + 1)
def ND.Ok (n : ND) (d : Nat) : Prop := n.nOk (n.kOk d) d
theorem leaf_of {n : ND} (h : n.cnt = 0) : n = .leaf n.kind n.exec n.text := by
  cases n with
  | leaf => rfl
  | add p s c => simp [ND.cnt] at h
theorem fld_leaf {n : ND} (h : n.fldE = 0) (h2 : n.kind = 1 ∨ n.kind = 2) : n.cnt = 0 := by
  unfold ND.fldE at h
  rcases h2 with h2 | h2
  · rw [if_pos h2] at h
    split at h
    · cases h
    · omega
  · rw [if_neg (by omega), if_pos h2] at h
    split at h
    · cases h
    · next hh => rcases Nat.eq_zero_or_pos n.cnt with h0 | h0; exact h0; exact absurd (.inr h0) hh
theorem fld_link {n : ND} (h : n.fldE = 0) (h2 : n.kind = 2) : n.exec = false ∧ tgE n.text = 0 := by
  unfold ND.fldE at h
  rw [if_neg (by omega), if_pos h2] at h
  split at h
  · cases h
  · next hh =>
    refine ⟨?_, h⟩
    cases he : n.exec with
    | false => rfl
    | true => exact absurd (.inl he) hh
theorem fld_dir {n : ND} (h : n.fldE = 0) (h2 : n.kind = 3) : n.exec = false ∧ n.text = emp := by
  unfold ND.fldE at h
  rw [if_neg (by omega), if_neg (by omega), if_pos h2] at h
  split at h
  · cases h
  · next hh =>
    refine ⟨?_, ?_⟩
    · cases he : n.exec with
      | false => rfl
      | true => exact absurd (.inl he) hh
    · by_cases ht : n.text = ⟨#[]⟩
      · exact ht
      · exact absurd (.inr ht) hh
theorem leaf_kOk {n : ND} (h : n.cnt = 0) (d : Nat) : n.kOk d := by
  rw [leaf_of h]; trivial
/-- the walk's verdict, plainly -/
theorem ok_of_walk : ∀ n : ND, (∀ d b b', n.kidsC nm d b = .ok b' → n.kOk d) ∧ (∀ d b b', n.nodeC (fun b3 => n.kidsC nm d b3) d b = .ok b' → n.Ok d) := by
  have key : ∀ n : ND, (∀ d b b', n.kidsC nm d b = .ok b' → n.kOk d) → ∀ d b b', n.nodeC (fun b3 => n.kidsC nm d b3) d b = .ok b' → n.Ok d := by
    intro n hk d b b' e
    unfold ND.nodeC at e
    split at e
    · cases e
    split at e
    · cases e
    next hd hf =>
    have hf : n.fldE = 0 := Classical.not_not.1 hf
    refine ⟨by omega, hf, ?_⟩
    split at e
    · next h1 => exact leaf_kOk (fld_leaf hf (.inl h1)) d
    split at e
    · next h2 => exact leaf_kOk (fld_leaf hf (.inr h2)) d
    obtain ⟨b3, _, e2⟩ := bind_ok e
    exact hk d b3 b' e2
  intro n
  induction n with
  | leaf k x t => exact ⟨fun _ _ _ _ => trivial, key _ fun _ _ _ _ => trivial⟩
  | add p s c ihp ihc =>
    have hk : ∀ d b b', (ND.add p s c).kidsC nm d b = .ok b' → (ND.add p s c).kOk d := by
      intro d b b' e
      unfold ND.kidsC at e
      obtain ⟨b1, e1, e2⟩ := bind_ok e
      split at e2
      · cases e2
      split at e2
      · cases e2
      next h1 h2 =>
      obtain ⟨b2, e3, e4⟩ := bind_ok e2
      exact ⟨ihp.1 d b b1 e1, Classical.not_not.1 h1, h2, ihc.2 _ _ _ e4⟩
    exact ⟨hk, key _ hk⟩
theorem addC_le {b n : Nat} (h : b + n ≤ 1048576) : addC b n = .ok (b + n) := if_pos h
theorem walk_of_ok : ∀ n : ND, (∀ d b, n.kOk d → b + frSum n.kwords ≤ 1048576 → n.kidsC nm d b = .ok (b + frSum n.kwords)) ∧ (∀ d b, n.Ok d → b + frSum n.words ≤ 1048576 → n.nodeC (fun b3 => n.kidsC nm d b3) d b = .ok (b + frSum n.words)) := by
  have q1 := q_exec
  have q2 : frSum [wOpen, wType, wDirectory, wClose] = 72 := by decide +kernel
  have key : ∀ n : ND, (∀ d b, n.kOk d → b + frSum n.kwords ≤ 1048576 → n.kidsC nm d b = .ok (b + frSum n.kwords)) → ∀ d b, n.Ok d → b + frSum n.words ≤ 1048576 → n.nodeC (fun b3 => n.kidsC nm d b3) d b = .ok (b + frSum n.words) := by
    intro n hk d b h hb
    obtain ⟨h1, h2, h3⟩ := h
    unfold ND.nodeC
    rw [if_neg (by omega), if_neg (by omega)]
    unfold ND.words ND.wordsOf at hb ⊢
    rcases fld_kind h2 with k1 | k1 | k1
    · rw [if_pos k1] at hb ⊢
      rw [if_pos k1]
      have e9 : frSum ([wOpen, wType] ++ ([wRegular] ++ (if n.exec = true then [wExec, wEmpty] else []) ++ [wContents, n.text]) ++ [wClose]) = frSum [wOpen, wType, wRegular, wContents, n.text, wClose] + if n.exec = true then 32 else 0 := by
        cases n.exec
        · simp [frSum]
        · simp [frSum, List.map_cons, List.map_nil, List.sum_cons, List.sum_nil] at q1 ⊢
          omega
      rw [e9] at hb ⊢
      exact addC_le hb
    · rw [if_neg (by omega), if_pos k1] at hb ⊢
      rw [if_neg (by omega), if_pos k1]
      have e9 : frSum ([wOpen, wType] ++ [wSymlink, wTarget, n.text] ++ [wClose]) = frSum [wOpen, wType, wSymlink, wTarget, n.text, wClose] := by simp [frSum]
      rw [e9] at hb ⊢
      exact addC_le hb
    · rw [if_neg (by omega), if_neg (by omega)] at hb ⊢
      rw [if_neg (by omega), if_neg (by omega)]
      have e9 : frSum ([wOpen, wType] ++ ([wDirectory] ++ n.kwords) ++ [wClose]) = 72 + frSum n.kwords := by
        rw [← q2]
        simp [frSum]
        omega
      rw [e9] at hb ⊢
      rw [addC_le (by omega), ok_bind _ _ _ rfl, hk d (b + 72) h3 (by omega)]
      congr 1
      omega
  intro n
  induction n with
  | leaf k x t =>
    have hk : ∀ d b, (ND.leaf k x t).kOk d → b + frSum (ND.leaf k x t).kwords ≤ 1048576 → (ND.leaf k x t).kidsC nm d b = .ok (b + frSum (ND.leaf k x t).kwords) := fun d b _ _ => by simp [ND.kidsC, ND.kwords, frSum]
    exact ⟨hk, key _ hk⟩
  | add p s c ihp ihc =>
    have hk : ∀ d b, (ND.add p s c).kOk d → b + frSum (ND.add p s c).kwords ≤ 1048576 → (ND.add p s c).kidsC nm d b = .ok (b + frSum (ND.add p s c).kwords) := by
      intro d b h hb
      obtain ⟨h1, h2, h3, h4⟩ := h
      have e9 : frSum (ND.add p s c).kwords = frSum p.kwords + frSum [wEntry, wOpen, wName, s, wNode, wClose] + frSum c.words := by
        simp [ND.kwords, ND.words, frSum]
        omega
      rw [e9] at hb ⊢
      unfold ND.kidsC
      rw [ihp.1 d b h1 (by omega), ok_bind _ _ _ rfl, if_neg (by simpa using h2), if_neg h3, addC_le (by omega), ok_bind _ _ _ rfl, ihc.2 _ _ h4 (by omega)]
      congr 1
      omega
    exact ⟨hk, key _ hk⟩
theorem serE_ok {n : ND} : serE n = 0 ↔ n.Ok 1 ∧ (arc n).length ≤ 1048576 := by
  have q : fr wMagic.size = 24 := by decide +kernel
  have hl : (arc n).length = 24 + frSum n.words := by
    unfold arc
    rw [frames_length]
    simp only [frSum, List.map_cons, List.sum_cons]
    rw [q]
  unfold serE
  rw [errC_zero]
  constructor
  · rintro ⟨b, h⟩
    obtain ⟨h1, h2, h3⟩ := walk_sum h
    exact ⟨(ok_of_walk n).2 _ _ _ h, by omega⟩
  · rintro ⟨h, hb⟩
    exact ⟨_, (walk_of_ok n).2 1 24 h (by omega)⟩
end Go.Proofs.Ytlcppkcclolgcaa

