/- Plain: what the machine over words takes is the words of a well-formed tree, and each such tree's words are taken. -/
import Derived.Test.YtlcppkcclolgcaaPm
namespace Go.Proofs.Ytlcppkcclolgcaa
set_option linter.unusedVariables false
set_option linter.unusedSimpArgs false
open Go.RowKit

def Pend (l : Lv) (d : Nat) : Prop := l.node.kind = 3 ∧ l.node.fldE = 0 ∧ l.node.kOk d ∧ nm l.kid = 0 ∧ ¬ (0 < l.node.cnt ∧ leB l.kid l.node.last = true)
def PendAll : List Lv → Prop
  | [] => True
  | l :: r => Pend l (r.length + 1) ∧ PendAll r
def dirW (n : ND) : List ByteArray := [wOpen, wType, wDirectory] ++ n.kwords
def pwP : List Lv → List ByteArray
  | [] => []
  | l :: r => pwP r ++ (dirW l.node ++ [wEntry, wOpen, wName, l.kid, wNode])
def DirN (n : ND) (d : Nat) : Prop := n.kind = 3 ∧ n.fldE = 0 ∧ n.kOk d
/-- what has been read of the innermost open node -/
inductive TopOk : Nat → Lv → Nat → List ByteArray → Prop where
  | k2 (kd d) : TopOk 2 ⟨.leaf 0 false emp, kd⟩ d [wOpen]
  | k3 (kd d) : TopOk 3 ⟨.leaf 0 false emp, kd⟩ d [wOpen, wType]
  | k4 (kd d) : TopOk 4 ⟨.leaf 1 false emp, kd⟩ d [wOpen, wType, wRegular]
  | k5 (kd d) : TopOk 5 ⟨.leaf 1 true emp, kd⟩ d [wOpen, wType, wRegular, wExec]
  | k6 (kd d) : TopOk 6 ⟨.leaf 1 true emp, kd⟩ d [wOpen, wType, wRegular, wExec, wEmpty]
  | k7 (x kd d) : TopOk 7 ⟨.leaf 1 x emp, kd⟩ d ([wOpen, wType] ++ ([wRegular] ++ (if x = true then [wExec, wEmpty] else []) ++ [wContents]))
  | k8 (kd d) : TopOk 8 ⟨.leaf 2 false emp, kd⟩ d [wOpen, wType, wSymlink]
  | k9 (kd d) : TopOk 9 ⟨.leaf 2 false emp, kd⟩ d [wOpen, wType, wSymlink, wTarget]
  | k10 (n kd d t) (h1 : n.fldE = 0) (h2 : n.kind = 1 ∨ n.kind = 2) (h3 : t ++ [wClose] = n.words) : TopOk 10 ⟨n, kd⟩ d t
  | k11 (n kd d) (h : DirN n d) : TopOk 11 ⟨n, kd⟩ d (dirW n)
  | k12 (n kd d) (h : DirN n d) : TopOk 12 ⟨n, kd⟩ d (dirW n ++ [wEntry])
  | k13 (n kd d) (h : DirN n d) : TopOk 13 ⟨n, kd⟩ d (dirW n ++ [wEntry, wOpen])
  | k14 (n kd d) (h : DirN n d) : TopOk 14 ⟨n, kd⟩ d (dirW n ++ [wEntry, wOpen, wName])
  | k15 (l d) (h : Pend l d) : TopOk 15 l d (dirW l.node ++ [wEntry, wOpen, wName, l.kid])
  | k16 (n kd d t) (h : DirN n d) (h3 : t ++ [wClose] = dirW n) : TopOk 16 ⟨n, kd⟩ d t
inductive Inv : WS → List ByteArray → Prop where
  | done (k n) (h : n.Ok 1) : Inv ⟨k, [], true, n⟩ (wMagic :: n.words)
  | magic (n) : Inv ⟨0, [], false, n⟩ []
  | open_ (st n) (h1 : st.length ≤ 32) (h2 : PendAll st) : Inv ⟨1, st, false, n⟩ (wMagic :: pwP st)
  | top (k l r n t) (h1 : r.length < 32) (h2 : PendAll r) (h3 : TopOk k l (r.length + 1) t) : Inv ⟨k, l :: r, false, n⟩ (wMagic :: (pwP r ++ t))
theorem fld3 {n : ND} (h : n.kind = 3) : n.fldE = 0 ↔ n.exec = false ∧ n.text = emp := by
  constructor
  · intro hf; exact fld_dir hf h
  · rintro ⟨h1, h2⟩
    unfold ND.fldE
    rw [if_neg (by omega), if_neg (by omega), if_pos h]
    exact if_neg (by rw [h1, h2]; rintro (h | h); cases h; exact h rfl)
theorem words_dir {n : ND} (h : n.kind = 3) : n.words = dirW n ++ [wClose] := by
  unfold ND.words ND.wordsOf dirW
  rw [if_neg (by omega), if_neg (by omega)]
  simp
theorem dirW_add (p : ND) (s : ByteArray) (c : ND) : dirW (.add p s c) = dirW p ++ [wEntry, wOpen, wName, s, wNode] ++ c.words ++ [wClose] := by
  simp [dirW, ND.kwords, ND.words]
/-- a node is closed -/
theorem close_inv (k : Nat) (n0 n : ND) (kd : ByteArray) (r : List Lv) (h1 : r.length < 32) (h2 : PendAll r) (hn : n.Ok (r.length + 1)) :
    Inv (WS.close ⟨k, ⟨n, kd⟩ :: r, false, n0⟩) (wMagic :: (pwP r ++ n.words)) := by
  cases r with
  | nil => exact Inv.done k n hn
  | cons m r =>
    obtain ⟨⟨a1, a2, a3, a4, a5⟩, hp⟩ := h2
    have h1' : r.length < 32 := by simp only [List.length_cons] at h1; omega
    have hd : DirN (.add m.node m.kid n) (r.length + 1) := ⟨a1, (fld3 (n := .add m.node m.kid n) a1).2 ((fld3 (n := m.node) a1).1 a2), a3, a4, a5, hn⟩
    have e : pwP (m :: r) ++ n.words = pwP r ++ (dirW m.node ++ [wEntry, wOpen, wName, m.kid, wNode] ++ n.words) := by simp [pwP]
    rw [e]
    exact Inv.top 16 ⟨_, m.kid⟩ r n0 _ h1' hp (TopOk.k16 _ _ _ _ hd (by rw [dirW_add]))
theorem dir_ok {n : ND} {d : Nat} (h : DirN n d) (hd : d ≤ 32) : n.Ok d := ⟨hd, h.2.1, h.2.2⟩
theorem snoc_cons (a : ByteArray) (b : List ByteArray) (s : ByteArray) : (a :: b) ++ [s] = a :: (b ++ [s]) := rfl
theorem word_inv {x y : WS} {ws : List ByteArray} {s : ByteArray} (h : Inv x ws) (hw : x.whole = false) (e : x.word s = .ok y) : Inv y (ws ++ [s]) := by
  cases h with
  | done => cases hw
  | magic n =>
    simp only [WS.word, plainW, if_true] at e
    split at e
    · next h => injection e with e; subst e; subst h; exact Inv.open_ [] n (by simp) trivial
    · cases e
  | open_ st n h1 h2 =>
    simp only [WS.word, plainW, Nat.reduceEqDiff, if_false, if_true] at e
    split at e
    · cases e
    next hs =>
    split at e
    · cases e
    next hl =>
    injection e with e
    subst e
    have hs : s = wOpen := Classical.not_not.1 hs
    subst hs
    exact Inv.top 2 _ st n [wOpen] (by have : ¬ st.length = 32 := hl; omega) h2 (TopOk.k2 _ _)
  | top k l r n t h1 h2 h3 =>
    rw [snoc_cons, List.append_assoc]
    cases h3 with
    | k2 kd =>
      simp only [WS.word, plainW, Nat.reduceEqDiff, if_false, if_true] at e
      split at e
      · next h => injection e with e; subst e; subst h; exact Inv.top 3 _ r n _ h1 h2 (TopOk.k3 _ _)
      · cases e
    | k3 kd =>
      simp only [WS.word, plainW, Nat.reduceEqDiff, if_false, if_true] at e
      split at e
      · next h => injection e with e; subst e; subst h; exact Inv.top 4 _ r n _ h1 h2 (TopOk.k4 _ _)
      split at e
      · next h => injection e with e; subst e; subst h; exact Inv.top 8 _ r n _ h1 h2 (TopOk.k8 _ _)
      split at e
      · next h =>
        injection e with e; subst e; subst h
        exact Inv.top 11 _ r n _ h1 h2 (TopOk.k11 (.leaf 3 false emp) _ _ ⟨rfl, (fld3 rfl).2 ⟨rfl, rfl⟩, trivial⟩)
      · cases e
    | k4 kd =>
      simp only [WS.word, plainW, Nat.reduceEqDiff, if_false, if_true] at e
      split at e
      · next h => injection e with e; subst e; subst h; exact Inv.top 5 _ r n _ h1 h2 (TopOk.k5 _ _)
      split at e
      · next h => injection e with e; subst e; subst h; exact Inv.top 7 _ r n _ h1 h2 (TopOk.k7 false _ _)
      · cases e
    | k5 kd =>
      simp only [WS.word, plainW, Nat.reduceEqDiff, if_false, if_true] at e
      split at e
      · next h => injection e with e; subst e; subst h; exact Inv.top 6 _ r n _ h1 h2 (TopOk.k6 _ _)
      · cases e
    | k6 kd =>
      simp only [WS.word, plainW, Nat.reduceEqDiff, if_false, if_true] at e
      split at e
      · next h => injection e with e; subst e; subst h; exact Inv.top 7 _ r n _ h1 h2 (TopOk.k7 true _ _)
      · cases e
    | k7 x kd =>
      simp only [WS.word, plainW, Nat.reduceEqDiff, if_false, if_true] at e
      injection e with e
      subst e
      refine Inv.top 10 _ r n _ h1 h2 (TopOk.k10 (.leaf 1 x s) _ _ _ (by simp [ND.fldE, ND.kind, ND.cnt]) (.inl rfl) ?_)
      cases x <;> rfl
    | k8 kd =>
      simp only [WS.word, plainW, Nat.reduceEqDiff, if_false, if_true] at e
      split at e
      · next h => injection e with e; subst e; subst h; exact Inv.top 9 _ r n _ h1 h2 (TopOk.k9 _ _)
      · cases e
    | k9 kd =>
      simp only [WS.word, plainW, Nat.reduceEqDiff, if_false, if_true] at e
      split at e
      · cases e
      next ht =>
      injection e with e
      subst e
      have ht : tgE s = 0 := Classical.not_not.1 ht
      refine Inv.top 10 _ r n _ h1 h2 (TopOk.k10 (.leaf 2 false s) _ _ _ (by simp [ND.fldE, ND.kind, ND.cnt, ND.exec, ND.text, ht]) (.inr rfl) ?_)
      simp [ND.words, ND.wordsOf, ND.kind, ND.exec, ND.text]
    | k10 m kd d t a1 a2 a3 =>
      simp only [WS.word, plainW, Nat.reduceEqDiff, if_false, if_true] at e
      split at e
      · cases e
      next hs =>
      injection e with e
      subst e
      have hs : s = wClose := Classical.not_not.1 hs
      subst hs
      rw [a3]
      exact close_inv 10 n m kd r h1 h2 ⟨by omega, a1, leaf_kOk (fld_leaf a1 a2) _⟩
    | k11 m kd d h =>
      simp only [WS.word, plainW, Nat.reduceEqDiff, if_false, if_true] at e
      split at e
      · next h' => injection e with e; subst e; subst h'; exact Inv.top 12 _ r n _ h1 h2 (TopOk.k12 _ _ _ h)
      split at e
      · next h' =>
        injection e with e; subst e; subst h'
        rw [← words_dir h.1]
        exact close_inv 11 n m kd r h1 h2 (dir_ok h (by omega))
      · cases e
    | k12 m kd d h =>
      simp only [WS.word, plainW, Nat.reduceEqDiff, if_false, if_true] at e
      split at e
      · next h' => injection e with e; subst e; subst h'; rw [List.append_assoc]; exact Inv.top 13 _ r n _ h1 h2 (TopOk.k13 _ _ _ h)
      · cases e
    | k13 m kd d h =>
      simp only [WS.word, plainW, Nat.reduceEqDiff, if_false, if_true] at e
      split at e
      · next h' => injection e with e; subst e; subst h'; rw [List.append_assoc]; exact Inv.top 14 _ r n _ h1 h2 (TopOk.k14 _ _ _ h)
      · cases e
    | k14 m kd d h =>
      simp only [WS.word, plainW, Nat.reduceEqDiff, if_false, if_true] at e
      split at e
      · cases e
      next a1 =>
      split at e
      · cases e
      next a2 =>
      injection e with e
      subst e
      rw [List.append_assoc]
      exact Inv.top 15 _ r n _ h1 h2 (TopOk.k15 ⟨m, s⟩ _ ⟨h.1, h.2.1, h.2.2, Classical.not_not.1 a1, a2⟩)
    | k15 l d h =>
      simp only [WS.word, plainW, Nat.reduceEqDiff, if_false, if_true] at e
      split at e
      · next h' =>
        injection e with e; subst e; subst h'
        rw [List.append_assoc]
        exact Inv.open_ (l :: r) n (by simp only [List.length_cons]; omega) ⟨h, h2⟩
      · cases e
    | k16 m kd d t h a3 =>
      simp only [WS.word, plainW, Nat.reduceEqDiff, if_false, if_true] at e
      split at e
      · next h' =>
        injection e with e; subst e; subst h'
        rw [a3]
        exact Inv.top 11 _ r n _ h1 h2 (TopOk.k11 _ _ _ h)
      · cases e
/-! ### each well-formed tree's words are taken -/
def runW : WS → List ByteArray → Except Int WS
  | x, [] => .ok x
  | x, s :: r => if x.whole = true then .error 5 else match x.word s with
    | .ok y => runW y r
    | .error q => .error q
theorem runW_cons {x y : WS} {s : ByteArray} {r : List ByteArray} (hw : x.whole = false) (h : x.word s = .ok y) : runW x (s :: r) = runW y r := by
  simp only [runW, hw, h]
  rfl
theorem runW_append {x y : WS} {a b : List ByteArray} (h : runW x a = .ok y) : runW x (a ++ b) = runW y b := by
  induction a generalizing x with
  | nil => injection h with h; subst h; rfl
  | cons s r ih =>
    simp only [runW, List.cons_append] at h ⊢
    split at h
    · cases h
    next hw =>
    split at h
    · next z hz => rw [if_neg hw]; exact ih h
    · cases h
/-- a node has been read -/
def Aft (x : WS) (n : ND) (y : WS) : Prop :=
  match x.stack with
  | [] => ∃ k, y = ⟨k, [], true, n⟩
  | m :: r => y = ⟨16, { m with node := .add m.node m.kid n } :: r, false, x.root⟩
def ND.base : ND → ND
  | .leaf k x t => .leaf k x t
  | .add p _ _ => p.base
theorem base_eq (n : ND) : n.base = .leaf n.kind n.exec n.text := by
  induction n with
  | leaf => rfl
  | add p s c ih _ => exact ih
theorem close_aft (k : Nat) (n root : ND) (kd : ByteArray) (st : List Lv) (x : WS) (hx : x.stack = st) (hr : x.root = root) : Aft x n (WS.close ⟨k, ⟨n, kd⟩ :: st, false, root⟩) := by
  subst hx
  subst hr
  unfold Aft
  cases h : x.stack with
  | nil => exact ⟨k, rfl⟩
  | cons m r => rfl
theorem own_leaf (n : ND) (h : n.cnt = 0) : n = .leaf n.kind n.exec n.text := leaf_of h
def KRun (n : ND) : Prop := ∀ (kd : ByteArray) (r : List Lv) (root : ND), n.kOk (r.length + 1) → ∃ kd', runW ⟨11, ⟨n.base, kd⟩ :: r, false, root⟩ n.kwords = .ok ⟨11, ⟨n, kd'⟩ :: r, false, root⟩
def NRun (n : ND) : Prop := ∀ (st : List Lv) (root : ND), n.Ok (st.length + 1) → ∃ y, runW ⟨1, st, false, root⟩ n.words = .ok y ∧ Aft ⟨1, st, false, root⟩ n y
theorem wne1 : wSymlink ≠ wRegular := by decide
theorem wne2 : wDirectory ≠ wRegular := by decide
theorem wne3 : wDirectory ≠ wSymlink := by decide
theorem wne4 : wContents ≠ wExec := by decide
theorem wne5 : wClose ≠ wEntry := by decide
theorem nrun_of (n : ND) (hk : KRun n) : NRun n := by
  intro st root h
  obtain ⟨h1, h2, h3⟩ := h
  have s1 : WS.word ⟨1, st, false, root⟩ wOpen = .ok ⟨2, ⟨.leaf 0 false emp, emp⟩ :: st, false, root⟩ := by
    simp only [WS.word, plainW, Nat.reduceEqDiff, if_false, if_true, ne_eq, not_true_eq_false]
    exact if_neg (by omega)
  have s2 : ∀ l, WS.word ⟨2, l :: st, false, root⟩ wType = .ok ⟨3, l :: st, false, root⟩ := fun l => by
    simp only [WS.word, plainW, Nat.reduceEqDiff, if_false, if_true]
  have s10 : ∀ l, WS.word ⟨10, l :: st, false, root⟩ wClose = .ok (WS.close ⟨10, l :: st, false, root⟩) := fun l => by
    simp only [WS.word, plainW, Nat.reduceEqDiff, if_false, if_true, ne_eq, not_true_eq_false]
  have s11 : ∀ l, WS.word ⟨11, l :: st, false, root⟩ wClose = .ok (WS.close ⟨11, l :: st, false, root⟩) := fun l => by
    simp only [WS.word, plainW, Nat.reduceEqDiff, if_false, if_true, if_neg wne5]
  unfold ND.words ND.wordsOf
  show ∃ y, runW _ (wOpen :: wType :: _) = _ ∧ _
  rw [runW_cons rfl s1, runW_cons rfl (s2 _)]
  show ∃ y, runW _ (_ ++ [wClose]) = _ ∧ _
  rcases fld_kind h2 with k1 | k1 | k1
  · have hc := fld_leaf h2 (.inl k1)
    have en := leaf_of hc
    rw [k1] at en
    have e7 : ∀ l, WS.word ⟨7, l :: st, false, root⟩ n.text = .ok ⟨10, textSet n.text l :: st, false, root⟩ := fun l => by
      simp only [WS.word, plainW, Nat.reduceEqDiff, if_false, if_true, WS.put, topSet]
    have e3 : ∀ l, WS.word ⟨3, l :: st, false, root⟩ wRegular = .ok ⟨4, kindSet 1 l :: st, false, root⟩ := fun l => by
      simp only [WS.word, plainW, Nat.reduceEqDiff, if_false, if_true, WS.put, topSet]
    have e4 : ∀ l, WS.word ⟨4, l :: st, false, root⟩ wContents = .ok ⟨7, l :: st, false, root⟩ := fun l => by
      simp only [WS.word, plainW, Nat.reduceEqDiff, if_false, if_true, if_neg wne4]
    have e4b : ∀ l, WS.word ⟨4, l :: st, false, root⟩ wExec = .ok ⟨5, execSet l :: st, false, root⟩ := fun l => by
      simp only [WS.word, plainW, Nat.reduceEqDiff, if_false, if_true, WS.put, topSet]
    have e5 : ∀ l, WS.word ⟨5, l :: st, false, root⟩ wEmpty = .ok ⟨6, l :: st, false, root⟩ := fun l => by
      simp only [WS.word, plainW, Nat.reduceEqDiff, if_false, if_true]
    have e6 : ∀ l, WS.word ⟨6, l :: st, false, root⟩ wContents = .ok ⟨7, l :: st, false, root⟩ := fun l => by
      simp only [WS.word, plainW, Nat.reduceEqDiff, if_false, if_true]
    rw [if_pos k1]
    refine ⟨WS.close ⟨10, ⟨n, emp⟩ :: st, false, root⟩, ?_, close_aft 10 n root emp st _ rfl rfl⟩
    cases hx : n.exec with
    | false =>
      rw [hx] at en
      show runW _ [wRegular, wContents, n.text, wClose] = _
      rw [runW_cons rfl (e3 _), runW_cons rfl (e4 _), runW_cons rfl (e7 _), runW_cons rfl (s10 _)]
      show Except.ok _ = _
      conv => rhs; rw [en]
      rfl
    | true =>
      rw [hx] at en
      show runW _ [wRegular, wExec, wEmpty, wContents, n.text, wClose] = _
      rw [runW_cons rfl (e3 _), runW_cons rfl (e4b _), runW_cons rfl (e5 _), runW_cons rfl (e6 _), runW_cons rfl (e7 _), runW_cons rfl (s10 _)]
      show Except.ok _ = _
      conv => rhs; rw [en]
      rfl
  · have hc := fld_leaf h2 (.inr k1)
    have en := leaf_of hc
    obtain ⟨hx, ht⟩ := fld_link h2 k1
    rw [k1, hx] at en
    have e3 : ∀ l, WS.word ⟨3, l :: st, false, root⟩ wSymlink = .ok ⟨8, kindSet 2 l :: st, false, root⟩ := fun l => by
      simp only [WS.word, plainW, Nat.reduceEqDiff, if_false, if_true, WS.put, topSet, if_neg wne1]
    have e8 : ∀ l, WS.word ⟨8, l :: st, false, root⟩ wTarget = .ok ⟨9, l :: st, false, root⟩ := fun l => by
      simp only [WS.word, plainW, Nat.reduceEqDiff, if_false, if_true]
    have e9 : ∀ l, WS.word ⟨9, l :: st, false, root⟩ n.text = .ok ⟨10, textSet n.text l :: st, false, root⟩ := fun l => by
      simp only [WS.word, plainW, Nat.reduceEqDiff, if_false, if_true, WS.put, topSet, ht, ne_eq, not_true_eq_false]
    rw [if_neg (by omega), if_pos k1]
    refine ⟨WS.close ⟨10, ⟨n, emp⟩ :: st, false, root⟩, ?_, close_aft 10 n root emp st _ rfl rfl⟩
    show runW _ [wSymlink, wTarget, n.text, wClose] = _
    rw [runW_cons rfl (e3 _), runW_cons rfl (e8 _), runW_cons rfl (e9 _), runW_cons rfl (s10 _)]
    show Except.ok _ = _
    conv => rhs; rw [en]
    rfl
  · obtain ⟨hx, ht⟩ := fld_dir h2 k1
    have hb : n.base = .leaf 3 false emp := by rw [base_eq, k1, hx, ht]
    have e3 : ∀ l, WS.word ⟨3, l :: st, false, root⟩ wDirectory = .ok ⟨11, kindSet 3 l :: st, false, root⟩ := fun l => by
      simp only [WS.word, plainW, Nat.reduceEqDiff, if_false, if_true, WS.put, topSet, if_neg wne2, if_neg wne3]
    rw [if_neg (by omega), if_neg (by omega)]
    obtain ⟨kd, hr⟩ := hk emp st root h3
    rw [hb] at hr
    refine ⟨WS.close ⟨11, ⟨n, kd⟩ :: st, false, root⟩, ?_, close_aft 11 n root kd st _ rfl rfl⟩
    show runW _ (wDirectory :: (n.kwords ++ [wClose])) = _
    rw [runW_cons rfl (e3 _)]
    show runW ⟨11, ⟨.leaf 3 false emp, emp⟩ :: st, false, root⟩ _ = _
    rw [runW_append hr, runW_cons rfl (s11 _)]
    rfl
theorem krun_all : ∀ n : ND, KRun n := by
  intro n
  induction n with
  | leaf k x t => exact fun kd r root _ => ⟨kd, rfl⟩
  | add p s c ihp ihc =>
    intro kd r root h
    obtain ⟨h1, h2, h3, h4⟩ := h
    obtain ⟨kd1, hr⟩ := ihp kd r root h1
    obtain ⟨y, hy, ha⟩ := nrun_of c ihc (⟨p, s⟩ :: r) root h4
    have e11 : WS.word ⟨11, ⟨p, kd1⟩ :: r, false, root⟩ wEntry = .ok ⟨12, ⟨p, kd1⟩ :: r, false, root⟩ := by
      simp only [WS.word, plainW, Nat.reduceEqDiff, if_false, if_true]
    have e12 : WS.word ⟨12, ⟨p, kd1⟩ :: r, false, root⟩ wOpen = .ok ⟨13, ⟨p, kd1⟩ :: r, false, root⟩ := by
      simp only [WS.word, plainW, Nat.reduceEqDiff, if_false, if_true]
    have e13 : WS.word ⟨13, ⟨p, kd1⟩ :: r, false, root⟩ wName = .ok ⟨14, ⟨p, kd1⟩ :: r, false, root⟩ := by
      simp only [WS.word, plainW, Nat.reduceEqDiff, if_false, if_true]
    have e14 : WS.word ⟨14, ⟨p, kd1⟩ :: r, false, root⟩ s = .ok ⟨15, ⟨p, s⟩ :: r, false, root⟩ := by
      simp only [WS.word, plainW, Nat.reduceEqDiff, if_false, if_true, topND, ne_eq, h2, not_true_eq_false]
      exact (if_neg h3).trans rfl
    have e15 : WS.word ⟨15, ⟨p, s⟩ :: r, false, root⟩ wNode = .ok ⟨1, ⟨p, s⟩ :: r, false, root⟩ := by
      simp only [WS.word, plainW, Nat.reduceEqDiff, if_false, if_true]
    have e16 : ∀ l, WS.word ⟨16, l :: r, false, root⟩ wClose = .ok ⟨11, l :: r, false, root⟩ := fun l => by
      simp only [WS.word, plainW, Nat.reduceEqDiff, if_false, if_true]
    refine ⟨s, ?_⟩
    have ek : (ND.add p s c).kwords = p.kwords ++ (wEntry :: wOpen :: wName :: s :: wNode :: (c.words ++ [wClose])) := by simp [ND.kwords, ND.words]
    rw [ek]
    show runW ⟨11, ⟨p.base, kd⟩ :: r, false, root⟩ _ = _
    rw [runW_append hr, runW_cons rfl e11, runW_cons rfl e12, runW_cons rfl e13, runW_cons rfl e14, runW_cons rfl e15, runW_append hy]
    have hy' : y = ⟨16, ⟨.add p s c, s⟩ :: r, false, root⟩ := ha
    subst hy'
    rw [runW_cons rfl (e16 _)]
    rfl
theorem run_arc (n root : ND) (h : n.Ok 1) : ∃ k, runW ⟨0, [], false, root⟩ (wMagic :: n.words) = .ok ⟨k, [], true, n⟩ := by
  obtain ⟨y, hy, k, ha⟩ := nrun_of n (krun_all n) [] root h
  subst ha
  refine ⟨k, ?_⟩
  have e0 : WS.word ⟨0, [], false, root⟩ wMagic = .ok ⟨1, [], false, root⟩ := by
    simp only [WS.word, plainW, if_true]
  rw [runW_cons rfl e0]
  exact hy
end Go.Proofs.Ytlcppkcclolgcaa

