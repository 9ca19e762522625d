/- Plain: file trees as data, their words, their sizes; where a tree lies in memory. -/
import Derived.Test.YtlcppkcclolgcaaWtext
namespace Go.Proofs.Ytlcppkcclolgcaa
set_option linter.unusedVariables false
set_option linter.unusedSimpArgs false
open Go.RowKit

/-- a node: its own fields, then its kids, the last one outermost -/
inductive ND where
  | leaf (kind : Int) (exec : Bool) (text : ByteArray)
  | add (p : ND) (name : ByteArray) (c : ND)
namespace ND
def kind : ND → Int
  | leaf k _ _ => k
  | add p _ _ => p.kind
def exec : ND → Bool
  | leaf _ x _ => x
  | add p _ _ => p.exec
def text : ND → ByteArray
  | leaf _ _ t => t
  | add p _ _ => p.text
def cnt : ND → Nat
  | leaf _ _ _ => 0
  | add p _ _ => p.cnt + 1
/-- the last kid's name -/
def last : ND → ByteArray
  | leaf _ _ _ => ⟨#[]⟩
  | add _ nm _ => nm
/-- its first i kids alone -/
def pre : ND → Nat → ND
  | leaf k x t, _ => leaf k x t
  | add p nm c, i => if i ≤ p.cnt then p.pre i else add p nm c
/-- its size, for inductions -/
def sz : ND → Nat
  | leaf _ _ _ => 1
  | add p _ c => p.sz + c.sz + 1
/-- all its strings and counts are of at most m -/
def small (m : Nat) : ND → Prop
  | leaf _ _ t => t.size ≤ m
  | add p nm c => p.small m ∧ nm.size ≤ m ∧ c.small m ∧ p.cnt + 1 ≤ m
theorem pre_kind (n : ND) (i : Nat) : (n.pre i).kind = n.kind := by
  induction n with
  | leaf => rfl
  | add p nm c ih _ => unfold pre; split <;> simp [kind, ih]
theorem pre_exec (n : ND) (i : Nat) : (n.pre i).exec = n.exec := by
  induction n with
  | leaf => rfl
  | add p nm c ih _ => unfold pre; split <;> simp [exec, ih]
theorem pre_text (n : ND) (i : Nat) : (n.pre i).text = n.text := by
  induction n with
  | leaf => rfl
  | add p nm c ih _ => unfold pre; split <;> simp [text, ih]
theorem pre_cnt (n : ND) (i : Nat) (h : i ≤ n.cnt) : (n.pre i).cnt = i := by
  induction n with
  | leaf => simp only [cnt] at h; simp only [pre, cnt]; omega
  | add p nm c ih _ =>
    simp only [cnt] at h
    unfold pre
    split
    · next h1 => exact ih h1
    · simp only [cnt]; omega
theorem pre_all (n : ND) : n.pre n.cnt = n := by
  cases n with
  | leaf => rfl
  | add p nm c =>
    show (if p.cnt + 1 ≤ p.cnt then p.pre (p.cnt + 1) else add p nm c) = _
    exact if_neg (by omega)
theorem pre_succ (n : ND) (i : Nat) (h : i < n.cnt) : ∃ nm c, n.pre (i + 1) = add (n.pre i) nm c ∧ c.sz < n.sz := by
  induction n with
  | leaf => simp [cnt] at h
  | add p nm c ih _ =>
    simp only [cnt] at h
    by_cases h1 : i < p.cnt
    · obtain ⟨m, d, e1, e2⟩ := ih h1
      refine ⟨m, d, ?_, by simp only [sz]; omega⟩
      simp only [pre]
      rw [if_pos (by omega), if_pos (by omega), e1]
    · have hi : i = p.cnt := by omega
      subst hi
      refine ⟨nm, c, ?_, by simp only [sz]; omega⟩
      simp only [pre]
      rw [if_neg (by omega), if_pos (Nat.le_refl _), pre_all]
theorem pre_small {n : ND} {m : Nat} (h : n.small m) (i : Nat) : (n.pre i).small m := by
  induction n with
  | leaf => exact h
  | add p nm c ih _ =>
    unfold pre
    split
    · exact ih h.1
    · exact h
/-- a node as a value: its kids' slice lies at a -/
def val (n : ND) (a : Option Addr) (cap : Nat) : Value := .agg #[.int .i64 n.kind, .bool n.exec, .string n.text, .slice a n.cnt cap]
/-- the kids of a node lie from x on, all of it below block B -/
def At (B : Nat) (w : World) (x : Addr) : ND → Prop
  | leaf _ _ _ => True
  | add p nm c => p.At B w x ∧ x.block < B ∧ ∃ a cap, w.cell? (x.add (p.cnt * 5)) = some (.string nm) ∧ w.cell? ⟨(x.add (p.cnt * 5)).block, (x.add (p.cnt * 5)).off + 1, none⟩ = some (.int .i64 c.kind) ∧ w.cell? ⟨(x.add (p.cnt * 5)).block, (x.add (p.cnt * 5)).off + 2, none⟩ = some (.bool c.exec) ∧
      w.cell? ⟨(x.add (p.cnt * 5)).block, (x.add (p.cnt * 5)).off + 3, none⟩ = some (.string c.text) ∧ w.cell? ⟨(x.add (p.cnt * 5)).block, (x.add (p.cnt * 5)).off + 4, none⟩ = some (.slice a c.cnt cap) ∧ (c.cnt = 0 ∨ ∃ y, a = some y ∧ c.At B w y)
/-- the kids of a node lie where its slice says -/
def In (B : Nat) (w : World) (a : Option Addr) (n : ND) : Prop := n.cnt = 0 ∨ ∃ y, a = some y ∧ n.At B w y
theorem At.below {B B' : Nat} {w w' : World} (hb : Below B' w w') (hB : B ≤ B') : ∀ {n : ND} {x : Addr}, n.At B w x → n.At B w' x := by
  intro n
  induction n with
  | leaf => intro x _; trivial
  | add p nm c ih1 ih2 =>
    intro x h
    obtain ⟨h1, h2, a, cap, c0, c1, c2, c3, c4, h3⟩ := h
    have hk : ∀ q : Addr, q.block = x.block → w'.cell? q = w.cell? q := fun q e => hb.cell (by rw [e]; omega)
    refine ⟨ih1 h1, h2, a, cap, (hk (x.add (p.cnt * 5)) (block_add _ _)).trans c0, (hk ⟨(x.add (p.cnt * 5)).block, (x.add (p.cnt * 5)).off + 1, none⟩ (block_add _ _)).trans c1, (hk ⟨(x.add (p.cnt * 5)).block, (x.add (p.cnt * 5)).off + 2, none⟩ (block_add _ _)).trans c2, (hk ⟨(x.add (p.cnt * 5)).block, (x.add (p.cnt * 5)).off + 3, none⟩ (block_add _ _)).trans c3, (hk ⟨(x.add (p.cnt * 5)).block, (x.add (p.cnt * 5)).off + 4, none⟩ (block_add _ _)).trans c4, ?_⟩
    rcases h3 with h3 | ⟨y, e, h3⟩
    · exact .inl h3
    · exact .inr ⟨y, e, ih2 h3⟩
theorem In.below {B B' : Nat} {w w' : World} (hb : Below B' w w') (hB : B ≤ B') {n : ND} {a : Option Addr} (h : n.In B w a) : n.In B w' a := by
  rcases h with h | ⟨y, e, h⟩
  · exact .inl h
  · exact .inr ⟨y, e, h.below hb hB⟩
/-- the kid at i -/
theorem At.kid {B : Nat} {w : World} {x : Addr} : ∀ {n : ND}, n.At B w x → ∀ {i : Nat}, i < n.cnt → ∃ nm c, n.pre (i + 1) = add (n.pre i) nm c ∧ c.sz < n.sz ∧ (∀ m, n.small m → nm.size ≤ m ∧ c.small m) ∧ x.block < B ∧
    ∃ a cap, w.cell? (x.add (i * 5)) = some (.string nm) ∧ w.cell? ⟨(x.add (i * 5)).block, (x.add (i * 5)).off + 1, none⟩ = some (.int .i64 c.kind) ∧ w.cell? ⟨(x.add (i * 5)).block, (x.add (i * 5)).off + 2, none⟩ = some (.bool c.exec) ∧
      w.cell? ⟨(x.add (i * 5)).block, (x.add (i * 5)).off + 3, none⟩ = some (.string c.text) ∧ w.cell? ⟨(x.add (i * 5)).block, (x.add (i * 5)).off + 4, none⟩ = some (.slice a c.cnt cap) ∧ c.In B w a := by
  intro n
  induction n with
  | leaf => intro _ i h; simp [cnt] at h
  | add p nm c ih _ =>
    intro h i hi
    obtain ⟨h1, h2, a, cap, c0, c1, c2, c3, c4, h3⟩ := h
    simp only [cnt] at hi
    by_cases hlt : i < p.cnt
    · obtain ⟨m, d, e1, e2, e5, e3, e4⟩ := ih h1 hlt
      refine ⟨m, d, ?_, by simp only [sz]; omega, fun mm hs => e5 mm hs.1, e3, e4⟩
      simp only [pre]
      rw [if_pos (by omega), if_pos (by omega), e1]
    · have hi : i = p.cnt := by omega
      subst hi
      refine ⟨nm, c, ?_, by simp only [sz]; omega, fun mm hs => ⟨hs.2.1, hs.2.2.1⟩, h2, a, cap, c0, c1, c2, c3, c4, h3⟩
      simp only [pre]
      rw [if_neg (by omega), if_pos (Nat.le_refl _), pre_all]
end ND
/-! ### words -/
def fr (n : Nat) : Nat := 8 + (n + 7) / 8 * 8
def frSum (ss : List ByteArray) : Nat := (ss.map fun s => fr s.size).sum
def wMagic : ByteArray := ⟨#[100, 101, 112, 111, 116, 45, 97, 114, 99, 104, 105, 118, 101, 45, 49]⟩
def wOpen : ByteArray := ⟨#[40]⟩
def wClose : ByteArray := ⟨#[41]⟩
def wType : ByteArray := ⟨#[116, 121, 112, 101]⟩
def wRegular : ByteArray := ⟨#[114, 101, 103, 117, 108, 97, 114]⟩
def wExec : ByteArray := ⟨#[101, 120, 101, 99, 117, 116, 97, 98, 108, 101]⟩
def wEmpty : ByteArray := ⟨#[]⟩
def wContents : ByteArray := ⟨#[99, 111, 110, 116, 101, 110, 116, 115]⟩
def wSymlink : ByteArray := ⟨#[115, 121, 109, 108, 105, 110, 107]⟩
def wTarget : ByteArray := ⟨#[116, 97, 114, 103, 101, 116]⟩
def wDirectory : ByteArray := ⟨#[100, 105, 114, 101, 99, 116, 111, 114, 121]⟩
def wEntry : ByteArray := ⟨#[101, 110, 116, 114, 121]⟩
def wName : ByteArray := ⟨#[110, 97, 109, 101]⟩
def wNode : ByteArray := ⟨#[110, 111, 100, 101]⟩
namespace ND
/-- a node's words, its kids' being k -/
def wordsOf (n : ND) (k : List ByteArray) : List ByteArray :=
  [wOpen, wType] ++ (if n.kind = 1 then [wRegular] ++ (if n.exec then [wExec, wEmpty] else []) ++ [wContents, n.text]
    else if n.kind = 2 then [wSymlink, wTarget, n.text] else [wDirectory] ++ k) ++ [wClose]
/-- the words of the kids -/
def kwords : ND → List ByteArray
  | leaf _ _ _ => []
  | add p nm c => p.kwords ++ [wEntry, wOpen, wName, nm, wNode] ++ c.wordsOf c.kwords ++ [wClose]
def words (n : ND) : List ByteArray := n.wordsOf n.kwords
end ND
/-- words, framed -/
def frames (ws : List ByteArray) : List Nat := ws.flatMap fun s => frameL (nb s)
theorem frames_nil : frames [] = [] := rfl
theorem frames_cons (s : ByteArray) (r : List ByteArray) : frames (s :: r) = frameL (nb s) ++ frames r := rfl
theorem frames_append (a b : List ByteArray) : frames (a ++ b) = frames a ++ frames b := by simp [frames]
theorem frames_length (ws : List ByteArray) : (frames ws).length = frSum ws := by
  induction ws with
  | nil => rfl
  | cons s r ih =>
    rw [frames_cons, List.length_append, ih, frameL_length, nb_length]
    rfl
theorem frSum_append (a b : List ByteArray) : frSum (a ++ b) = frSum a + frSum b := by simp [frSum]
theorem frames_bytes (ws : List ByteArray) : Bytes (frames ws) := by
  induction ws with
  | nil => intro x hx; cases hx
  | cons s r ih =>
    intro x hx
    rw [frames_cons, List.mem_append] at hx
    rcases hx with hx | hx
    · exact frameL_bytes _ (nb_bytes s) x hx
    · exact ih x hx
/-- the archive of a tree -/
def arc (n : ND) : List Nat := frames (wMagic :: n.words)
end Go.Proofs.Ytlcppkcclolgcaa

