/- A parser in memory. -/
import Derived.Test.YtlcppkcclolgcaaRw
namespace Go.Proofs.Ytlcppkcclolgcaa
set_option linter.unusedVariables false
set_option linter.unusedSimpArgs false
open Go.RowKit

theorem addr_add0 (g j : Nat) : (⟨g, 0, none⟩ : Addr).add j = ⟨g, j, none⟩ := by unfold Addr.add; split <;> simp_all
theorem owns_kept {w w' : World} {B : Nat} {e : TypeId} {sz : Nat} {v : Value} {n : Nat} {xs : List Value} (h : w.ownsRow B e sz v n xs) (hk : ∀ b, b < w.heap.size → v.ownBlock = some b → w'.heap[b]? = w.heap[b]?) : w'.ownsRow B e sz v n xs := by
  obtain ⟨h1, h2 | ⟨g, cap, cur, rfl, hb, hg, rest⟩⟩ := h
  · exact ⟨h1, .inl h2⟩
  · exact ⟨h1, .inr ⟨g, cap, cur, rfl, hb, (hk g (lt_of_row hg) rfl).trans hg, rest⟩⟩
/-- the kids of a node lie from x on, all of it in blocks of S -/
def ND.AtS (S : Nat → Prop) (w : World) (x : Addr) : ND → Prop
  | leaf _ _ _ => True
  | add p nm c => p.AtS S w x ∧ S x.block ∧ ∃ a cap, w.cell? (x.add (p.cnt * 5)) = some (.string nm) ∧ w.cell? ⟨(x.add (p.cnt * 5)).block, (x.add (p.cnt * 5)).off + 1, none⟩ = some (.int .i64 c.kind) ∧ w.cell? ⟨(x.add (p.cnt * 5)).block, (x.add (p.cnt * 5)).off + 2, none⟩ = some (.bool c.exec) ∧
      w.cell? ⟨(x.add (p.cnt * 5)).block, (x.add (p.cnt * 5)).off + 3, none⟩ = some (.string c.text) ∧ w.cell? ⟨(x.add (p.cnt * 5)).block, (x.add (p.cnt * 5)).off + 4, none⟩ = some (.slice a c.cnt cap) ∧ (c.cnt = 0 ∨ ∃ y, a = some y ∧ c.AtS S w y)
def ND.InS (S : Nat → Prop) (w : World) (a : Option Addr) (n : ND) : Prop := n.cnt = 0 ∨ ∃ y, a = some y ∧ n.AtS S w y
theorem ND.AtS.kept {S S' : Nat → Prop} {w w' : World} (hk : ∀ b, b < w.heap.size → S b → w'.heap[b]? = w.heap[b]? ∧ S' b) : ∀ {n : ND} {x : Addr}, n.AtS S w x → n.AtS S' w' x := by
  intro n
  induction n with
  | leaf => intro x _; trivial
  | add p nm c ih1 ih2 =>
    intro x h
    obtain ⟨h1, h2, a, cap, c0, c1, c2, c3, c4, h3⟩ := h
    have hl : x.block < w.heap.size := by have := block_lt_of_cell c0; rwa [block_add] at this
    obtain ⟨hx, hs⟩ := hk _ hl h2
    have hc : ∀ q : Addr, q.block = x.block → w'.cell? q = w.cell? q := fun q e => World.cell?_of_block (by rw [e]; exact hx)
    refine ⟨ih1 h1, hs, a, cap, (hc (x.add (p.cnt * 5)) (block_add _ _)).trans c0, (hc ⟨(x.add (p.cnt * 5)).block, (x.add (p.cnt * 5)).off + 1, none⟩ (block_add _ _)).trans c1, (hc ⟨(x.add (p.cnt * 5)).block, (x.add (p.cnt * 5)).off + 2, none⟩ (block_add _ _)).trans c2, (hc ⟨(x.add (p.cnt * 5)).block, (x.add (p.cnt * 5)).off + 3, none⟩ (block_add _ _)).trans c3, (hc ⟨(x.add (p.cnt * 5)).block, (x.add (p.cnt * 5)).off + 4, none⟩ (block_add _ _)).trans c4, ?_⟩
    rcases h3 with h3 | ⟨y, e, h3⟩
    · exact .inl h3
    · exact .inr ⟨y, e, ih2 h3⟩
theorem ND.InS.kept {S S' : Nat → Prop} {w w' : World} (hk : ∀ b, b < w.heap.size → S b → w'.heap[b]? = w.heap[b]? ∧ S' b) {n : ND} {a : Option Addr} (h : n.InS S w a) : n.InS S' w' a := by
  rcases h with h | ⟨y, e, h⟩
  · exact .inl h
  · exact .inr ⟨y, e, h.kept hk⟩
theorem ND.AtS.at_ {S : Nat → Prop} {w : World} : ∀ {n : ND} {x : Addr}, n.AtS S w x → n.At w.heap.size w x := by
  intro n
  induction n with
  | leaf => intro x _; trivial
  | add p nm c ih1 ih2 =>
    intro x h
    obtain ⟨h1, h2, a, cap, c0, c1, c2, c3, c4, h3⟩ := h
    have hl : x.block < w.heap.size := by have := block_lt_of_cell c0; rwa [block_add] at this
    refine ⟨ih1 h1, hl, a, cap, c0, c1, c2, c3, c4, ?_⟩
    rcases h3 with h3 | ⟨y, e, h3⟩
    · exact .inl h3
    · exact .inr ⟨y, e, ih2 h3⟩
theorem ND.InS.in_ {S : Nat → Prop} {w : World} {n : ND} {a : Option Addr} (h : n.InS S w a) : n.In w.heap.size w a := by
  rcases h with h | ⟨y, e, h⟩
  · exact .inl h
  · exact .inr ⟨y, e, h.at_⟩
/-- the cells of a node's kids -/
def ND.KC (S : Nat → Prop) (w : World) : ND → List Value → Prop
  | leaf _ _ _, cs => cs = []
  | add p nm c, cs => ∃ cp a cap, cs = cp ++ [.string nm, .int .i64 c.kind, .bool c.exec, .string c.text, .slice a c.cnt cap] ∧ p.KC S w cp ∧ c.InS S w a
theorem ND.KC.kept {S S' : Nat → Prop} {w w' : World} (hk : ∀ b, b < w.heap.size → S b → w'.heap[b]? = w.heap[b]? ∧ S' b) : ∀ {n : ND} {cs : List Value}, n.KC S w cs → n.KC S' w' cs := by
  intro n
  induction n with
  | leaf => intro cs h; exact h
  | add p nm c ih _ =>
    rintro cs ⟨cp, a, cap, e, h1, h2⟩
    exact ⟨cp, a, cap, e, ih h1, h2.kept hk⟩
theorem ND.KC.len {S : Nat → Prop} {w : World} : ∀ {n : ND} {cs : List Value}, n.KC S w cs → cs.length = n.cnt * 5 := by
  intro n
  induction n with
  | leaf => intro cs h; rw [h]; simp [cnt]
  | add p nm c ih _ =>
    rintro cs ⟨cp, a, cap, rfl, h1, h2⟩
    simp only [List.length_append, ih h1, cnt, List.length_cons, List.length_nil]
    omega
theorem ND.KC.own_ {S : Nat → Prop} {w : World} (k : Int) (x : Bool) (t : ByteArray) : ∀ {n : ND} {cs : List Value}, n.KC S w cs → (n.own k x t).KC S w cs := by
  intro n
  induction n with
  | leaf => intro cs h; exact h
  | add p nm c ih _ =>
    rintro cs ⟨cp, a, cap, e, h1, h2⟩
    exact ⟨cp, a, cap, e, ih h1, h2⟩
theorem own_cnt (n : ND) (k : Int) (x : Bool) (t : ByteArray) : (n.own k x t).cnt = n.cnt := by
  induction n with
  | leaf => rfl
  | add p s c ih _ => simp [ND.own, ND.cnt, ih]
theorem own_kind (n : ND) (k : Int) (x : Bool) (t : ByteArray) : (n.own k x t).kind = k ∧ (n.own k x t).exec = x ∧ (n.own k x t).text = t := by
  induction n with
  | leaf => exact ⟨rfl, rfl, rfl⟩
  | add p s c ih _ => exact ih
/-- kids in a row of their own -/
theorem ND.KC.row {S : Nat → Prop} {w : World} {g : Nat} {t : TypeId} {fz : Nat × Nat} (hg : S g) : ∀ {n : ND} {cs : List Value} (cur : Array Value), w.heap[g]? = some (.cells cur t fz) → cur.toList.take cs.length = cs → n.KC S w cs → n.AtS S w ⟨g, 0, none⟩ := by
  intro n
  induction n with
  | leaf => intro cs cur _ _ _; trivial
  | add p nm c ih _ =>
    intro cs cur h1 h2 h3
    have hl := ND.KC.len h3
    obtain ⟨cp, a, cap, rfl, h4, h5⟩ := h3
    have hp := ND.KC.len h4
    have h2p : cur.toList.take cp.length = cp := by
      have := congrArg (List.take cp.length) h2
      rw [List.take_take, List.take_left, Nat.min_eq_left (by simp)] at this
      exact this
    have hc : ∀ j (hj : j < 5), w.cell? ⟨g, p.cnt * 5 + j, none⟩ = [Value.string nm, .int .i64 c.kind, .bool c.exec, .string c.text, .slice a c.cnt cap][j]? := by
      intro j hj
      rw [cell_of_row w g _ _ _ _ h1]
      have e1 : cur[p.cnt * 5 + j]? = cur.toList[p.cnt * 5 + j]? := by simp
      have e2 : (cur.toList.take (cp ++ [Value.string nm, .int .i64 c.kind, .bool c.exec, .string c.text, .slice a c.cnt cap]).length)[p.cnt * 5 + j]? = cur.toList[p.cnt * 5 + j]? := by
        rw [List.getElem?_take, if_pos (by simp; omega)]
      rw [e1, ← e2, h2, List.getElem?_append_right (by omega), show p.cnt * 5 + j - cp.length = j by omega]
    refine ⟨ih cur h1 h2p h4, hg, a, cap, ?_⟩
    rw [addr_add0]
    exact ⟨hc 0 (by omega), hc 1 (by omega), hc 2 (by omega), hc 3 (by omega), hc 4 (by omega), h5⟩
def lvCells (l : Lv) (kv : Value) : List Value := [.int .i64 l.node.kind, .bool l.node.exec, .string l.node.text, kv, .string l.kid]
/-- the cells of the nodes that are open -/
def StC (fl : Nat → Nat) (w : World) (B : Nat) : List Lv → List Value → Prop
  | [], cs => cs = []
  | l :: r, cs => ∃ cr kv ks, cs = cr ++ lvCells l kv ∧ StC fl w B r cr ∧ w.ownsRow B 79 5 kv l.node.cnt ks ∧ l.node.KC (fun b => fl b = 0) w ks ∧ ∀ b, kv.ownBlock = some b → fl b = 5 + r.length
theorem StC.kept {fl fl' : Nat → Nat} {w w' : World} {B : Nat} : ∀ {st : List Lv} {cs : List Value}, (∀ b, b < w.heap.size → fl b = 0 → w'.heap[b]? = w.heap[b]? ∧ fl' b = 0) → (∀ b, b < w.heap.size → 5 ≤ fl b → fl b < 5 + st.length → w'.heap[b]? = w.heap[b]? ∧ fl' b = fl b) →
    StC fl w B st cs → StC fl' w' B st cs
  | [], cs, _, _, h => h
  | l :: r, cs, h0, h5, ⟨cr, kv, ks, e, h1, h2, h3, h4⟩ => by
    have hlt : ∀ b, kv.ownBlock = some b → b < w.heap.size := fun b hb => (h2.lt b hb).2
    refine ⟨cr, kv, ks, e, h1.kept h0 (fun b hb h6 h7 => h5 b hb h6 (by simp only [List.length_cons]; omega)), owns_kept h2 (fun b hb hk => ?_), h3.kept h0, fun b hb => ?_⟩
    · exact (h5 b hb (by rw [h4 b hk]; omega) (by rw [h4 b hk]; simp)).1
    · rw [(h5 b (hlt b hb) (by rw [h4 b hb]; omega) (by rw [h4 b hb]; simp)).2, h4 b hb]
theorem StC.len {fl : Nat → Nat} {w : World} {B : Nat} : ∀ {st : List Lv} {cs : List Value}, StC fl w B st cs → cs.length = st.length * 5
  | [], cs, h => by rw [h]; rfl
  | l :: r, cs, ⟨cr, kv, ks, e, h1, _⟩ => by rw [e, List.length_append, h1.len]; simp [lvCells]; omega
def pcells (p : PS) (gf : Nat) (sv rv : Value) : Array Value :=
  #[.int .i64 (p.at_ : Nat), .int .i64 (p.start : Nat), .int .i64 p.code, .int .i64 (p.fat : Nat), .bool p.shut, .bool true, .bool p.x.whole, .int .i64 (p.x.next : Nat), .pointer (some ⟨gf, 0, none⟩), sv, .int .i64 p.x.root.kind, .bool p.x.root.exec, .string p.x.root.text, rv]
/-- a parser in block gp, its reader left out; each block that it owns has a label: 1 its own, 2 and 3 the reader's, 4 the stack's, 5 + i the kids' of the open node i -/
structure PaW (w0 : World) (S : Nat → Prop) (w : World) (B gp : Nat) (fl : Nat → Nat) (p : PS) (gf : Nat) (sv rv : Value) : Prop where
  row : w.heap[gp]? = some (.cells (pcells p gf sv rv) 52 (0, 0))
  lab : fl gp = 1
  hB : ∀ k, fl k ≠ 0 → B ≤ k ∧ k < w.heap.size
  sl : ∀ k, fl k ≠ 0 → k < w0.heap.size → S k
  away : Away w0 S w
  stk : ∃ cs, w.ownsRow B 110 5 sv p.x.stack.length cs ∧ StC fl w B p.x.stack cs ∧ ∀ k, sv.ownBlock = some k → fl k = 4
  root : ∃ a cap, rv = .slice a p.x.root.cnt cap ∧ p.x.root.InS (fun b => fl b = 0) w a
section
variable {w0 w w' : World} {S : Nat → Prop} {B gp : Nat} {fl : Nat → Nat} {p : PS} {gf : Nat} {sv rv : Value}
theorem PaW.cell (H : PaW w0 S w B gp fl p gf sv rv) (i : Nat) : w.cell? ⟨gp, i, none⟩ = (pcells p gf sv rv)[i]? := cell_of_row w gp i _ _ _ H.row
theorem PaW.free (H : PaW w0 S w B gp fl p gf sv rv) (i : Nat) : w.frozen? ⟨gp, i, none⟩ = false := frozen_of_row w gp i _ _ H.row
theorem PaW.lt (H : PaW w0 S w B gp fl p gf sv rv) : gp < w.heap.size := lt_of_row H.row
theorem PaW.c0 (H : PaW w0 S w B gp fl p gf sv rv) : w.cell? ⟨gp, 0, none⟩ = some (.int .i64 (p.at_ : Nat)) := H.cell 0
theorem PaW.c1 (H : PaW w0 S w B gp fl p gf sv rv) : w.cell? ⟨gp, 1, none⟩ = some (.int .i64 (p.start : Nat)) := H.cell 1
theorem PaW.c2 (H : PaW w0 S w B gp fl p gf sv rv) : w.cell? ⟨gp, 2, none⟩ = some (.int .i64 p.code) := H.cell 2
theorem PaW.c3 (H : PaW w0 S w B gp fl p gf sv rv) : w.cell? ⟨gp, 3, none⟩ = some (.int .i64 (p.fat : Nat)) := H.cell 3
theorem PaW.c4 (H : PaW w0 S w B gp fl p gf sv rv) : w.cell? ⟨gp, 4, none⟩ = some (.bool p.shut) := H.cell 4
theorem PaW.c5 (H : PaW w0 S w B gp fl p gf sv rv) : w.cell? ⟨gp, 5, none⟩ = some (.bool true) := H.cell 5
theorem PaW.c6 (H : PaW w0 S w B gp fl p gf sv rv) : w.cell? ⟨gp, 6, none⟩ = some (.bool p.x.whole) := H.cell 6
theorem PaW.c7 (H : PaW w0 S w B gp fl p gf sv rv) : w.cell? ⟨gp, 7, none⟩ = some (.int .i64 (p.x.next : Nat)) := H.cell 7
theorem PaW.c8 (H : PaW w0 S w B gp fl p gf sv rv) : w.cell? ⟨gp, 8, none⟩ = some (.pointer (some ⟨gf, 0, none⟩)) := H.cell 8
theorem PaW.c9 (H : PaW w0 S w B gp fl p gf sv rv) : w.cell? ⟨gp, 9, none⟩ = some sv := H.cell 9
/-- some blocks have changed, some have other labels -/
theorem PaW.kept {fl' : Nat → Nat} {p' : PS} {gf' : Nat} (H : PaW w0 S w B gp fl p gf sv rv) (hrow : w'.heap[gp]? = some (.cells (pcells p' gf' sv rv) 52 (0, 0))) (ha : Away w0 S w')
    (hk : ∀ b, b < w.heap.size → fl b ≠ 2 → fl b ≠ 3 → fl' b = fl b ∧ (b ≠ gp → w'.heap[b]? = w.heap[b]?)) (hB : ∀ k, fl' k ≠ 0 → B ≤ k ∧ k < w'.heap.size) (hsl : ∀ k, fl' k ≠ 0 → k < w0.heap.size → S k)
    (hst : p'.x.stack = p.x.stack) (hrt : p'.x.root = p.x.root) : PaW w0 S w' B gp fl' p' gf' sv rv := by
  obtain ⟨cs, h1, h2, h3⟩ := H.stk
  obtain ⟨a, cap, e, h4⟩ := H.root
  have hlab := H.lab
  have k0 : ∀ b, b < w.heap.size → fl b = 0 → w'.heap[b]? = w.heap[b]? ∧ fl' b = 0 := fun b hb h0 => by
    obtain ⟨ha, hb⟩ := hk b hb (by omega) (by omega)
    exact ⟨hb (fun e => by rw [e] at h0; omega), by omega⟩
  refine ⟨hrow, ?_, hB, hsl, ha, ⟨cs, ?_, ?_, ?_⟩, a, cap, ?_, ?_⟩
  · rw [(hk gp H.lt (by omega) (by omega)).1, hlab]
  · rw [hst]
    exact owns_kept h1 (fun b hb hv => (hk b hb (by rw [h3 b hv]; omega) (by rw [h3 b hv]; omega)).2 (fun e => by have := h3 b hv; rw [e] at this; omega))
  · rw [hst]
    exact h2.kept k0 (fun b hb h5 _ => ⟨(hk b hb (by omega) (by omega)).2 (fun e => by rw [e] at h5; omega), (hk b hb (by omega) (by omega)).1⟩)
  · intro k hv
    rw [(hk k (h1.lt k hv).2 (by rw [h3 k hv]; omega) (by rw [h3 k hv]; omega)).1, h3 k hv]
  · rw [hrt]; exact e
  · rw [hrt]; exact h4.kept k0
theorem PaW.later (H : PaW w0 S w B gp fl p gf sv rv) (hb : Below w.heap.size w w') : PaW w0 S w' B gp fl p gf sv rv :=
  H.kept ((hb.block _ H.lt).trans H.row) (H.away.later hb) (fun b hl _ _ => ⟨rfl, fun _ => hb.block b hl⟩) (fun k hk => ⟨(H.hB k hk).1, Nat.lt_of_lt_of_le (H.hB k hk).2 hb.size⟩) H.sl rfl rfl
/-- a field of the parser's own -/
theorem PaW.put {p' : PS} {gf' : Nat} (H : PaW w0 S w B gp fl p gf sv rv) (i : Nat) (x : Value) (hc : (pcells p gf sv rv).setIfInBounds i x = pcells p' gf' sv rv) (hst : p'.x.stack = p.x.stack) (hrt : p'.x.root = p.x.root) : PaW w0 S (w.setCell ⟨gp, i, none⟩ x) B gp fl p' gf' sv rv := by
  refine H.kept ?_ (H.away.set gp i x (H.sl gp (by rw [H.lab]; omega))) (fun b hl _ _ => ⟨rfl, fun hne => Below.heap_setCell _ _ _ _ hne⟩) (fun k hk => ⟨(H.hB k hk).1, by simpa [World.setCell] using (H.hB k hk).2⟩) H.sl hst hrt
  rw [heap_setCell_same w gp i _ _ _ H.row, hc]
end
end Go.Proofs.Ytlcppkcclolgcaa

