/- A parser in memory. The walks of the parser's small functions: fail, top, plainWord, open. The walks of the parser's open and name. The walk of the parser's name. -/
import Derived.Test.YtlcppkcclolgcaaDoorDBe
namespace Go.Proofs.YtlcppkcclolgcaaDoor
set_option linter.unusedVariables false
set_option linter.unusedSimpArgs false
open Go.RowKit

theorem addr_add0 (g j : Nat) : (⟨g, 0, none⟩ : Addr).add j = ⟨g, j, none⟩ := by unfold Addr.add; split <;> simp_all
theorem owns_kept {w w' : World} {B : Nat} {e : TypeId} {sz : Nat} {v : Value} {n : Nat} {xs : List Value} (h : w.ownsRow B e sz v n xs) (hk : ∀ b, b < w.heap.size → v.ownBlock = some b → w'.heap[b]? = w.heap[b]?) : w'.ownsRow B e sz v n xs := by
  obtain ⟨h1, h2 | ⟨g, cap, cur, rfl, hb, hg, rest⟩⟩ := h
  · exact ⟨h1, .inl h2⟩
  · exact ⟨h1, .inr ⟨g, cap, cur, rfl, hb, (hk g (lt_of_row hg) rfl).trans hg, rest⟩⟩
/-- the kids of a node lie from x on, all of it in blocks of S -/
def ND.AtS (S : Nat → Prop) (w : World) (x : Addr) : ND → Prop
  | leaf _ _ _ => True
  | add p nm c => p.AtS S w x ∧ S x.block ∧ ∃ a cap, w.cell? (x.add (p.cnt * 5)) = some (.string nm) ∧ w.cell? ⟨(x.add (p.cnt * 5)).block, (x.add (p.cnt * 5)).off + 1, none⟩ = some (.int .i64 c.kind) ∧ w.cell? ⟨(x.add (p.cnt * 5)).block, (x.add (p.cnt * 5)).off + 2, none⟩ = some (.bool c.exec) ∧
      w.cell? ⟨(x.add (p.cnt * 5)).block, (x.add (p.cnt * 5)).off + 3, none⟩ = some (.string c.text) ∧ w.cell? ⟨(x.add (p.cnt * 5)).block, (x.add (p.cnt * 5)).off + 4, none⟩ = some (.slice a c.cnt cap) ∧ (c.cnt = 0 ∨ ∃ y, a = some y ∧ c.AtS S w y)
def ND.InS (S : Nat → Prop) (w : World) (a : Option Addr) (n : ND) : Prop := n.cnt = 0 ∨ ∃ y, a = some y ∧ n.AtS S w y
theorem ND.AtS.kept {S S' : Nat → Prop} {w w' : World} (hk : ∀ b, b < w.heap.size → S b → w'.heap[b]? = w.heap[b]? ∧ S' b) : ∀ {n : ND} {x : Addr}, n.AtS S w x → n.AtS S' w' x := by
  intro n
  induction n with
  | leaf => intro x _; trivial
  | add p nm c ih1 ih2 =>
    intro x h
    obtain ⟨h1, h2, a, cap, c0, c1, c2, c3, c4, h3⟩ := h
    have hl : x.block < w.heap.size := by have := block_lt_of_cell c0; rwa [block_add] at this
    obtain ⟨hx, hs⟩ := hk _ hl h2
    have hc : ∀ q : Addr, q.block = x.block → w'.cell? q = w.cell? q := fun q e => World.cell?_of_block (by rw [e]; exact hx)
    refine ⟨ih1 h1, hs, a, cap, (hc (x.add (p.cnt * 5)) (block_add _ _)).trans c0, (hc ⟨(x.add (p.cnt * 5)).block, (x.add (p.cnt * 5)).off + 1, none⟩ (block_add _ _)).trans c1, (hc ⟨(x.add (p.cnt * 5)).block, (x.add (p.cnt * 5)).off + 2, none⟩ (block_add _ _)).trans c2, (hc ⟨(x.add (p.cnt * 5)).block, (x.add (p.cnt * 5)).off + 3, none⟩ (block_add _ _)).trans c3, (hc ⟨(x.add (p.cnt * 5)).block, (x.add (p.cnt * 5)).off + 4, none⟩ (block_add _ _)).trans c4, ?_⟩
    rcases h3 with h3 | ⟨y, e, h3⟩
    · exact .inl h3
    · exact .inr ⟨y, e, ih2 h3⟩
theorem ND.InS.kept {S S' : Nat → Prop} {w w' : World} (hk : ∀ b, b < w.heap.size → S b → w'.heap[b]? = w.heap[b]? ∧ S' b) {n : ND} {a : Option Addr} (h : n.InS S w a) : n.InS S' w' a := by
  rcases h with h | ⟨y, e, h⟩
  · exact .inl h
  · exact .inr ⟨y, e, h.kept hk⟩
theorem ND.AtS.at_ {S : Nat → Prop} {w : World} : ∀ {n : ND} {x : Addr}, n.AtS S w x → n.At w.heap.size w x := by
  intro n
  induction n with
  | leaf => intro x _; trivial
  | add p nm c ih1 ih2 =>
    intro x h
    obtain ⟨h1, h2, a, cap, c0, c1, c2, c3, c4, h3⟩ := h
    have hl : x.block < w.heap.size := by have := block_lt_of_cell c0; rwa [block_add] at this
    refine ⟨ih1 h1, hl, a, cap, c0, c1, c2, c3, c4, ?_⟩
    rcases h3 with h3 | ⟨y, e, h3⟩
    · exact .inl h3
    · exact .inr ⟨y, e, ih2 h3⟩
theorem ND.InS.in_ {S : Nat → Prop} {w : World} {n : ND} {a : Option Addr} (h : n.InS S w a) : n.In w.heap.size w a := by
  rcases h with h | ⟨y, e, h⟩
  · exact .inl h
  · exact .inr ⟨y, e, h.at_⟩
/-- the cells of a node's kids -/
def ND.KC (S : Nat → Prop) (w : World) : ND → List Value → Prop
  | leaf _ _ _, cs => cs = []
  | add p nm c, cs => ∃ cp a cap, cs = cp ++ [.string nm, .int .i64 c.kind, .bool c.exec, .string c.text, .slice a c.cnt cap] ∧ p.KC S w cp ∧ c.InS S w a
theorem ND.KC.kept {S S' : Nat → Prop} {w w' : World} (hk : ∀ b, b < w.heap.size → S b → w'.heap[b]? = w.heap[b]? ∧ S' b) : ∀ {n : ND} {cs : List Value}, n.KC S w cs → n.KC S' w' cs := by
  intro n
  induction n with
  | leaf => intro cs h; exact h
  | add p nm c ih _ =>
    rintro cs ⟨cp, a, cap, e, h1, h2⟩
    exact ⟨cp, a, cap, e, ih h1, h2.kept hk⟩
theorem ND.KC.len {S : Nat → Prop} {w : World} : ∀ {n : ND} {cs : List Value}, n.KC S w cs → cs.length = n.cnt * 5 := by
  intro n
  induction n with
  | leaf => intro cs h; rw [h]; simp [cnt]
  | add p nm c ih _ =>
    rintro cs ⟨cp, a, cap, rfl, h1, h2⟩
    simp only [List.length_append, ih h1, cnt, List.length_cons, List.length_nil]
    omega
theorem ND.KC.own_ {S : Nat → Prop} {w : World} (k : Int) (x : Bool) (t : ByteArray) : ∀ {n : ND} {cs : List Value}, n.KC S w cs → (n.own k x t).KC S w cs := by
  intro n
  induction n with
  | leaf => intro cs h; exact h
  | add p nm c ih _ =>
    rintro cs ⟨cp, a, cap, e, h1, h2⟩
    exact ⟨cp, a, cap, e, ih h1, h2⟩
theorem own_cnt (n : ND) (k : Int) (x : Bool) (t : ByteArray) : (n.own k x t).cnt = n.cnt := by
  induction n with
  | leaf => rfl
  | add p s c ih _ => simp [ND.own, ND.cnt, ih]
theorem own_kind (n : ND) (k : Int) (x : Bool) (t : ByteArray) : (n.own k x t).kind = k ∧ (n.own k x t).exec = x ∧ (n.own k x t).text = t := by
  induction n with
  | leaf => exact ⟨rfl, rfl, rfl⟩
  | add p s c ih _ => exact ih
/-- kids in a row of their own -/
theorem ND.KC.row {S : Nat → Prop} {w : World} {g : Nat} {t : TypeId} {fz : Nat × Nat} (hg : S g) : ∀ {n : ND} {cs : List Value} (cur : Array Value), w.heap[g]? = some (.cells cur t fz) → cur.toList.take cs.length = cs → n.KC S w cs → n.AtS S w ⟨g, 0, none⟩ := by
  intro n
  induction n with
  | leaf => intro cs cur _ _ _; trivial
  | add p nm c ih _ =>
    intro cs cur h1 h2 h3
    have hl := ND.KC.len h3
    obtain ⟨cp, a, cap, rfl, h4, h5⟩ := h3
    have hp := ND.KC.len h4
    have h2p : cur.toList.take cp.length = cp := by
      have := congrArg (List.take cp.length) h2
      rw [List.take_take, List.take_left, Nat.min_eq_left (by simp)] at this
      exact this
    have hc : ∀ j (hj : j < 5), w.cell? ⟨g, p.cnt * 5 + j, none⟩ = [Value.string nm, .int .i64 c.kind, .bool c.exec, .string c.text, .slice a c.cnt cap][j]? := by
      intro j hj
      rw [cell_of_row w g _ _ _ _ h1]
      have e1 : cur[p.cnt * 5 + j]? = cur.toList[p.cnt * 5 + j]? := by simp
      have e2 : (cur.toList.take (cp ++ [Value.string nm, .int .i64 c.kind, .bool c.exec, .string c.text, .slice a c.cnt cap]).length)[p.cnt * 5 + j]? = cur.toList[p.cnt * 5 + j]? := by
        rw [List.getElem?_take, if_pos (by simp; omega)]
      rw [e1, ← e2, h2, List.getElem?_append_right (by omega), show p.cnt * 5 + j - cp.length = j by omega]
    refine ⟨ih cur h1 h2p h4, hg, a, cap, ?_⟩
    rw [addr_add0]
    exact ⟨hc 0 (by omega), hc 1 (by omega), hc 2 (by omega), hc 3 (by omega), hc 4 (by omega), h5⟩
def lvCells (l : Lv) (kv : Value) : List Value := [.int .i64 l.node.kind, .bool l.node.exec, .string l.node.text, kv, .string l.kid]
/-- the cells of the nodes that are open -/
def StC (fl : Nat → Nat) (w : World) (B : Nat) : List Lv → List Value → Prop
  | [], cs => cs = []
  | l :: r, cs => ∃ cr kv ks, cs = cr ++ lvCells l kv ∧ StC fl w B r cr ∧ w.ownsRow B 95 5 kv l.node.cnt ks ∧ l.node.KC (fun b => fl b = 0) w ks ∧ ∀ b, kv.ownBlock = some b → fl b = 5 + r.length
theorem StC.kept {fl fl' : Nat → Nat} {w w' : World} {B : Nat} : ∀ {st : List Lv} {cs : List Value}, (∀ b, b < w.heap.size → fl b = 0 → w'.heap[b]? = w.heap[b]? ∧ fl' b = 0) → (∀ b, b < w.heap.size → 5 ≤ fl b → fl b < 5 + st.length → w'.heap[b]? = w.heap[b]? ∧ fl' b = fl b) →
    StC fl w B st cs → StC fl' w' B st cs
  | [], cs, _, _, h => h
  | l :: r, cs, h0, h5, ⟨cr, kv, ks, e, h1, h2, h3, h4⟩ => by
    have hlt : ∀ b, kv.ownBlock = some b → b < w.heap.size := fun b hb => (h2.lt b hb).2
    refine ⟨cr, kv, ks, e, h1.kept h0 (fun b hb h6 h7 => h5 b hb h6 (by simp only [List.length_cons]; omega)), owns_kept h2 (fun b hb hk => ?_), h3.kept h0, fun b hb => ?_⟩
    · exact (h5 b hb (by rw [h4 b hk]; omega) (by rw [h4 b hk]; simp)).1
    · rw [(h5 b (hlt b hb) (by rw [h4 b hb]; omega) (by rw [h4 b hb]; simp)).2, h4 b hb]
theorem StC.len {fl : Nat → Nat} {w : World} {B : Nat} : ∀ {st : List Lv} {cs : List Value}, StC fl w B st cs → cs.length = st.length * 5
  | [], cs, h => by rw [h]; rfl
  | l :: r, cs, ⟨cr, kv, ks, e, h1, _⟩ => by rw [e, List.length_append, h1.len]; simp [lvCells]; omega
def pcells (p : PS) (gf : Nat) (sv rv : Value) : Array Value :=
  #[.int .i64 (p.at_ : Nat), .int .i64 (p.start : Nat), .int .i64 p.code, .int .i64 (p.fat : Nat), .bool p.shut, .bool true, .bool p.x.whole, .int .i64 (p.x.next : Nat), .pointer (some ⟨gf, 0, none⟩), sv, .int .i64 p.x.root.kind, .bool p.x.root.exec, .string p.x.root.text, rv]
/-- a parser in block gp, its reader left out; each block that it owns has a label: 1 its own, 2 and 3 the reader's, 4 the stack's, 5 + i the kids' of the open node i -/
structure PaW (w0 : World) (S : Nat → Prop) (w : World) (B gp : Nat) (fl : Nat → Nat) (p : PS) (gf : Nat) (sv rv : Value) : Prop where
  row : w.heap[gp]? = some (.cells (pcells p gf sv rv) 57 (0, 0))
  lab : fl gp = 1
  hB : ∀ k, fl k ≠ 0 → B ≤ k ∧ k < w.heap.size
  sl : ∀ k, fl k ≠ 0 → k < w0.heap.size → S k
  away : Away w0 S w
  stk : ∃ cs, w.ownsRow B 122 5 sv p.x.stack.length cs ∧ StC fl w B p.x.stack cs ∧ ∀ k, sv.ownBlock = some k → fl k = 4
  root : ∃ a cap, rv = .slice a p.x.root.cnt cap ∧ p.x.root.InS (fun b => fl b = 0) w a
section
variable {w0 w w' : World} {S : Nat → Prop} {B gp : Nat} {fl : Nat → Nat} {p : PS} {gf : Nat} {sv rv : Value}
theorem PaW.cell (H : PaW w0 S w B gp fl p gf sv rv) (i : Nat) : w.cell? ⟨gp, i, none⟩ = (pcells p gf sv rv)[i]? := cell_of_row w gp i _ _ _ H.row
theorem PaW.free (H : PaW w0 S w B gp fl p gf sv rv) (i : Nat) : w.frozen? ⟨gp, i, none⟩ = false := frozen_of_row w gp i _ _ H.row
theorem PaW.lt (H : PaW w0 S w B gp fl p gf sv rv) : gp < w.heap.size := lt_of_row H.row
theorem PaW.c0 (H : PaW w0 S w B gp fl p gf sv rv) : w.cell? ⟨gp, 0, none⟩ = some (.int .i64 (p.at_ : Nat)) := H.cell 0
theorem PaW.c1 (H : PaW w0 S w B gp fl p gf sv rv) : w.cell? ⟨gp, 1, none⟩ = some (.int .i64 (p.start : Nat)) := H.cell 1
theorem PaW.c2 (H : PaW w0 S w B gp fl p gf sv rv) : w.cell? ⟨gp, 2, none⟩ = some (.int .i64 p.code) := H.cell 2
theorem PaW.c3 (H : PaW w0 S w B gp fl p gf sv rv) : w.cell? ⟨gp, 3, none⟩ = some (.int .i64 (p.fat : Nat)) := H.cell 3
theorem PaW.c4 (H : PaW w0 S w B gp fl p gf sv rv) : w.cell? ⟨gp, 4, none⟩ = some (.bool p.shut) := H.cell 4
theorem PaW.c5 (H : PaW w0 S w B gp fl p gf sv rv) : w.cell? ⟨gp, 5, none⟩ = some (.bool true) := H.cell 5
theorem PaW.c6 (H : PaW w0 S w B gp fl p gf sv rv) : w.cell? ⟨gp, 6, none⟩ = some (.bool p.x.whole) := H.cell 6
theorem PaW.c7 (H : PaW w0 S w B gp fl p gf sv rv) : w.cell? ⟨gp, 7, none⟩ = some (.int .i64 (p.x.next : Nat)) := H.cell 7
theorem PaW.c8 (H : PaW w0 S w B gp fl p gf sv rv) : w.cell? ⟨gp, 8, none⟩ = some (.pointer (some ⟨gf, 0, none⟩)) := H.cell 8
theorem PaW.c9 (H : PaW w0 S w B gp fl p gf sv rv) : w.cell? ⟨gp, 9, none⟩ = some sv := H.cell 9
/-- some blocks have changed, some have other labels -/
theorem PaW.kept {fl' : Nat → Nat} {p' : PS} {gf' : Nat} (H : PaW w0 S w B gp fl p gf sv rv) (hrow : w'.heap[gp]? = some (.cells (pcells p' gf' sv rv) 57 (0, 0))) (ha : Away w0 S w')
    (hk : ∀ b, b < w.heap.size → fl b ≠ 2 → fl b ≠ 3 → fl' b = fl b ∧ (b ≠ gp → w'.heap[b]? = w.heap[b]?)) (hB : ∀ k, fl' k ≠ 0 → B ≤ k ∧ k < w'.heap.size) (hsl : ∀ k, fl' k ≠ 0 → k < w0.heap.size → S k)
    (hst : p'.x.stack = p.x.stack) (hrt : p'.x.root = p.x.root) : PaW w0 S w' B gp fl' p' gf' sv rv := by
  obtain ⟨cs, h1, h2, h3⟩ := H.stk
  obtain ⟨a, cap, e, h4⟩ := H.root
  have hlab := H.lab
  have k0 : ∀ b, b < w.heap.size → fl b = 0 → w'.heap[b]? = w.heap[b]? ∧ fl' b = 0 := fun b hb h0 => by
    obtain ⟨ha, hb⟩ := hk b hb (by omega) (by omega)
    exact ⟨hb (fun e => by rw [e] at h0; omega), by omega⟩
  refine ⟨hrow, ?_, hB, hsl, ha, ⟨cs, ?_, ?_, ?_⟩, a, cap, ?_, ?_⟩
  · rw [(hk gp H.lt (by omega) (by omega)).1, hlab]
  · rw [hst]
    exact owns_kept h1 (fun b hb hv => (hk b hb (by rw [h3 b hv]; omega) (by rw [h3 b hv]; omega)).2 (fun e => by have := h3 b hv; rw [e] at this; omega))
  · rw [hst]
    exact h2.kept k0 (fun b hb h5 _ => ⟨(hk b hb (by omega) (by omega)).2 (fun e => by rw [e] at h5; omega), (hk b hb (by omega) (by omega)).1⟩)
  · intro k hv
    rw [(hk k (h1.lt k hv).2 (by rw [h3 k hv]; omega) (by rw [h3 k hv]; omega)).1, h3 k hv]
  · rw [hrt]; exact e
  · rw [hrt]; exact h4.kept k0
theorem PaW.later (H : PaW w0 S w B gp fl p gf sv rv) (hb : Below w.heap.size w w') : PaW w0 S w' B gp fl p gf sv rv :=
  H.kept ((hb.block _ H.lt).trans H.row) (H.away.later hb) (fun b hl _ _ => ⟨rfl, fun _ => hb.block b hl⟩) (fun k hk => ⟨(H.hB k hk).1, Nat.lt_of_lt_of_le (H.hB k hk).2 hb.size⟩) H.sl rfl rfl
/-- a field of the parser's own -/
theorem PaW.put {p' : PS} {gf' : Nat} (H : PaW w0 S w B gp fl p gf sv rv) (i : Nat) (x : Value) (hc : (pcells p gf sv rv).setIfInBounds i x = pcells p' gf' sv rv) (hst : p'.x.stack = p.x.stack) (hrt : p'.x.root = p.x.root) : PaW w0 S (w.setCell ⟨gp, i, none⟩ x) B gp fl p' gf' sv rv := by
  refine H.kept ?_ (H.away.set gp i x (H.sl gp (by rw [H.lab]; omega))) (fun b hl _ _ => ⟨rfl, fun hne => Below.heap_setCell _ _ _ _ hne⟩) (fun k hk => ⟨(H.hB k hk).1, by simpa [World.setCell] using (H.hB k hk).2⟩) H.sl hst hrt
  rw [heap_setCell_same w gp i _ _ _ H.row, hc]
end
end Go.Proofs.YtlcppkcclolgcaaDoor

namespace Go.Proofs.YtlcppkcclolgcaaDoor
set_option linter.unusedVariables false
set_option linter.unusedSimpArgs false
open Go.RowKit

def PS.bad (p : PS) (q : Int) (a : Nat) : PS := { p with code := q, fat := a }
set_option maxRecDepth 100000 in
set_option maxHeartbeats 1000000 in
theorem pfail_any (w0 : World) (S : Nat → Prop) (B gp : Nat) (fl : Nat → Nat) (p : PS) (gf : Nat) (sv rv : Value) (q : Int) (a : Nat) (w : World) (H : PaW w0 S w B gp fl p gf sv rv) :
    Calls Tryd.prog 26 #[.pointer (some ⟨gp, 0, none⟩), .int .i64 q, .int .i64 (a : Int)] w fun e w' => e = .returned (.bool false) ∧ PaW w0 S w' B gp fl (p.bad q a) gf sv rv := by
  have c2 := H.c2
  have c3 := H.c3
  have f2 := H.free 2
  have f3 := H.free 3
  have hfin : PaW w0 S ((w.setCell ⟨gp, 2, none⟩ (.int .i64 q)).setCell ⟨gp, 3, none⟩ (.int .i64 (a : Int))) B gp fl (p.bad q a) gf sv rv := (H.put (p' := { p with code := q }) 2 (.int .i64 q) rfl rfl rfl).put 3 _ rfl rfl rfl
  have HF := Lib.hid hfin
  clear H hfin
  go_enter Tryd.func26, Tryd.ntmps26
  go_wp2_with fail
  go_ret
  exact ⟨rfl, HF.out⟩
/-- the innermost open node in memory -/
structure TopS (w : World) (B : Nat) (fl : Nat → Nat) (l : Lv) (n : Nat) (sv : Value) (gs cap : Nat) (kv : Value) (ks : List Value) : Prop where
  sv : sv = .slice (some ⟨gs, 0, none⟩) (n + 1) cap
  lab : fl gs = 4
  cell : ∀ j, j < 5 → w.cell? ⟨gs, n * 5 + j, none⟩ = (lvCells l kv)[j]?
  free : ∀ j, w.frozen? ⟨gs, j, none⟩ = false
  lt : gs < w.heap.size
  own : w.ownsRow B 95 5 kv l.node.cnt ks
  kc : l.node.KC (fun b => fl b = 0) w ks
  klab : ∀ b, kv.ownBlock = some b → fl b = 5 + n
theorem PaW.top {w0 w : World} {S : Nat → Prop} {B gp : Nat} {fl : Nat → Nat} {p : PS} {gf : Nat} {sv rv : Value} (H : PaW w0 S w B gp fl p gf sv rv) {l : Lv} {r : List Lv} (hs : p.x.stack = l :: r) :
    ∃ gs cap kv ks, TopS w B fl l r.length sv gs cap kv ks := by
  obtain ⟨cs, h1, h2, h3⟩ := H.stk
  rw [hs] at h1 h2
  obtain ⟨cr, kv, ks, e, h4, h5, h6, h7⟩ := h2
  have hl := h4.len
  have hc := h1
  obtain ⟨_, ⟨_, h0⟩ | ⟨gs, cap, cur, rfl, hb, hg, hn, hm, hsz, ht⟩⟩ := h1
  · simp at h0
  · refine ⟨gs, cap, kv, ks, rfl, h3 gs rfl, fun j hj => ?_, fun j => frozen_of_row w gs j _ _ hg, lt_of_row hg, h5, h6, h7⟩
    have hget : cs[r.length * 5 + j]? = (lvCells l kv)[j]? := by
      rw [e, List.getElem?_append_right (by omega), show r.length * 5 + j - cr.length = j by omega]
    have hjl : j < (lvCells l kv).length := by simpa [lvCells] using hj
    rw [← hget]
    have := hc.cells (g := gs) rfl (r.length * 5 + j) _ (hget.trans (List.getElem?_eq_getElem hjl))
    rw [addr_add0] at this
    rw [this, hget, List.getElem?_eq_getElem hjl]
set_option maxRecDepth 100000 in
set_option maxHeartbeats 1000000 in
theorem ptop_any (w0 : World) (S : Nat → Prop) (B gp : Nat) (fl : Nat → Nat) (p : PS) (gf : Nat) (sv rv : Value) (w : World) (H : PaW w0 S w B gp fl p gf sv rv) (gs n cap : Nat) (hsv : sv = .slice (some ⟨gs, 0, none⟩) (n + 1) cap) (hn : n ≤ 100) :
    Calls Tryd.prog 46 #[.pointer (some ⟨gp, 0, none⟩)] w fun e w' => e = .returned (.pointer (some ⟨gs, n * 5, none⟩)) ∧ ∃ k, w' = w.drewN k := by
  have c9 := H.c9
  rw [hsv] at c9
  have hn0 : (0 : Int) ≤ n := by omega
  have hn1 : (n : Int) ≤ 100 := by omega
  have e1 : ((n + 1 : Nat) : Int) = (n : Int) + 1 := by omega
  have ha := addr_add0 gs (n * 5)
  clear H hsv
  go_enter Tryd.func46, Tryd.ntmps46
  go_wp2_with fail
  go_quiet (fail)
  go_wp2_with fail
  go_ret
  exact ⟨rfl, _, rfl⟩
/-- the one word that may stand there -/
def plainV : Option (ByteArray × Nat) → Value
  | some (s, t) => .tuple #[.string s, .int .i64 (t : Int), .bool true]
  | none => .tuple #[.string emp, .int .i64 0, .bool false]
set_option maxRecDepth 100000 in
set_option maxHeartbeats 4000000 in
theorem plain_any (x : Nat) (w : World) : Calls Tryd.prog 43 #[.int .i64 (x : Int)] w fun e w' => e = .returned (plainV (plainW x)) ∧ w = w' := by
  by_cases h : x = 0 ∨ x = 2 ∨ x = 5 ∨ x = 6 ∨ x = 8 ∨ x = 12 ∨ x = 13 ∨ x = 15 ∨ x = 16
  · rcases h with rfl | rfl | rfl | rfl | rfl | rfl | rfl | rfl | rfl
    all_goals
      go_enter Tryd.func43, Tryd.ntmps43
      go_wp2_with fail
      go_ret3
      exact ⟨rfl, rfl⟩
  · have hn : plainW x = none := by
      unfold plainW
      repeat' (first | rw [if_neg (by omega)] | rfl)
    rw [hn]
    have k0 : ((x : Int) == 0) = false := by simp; omega
    have k2 : ((x : Int) == 2) = false := by simp; omega
    have k5 : ((x : Int) == 5) = false := by simp; omega
    have k6 : ((x : Int) == 6) = false := by simp; omega
    have k8 : ((x : Int) == 8) = false := by simp; omega
    have k12 : ((x : Int) == 12) = false := by simp; omega
    have k13 : ((x : Int) == 13) = false := by simp; omega
    have k15 : ((x : Int) == 15) = false := by simp; omega
    have k16 : ((x : Int) == 16) = false := by simp; omega
    clear h hn
    go_enter Tryd.func43, Tryd.ntmps43
    go_wp2_with fail
    go_ret3
    exact ⟨rfl, rfl⟩
end Go.Proofs.YtlcppkcclolgcaaDoor

namespace Go.Proofs.YtlcppkcclolgcaaDoor
set_option linter.unusedVariables false
set_option linter.unusedSimpArgs false
open Go.RowKit

theorem str_ne {s t : ByteArray} {l : List UInt8} (ht : t.data.toList = l) (h : s ≠ t) : (s.toList == l) = false := by
  rw [toList_data]
  cases hb : (s.data.toList == l) with
  | false => rfl
  | true =>
    exfalso
    apply h
    apply ByteArray.ext
    apply Array.ext'
    rw [ht]
    exact eq_of_beq hb
theorem str_eq {t : ByteArray} {l : List UInt8} (ht : t.data.toList = l) : (t.toList == l) = true := by
  rw [toList_data, ht]
  exact beq_self_eq_true l
theorem owns_slice {w : World} {B : Nat} {e : TypeId} {sz : Nat} {v : Value} {n : Nat} {xs : List Value} (h : w.ownsRow B e sz v n xs) : ∃ A l c, v = .slice A l c := by
  obtain ⟨_, ⟨h, _⟩ | ⟨g, cap, cur, h, _⟩⟩ := h
  · exact ⟨_, _, _, h⟩
  · exact ⟨_, _, _, h⟩
theorem owns_set {w : World} {B : Nat} {e : TypeId} {sz g n cap : Nat} {xs : List Value} (h : w.ownsRow B e sz (.slice (some ⟨g, 0, none⟩) n cap) n xs) (j : Nat) (hj : j < xs.length) (u : Value) :
    (w.setCell ⟨g, j, none⟩ u).ownsRow B e sz (.slice (some ⟨g, 0, none⟩) n cap) n (xs.set j u) := by
  obtain ⟨h1, ⟨h2, _⟩ | ⟨g', cap', cur, hv, hb, hg, hn, hm, hs, ht⟩⟩ := h
  · cases h2
  · injection hv with e1 e2 e3
    injection e1 with e1
    injection e1 with e1 e4 e5
    subst e1
    subst e3
    refine ⟨by rw [List.length_set]; exact h1, .inr ⟨g, cap, cur.setIfInBounds j u, rfl, hb, heap_setCell_same w g j _ _ _ hg, hn, hm, by simpa using hs, ?_⟩⟩
    rw [Array.toList_setIfInBounds, ← ht, List.take_set]
/-- a cell of the innermost open node -/
theorem PaW.topSet {w0 w : World} {S : Nat → Prop} {B gp : Nat} {fl : Nat → Nat} {p : PS} {gf : Nat} {sv rv : Value} (H : PaW w0 S w B gp fl p gf sv rv) {l l' : Lv} {r : List Lv} (hs : p.x.stack = l :: r) {gs cap : Nat}
    (hsv : sv = .slice (some ⟨gs, 0, none⟩) (r.length + 1) cap) (j : Nat) (hj : j < 5) (u : Value) (hc : ∀ kv, (lvCells l kv).set j u = lvCells l' kv) (hcnt : l'.node.cnt = l.node.cnt) (hkc : ∀ S w cs, l.node.KC S w cs → l'.node.KC S w cs) :
    PaW w0 S (w.setCell ⟨gs, r.length * 5 + j, none⟩ u) B gp fl { p with x := { p.x with stack := l' :: r } } gf sv rv := by
  obtain ⟨cs, h1, h2, h3⟩ := H.stk
  obtain ⟨a, cap', e, h4⟩ := H.root
  have hlab := H.lab
  subst hsv
  have hgs : fl gs = 4 := h3 gs rfl
  have hlt := (h1.lt gs rfl).2
  have hne : gp ≠ gs := fun e => by rw [e] at hlab; omega
  rw [hs] at h1 h2
  obtain ⟨cr, kv, ks, rfl, g1, g2, g3, g4⟩ := h2
  have hl := g1.len
  have hk : ∀ b, b ≠ gs → (w.setCell ⟨gs, r.length * 5 + j, none⟩ u).heap[b]? = w.heap[b]? := fun b hb => Below.heap_setCell _ _ _ _ hb
  refine ⟨(hk gp hne).trans H.row, hlab, fun k h => ⟨(H.hB k h).1, by simpa [World.setCell] using (H.hB k h).2⟩, H.sl, H.away.set gs _ u (H.sl gs (by omega)), ⟨cr ++ lvCells l' kv, ?_, ⟨cr, kv, ks, rfl, ?_, ?_, ?_, g4⟩, h3⟩, a, cap', e, ?_⟩
  · have hset := owns_set h1 (r.length * 5 + j) (by simp [lvCells]; omega) u
    rw [List.set_append_right _ _ (by omega), show r.length * 5 + j - cr.length = j by omega, hc] at hset
    exact hset
  · exact g1.kept (fun b _ h0 => ⟨hk b (fun e => by rw [e] at h0; omega), h0⟩) (fun b _ h5 _ => ⟨hk b (fun e => by rw [e] at h5; omega), rfl⟩)
  · rw [hcnt]
    exact owns_kept g2 (fun b _ hv => hk b (fun e => by have := g4 b hv; rw [e] at this; omega))
  · exact hkc _ _ _ (g3.kept (fun b _ h0 => ⟨hk b (fun e => by rw [e] at h0; omega), h0⟩))
  · exact h4.kept (fun b _ h0 => ⟨hk b (fun e => by rw [e] at h0; omega), h0⟩)
/-- how a word ends -/
def WordR (w0 : World) (S : Nat → Prop) (B gp : Nat) (p : PS) (gf : Nat) (R : Except Int WS) (e : Ending) (w' : World) : Prop :=
  match R with
  | .ok y => e = .returned (.bool true) ∧ ∃ fl' sv' rv', PaW w0 S w' B gp fl' { p with x := y } gf sv' rv'
  | .error q => e = .returned (.bool false) ∧ ∃ fl' sv' rv', PaW w0 S w' B gp fl' (p.bad q p.start) gf sv' rv'
/-- labels behind a new row -/
def lbl (fl : Nat → Nat) (v : Value) (n : Nat) : Nat → Nat :=
  match v.ownBlock with
  | some k => upd fl k n
  | none => fl
theorem lbl_own {fl : Nat → Nat} {v : Value} {n k : Nat} (h : v.ownBlock = some k) : lbl fl v n k = n := by
  unfold lbl
  rw [h]
  exact upd_same _ _ _
theorem lbl_other {fl : Nat → Nat} {v : Value} {n b : Nat} (h : v.ownBlock ≠ some b) : lbl fl v n b = fl b := by
  unfold lbl
  cases hv : v.ownBlock with
  | none => rfl
  | some k => exact upd_ne _ _ _ _ (fun e => h (by rw [hv, e]))
/-- a node more is open -/
theorem PaW.push {w0 w w4 w5 : World} {S : Nat → Prop} {B gp : Nat} {fl : Nat → Nat} {p : PS} {gf : Nat} {sv rv v5 : Value} {cs : List Value} (H : PaW w0 S w B gp fl p gf sv rv) (hb : Below w.heap.size w w4)
    (h2 : StC fl w B p.x.stack cs) (h3 : ∀ k, sv.ownBlock = some k → fl k = 4) (ho : w5.ownsRow B 122 5 v5 (p.x.stack.length + 1) (cs ++ lvCells ⟨.leaf 0 false emp, emp⟩ (.slice none 0 0))) (hg : w4.grownBy w5 sv.ownBlock) (hat : v5.ownBlock = sv.ownBlock ∨ v5.ownBlock = some w4.heap.size) (hsvl : ∀ k, sv.ownBlock = some k → k < w.heap.size) :
    PaW w0 S (w5.setCell ⟨gp, 9, none⟩ v5) B gp (lbl fl v5 4) { p with x := { p.x with stack := ⟨.leaf 0 false emp, emp⟩ :: p.x.stack, next := p.x.next } } gf v5 rv := by
  obtain ⟨a, cap', e, h4⟩ := H.root
  have hlab := H.lab
  have hlt := H.lt
  have hz := hb.size
  have hz5 := hg.size
  have hsz := H.away.size
  have hf : ∀ b, b < w.heap.size → fl b ≠ 4 → v5.ownBlock ≠ some b := fun b hb' h4 e => by
    rcases hat with h | h
    · exact h4 (h3 b (by rw [← h, e]))
    · rw [e] at h; injection h with h; omega
  have hk : ∀ b, b < w.heap.size → fl b ≠ 4 → b ≠ gp → (w5.setCell ⟨gp, 9, none⟩ v5).heap[b]? = w.heap[b]? := fun b hb' h4 hne => by
    rw [Below.heap_setCell _ _ _ _ hne, hg.block b (by omega) (fun e => h4 (h3 b e.symm)), hb.block b hb']
  have hgp4 : fl gp ≠ 4 := by omega
  have hrow5 : w5.heap[gp]? = some (.cells (pcells p gf sv rv) 57 (0, 0)) := by
    rw [hg.block gp (by omega) (fun e => hgp4 (h3 gp e.symm)), hb.block gp hlt, H.row]
  have hvb : ∀ k, v5.ownBlock = some k → B ≤ k ∧ k < w5.heap.size := fun k hk => ho.lt k hk
  refine ⟨?_, ?_, fun k h => ?_, fun k h hl => ?_, ?_, ⟨cs ++ lvCells ⟨.leaf 0 false emp, emp⟩ (.slice none 0 0), ?_, ⟨cs, .slice none 0 0, [], rfl, ?_, World.ownsRow_nil _ _ _ _, rfl, fun b h => by simp [Value.ownBlock] at h⟩, fun k h => lbl_own h⟩, a, cap', e, ?_⟩
  · rw [heap_setCell_same w5 gp 9 _ _ _ hrow5]
    rfl
  · rw [lbl_other (hf gp hlt hgp4)]; exact hlab
  · by_cases hv : v5.ownBlock = some k
    · have := hvb k hv
      exact ⟨this.1, by simpa [World.setCell] using this.2⟩
    · rw [lbl_other hv] at h
      have := H.hB k h
      exact ⟨this.1, by simp [World.setCell]; omega⟩
  · by_cases hv : v5.ownBlock = some k
    · rcases hat with h' | h'
      · exact H.sl k (by rw [h3 k (by rw [← h', hv])]; omega) hl
      · rw [hv] at h'; injection h' with h'; omega
    · rw [lbl_other hv] at h
      exact H.sl k h hl
  · refine (((H.away.later hb).grown hg (fun k e hl => H.sl k (by rw [h3 k e]; omega) hl)).set gp 9 v5 (H.sl gp (by omega)))
  · refine owns_kept ho (fun b hb' hv => Below.heap_setCell _ _ _ _ (fun e => ?_))
    subst e
    exact hf b hlt hgp4 hv
  · refine h2.kept (fun b hb' h0 => ⟨hk b hb' (by omega) (fun e => by rw [e] at h0; omega), ?_⟩) (fun b hb' h5 _ => ⟨hk b hb' (by omega) (fun e => by rw [e] at h5; omega), ?_⟩)
    · rw [lbl_other (hf b hb' (by omega))]; exact h0
    · rw [lbl_other (hf b hb' (by omega))]
  · refine h4.kept (fun b hb' h0 => ⟨hk b hb' (by omega) (fun e => by rw [e] at h0; omega), ?_⟩)
    rw [lbl_other (hf b hb' (by omega))]; exact h0
theorem lv0_one : ∀ u ∈ lvCells ⟨.leaf 0 false emp, emp⟩ (.slice none 0 0), u.oneCell' = true := by
  intro u hu
  simp only [lvCells, ND.kind, ND.exec, ND.text, List.mem_cons, List.not_mem_nil, or_false] at hu
  rcases hu with rfl | rfl | rfl | rfl | rfl <;> rfl
set_option maxRecDepth 100000 in
set_option maxHeartbeats 4000000 in
theorem open_any (w0 : World) (S : Nat → Prop) (B gp : Nat) (fl : Nat → Nat) (p : PS) (gf : Nat) (sv rv : Value) (s : ByteArray) (w : World) (H : PaW w0 S w B gp fl p gf sv rv) (hn : p.x.next = 1) (hl : p.x.stack.length ≤ 32) :
    Calls Tryd.prog 44 #[.pointer (some ⟨gp, 0, none⟩), .string s] w fun e w' => WordR w0 S B gp p gf (p.x.word s) e w' := by
  have hw : p.x.word s = if s ≠ wOpen then .error 70 else if p.x.stack.length = 32 then .error 61 else .ok { p.x with stack := ⟨.leaf 0 false emp, emp⟩ :: p.x.stack, next := 2 } := by
    unfold WS.word
    rw [hn]
    rfl
  rw [hw]
  clear hw
  by_cases h1 : s = wOpen
  · rw [if_neg (by simpa using h1)]
    subst h1
    have he := str_eq (t := wOpen) (l := [40]) rfl
    unfold wOpen at he ⊢
    obtain ⟨cs, o1, o2, o3⟩ := H.stk
    have hsvl : ∀ k, sv.ownBlock = some k → k < w.heap.size := fun k h => (o1.lt k h).2
    have c9 := H.c9
    have c1 := H.c1
    obtain ⟨A9, k9, hv9⟩ : ∃ A k, sv = .slice A p.x.stack.length k := by
      obtain ⟨_, ⟨h, h0⟩ | ⟨g, cap, cur, h, _⟩⟩ := o1
      · exact ⟨_, _, by rw [h, h0]⟩
      · exact ⟨_, _, h⟩
    obtain ⟨n, hnn⟩ : ∃ n, p.x.stack.length = n := ⟨_, rfl⟩
    rw [hnn] at hv9 hl o1
    rw [hv9] at c9
    by_cases h2 : n = 32
    · rw [if_pos (by rw [hnn]; exact h2)]
      have h2I : ((n : Int) == 32) = true := by simp; omega
      have HH := Lib.hid H
      clear H o1 o2 o3 hsvl hv9
      go_enter Tryd.func44, Tryd.ntmps44
      go_wp2_with (go_at_call 26; refine (pfail_any w0 S B gp fl p gf sv rv 61 p.start _ HH.out).mono ?_; rintro e w3 ⟨rfl, hf⟩; have HF := Lib.hid hf; clear hf)
      go_ret
      exact ⟨rfl, _, _, _, HF.out⟩
    · rw [if_neg (by rw [hnn]; exact h2)]
      have h2I : ((n : Int) == 32) = false := by simp; omega
      obtain ⟨i0, hi0, hz0, hz1, hz2⟩ := info_parts (show (Tryd.prog.info? 122).map (fun i => (i.zero, i.size, i.bytes)) = some (some (.agg #[.int .i64 0, .bool false, .string ⟨#[]⟩, .slice none 0 0, .string ⟨#[]⟩]), 5, 72) by kernel_rfl)
      have o5 := o1.alloc (.cells #[.int .i64 0, .bool false, .string ⟨#[]⟩, .slice none 0 0, .string ⟨#[]⟩] 122)
      have hnew := news_cells w [.int .i64 0, .bool false, .string ⟨#[]⟩, .slice none 0 0, .string ⟨#[]⟩] 122
      have hba : Below w.heap.size w (w.alloc (.cells #[.int .i64 0, .bool false, .string ⟨#[]⟩, .slice none 0 0, .string ⟨#[]⟩] 122)) := (Below.refl _ _).alloc (Nat.le_refl _) _
      have hbb : B ≤ (w.alloc (.cells #[.int .i64 0, .bool false, .string ⟨#[]⟩, .slice none 0 0, .string ⟨#[]⟩] 122)).heap.size := by
        have := H.hB gp (by rw [H.lab]; omega)
        simp
        omega
      have hlt := H.lt
      have hm63 : n + 1 ≤ maxLen := by unfold maxLen; omega
      have hm47 : (n + 1) * 72 ≤ 140737488355328 := by omega
      have hgp4 : sv.ownBlock ≠ some gp := fun e => by have := o3 gp e; have := H.lab; omega
      have HH := Lib.hid H
      have O2 := Lib.hid o2
      have O3 := Lib.hid o3
      have O5 := Lib.hid o5
      have HNEW := Lib.hid hnew
      have HBA := Lib.hid hba
      have HBB := Lib.hid hbb
      have HV9 := Lib.hid hv9
      have HSVL := Lib.hid hsvl
      have HNN := Lib.hid hnn
      have HGP := Lib.hid hgp4
      clear H o1 o2 o3 o5 hnew hba hbb hv9 hsvl hnn hgp4
      go_enter Tryd.func44, Tryd.ntmps44
      go_upto_region 6 with (at_builtin; refine wpList_append_own_at _ rfl (.tmp 33) (.tmp 35) 55 rfl B 122 i0 (.agg #[.int .i64 0, .bool false, .string ⟨#[]⟩, .slice none 0 0, .string ⟨#[]⟩]) 5 72 Tryd.underlying55 hi0 hz0 hz1 hz2 rfl (by decide) sv n _ (by first | exact HV9.out.symm | rfl) O5.out ⟨w.heap.size, 0, none⟩ 1 1 [.int .i64 0, .bool false, .string ⟨#[]⟩, .slice none 0 0, .string ⟨#[]⟩] rfl rfl HNEW.out lv0_one hm63 hm47 HBB.out ?_; intro v5 w5 ho5 hg5 _ ha5; obtain ⟨A5, l5, k5, hv5⟩ := owns_slice ho5; subst hv5; have hx5 := (hg5.block gp (by simp; omega) (fun e => HGP.out e.symm)).trans (row_past HH.out.row _); have d9 := cell_of_row w5 gp 9 _ _ _ hx5; have f9 := frozen_of_row w5 gp 9 _ _ hx5; have HO5 := Lib.hid ho5; have HG5 := Lib.hid hg5; have HA5 := Lib.hid ha5; clear ho5 hg5 ha5 hx5)
      have hp := HH.out.push HBA.out O2.out O3.out (by rw [HNN.out]; exact HO5.out) HG5.out HA5.out HSVL.out
      have HP := Lib.hid hp
      clear hp d9 f9 c9 c1
      generalize w5.setCell ⟨gp, 9, none⟩ (.slice A5 l5 k5) = w6 at *
      have c7 := HP.out.c7
      have f7 := HP.out.free 7
      have hq := HP.out.put (p' := { p with x := { p.x with stack := ⟨.leaf 0 false emp, emp⟩ :: p.x.stack, next := 2 } }) 7 (.int .i64 (2 : Nat)) rfl rfl rfl
      have HQ := Lib.hid hq
      clear hq
      go_wp2_with fail
      go_ret
      exact ⟨rfl, _, _, _, HQ.out⟩
  · rw [if_pos h1]
    have he := str_ne (t := wOpen) (l := [40]) rfl h1
    have hp := Lib.hid (fun w' H' => pfail_any w0 S B gp fl p gf sv rv 70 p.start w' H')
    have c1 := H.c1
    have HH := Lib.hid H
    clear H h1
    go_enter Tryd.func44, Tryd.ntmps44
    go_wp2_with (go_at_call 26; refine (hp.out _ HH.out).mono ?_; rintro e w3 ⟨rfl, hf⟩; have HF := Lib.hid hf; clear hf)
    go_ret
    exact ⟨rfl, _, _, _, HF.out⟩
end Go.Proofs.YtlcppkcclolgcaaDoor

namespace Go.Proofs.YtlcppkcclolgcaaDoor
set_option linter.unusedVariables false
set_option linter.unusedSimpArgs false
open Go.RowKit

theorem cmp_le : ∀ (a b : List UInt8), 0 ≤ Lib.compareBytes a b ↔ (Op.bytesLess b a || b == a) = true
  | [], [] => by simp [Lib.compareBytes]
  | [], y :: b => by simp [Lib.compareBytes, Op.bytesLess]
  | x :: a, [] => by simp [Lib.compareBytes, Op.bytesLess]
  | x :: a, y :: b => by
    have ih := cmp_le a b
    unfold Lib.compareBytes Op.bytesLess
    by_cases h1 : x < y
    · rw [if_pos h1]
      have h2 : ¬ y < x := fun h => by
        rw [UInt8.lt_iff_toNat_lt] at h h1
        omega
      have h3 : (y == x) = false := by
        rw [beq_eq_false_iff_ne]
        rintro rfl
        exact h2 h1
      simp [h2, h3]
    · rw [if_neg h1]
      by_cases h2 : y < x
      · rw [if_pos h2]
        simp [h2]
      · rw [if_neg h2]
        have h3 : y = x := by
          apply UInt8.toNat_inj.1
          rw [UInt8.lt_iff_toNat_lt] at h1 h2
          omega
        subst h3
        rw [ih]
        simp
theorem cmp_leB (a b : ByteArray) : decide (0 ≤ Lib.compareBytes a.data.toList b.data.toList) = leB b a := by
  unfold leB
  rw [toList_data, toList_data, Bool.eq_iff_iff, decide_eq_true_iff]
  exact cmp_le _ _
/-- the last kid's name in its cell -/
theorem last_cell {w : World} {B : Nat} {S : Nat → Prop} {n : ND} {kv : Value} {ks : List Value} (ho : w.ownsRow B 95 5 kv n.cnt ks) (hk : n.KC S w ks) (h0 : 0 < n.cnt) :
    ∃ g cap, kv = .slice (some ⟨g, 0, none⟩) n.cnt cap ∧ w.cell? ⟨g, (n.cnt - 1) * 5, none⟩ = some (.string n.last) := by
  have hc := ho
  obtain ⟨_, ⟨_, h⟩ | ⟨g, cap, cur, rfl, _⟩⟩ := ho
  · omega
  · refine ⟨g, cap, rfl, ?_⟩
    cases n with
    | leaf => simp [ND.cnt] at h0
    | add p s c =>
      obtain ⟨cp, a, cap', rfl, h4, h5⟩ := hk
      have hp := ND.KC.len h4
      have := hc.cells (g := g) rfl (p.cnt * 5) (.string s) (by rw [List.getElem?_append_right (by omega), show p.cnt * 5 - cp.length = 0 by omega]; rfl)
      rw [addr_add0] at this
      exact this
theorem ncmp_any (a b : ByteArray) (w : World) : Calls Tryd.prog 61 #[.string a, .string b] w fun e w' => e = .returned (.int .i64 (Lib.compareBytes a.data.toList b.data.toList)) ∧ w = w' := by
  have C : Hid (∀ w, Calls Tryd.prog 70 #[.string a, .string b] w fun e w' => e = .returned (.int .i64 (Lib.compareBytes a.data.toList b.data.toList)) ∧ w' = w) := fun w => Go.Proofs.Tryd.strings_Compare a b w
  generalize Lib.compareBytes a.data.toList b.data.toList = q at *
  go_enter Tryd.func61, Tryd.ntmps61
  go_wp2_with (go_at_call 70; refine (C.out _).mono ?_; rintro e w' ⟨rfl, rfl⟩)
  go_ret
  exact ⟨rfl, rfl⟩
theorem TopS.later {w w' : World} {B : Nat} {fl : Nat → Nat} {l : Lv} {n : Nat} {sv : Value} {gs cap : Nat} {kv : Value} {ks : List Value} (T : TopS w B fl l n sv gs cap kv ks) (hb : Below w.heap.size w w') : TopS w' B fl l n sv gs cap kv ks :=
  ⟨T.sv, T.lab, fun j hj => (hb.cell (p := ⟨gs, n * 5 + j, none⟩) T.lt).trans (T.cell j hj), fun j => (hb.frozen (p := ⟨gs, j, none⟩) T.lt).trans (T.free j), Nat.lt_of_lt_of_le T.lt hb.size, owns_kept T.own (fun b hl _ => hb.block b hl), T.kc.kept (fun b hl h => ⟨hb.block b hl, h⟩), T.klab⟩
theorem below_drw (w : World) (n : Nat) : Below w.heap.size w (w.drewN n) := ⟨rfl, rfl, rfl, Nat.le_refl _, fun _ _ => rfl⟩
set_option maxRecDepth 100000 in
set_option maxHeartbeats 4000000 in
theorem pname_any (w0 : World) (S : Nat → Prop) (B gp : Nat) (fl : Nat → Nat) (p : PS) (gf : Nat) (sv rv : Value) (s : ByteArray) (w : World) (H : PaW w0 S w B gp fl p gf sv rv) (hn : p.x.next = 14) (l : Lv) (r : List Lv) (hs : p.x.stack = l :: r) (hr : r.length ≤ 32) (hsz : s.size ≤ 1048576) (hcn : l.node.cnt ≤ 1048576) :
    Calls Tryd.prog 48 #[.pointer (some ⟨gp, 0, none⟩), .string s] w fun e w' => WordR w0 S B gp p gf (p.x.word s) e w' := by
  have hw : p.x.word s = if nm s ≠ 0 then .error (nm s) else if 0 < l.node.cnt ∧ leB s l.node.last = true then .error 64 else .ok { p.x with stack := kidSet s l :: r, next := 15 } := by
    unfold WS.word
    rw [hn, hs]
    simp only [plainW, Nat.reduceEqDiff, if_false, if_true, topND, WS.put, hs, topSet]
  rw [hw]
  clear hw
  obtain ⟨gs, cap, kv, ks, T⟩ := H.top hs
  obtain ⟨R, hR⟩ : ∃ R, (if nm s ≠ 0 then .error (nm s) else if 0 < l.node.cnt ∧ leB s l.node.last = true then .error 64 else .ok { p.x with stack := kidSet s l :: r, next := 15 } : Except Int WS) = R := ⟨_, rfl⟩
  rw [hR]
  have CT := ptop_any w0 S B gp fl p gf sv rv w H gs r.length cap T.sv (by omega)
  have CC : ∀ w, Calls Tryd.prog 58 #[.string s] w fun e w' => e = .returned (.int .i64 (nm s)) ∧ Below w.heap.size w w' := fun w => name_any s w hsz
  have CT := Lib.hid CT
  have CC := Lib.hid CC
  have HR := Lib.hid hR
  have HH := Lib.hid H
  have HT := Lib.hid T
  clear H T hR
  go_enter Tryd.func48, Tryd.ntmps48
  go_upto_region 3 with (first | (go_at_call 46; refine CT.out.mono ?_; rintro e w1 ⟨rfl, k1, rfl⟩) | (go_at_call 58; refine (CC.out _).mono ?_; rintro e w3 ⟨rfl, h3⟩; have H3 := Lib.hid h3; clear h3))
  have hb3 : Below w.heap.size w w3 := (below_drw w k1).trans H3.out
  have HX := Lib.hid (HH.out.later hb3)
  have TX := Lib.hid (HT.out.later hb3)
  clear hb3 H3
  have c1 := HX.out.c1
  by_cases h1 : nm s = 0
  · have hr1 := HR.out.symm.trans (if_neg (by simpa using h1))
    have h1I : (nm s != 0) = false := by simpa using h1
    have d3 : w3.cell? ⟨gs, r.length * 5 + 3, none⟩ = some kv := TX.out.cell 3 (by omega)
    have d4 : w3.cell? ⟨gs, r.length * 5 + 4, none⟩ = some (.string l.kid) := TX.out.cell 4 (by omega)
    have f4 := TX.out.free (r.length * 5 + 4)
    have hk := HX.out.topSet hs TX.out.sv (l' := kidSet s l) 4 (by omega) (.string s) (fun kv => rfl) rfl (fun _ _ _ h => h)
    have HK := Lib.hid hk
    have hcn0 : (0 : Int) ≤ l.node.cnt := by omega
    have hcn1 : (l.node.cnt : Int) ≤ 1048576 := by omega
    clear hk
    by_cases h2 : 0 < l.node.cnt
    · obtain ⟨gk, kc, hkv, hlast⟩ := last_cell TX.out.own TX.out.kc h2
      rw [hkv] at d3
      have h2I : (0 : Int) < l.node.cnt := by omega
      have h2N : (l.node.cnt : Int) - 1 = ((l.node.cnt - 1 : Nat) : Int) := by omega
      have ha := addr_add0 gk ((l.node.cnt - 1) * 5)
      have hcmp := cmp_leB l.node.last s
      have KM := Lib.hid (fun w => ncmp_any l.node.last s w)
      by_cases h3 : leB s l.node.last = true
      · have hr2 := hr1.trans (if_pos ⟨h2, h3⟩)
        subst hr2
        rw [h3] at hcmp
        clear HR h1 h2 h3 hr1 hkv HK
        go_wp2_with (first | (go_at_call 61; refine (KM.out _).mono ?_; rintro e w' ⟨rfl, rfl⟩) | (go_at_call 26; refine (pfail_any w0 S B gp fl p gf sv rv 64 p.start _ HX.out).mono ?_; rintro e w6 ⟨rfl, hf⟩; have HF := Lib.hid hf; clear hf))
        go_ret
        exact ⟨rfl, _, _, _, HF.out⟩
      · have hr2 := hr1.trans (if_neg (fun h => h3 h.2))
        subst hr2
        have h3' : leB s l.node.last = false := by simpa using h3
        rw [h3'] at hcmp
        clear HR h1 h2 h3 h3' hr1 hkv
        go_upto_region 9 with (go_at_call 61; refine (KM.out _).mono ?_; rintro e w' ⟨rfl, rfl⟩)
        generalize w3.setCell ⟨gs, r.length * 5 + 4, none⟩ (.string s) = w4 at *
        have c7 := HK.out.c7
        have f7 := HK.out.free 7
        have hq := HK.out.put (p' := { p with x := { p.x with stack := kidSet s l :: r, next := 15 } }) 7 (.int .i64 (15 : Nat)) rfl rfl rfl
        have HQ := Lib.hid hq
        clear hq d4 d3 f4 hlast
        go_wp2_with fail
        go_ret
        exact ⟨rfl, _, _, _, HQ.out⟩
    · have hr2 := hr1.trans (if_neg (fun h => h2 h.1))
      subst hr2
      have h2I : ¬ (0 : Int) < l.node.cnt := by omega
      have h2D : decide ((0 : Int) < l.node.cnt) = false := decide_eq_false h2I
      obtain ⟨A3, l3, k3, hkv⟩ := owns_slice TX.out.own
      have hl3 : l3 = l.node.cnt := by
        obtain ⟨_, ⟨h, h'⟩ | ⟨g, cap, cur, h, _⟩⟩ := TX.out.own
        · rw [hkv] at h; injection h with _ e _; omega
        · rw [hkv] at h; injection h
      rw [hkv, hl3] at d3
      clear HR h1 h2 hr1 hkv hl3
      go_upto_region 9 with fail
      generalize w3.setCell ⟨gs, r.length * 5 + 4, none⟩ (.string s) = w4 at *
      have c7 := HK.out.c7
      have f7 := HK.out.free 7
      have hq := HK.out.put (p' := { p with x := { p.x with stack := kidSet s l :: r, next := 15 } }) 7 (.int .i64 (15 : Nat)) rfl rfl rfl
      have HQ := Lib.hid hq
      clear hq d4 d3 f4
      go_wp2_with fail
      go_ret
      exact ⟨rfl, _, _, _, HQ.out⟩
  · have hr1 := HR.out.symm.trans (if_pos h1)
    subst hr1
    have h1I : (nm s != 0) = true := by simpa using h1
    clear HR h1 TX
    go_wp2_with (go_at_call 26; refine (pfail_any w0 S B gp fl p gf sv rv (nm s) p.start _ HX.out).mono ?_; rintro e w6 ⟨rfl, hf⟩; have HF := Lib.hid hf; clear hf)
    go_ret
    exact ⟨rfl, _, _, _, HF.out⟩
end Go.Proofs.YtlcppkcclolgcaaDoor
