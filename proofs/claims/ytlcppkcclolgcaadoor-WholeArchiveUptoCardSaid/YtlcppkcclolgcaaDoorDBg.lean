/- The walk of the parser's close. The walk of the parser's close. The walk of the parser's choose. The walk of the parser's word. The walk of the parser's word: texts, targets, closing; every word. -/
import Derived.Test.YtlcppkcclolgcaaDoorDBf
namespace Go.Proofs.YtlcppkcclolgcaaDoor
set_option linter.unusedVariables false
set_option linter.unusedSimpArgs false
open Go.RowKit
open Go.Proofs.YtlcppkcclolgcaaDoorW.PrintLast

theorem PaW.stk_top {w0 w : World} {S : Nat → Prop} {B gp : Nat} {fl : Nat → Nat} {p : PS} {gf : Nat} {sv rv : Value} (H : PaW w0 S w B gp fl p gf sv rv) {l : Lv} {r : List Lv} (hs : p.x.stack = l :: r) {gs cap : Nat} {kv : Value} {ks0 : List Value} (T : TopS w B fl l r.length sv gs cap kv ks0) :
    ∃ cr ks, w.ownsRow B 122 5 sv (r.length + 1) (cr ++ lvCells l kv) ∧ cr.length = r.length * 5 ∧ StC fl w B r cr ∧ w.ownsRow B 95 5 kv l.node.cnt ks ∧ l.node.KC (fun b => fl b = 0) w ks ∧ (∀ b, kv.ownBlock = some b → fl b = 5 + r.length) ∧ ∀ k, sv.ownBlock = some k → fl k = 4 := by
  obtain ⟨cs, h1, h2, h3⟩ := H.stk
  rw [hs] at h1 h2
  obtain ⟨cr, kv', ks, rfl, h4, h5, h6, h7⟩ := h2
  have hl := h4.len
  have e : kv' = kv := by
    have h1' := h1
    rw [T.sv] at h1'
    have hc := h1'.cells (g := gs) rfl (r.length * 5 + 3) kv' (by rw [List.getElem?_append_right (by omega), show r.length * 5 + 3 - cr.length = 3 by omega]; rfl)
    rw [addr_add0, T.cell 3 (by omega)] at hc
    simpa [lvCells] using hc.symm
  subst e
  exact ⟨cr, ks, h1, hl, h4, h5, h6, h7, h3⟩
theorem owns_cap {w : World} {B : Nat} {e : TypeId} {sz g n cap : Nat} {xs : List Value} (h : w.ownsRow B e sz (.slice (some ⟨g, 0, none⟩) n cap) n xs) : n ≤ cap ∧ cap ≤ maxLen := by
  obtain ⟨h1, ⟨h2, _⟩ | ⟨g', cap', cur, hv, hb, hg, hn, hm, hs, ht⟩⟩ := h
  · cases h2
  · injection hv with e1 e2 e3
    subst e3
    exact ⟨hn, hm⟩
theorem owns_cut {w : World} {B : Nat} {e : TypeId} {sz g n cap : Nat} {xs ys : List Value} (h : w.ownsRow B e sz (.slice (some ⟨g, 0, none⟩) (n + 1) cap) (n + 1) (xs ++ ys)) (hx : xs.length = n * sz) : w.ownsRow B e sz (.slice (some ⟨g, 0, none⟩) n cap) n xs := by
  obtain ⟨h1, ⟨h2, _⟩ | ⟨g', cap', cur, hv, hb, hg, hn, hm, hs, ht⟩⟩ := h
  · cases h2
  · injection hv with e1 e2 e3
    injection e1 with e1
    injection e1 with e1 e4 e5
    subst e1
    subst e3
    refine ⟨hx, .inr ⟨g, cap, cur, rfl, hb, hg, by omega, hm, hs, ?_⟩⟩
    have := congrArg (List.take (n * sz)) ht
    rw [List.take_take, Nat.min_eq_left (Nat.mul_le_mul_right _ (Nat.le_succ n)), List.take_append_of_le_length (by omega), List.take_of_length_le (l := xs) (by omega)] at this
    exact this
/-- kids in their row, as a tree's -/
theorem kids_in {w : World} {B : Nat} {S : Nat → Prop} {n : ND} {kv : Value} {ks : List Value} (ho : w.ownsRow B 95 5 kv n.cnt ks) (hk : n.KC S w ks) (hS : ∀ b, kv.ownBlock = some b → S b) : ∃ a c, kv = .slice a n.cnt c ∧ n.InS S w a := by
  obtain ⟨h1, ⟨rfl, h0⟩ | ⟨g, cap, cur, rfl, hb, hg, hn, hm, hs, ht⟩⟩ := ho
  · exact ⟨none, 0, by rw [h0], .inl h0⟩
  · refine ⟨some ⟨g, 0, none⟩, cap, rfl, .inr ⟨_, rfl, ?_⟩⟩
    exact ND.KC.row (hS g rfl) cur hg (by rw [h1]; exact ht) hk
/-- the innermost open node is taken off -/
theorem PaW.pop {w0 w : World} {S : Nat → Prop} {B gp : Nat} {fl : Nat → Nat} {p : PS} {gf : Nat} {sv rv : Value} (H : PaW w0 S w B gp fl p gf sv rv) {l : Lv} {r : List Lv} (hs : p.x.stack = l :: r) {gs cap : Nat} {kv : Value} {ks0 : List Value} (T : TopS w B fl l r.length sv gs cap kv ks0) :
    PaW w0 S (w.setCell ⟨gp, 9, none⟩ (.slice (some ⟨gs, 0, none⟩) r.length cap)) B gp (lbl fl kv 0) { p with x := { p.x with stack := r } } gf (.slice (some ⟨gs, 0, none⟩) r.length cap) rv ∧
      ∃ a c, kv = .slice a l.node.cnt c ∧ l.node.InS (fun b => lbl fl kv 0 b = 0) (w.setCell ⟨gp, 9, none⟩ (.slice (some ⟨gs, 0, none⟩) r.length cap)) a := by
  obtain ⟨cr, ks, h1, hl, h4, h5, h6, h7, h3⟩ := H.stk_top hs T
  obtain ⟨a, cap', e, hroot⟩ := H.root
  have hlab := H.lab
  have hsv := T.sv
  subst hsv
  have hf0 : ∀ b, fl b = 0 → lbl fl kv 0 b = 0 := fun b h0 => by
    rw [lbl_other (fun e => by have := h7 b e; omega)]; exact h0
  have hfr : ∀ b, fl b ≠ 5 + r.length → lbl fl kv 0 b = fl b := fun b hb => lbl_other (fun e => hb (h7 b e))
  have hfn : ∀ b, lbl fl kv 0 b ≠ 0 → fl b ≠ 0 := fun b hb h0 => hb (hf0 b h0)
  have hk : ∀ b, b ≠ gp → (w.setCell ⟨gp, 9, none⟩ (.slice (some ⟨gs, 0, none⟩) r.length cap)).heap[b]? = w.heap[b]? := fun b hb => Below.heap_setCell _ _ _ _ hb
  have hne0 : ∀ b, fl b ≠ 1 → b ≠ gp := fun b hb e => by rw [e] at hb; exact hb hlab
  refine ⟨⟨?_, ?_, fun k h => ⟨(H.hB k (hfn k h)).1, by simpa [World.setCell] using (H.hB k (hfn k h)).2⟩, fun k h => H.sl k (hfn k h), H.away.set gp 9 _ (H.sl gp (by omega)), ⟨cr, ?_, ?_, ?_⟩, a, cap', e, ?_⟩, ?_⟩
  · rw [heap_setCell_same w gp 9 _ _ _ H.row]; rfl
  · rw [hfr gp (by omega)]; exact hlab
  · refine owns_kept (owns_cut h1 hl) (fun b hb hv => hk b (hne0 b ?_))
    rw [h3 b hv]; omega
  · exact h4.kept (fun b hb h0 => ⟨hk b (hne0 b (by omega)), hf0 b h0⟩) (fun b hb h5 h6 => ⟨hk b (hne0 b (by omega)), hfr b (by have : fl b < 5 + r.length := h6; omega)⟩)
  · intro k hv
    rw [hfr k (by rw [h3 k hv]; omega)]
    exact h3 k hv
  · exact hroot.kept (fun b hb h0 => ⟨hk b (hne0 b (by omega)), hf0 b h0⟩)
  · refine kids_in (owns_kept h5 (fun b hb hv => hk b (hne0 b (by rw [h7 b hv]; omega)))) (h6.kept (fun b hb h0 => ⟨hk b (hne0 b (by omega)), hf0 b h0⟩)) (fun b hv => lbl_own hv)
/-- the root is whole -/
theorem PaW.putRoot {w0 w w' : World} {S : Nat → Prop} {B gp : Nat} {fl : Nat → Nat} {p : PS} {gf : Nat} {sv rv : Value} (H : PaW w0 S w B gp fl p gf sv rv) (n : ND) (a : Option Addr) (c : Nat) (hin : n.InS (fun b => fl b = 0) w a)
    (hrow : w'.heap[gp]? = some (.cells (pcells { p with x := { p.x with root := n, whole := true } } gf sv (.slice a n.cnt c)) 57 (0, 0))) (hg : w.grownBy w' (some gp)) :
    PaW w0 S w' B gp fl { p with x := { p.x with root := n, whole := true } } gf sv (.slice a n.cnt c) := by
  obtain ⟨cs, h1, h2, h3⟩ := H.stk
  have hlab := H.lab
  have hk : ∀ b, b < w.heap.size → b ≠ gp → w'.heap[b]? = w.heap[b]? := fun b hb hne => hg.block b hb (by simp; exact hne)
  have hne0 : ∀ b, fl b ≠ 1 → b ≠ gp := fun b hb e => by rw [e] at hb; exact hb hlab
  exact ⟨hrow, hlab, fun k h => ⟨(H.hB k h).1, Nat.lt_of_lt_of_le (H.hB k h).2 hg.size⟩, H.sl, H.away.grown hg (fun k e hl => by injection e with e; subst e; exact H.sl gp (by omega) hl),
    ⟨cs, owns_kept h1 (fun b hb hv => hk b hb (hne0 b (by rw [h3 b hv]; omega))), h2.kept (fun b hb h0 => ⟨hk b hb (hne0 b (by omega)), h0⟩) (fun b hb h5 _ => ⟨hk b hb (hne0 b (by omega)), rfl⟩), h3⟩, a, c, rfl, hin.kept (fun b hb h0 => ⟨hk b hb (hne0 b (by omega)), h0⟩)⟩
/-- a kid more -/
theorem PaW.addKid {w0 w w' : World} {S : Nat → Prop} {B gp : Nat} {fl : Nat → Nat} {p : PS} {gf : Nat} {sv rv v5 : Value} (H : PaW w0 S w B gp fl p gf sv rv) {m : Lv} {r : List Lv} (hs : p.x.stack = m :: r) {gs cap : Nat} {kv : Value} {ks : List Value} (T : TopS w B fl m r.length sv gs cap kv ks)
    (n : ND) (a : Option Addr) (c : Nat) (hin : n.InS (fun b => fl b = 0) w a) (ha : Away w0 S w') (hz : w.heap.size ≤ w'.heap.size) (hk : ∀ b, b < w.heap.size → b ≠ gs → kv.ownBlock ≠ some b → w'.heap[b]? = w.heap[b]?)
    (ho : w'.ownsRow B 95 5 v5 (m.node.cnt + 1) (ks ++ [.string m.kid, .int .i64 n.kind, .bool n.exec, .string n.text, .slice a n.cnt c]))
    (hst : ∀ cr, w.ownsRow B 122 5 sv (r.length + 1) (cr ++ lvCells m kv) → cr.length = r.length * 5 → w'.ownsRow B 122 5 sv (r.length + 1) (cr ++ lvCells m v5))
    (hat : v5.ownBlock = kv.ownBlock ∨ ∃ k, v5.ownBlock = some k ∧ w.heap.size ≤ k) :
    PaW w0 S w' B gp (lbl fl v5 (5 + r.length)) { p with x := { p.x with stack := { m with node := .add m.node m.kid n } :: r } } gf sv rv := by
  obtain ⟨cr, ks', h1, hl, h4, h5, h6, h7, h3⟩ := H.stk_top hs T
  obtain ⟨ar, cap', e, hroot⟩ := H.root
  have hlab := H.lab
  have hgs := T.lab
  have hsz := H.away.size
  have hgp := H.lt
  have hf : ∀ b, b < w.heap.size → fl b ≠ 5 + r.length → lbl fl v5 (5 + r.length) b = fl b := fun b hb hne => lbl_other (fun e => by
    rcases hat with h | ⟨k, h, hk'⟩
    · exact hne (h7 b (by rw [← h, e]))
    · rw [e] at h; injection h with h; omega)
  have hkk : ∀ b, b < w.heap.size → fl b ≠ 4 → fl b ≠ 5 + r.length → w'.heap[b]? = w.heap[b]? := fun b hb h4' h5' => hk b hb (fun e => by rw [e] at h4'; exact h4' hgs) (fun e => h5' (h7 b e))
  have ho' : w'.ownsRow B 95 5 v5 (ND.add m.node m.kid n).cnt (ks ++ [Value.string m.kid, .int .i64 n.kind, .bool n.exec, .string n.text, .slice a n.cnt c]) := ho
  refine ⟨(hkk gp hgp (by omega) (by omega)).trans H.row, by rw [hf gp hgp (by omega)]; exact hlab, fun k h => ?_, fun k h hlt => ?_, ha, ⟨cr ++ lvCells m v5, hst cr h1 hl, ⟨cr, v5, _, rfl, ?_, ho', ⟨ks, a, c, rfl, ?_, ?_⟩, fun b hb => lbl_own hb⟩, fun k hv => ?_⟩, ar, cap', e, ?_⟩
  · by_cases hv : v5.ownBlock = some k
    · exact ho.lt k hv
    · rw [lbl_other hv] at h
      exact ⟨(H.hB k h).1, Nat.lt_of_lt_of_le (H.hB k h).2 hz⟩
  · by_cases hv : v5.ownBlock = some k
    · rcases hat with h' | ⟨k', h', hk'⟩
      · exact H.sl k (by rw [h7 k (by rw [← h', hv])]; omega) hlt
      · rw [hv] at h'; injection h' with h'; omega
    · rw [lbl_other hv] at h
      exact H.sl k h hlt
  · exact h4.kept (fun b hb h0 => ⟨hkk b hb (by omega) (by omega), by rw [hf b hb (by omega)]; exact h0⟩) (fun b hb h5 h6 => ⟨hkk b hb (by omega) (by omega), hf b hb (by omega)⟩)
  · exact T.kc.kept (fun b hb h0 => ⟨hkk b hb (by omega) (by omega), by rw [hf b hb (by omega)]; exact h0⟩)
  · exact hin.kept (fun b hb h0 => ⟨hkk b hb (by omega) (by omega), by rw [hf b hb (by omega)]; exact h0⟩)
  · have hlt := (h1.lt k hv).2
    rw [hf k hlt (by rw [h3 k hv]; omega)]
    exact h3 k hv
  · exact hroot.kept (fun b hb h0 => ⟨hkk b hb (by omega) (by omega), by rw [hf b hb (by omega)]; exact h0⟩)
def zero5 : List Value := [.string ⟨#[]⟩, .int .i64 0, .bool false, .string ⟨#[]⟩, .slice none 0 0]
def put5 (w : World) (g o : Nat) (e0 e1 e2 e3 e4 : Value) : World := ((((w.setCell ⟨g, o, none⟩ e0).setCell ⟨g, o + 1, none⟩ e1).setCell ⟨g, o + 2, none⟩ e2).setCell ⟨g, o + 3, none⟩ e3).setCell ⟨g, o + 4, none⟩ e4
theorem put5_other (w : World) (g o b : Nat) (e0 e1 e2 e3 e4 : Value) (h : b ≠ g) : (put5 w g o e0 e1 e2 e3 e4).heap[b]? = w.heap[b]? :=
  (Below.heap_setCell _ _ _ _ h).trans ((Below.heap_setCell _ _ _ _ h).trans ((Below.heap_setCell _ _ _ _ h).trans ((Below.heap_setCell _ _ _ _ h).trans (Below.heap_setCell _ _ _ _ h))))
theorem put5_grown (w : World) (g o : Nat) (e0 e1 e2 e3 e4 : Value) : w.grownBy (put5 w g o e0 e1 e2 e3 e4) (some g) :=
  only_setG (only_setG (only_setG (only_setG (only_setG (World.grownBy.refl w _) _ _) _ _) _ _) _ _) _ _
theorem put5_owns {w : World} {B : Nat} {e : TypeId} {g n cap : Nat} {xs : List Value} {z0 z1 z2 z3 z4 : Value} (h : w.ownsRow B e 5 (.slice (some ⟨g, 0, none⟩) (n + 1) cap) (n + 1) (xs ++ [z0, z1, z2, z3, z4])) (hx : xs.length = n * 5) (e0 e1 e2 e3 e4 : Value) :
    (put5 w g (n * 5) e0 e1 e2 e3 e4).ownsRow B e 5 (.slice (some ⟨g, 0, none⟩) (n + 1) cap) (n + 1) (xs ++ [e0, e1, e2, e3, e4]) := by
  have hl : ∀ (a b c d f : Value), (xs ++ [a, b, c, d, f]).length = n * 5 + 5 := fun a b c d f => by simp; omega
  have hset : ∀ (j : Nat) (u : Value) (ys : List Value), (xs ++ ys).set (n * 5 + j) u = xs ++ ys.set j u := fun j u ys => by
    rw [List.set_append_right _ _ (by omega), show n * 5 + j - xs.length = j by omega]
  have h0 := owns_set h (n * 5 + 0) (by rw [hl]; omega) e0
  rw [hset] at h0
  have h1 := owns_set h0 (n * 5 + 1) (by simp; omega) e1
  rw [hset] at h1
  have h2 := owns_set h1 (n * 5 + 2) (by simp; omega) e2
  rw [hset] at h2
  have h3 := owns_set h2 (n * 5 + 3) (by simp; omega) e3
  rw [hset] at h3
  have h4 := owns_set h3 (n * 5 + 4) (by simp; omega) e4
  rw [hset] at h4
  exact h4
theorem PaW.addKid2 {w0 w wA w5 w7 : World} {S : Nat → Prop} {B gp : Nat} {fl : Nat → Nat} {p : PS} {gf : Nat} {sv rv : Value} (H : PaW w0 S w B gp fl p gf sv rv) {m : Lv} {r : List Lv} (hs : p.x.stack = m :: r) {gs cap : Nat} {kv : Value} {ks : List Value} (T : TopS w B fl m r.length sv gs cap kv ks)
    (n : ND) (a : Option Addr) (c : Nat) (hin : n.InS (fun b => fl b = 0) w a) (hb : Below w.heap.size w wA) (g5 c5 : Nat) (ho : w5.ownsRow B 95 5 (.slice (some ⟨g5, 0, none⟩) (m.node.cnt + 1) c5) (m.node.cnt + 1) (ks ++ zero5)) (hg : wA.grownBy w5 kv.ownBlock)
    (hat : (Value.slice (some ⟨g5, 0, none⟩) (m.node.cnt + 1) c5).ownBlock = kv.ownBlock ∨ (Value.slice (some ⟨g5, 0, none⟩) (m.node.cnt + 1) c5).ownBlock = some wA.heap.size)
    (h7 : w7 = (put5 w5 g5 (m.node.cnt * 5) (.string m.kid) (.int .i64 n.kind) (.bool n.exec) (.string n.text) (.slice a n.cnt c)).setCell ⟨gs, r.length * 5 + 3, none⟩ (.slice (some ⟨g5, 0, none⟩) (m.node.cnt + 1) c5) ∨
      w7 = put5 (w5.setCell ⟨gs, r.length * 5 + 3, none⟩ (.slice (some ⟨g5, 0, none⟩) (m.node.cnt + 1) c5)) g5 (m.node.cnt * 5) (.string m.kid) (.int .i64 n.kind) (.bool n.exec) (.string n.text) (.slice a n.cnt c)) :
    PaW w0 S w7 B gp (lbl fl (.slice (some ⟨g5, 0, none⟩) (m.node.cnt + 1) c5) (5 + r.length)) { p with x := { p.x with stack := { m with node := .add m.node m.kid n } :: r } } gf sv rv := by
  have hlt := T.lt
  have hgs := T.lab
  have hkl := T.klab
  have hz := hb.size
  have hz5 := hg.size
  have hsz := H.away.size
  have hks := T.kc.len
  have hat' : g5 = wA.heap.size ∨ kv.ownBlock = some g5 := by
    rcases hat with h | h
    · exact .inr h.symm
    · left; injection h
  have hne : g5 ≠ gs := by
    rcases hat' with h | h
    · omega
    · intro e; subst e; have := hkl _ h; omega
  have hw5 : ∀ b, b < w.heap.size → kv.ownBlock ≠ some b → w5.heap[b]? = w.heap[b]? := fun b hb' hv => by
    rw [hg.block b (by omega) (fun e => hv e.symm), hb.block b hb']
  have hS : ∀ k, k < w0.heap.size → kv.ownBlock = some k → S k := fun k hk hv => H.sl k (by rw [hkl k hv]; omega) hk
  have hSs : gs < w0.heap.size → S gs := fun h => H.sl gs (by omega) h
  have hSg : g5 < w0.heap.size → S g5 := fun h => by
    rcases hat' with h' | h'
    · omega
    · exact hS g5 h h'
  have ha5 : Away w0 S w5 := (H.away.later hb).grown hg (fun k e hk => hS k hk e)
  have hat2 : (Value.slice (some ⟨g5, 0, none⟩) (m.node.cnt + 1) c5).ownBlock = kv.ownBlock ∨ ∃ k, (Value.slice (some ⟨g5, 0, none⟩) (m.node.cnt + 1) c5).ownBlock = some k ∧ w.heap.size ≤ k := by
    rcases hat with h | h
    · exact .inl h
    · exact .inr ⟨_, h, hz⟩
  have hrow : ∀ cr, w.ownsRow B 122 5 sv (r.length + 1) (cr ++ lvCells m kv) → w5.ownsRow B 122 5 sv (r.length + 1) (cr ++ lvCells m kv) := fun cr h => owns_kept h (fun b hb' hv => hw5 b hb' (fun e => by
    have h1 := hkl b e
    rw [T.sv] at hv
    have hv : gs = b := by injection hv
    subst hv
    omega))
  have hset : ∀ (W : World) cr, W.ownsRow B 122 5 sv (r.length + 1) (cr ++ lvCells m kv) → cr.length = r.length * 5 → (W.setCell ⟨gs, r.length * 5 + 3, none⟩ (.slice (some ⟨g5, 0, none⟩) (m.node.cnt + 1) c5)).ownsRow B 122 5 sv (r.length + 1) (cr ++ lvCells m (.slice (some ⟨g5, 0, none⟩) (m.node.cnt + 1) c5)) := fun W cr h hl => by
    rw [T.sv] at h ⊢
    have h1 := owns_set h (r.length * 5 + 3) (by simp [lvCells]; omega) (.slice (some ⟨g5, 0, none⟩) (m.node.cnt + 1) c5)
    rw [List.set_append_right _ _ (by omega), show r.length * 5 + 3 - cr.length = 3 by omega] at h1
    exact h1
  have hgv : ∀ b, (Value.slice (some ⟨g5, 0, none⟩) (m.node.cnt + 1) c5).ownBlock = some b → b = g5 := fun b h => by injection h with h; exact h.symm
  have hsvb : ∀ b, sv.ownBlock = some b → b = gs := fun b h => by rw [T.sv] at h; injection h with h; exact h.symm
  have hbne : ∀ b, b < w.heap.size → kv.ownBlock ≠ some b → b ≠ g5 := fun b hb' hv => by
    rcases hat' with h | h
    · omega
    · intro e; subst e; exact hv h
  rcases h7 with h7 | h7
  · have P1 := put5_grown w5 g5 (m.node.cnt * 5) (.string m.kid) (.int .i64 n.kind) (.bool n.exec) (.string n.text) (.slice a n.cnt c)
    have P2 := fun b h => put5_other w5 g5 (m.node.cnt * 5) b (.string m.kid) (.int .i64 n.kind) (.bool n.exec) (.string n.text) (.slice a n.cnt c) h
    have P3 := put5_owns ho hks (.string m.kid) (.int .i64 n.kind) (.bool n.exec) (.string n.text) (.slice a n.cnt c)
    generalize put5 w5 g5 (m.node.cnt * 5) (.string m.kid) (.int .i64 n.kind) (.bool n.exec) (.string n.text) (.slice a n.cnt c) = wP at *
    have hzP := P1.size
    have haP : Away w0 S wP := ha5.grown P1 (fun k e hk => by injection e with e; subst e; exact hSg hk)
    have hz7 : w7.heap.size = wP.heap.size := by rw [h7]; simp [World.setCell]
    have hk7 : ∀ b, b ≠ gs → w7.heap[b]? = wP.heap[b]? := fun b hb' => by rw [h7]; exact Below.heap_setCell _ _ _ _ hb'
    have ha7 : Away w0 S w7 := by rw [h7]; exact haP.set gs _ _ hSs
    refine H.addKid hs T n a c hin ha7 (by omega) (fun b hb' hbs hv => (hk7 b hbs).trans ((P2 b (hbne b hb' hv)).trans (hw5 b hb' hv))) (owns_kept P3 (fun b _ hv => hk7 b (by rw [hgv b hv]; exact hne))) (fun cr h hl => ?_) hat2
    rw [h7]
    exact hset wP cr (owns_kept (hrow cr h) (fun b _ hv => P2 b (by rw [hsvb b hv]; exact fun e => hne e.symm))) hl
  · obtain ⟨wQ, hwQ⟩ : ∃ wQ, wQ = w5.setCell ⟨gs, r.length * 5 + 3, none⟩ (.slice (some ⟨g5, 0, none⟩) (m.node.cnt + 1) c5) := ⟨_, rfl⟩
    rw [← hwQ] at h7
    have hzQ : wQ.heap.size = w5.heap.size := by rw [hwQ]; simp [World.setCell]
    have hkQ : ∀ b, b ≠ gs → wQ.heap[b]? = w5.heap[b]? := fun b hb' => by rw [hwQ]; exact Below.heap_setCell _ _ _ _ hb'
    have haQ : Away w0 S wQ := by rw [hwQ]; exact ha5.set gs _ _ hSs
    have hoQ := owns_kept (w' := wQ) ho (fun b _ hv => hkQ b (by rw [hgv b hv]; exact hne))
    have hrQ : ∀ cr, w.ownsRow B 122 5 sv (r.length + 1) (cr ++ lvCells m kv) → cr.length = r.length * 5 → wQ.ownsRow B 122 5 sv (r.length + 1) (cr ++ lvCells m (.slice (some ⟨g5, 0, none⟩) (m.node.cnt + 1) c5)) := fun cr h hl => by rw [hwQ]; exact hset w5 cr (hrow cr h) hl
    clear hwQ
    have P1 := put5_grown wQ g5 (m.node.cnt * 5) (.string m.kid) (.int .i64 n.kind) (.bool n.exec) (.string n.text) (.slice a n.cnt c)
    have P2 := fun b h => put5_other wQ g5 (m.node.cnt * 5) b (.string m.kid) (.int .i64 n.kind) (.bool n.exec) (.string n.text) (.slice a n.cnt c) h
    have P3 := put5_owns hoQ hks (.string m.kid) (.int .i64 n.kind) (.bool n.exec) (.string n.text) (.slice a n.cnt c)
    rw [← h7] at P1 P2 P3
    have hzP := P1.size
    exact H.addKid hs T n a c hin (haQ.grown P1 (fun k e hk => by injection e with e; subst e; exact hSg hk)) (by omega) (fun b hb' hbs hv => (P2 b (hbne b hb' hv)).trans ((hkQ b hbs).trans (hw5 b hb' hv))) P3 (fun cr h hl => owns_kept (hrQ cr h hl) (fun b _ hv => P2 b (by rw [hsvb b hv]; exact fun e => hne e.symm))) hat2
end Go.Proofs.YtlcppkcclolgcaaDoor

namespace Go.Proofs.YtlcppkcclolgcaaDoor
set_option linter.unusedVariables false
set_option linter.unusedSimpArgs false
open Go.RowKit
open Go.Proofs.YtlcppkcclolgcaaDoorW.PrintLast

theorem wp_own_at {P : Program} (w : World) {o : Oper} {a : Act} {K : Act → World → Prop} {Q : Exit → Act → World → Prop} (s x : Operand) (t : TypeId)
    (ho : o.op = .call { callee := .builtin .append, args := #[s, x], argTypes := #[t, t] })
    (base : Nat) (e : TypeId) (i : TypeInfo) (z : Value) (size bytes : Nat) (ht : P.underlying t = some (.slice e)) (hi : P.info? e = some i) (hz : i.zero = some z)
    (hsize : i.size = size) (hby : i.bytes = bytes) (hzs : z.cells.size = size) (hsz : 0 < size)
    (v : Value) (n : Nat) (xs : List Value) (hs : a.eval s = v) (hown : w.ownsRow base e size v n xs)
    (ad : Addr) (m c : Nat) (news : List Value) (hx : a.eval x = .slice (some ad) m c) (hl : news.length = m * size) (hnews : ∀ j u, news[j]? = some u → w.cell? (ad.add j) = some u) (h1 : ∀ u ∈ news, u.oneCell' = true)
    (h63 : n + m ≤ maxLen) (hbytes : (n + m) * bytes ≤ 140737488355328) (hbase : base ≤ w.heap.size)
    (h : ∀ v' w', w'.ownsRow base e size v' (n + m) (xs ++ news) → w.grownBy w' v.ownBlock → (v'.ownBlock = v.ownBlock ∨ v'.ownBlock = some w.heap.size) → K (a.put o.dst v') w') : o.wp P a w K Q := by
  obtain ⟨v', w', hr, h2, h3, h4, h5⟩ := run_append_own_at (P := P) w base t o.type e i z size bytes ht hi hz hsize hby hzs hsz v n xs hown ad m c news hl hnews h1 h63 hbytes hbase
  unfold Oper.wp execOp
  simp only [ho, resolve, invoke, builtin, Sem.run_bind, Sem.run_pure, Result.andThen_ok, List.map_toArray, List.map_cons, List.map_nil, hs, hx, hr]
  exact h v' w' h2 h3 h5
theorem zero5_one : ∀ u ∈ zero5, u.oneCell' = true := by
  intro u hu
  simp only [zero5, List.mem_cons, List.not_mem_nil, or_false] at hu
  rcases hu with rfl | rfl | rfl | rfl | rfl <;> rfl
theorem owns_row {w : World} {B : Nat} {e : TypeId} {sz n m : Nat} {v : Value} {xs : List Value} (h : w.ownsRow B e sz v n xs) (hn : n = m + 1) : ∃ g c, v = .slice (some ⟨g, 0, none⟩) (m + 1) c := by
  subst hn
  obtain ⟨_, ⟨_, h0⟩ | ⟨g, cap, cur, h, _⟩⟩ := h
  · omega
  · exact ⟨g, cap, h⟩
theorem zero_cells {w : World} {B : Nat} {g n c : Nat} {ks : List Value} (h : w.ownsRow B 95 5 (.slice (some ⟨g, 0, none⟩) (n + 1) c) (n + 1) (ks ++ zero5)) (hk : ks.length = n * 5) : (∀ j, j < 5 → w.cell? ⟨g, n * 5 + j, none⟩ = zero5[j]?) ∧ ∀ j, w.frozen? ⟨g, j, none⟩ = false := by
  have hc := h
  obtain ⟨_, ⟨h2, _⟩ | ⟨g', cap', cur, hv, hb, hg, hn, hm, hs, ht⟩⟩ := h
  · cases h2
  · injection hv with e1 e2 e3
    injection e1 with e1
    injection e1 with e1
    subst e1
    refine ⟨fun j hj => ?_, fun j => frozen_of_row w g j _ _ hg⟩
    have hz : (ks ++ zero5)[n * 5 + j]? = zero5[j]? := by rw [List.getElem?_append_right (by omega), show n * 5 + j - ks.length = j by omega]
    have hjl : j < zero5.length := by simpa [zero5] using hj
    have := hc.cells (g := g) rfl (n * 5 + j) _ (hz.trans (List.getElem?_eq_getElem hjl))
    rw [addr_add0] at this
    rw [this, List.getElem?_eq_getElem hjl]
set_option maxRecDepth 100000 in
set_option maxHeartbeats 4000000 in
theorem pclose_any (w0 : World) (S : Nat → Prop) (B gp : Nat) (fl : Nat → Nat) (p : PS) (gf : Nat) (sv rv : Value) (w : World) (H : PaW w0 S w B gp fl p gf sv rv) (l : Lv) (r : List Lv) (hs : p.x.stack = l :: r) (hr : r.length ≤ 32) (hcn : ∀ m ∈ r, m.node.cnt ≤ 1048576) :
    Calls Tryd.prog 49 #[.pointer (some ⟨gp, 0, none⟩)] w fun e w' => e = .returned (.tuple #[]) ∧ ∃ fl' sv' rv', PaW w0 S w' B gp fl' { p with x := p.x.close } gf sv' rv' := by
  obtain ⟨gs, cap, kv, ks, T⟩ := H.top hs
  have CT := Lib.hid ((ptop_any w0 S B gp fl p gf sv rv w H gs r.length cap T.sv (by omega)).mono fun e w' h => (show e = .returned (.pointer (some ⟨gs, r.length * 5, none⟩)) ∧ Below w.heap.size w w' from ⟨h.1, by obtain ⟨k, rfl⟩ := h.2; exact below_drw w k⟩))
  have HH := Lib.hid H
  have HT := Lib.hid T
  obtain ⟨A3, l3, k3, hkv⟩ := owns_slice T.own
  have HKV := Lib.hid hkv
  clear H T hkv
  go_enter Tryd.func49, Tryd.ntmps49
  go_upto_region 1 with (go_at_call 46; refine CT.out.mono ?_; rintro e w1 ⟨rfl, h1⟩; have HX := Lib.hid (HH.out.later h1); have TX := Lib.hid (HT.out.later h1); have d0 : w1.cell? ⟨gs, r.length * 5, none⟩ = some (.int .i64 l.node.kind) := TX.out.cell 0 (by omega); have d1 : w1.cell? ⟨gs, r.length * 5 + 1, none⟩ = some (.bool l.node.exec) := TX.out.cell 1 (by omega); have d2 : w1.cell? ⟨gs, r.length * 5 + 2, none⟩ = some (.string l.node.text) := TX.out.cell 2 (by omega); have d3 : w1.cell? ⟨gs, r.length * 5 + 3, none⟩ = some (.slice A3 l3 k3) := (TX.out.cell 3 (by omega)).trans (congrArg some HKV.out); clear h1)
  have hB : Below w1.heap.size w1 (w1.alloc (.cells #[.int .i64 l.node.kind, .bool l.node.exec, .string l.node.text, .slice A3 l3 k3] 25)).drew := ((Below.refl _ _).alloc (Nat.le_refl _) _).drew
  have HX2 := Lib.hid (HX.out.later hB)
  have TX2 := Lib.hid (TX.out.later hB)
  have hbx : (w1.alloc (.cells #[.int .i64 l.node.kind, .bool l.node.exec, .string l.node.text, .slice A3 l3 k3] 25)).drew.heap[w1.heap.size]? = some (.cells #[.int .i64 l.node.kind, .bool l.node.exec, .string l.node.text, .slice A3 l3 k3] 25 (0, 0)) := heap_alloc_new w1 _
  have HBX := Lib.hid hbx
  have e9 := HX.out.c9
  rw [TX.out.sv] at e9
  have hgs := TX.out.lt
  have hgp := HX.out.lt
  have e1 : ((r.length + 1 : Nat) : Int) = (r.length : Int) + 1 := by omega
  have hr0 : (0 : Int) ≤ r.length := by omega
  have hr1 : (r.length : Int) ≤ 32 := by omega
  obtain ⟨cr0, _, hrow0, _⟩ := HX.out.stk_top hs TX.out
  rw [TX.out.sv] at hrow0
  obtain ⟨hcap1, hcap2⟩ := owns_cap hrow0
  have hcI : (r.length : Int) ≤ cap := by omega
  have hwr : IntKind.i64.wrap (r.length : Int) = r.length := IntWalk.i64_in _ (by omega)
  clear hB hbx hrow0
  generalize hm : w1.heap.size = m at *
  have hmg : gp ≠ m := by omega
  have hms : gs ≠ m := by omega
  have e9' : (w1.alloc (.cells #[.int .i64 l.node.kind, .bool l.node.exec, .string l.node.text, .slice A3 l3 k3] 25)).cell? ⟨gp, 9, none⟩ = some (.slice (some ⟨gs, 0, none⟩) (r.length + 1) cap) := cell_past e9 _
  clear d0 d1 d2 d3 e9 hm
  generalize w1.alloc (.cells #[.int .i64 l.node.kind, .bool l.node.exec, .string l.node.text, .slice A3 l3 k3] 25) = wA at *
  go_still_tail 12, (by kernel_rfl)
  change wpList _ _ _ _ _ wA.drew
  generalize wA.drew = w2 at *
  clear e9'
  have e9 := HX2.out.c9
  rw [TX2.out.sv] at e9
  have g9 := HX2.out.free 9
  obtain ⟨hp, a, c, hkv, hin⟩ := HX2.out.pop hs TX2.out
  have HP := Lib.hid hp
  have HIN := Lib.hid hin
  have HBX3 := Lib.hid ((Below.heap_setCell w2 ⟨gp, 9, none⟩ (.slice (some ⟨gs, 0, none⟩) r.length cap) m (fun e => hmg e.symm)).trans HBX.out)
  have hkv2 := HKV.out.symm.trans hkv
  injection hkv2 with q1 q2 q3
  subst q1 q2 q3
  clear hp hin hkv
  go_upto_region 2 with fail
  generalize hw3 : w2.setCell ⟨gp, 9, none⟩ (.slice (some ⟨gs, 0, none⟩) r.length cap) = w3 at *
  clear hw3 e9 g9
  have b0 := cell_of_row w3 m 0 _ _ _ HBX3.out
  have b1 := cell_of_row w3 m 1 _ _ _ HBX3.out
  have b2 := cell_of_row w3 m 2 _ _ _ HBX3.out
  have b3 := cell_of_row w3 m 3 _ _ _ HBX3.out
  have c9 := HP.out.c9
  clear hcap1 hcap2 hcI hwr HX TX HX2 TX2 HH HT CT HBX
  cases r with
  | nil =>
    have k0 : ((([] : List Lv).length : Nat) : Int) = 0 := rfl
    have c10 : w3.cell? ⟨gp, 10, none⟩ = some (.int .i64 p.x.root.kind) := HP.out.cell 10
    have c11 : w3.cell? ⟨gp, 11, none⟩ = some (.bool p.x.root.exec) := HP.out.cell 11
    have c12 : w3.cell? ⟨gp, 12, none⟩ = some (.string p.x.root.text) := HP.out.cell 12
    have c13 : w3.cell? ⟨gp, 13, none⟩ = some rv := HP.out.cell 13
    have c6 := HP.out.c6
    have f10 := HP.out.free 10
    have f11 := HP.out.free 11
    have f12 := HP.out.free 12
    have f13 := HP.out.free 13
    have f6 := HP.out.free 6
    have hcl : p.x.close = { p.x with stack := [], root := l.node, whole := true } := by
      unfold WS.close
      rw [hs]
    obtain ⟨w4, hw4⟩ : ∃ w4, w4 = ((((w3.setCell ⟨gp, 10, none⟩ (.int .i64 l.node.kind)).setCell ⟨gp, 11, none⟩ (.bool l.node.exec)).setCell ⟨gp, 12, none⟩ (.string l.node.text)).setCell ⟨gp, 13, none⟩ (.slice A3 l.node.cnt k3)).setCell ⟨gp, 6, none⟩ (.bool true) := ⟨_, rfl⟩
    have hg4 : w3.grownBy w4 (some gp) := by
      rw [hw4]
      exact only_setG (only_setG (only_setG (only_setG (only_setG (World.grownBy.refl w3 _) 10 _) 11 _) 12 _) 13 _) 6 _
    have hrow : w4.heap[gp]? = some (.cells (pcells { p with x := { p.x with stack := [], root := l.node, whole := true } } gf (.slice (some ⟨gs, 0, none⟩) ([] : List Lv).length cap) (.slice A3 l.node.cnt k3)) 57 (0, 0)) := by
      rw [hw4, heap_setCell_same _ gp 6 _ _ _ (heap_setCell_same _ gp 13 _ _ _ (heap_setCell_same _ gp 12 _ _ _ (heap_setCell_same _ gp 11 _ _ _ (heap_setCell_same _ gp 10 _ _ _ HP.out.row))))]
      rfl
    have hq := HP.out.putRoot l.node A3 k3 HIN.out hrow hg4
    have HQ := Lib.hid hq
    have HW4 := Lib.hid hw4
    have HCL := Lib.hid hcl
    clear hq hrow hg4 hw4 hcl HP HIN HBX3
    go_wp2_with fail
    rw [← HW4.out]
    refine bodyPost_ret (v := .tuple #[]) (by simp [results, Tryd.results49]) rfl ?_
    rw [HCL.out]
    exact ⟨rfl, _, _, _, HQ.out⟩
  | cons m' r' =>
    have HS2 : Hid (({ p with x := { p.x with stack := m' :: r' } } : PS).x.stack = m' :: r') := Lib.hid rfl
    obtain ⟨gs', cap', kv', ks', T'⟩ := HP.out.top HS2.out
    have CT2 := Lib.hid ((ptop_any w0 S B gp _ _ gf _ rv w3 HP.out gs' r'.length cap' T'.sv (by simp only [List.length_cons] at hr; omega)).mono fun e w' h => (show e = .returned (.pointer (some ⟨gs', r'.length * 5, none⟩)) ∧ Below w3.heap.size w3 w' from ⟨h.1, by obtain ⟨k, rfl⟩ := h.2; exact below_drw w3 k⟩))
    have T2 := Lib.hid T'
    obtain ⟨A4, l4, k4, hkv4⟩ := owns_slice T'.own
    have HKV4 := Lib.hid hkv4
    clear T' hkv4
    have hk1 : (((m' :: r').length : Nat) : Int) = (r'.length : Int) + 1 := by simp
    rw [show ((m' :: r').length) = r'.length + 1 from rfl] at c9
    have hk2 : ((r'.length : Int) + 1 == 0) = false := by simp; omega
    go_upto_region 5 with (go_at_call 46; refine CT2.out.mono ?_; rintro e w4 ⟨rfl, h4⟩; have HX4 := Lib.hid (HP.out.later h4); have TX4 := Lib.hid (T2.out.later h4); have HIN4 := Lib.hid (HIN.out.kept (fun b hb h0 => ⟨h4.block b hb, h0⟩)); have HBX4 := Lib.hid ((h4.block m (lt_of_row HBX3.out)).trans HBX3.out); clear h4)
    obtain ⟨hgs2, hcap2⟩ : gs' = gs ∧ cap' = cap := by
      have h := T2.out.sv
      injection h with h1 h2 h3
      injection h1 with h1
      injection h1 with h1
      exact ⟨h1.symm, h3.symm⟩
    subst hgs2
    subst hcap2
    have d3 : w4.cell? ⟨gs', r'.length * 5 + 3, none⟩ = some (.slice A4 l4 k4) := (TX4.out.cell 3 (by omega)).trans (congrArg some HKV4.out)
    have d4 : w4.cell? ⟨gs', r'.length * 5 + 4, none⟩ = some (.string m'.kid) := TX4.out.cell 4 (by omega)
    have e0 : w4.cell? ⟨m, 0, none⟩ = some (.int .i64 l.node.kind) := cell_of_row w4 m 0 _ _ _ HBX4.out
    have e1' : w4.cell? ⟨m, 1, none⟩ = some (.bool l.node.exec) := cell_of_row w4 m 1 _ _ _ HBX4.out
    have e2 : w4.cell? ⟨m, 2, none⟩ = some (.string l.node.text) := cell_of_row w4 m 2 _ _ _ HBX4.out
    have e3 : w4.cell? ⟨m, 3, none⟩ = some (.slice A3 l.node.cnt k3) := cell_of_row w4 m 3 _ _ _ HBX4.out
    have hl4 : l4 = m'.node.cnt := by
      obtain ⟨_, ⟨h, h'⟩ | ⟨g, cap, cur, h, _⟩⟩ := T2.out.own
      · have h2 := HKV4.out; rw [h2] at h; injection h with _ e _; omega
      · have h2 := HKV4.out; rw [h2] at h; injection h
    subst hl4
    have hcm := hcn m' (List.mem_cons_self ..)
    have hml := lt_of_row HBX4.out
    have hgl := TX4.out.lt
    have s3 := cell_past d3 (.cells #[.string ⟨#[]⟩, .int .i64 0, .bool false, .string ⟨#[]⟩, .slice none 0 0] 95)
    have s4 := cell_past d4 (.cells #[.string ⟨#[]⟩, .int .i64 0, .bool false, .string ⟨#[]⟩, .slice none 0 0] 95)
    have t0 := cell_past e0 (.cells #[.string ⟨#[]⟩, .int .i64 0, .bool false, .string ⟨#[]⟩, .slice none 0 0] 95)
    have t1 := cell_past e1' (.cells #[.string ⟨#[]⟩, .int .i64 0, .bool false, .string ⟨#[]⟩, .slice none 0 0] 95)
    have t2 := cell_past e2 (.cells #[.string ⟨#[]⟩, .int .i64 0, .bool false, .string ⟨#[]⟩, .slice none 0 0] 95)
    have t3 := cell_past e3 (.cells #[.string ⟨#[]⟩, .int .i64 0, .bool false, .string ⟨#[]⟩, .slice none 0 0] 95)
    have HSS := Lib.hid (And.intro s3 (And.intro s4 (And.intro t0 (And.intro t1 (And.intro t2 t3)))))
    clear s3 s4 t0 t1 t2 t3 b0 b1 b2 b3
    obtain ⟨i0, hi0, hz0, hz1, hz2⟩ := info_parts (show (Tryd.prog.info? 95).map (fun i => (i.zero, i.size, i.bytes)) = some (some (.agg #[.string ⟨#[]⟩, .int .i64 0, .bool false, .string ⟨#[]⟩, .slice none 0 0]), 5, 72) by kernel_rfl)
    have hbz : Below w4.heap.size w4 (w4.alloc (.cells #[.string ⟨#[]⟩, .int .i64 0, .bool false, .string ⟨#[]⟩, .slice none 0 0] 95)).drew := ((Below.refl _ _).alloc (Nat.le_refl _) _).drew
    have hoz : (w4.alloc (.cells #[.string ⟨#[]⟩, .int .i64 0, .bool false, .string ⟨#[]⟩, .slice none 0 0] 95)).drew.ownsRow B 95 5 kv' m'.node.cnt ks' := owns_kept TX4.out.own (fun b hb _ => hbz.block b hb)
    have hnew : ∀ j u, zero5[j]? = some u → (w4.alloc (.cells #[.string ⟨#[]⟩, .int .i64 0, .bool false, .string ⟨#[]⟩, .slice none 0 0] 95)).drew.cell? ((⟨w4.heap.size, 0, none⟩ : Addr).add j) = some u := news_cells w4 zero5 95
    have hBz : B ≤ (w4.alloc (.cells #[.string ⟨#[]⟩, .int .i64 0, .bool false, .string ⟨#[]⟩, .slice none 0 0] 95)).drew.heap.size := by
      have h := HX4.out.hB gp (by rw [HX4.out.lab]; omega)
      have h2 := hbz.size
      omega
    have hm63 : m'.node.cnt + 1 ≤ maxLen := by unfold maxLen; omega
    have hm47 : (m'.node.cnt + 1) * 72 ≤ 140737488355328 := by omega
    have HBZ := Lib.hid hbz
    have HOZ := Lib.hid hoz
    have HNEW := Lib.hid hnew
    have HBBZ := Lib.hid hBz
    clear hbz hoz hnew hBz
    refine wp_region_noPanic ?_
    refine wp_region_last_drew (S := fun w' => w'.cell? ⟨gs', r'.length * 5 + 3, none⟩ = some (.slice A4 m'.node.cnt k4) ∧ w'.cell? ⟨gs', r'.length * 5 + 4, none⟩ = some (.string m'.kid) ∧ w'.cell? ⟨m, 0, none⟩ = some (.int .i64 l.node.kind) ∧ w'.cell? ⟨m, 1, none⟩ = some (.bool l.node.exec) ∧ w'.cell? ⟨m, 2, none⟩ = some (.string l.node.text) ∧ w'.cell? ⟨m, 3, none⟩ = some (.slice A3 l.node.cnt k3)) (ds := [13, 15, 19]) (by kernel_rfl) ⟨d3, d4, e0, e1', e2, e3⟩ (fun hHeld => ?_)
    refine last_pure8 (i := 0) (oi := _) (v := (.pointer (some ⟨gs', r'.length * 5, none⟩))) rfl (by kernel_rfl) (by kernel_rfl) (by kernel_rfl) (fun _ _ _ h => h) (Or.inl ⟨by rfl, fun w' => by go_simp⟩) ?_
    try simp only [Act.put, List.getElem_toArray, List.getElem_cons_succ, List.getElem_cons_zero, List.setIfInBounds_toArray, List.set_cons_zero, List.set_cons_succ]
    refine wpAnyLast_take (i := 1) (oi := _) (v := (.pointer (some ⟨gs', r'.length * 5, none⟩))) rfl (by kernel_rfl) (by kernel_rfl) (by kernel_rfl) (by kernel_rfl) (by kernel_rfl) (fun _ _ _ h => h) (Or.inl ⟨by rfl, fun w' _ => by go_simp⟩) hHeld ?_
    try simp only [Act.put, List.getElem_toArray, List.getElem_cons_succ, List.getElem_cons_zero, List.setIfInBounds_toArray, List.set_cons_zero, List.set_cons_succ]
    refine wpAnyLast_take (i := 2) (oi := _) (v := (.pointer (some ⟨gs', r'.length * 5, none⟩))) rfl (by kernel_rfl) (by kernel_rfl) (by kernel_rfl) (by kernel_rfl) (by kernel_rfl) (fun _ _ _ h => h) (Or.inl ⟨by rfl, fun w' _ => by go_simp⟩) hHeld ?_
    try simp only [Act.put, List.getElem_toArray, List.getElem_cons_succ, List.getElem_cons_zero, List.setIfInBounds_toArray, List.set_cons_zero, List.set_cons_succ]
    refine wpAnyLast_take (i := 3) (oi := _) (v := (.pointer (some ⟨gs', r'.length * 5 + 3, none⟩))) rfl (by kernel_rfl) (by kernel_rfl) (by kernel_rfl) (by kernel_rfl) (by kernel_rfl) (fun _ _ _ h => h) (Or.inl ⟨by rfl, fun w' _ => by go_simp⟩) hHeld ?_
    try simp only [Act.put, List.getElem_toArray, List.getElem_cons_succ, List.getElem_cons_zero, List.setIfInBounds_toArray, List.set_cons_zero, List.set_cons_succ]
    refine wpAnyLast_take (i := 4) (oi := _) (v := (.slice A4 m'.node.cnt k4)) rfl (by kernel_rfl) (by kernel_rfl) (by kernel_rfl) (by kernel_rfl) (by kernel_rfl) (fun _ _ _ h => h) (Or.inl ⟨by rfl, fun w' hSw => by have h1 := hSw.1; go_simp⟩) hHeld ?_
    try simp only [Act.put, List.getElem_toArray, List.getElem_cons_succ, List.getElem_cons_zero, List.setIfInBounds_toArray, List.set_cons_zero, List.set_cons_succ]
    refine wpAnyLast_take (i := 5) (oi := _) (v := (.pointer (some ⟨gs', r'.length * 5, none⟩))) rfl (by kernel_rfl) (by kernel_rfl) (by kernel_rfl) (by kernel_rfl) (by kernel_rfl) (fun _ _ _ h => h) (Or.inl ⟨by rfl, fun w' _ => by go_simp⟩) hHeld ?_
    try simp only [Act.put, List.getElem_toArray, List.getElem_cons_succ, List.getElem_cons_zero, List.setIfInBounds_toArray, List.set_cons_zero, List.set_cons_succ]
    refine wpAnyLast_take (i := 6) (oi := _) (v := (.pointer (some ⟨gs', r'.length * 5, none⟩))) rfl (by kernel_rfl) (by kernel_rfl) (by kernel_rfl) (by kernel_rfl) (by kernel_rfl) (fun _ _ _ h => h) (Or.inl ⟨by rfl, fun w' _ => by go_simp⟩) hHeld ?_
    try simp only [Act.put, List.getElem_toArray, List.getElem_cons_succ, List.getElem_cons_zero, List.setIfInBounds_toArray, List.set_cons_zero, List.set_cons_succ]
    refine wpAnyLast_take (i := 7) (oi := _) (v := (.pointer (some ⟨gs', r'.length * 5 + 4, none⟩))) rfl (by kernel_rfl) (by kernel_rfl) (by kernel_rfl) (by kernel_rfl) (by kernel_rfl) (fun _ _ _ h => h) (Or.inl ⟨by rfl, fun w' _ => by go_simp⟩) hHeld ?_
    try simp only [Act.put, List.getElem_toArray, List.getElem_cons_succ, List.getElem_cons_zero, List.setIfInBounds_toArray, List.set_cons_zero, List.set_cons_succ]
    refine wpAnyLast_take (i := 8) (oi := _) (v := (.string m'.kid)) rfl (by kernel_rfl) (by kernel_rfl) (by kernel_rfl) (by kernel_rfl) (by kernel_rfl) (fun _ _ _ h => h) (Or.inl ⟨by rfl, fun w' hSw => by have h1 := hSw.2.1; go_simp⟩) hHeld ?_
    try simp only [Act.put, List.getElem_toArray, List.getElem_cons_succ, List.getElem_cons_zero, List.setIfInBounds_toArray, List.set_cons_zero, List.set_cons_succ]
    refine wpAnyLast_take (i := 9) (oi := _) (v := (.agg #[.int .i64 l.node.kind, .bool l.node.exec, .string l.node.text, .slice A3 l.node.cnt k3])) rfl (by kernel_rfl) (by kernel_rfl) (by kernel_rfl) (by kernel_rfl) (by kernel_rfl) (fun _ _ _ h => h) (Or.inl ⟨by rfl, fun w' hSw => by have h1 := hSw.2.2.1; have h2 := hSw.2.2.2.1; have h3 := hSw.2.2.2.2.1; have h4 := hSw.2.2.2.2.2; go_simp⟩) hHeld ?_
    try simp only [Act.put, List.getElem_toArray, List.getElem_cons_succ, List.getElem_cons_zero, List.setIfInBounds_toArray, List.set_cons_zero, List.set_cons_succ]
    refine wpAnyLast_take (i := 10) (oi := _) (v := (.agg #[.string m'.kid, .int .i64 l.node.kind, .bool l.node.exec, .string l.node.text, .slice A3 l.node.cnt k3])) rfl (by kernel_rfl) (by kernel_rfl) (by kernel_rfl) (by kernel_rfl) (by kernel_rfl) (fun _ _ _ h => h) (Or.inl ⟨by rfl, fun w' _ => by go_simp⟩) hHeld ?_
    try simp only [Act.put, List.getElem_toArray, List.getElem_cons_succ, List.getElem_cons_zero, List.setIfInBounds_toArray, List.set_cons_zero, List.set_cons_succ]
    refine wpAnyLast_take (i := 11) (oi := _) (v := (.int .i64 (m'.node.cnt : Int))) rfl (by kernel_rfl) (by kernel_rfl) (by kernel_rfl) (by kernel_rfl) (by kernel_rfl) (fun _ _ _ h => h) (Or.inl ⟨by rfl, fun w' _ => by go_simp⟩) hHeld ?_
    try simp only [Act.put, List.getElem_toArray, List.getElem_cons_succ, List.getElem_cons_zero, List.setIfInBounds_toArray, List.set_cons_zero, List.set_cons_succ]
    refine wpAnyLast_ready (rs := [12]) (by kernel_rfl) (by simp) ?_
    refine AllReadyL.cons (o := _) rfl (by decide) (fun K hK => ?_) AllReadyL.nil
    rw [if_pos (by rfl)]
    go_simp
    refine hK.out _ _ HSS.out (fun hHeld => ?_)
    clear hK K
    try dsimp only
    try simp only [Act.put, List.getElem_toArray, List.getElem_cons_succ, List.getElem_cons_zero, List.setIfInBounds_toArray, List.set_cons_zero, List.set_cons_succ]
    refine wpAnyLast_ready (rs := [13]) (by kernel_rfl) (by simp) ?_
    refine AllReadyL.cons_last (o := _) rfl (by decide) (fun K hK => ?_) AllReadyL.nil
    rw [if_pos (by rfl)]
    refine wp_own_at _ (.tmp 42) (.tmp 50) 23 (by rfl) B 95 i0 (.agg #[.string ⟨#[]⟩, .int .i64 0, .bool false, .string ⟨#[]⟩, .slice none 0 0]) 5 72 Tryd.underlying23 hi0 hz0 hz1 hz2 rfl (by decide) kv' m'.node.cnt ks' (by rw [HKV4.out]; rfl) HOZ.out ⟨w4.heap.size, 0, none⟩ 1 1 zero5 (by rfl) rfl HNEW.out zero5_one hm63 hm47 HBBZ.out ?_
    intro v5 w5 ho5 hg5 ha5
    refine hK.out _ _ ?_
    clear hK K hHeld
    obtain ⟨g5, c5, hv5⟩ := owns_row ho5 rfl
    subst hv5
    have hks := TX4.out.kc.len
    obtain ⟨zc, zf⟩ := zero_cells ho5 hks
    have z0 : w5.cell? ⟨g5, m'.node.cnt * 5, none⟩ = some (.string ⟨#[]⟩) := zc 0 (by omega)
    have z1 : w5.cell? ⟨g5, m'.node.cnt * 5 + 1, none⟩ = some (.int .i64 0) := zc 1 (by omega)
    have z2 : w5.cell? ⟨g5, m'.node.cnt * 5 + 2, none⟩ = some (.bool false) := zc 2 (by omega)
    have z3 : w5.cell? ⟨g5, m'.node.cnt * 5 + 3, none⟩ = some (.string ⟨#[]⟩) := zc 3 (by omega)
    have z4 : w5.cell? ⟨g5, m'.node.cnt * 5 + 4, none⟩ = some (.slice none 0 0) := zc 4 (by omega)
    have y0 := zf (m'.node.cnt * 5)
    have y1 := zf (m'.node.cnt * 5 + 1)
    have y2 := zf (m'.node.cnt * 5 + 2)
    have y3 := zf (m'.node.cnt * 5 + 3)
    have y4 := zf (m'.node.cnt * 5 + 4)
    have hgk : kv'.ownBlock ≠ some gs' := fun e => by
      have h1 := TX4.out.klab _ e
      have h2 := TX4.out.lab
      omega
    have hgz : (w4.alloc (.cells #[.string ⟨#[]⟩, .int .i64 0, .bool false, .string ⟨#[]⟩, .slice none 0 0] 95)).drew.heap.size = w4.heap.size + 1 := by simp
    have hg5' : g5 ≠ gs' := fun e => by
      rcases ha5 with h | h
      · exact hgk (by rw [← h, e]; rfl)
      · injection h with h
        have h : g5 = _ := h
        omega
    have hg5'' : gs' ≠ g5 := fun e => hg5' e.symm
    have hblk : w5.heap[gs']? = w4.heap[gs']? := (hg5.block gs' (by omega) (fun e => hgk e.symm)).trans (HBZ.out.block gs' hgl)
    have q3 : w5.cell? ⟨gs', r'.length * 5 + 3, none⟩ = some (.slice A4 m'.node.cnt k4) := (World.cell?_of_block (a := ⟨gs', r'.length * 5 + 3, none⟩) hblk).trans d3
    have qf : w5.frozen? ⟨gs', r'.length * 5 + 3, none⟩ = false := by
      rw [← TX4.out.free (r'.length * 5 + 3)]
      simp only [World.frozen?, hblk]
    have HO5 := Lib.hid ho5
    have HG5 := Lib.hid hg5
    have HA5 := Lib.hid ha5
    have hcn0 : (0 : Int) ≤ m'.node.cnt := by omega
    have hcn1 : (m'.node.cnt : Int) ≤ 1048576 := by omega
    have had := addr_add0 g5 (m'.node.cnt * 5)
    clear ho5 hg5 ha5 zc zf hks hgk hgz hblk d3 d4 e0 e1' e2 e3 c9
    try dsimp only
    try simp only [Act.put, List.getElem_toArray, List.getElem_cons_succ, List.getElem_cons_zero, List.setIfInBounds_toArray, List.set_cons_zero, List.set_cons_succ]
    refine last_pure8 (i := 14) (oi := _) (v := (.pointer (some ⟨g5, m'.node.cnt * 5, none⟩))) rfl (by kernel_rfl) (by kernel_rfl) (by kernel_rfl) (fun _ _ _ h => h) (Or.inl ⟨by rfl, fun w' => by (go_simp; intro hbad; omega)⟩) ?_
    try simp only [Act.put, List.getElem_toArray, List.getElem_cons_succ, List.getElem_cons_zero, List.setIfInBounds_toArray, List.set_cons_zero, List.set_cons_succ]
    refine last_pure8 (i := 16) (oi := _) (v := (.pointer (some ⟨gs', r'.length * 5, none⟩))) rfl (by kernel_rfl) (by kernel_rfl) (by kernel_rfl) (fun _ _ _ h => h) (Or.inl ⟨by rfl, fun w' => by go_simp⟩) ?_
    try simp only [Act.put, List.getElem_toArray, List.getElem_cons_succ, List.getElem_cons_zero, List.setIfInBounds_toArray, List.set_cons_zero, List.set_cons_succ]
    refine last_pure8 (i := 17) (oi := _) (v := (.pointer (some ⟨gs', r'.length * 5, none⟩))) rfl (by kernel_rfl) (by kernel_rfl) (by kernel_rfl) (fun _ _ _ h => h) (Or.inl ⟨by rfl, fun w' => by go_simp⟩) ?_
    try simp only [Act.put, List.getElem_toArray, List.getElem_cons_succ, List.getElem_cons_zero, List.setIfInBounds_toArray, List.set_cons_zero, List.set_cons_succ]
    refine last_pure8 (i := 18) (oi := _) (v := (.pointer (some ⟨gs', r'.length * 5 + 3, none⟩))) rfl (by kernel_rfl) (by kernel_rfl) (by kernel_rfl) (fun _ _ _ h => h) (Or.inl ⟨by rfl, fun w' => by go_simp⟩) ?_
    try simp only [Act.put, List.getElem_toArray, List.getElem_cons_succ, List.getElem_cons_zero, List.setIfInBounds_toArray, List.set_cons_zero, List.set_cons_succ]
    refine wpAnyLast_ready (rs := [15, 19]) (by kernel_rfl) (by simp) ?_
    refine AllReadyL.cons_last (o := _) rfl (by decide) (fun K hK => ?_) (AllReadyL.cons_last (o := _) rfl (by decide) (fun K hK => ?_) AllReadyL.nil)
    all_goals rw [if_pos (by rfl)]
    · go_simp
      refine hK.out _ _ ?_
      clear hK K
      try dsimp only
      try simp only [Act.put, List.getElem_toArray, List.getElem_cons_succ, List.getElem_cons_zero, List.setIfInBounds_toArray, List.set_cons_zero, List.set_cons_succ]
      refine wpAnyLast_ready (rs := [19]) (by kernel_rfl) (by simp) ?_
      refine AllReadyL.cons_last (o := _) rfl (by decide) (fun K hK => ?_) AllReadyL.nil
      rw [if_pos (by rfl)]
      go_simp
      refine hK.out _ ((put5 w5 g5 (m'.node.cnt * 5) (.string m'.kid) (.int .i64 l.node.kind) (.bool l.node.exec) (.string l.node.text) (.slice A3 l.node.cnt k3)).setCell ⟨gs', r'.length * 5 + 3, none⟩ (.slice (some ⟨g5, 0, none⟩) (m'.node.cnt + 1) c5)) ?_
      clear hK K
      try dsimp only
      try simp only [Act.put, List.getElem_toArray, List.getElem_cons_succ, List.getElem_cons_zero, List.setIfInBounds_toArray, List.set_cons_zero, List.set_cons_succ]
      generalize hw7 : (put5 w5 g5 (m'.node.cnt * 5) (.string m'.kid) (.int .i64 l.node.kind) (.bool l.node.exec) (.string l.node.text) (.slice A3 l.node.cnt k3)).setCell ⟨gs', r'.length * 5 + 3, none⟩ (.slice (some ⟨g5, 0, none⟩) (m'.node.cnt + 1) c5) = w7
      refine wpAnyLast_done (by kernel_rfl) ?_ _
      refine NoPanic.normal ?_
      have hp := HX4.out.addKid2 rfl TX4.out l.node A3 k3 HIN4.out HBZ.out g5 c5 HO5.out HG5.out HA5.out (.inl hw7.symm)
      have HP7 := Lib.hid hp
      clear hp HX4 TX4 HIN4 HBX4 HO5 HG5 HA5 HBZ HOZ HNEW HBBZ HSS z0 z1 z2 z3 z4 y0 y1 y2 y3 y4 q3 qf
      have hpc : { p with x := p.x.close } = { p with x := { p.x with stack := { m' with node := .add m'.node m'.kid l.node } :: r', next := 16 } } := by unfold WS.close; rw [hs]
      have hq := HP7.out.put (p' := { p with x := { p.x with stack := { m' with node := .add m'.node m'.kid l.node } :: r', next := 16 } }) 7 (.int .i64 (16 : Nat)) rfl rfl rfl
      have c7 := HP7.out.c7
      have f7 := HP7.out.free 7
      rw [← hpc] at hq
      have HQ := Lib.hid hq
      clear hq hpc hw7 HP7
      go_wp2_with fail
      go_end0
      exact ⟨rfl, _, _, _, HQ.out⟩
    · go_simp
      refine hK.out _ _ ?_
      clear hK K
      try dsimp only
      try simp only [Act.put, List.getElem_toArray, List.getElem_cons_succ, List.getElem_cons_zero, List.setIfInBounds_toArray, List.set_cons_zero, List.set_cons_succ]
      refine wpAnyLast_ready (rs := [15]) (by kernel_rfl) (by simp) ?_
      refine AllReadyL.cons_last (o := _) rfl (by decide) (fun K hK => ?_) AllReadyL.nil
      rw [if_pos (by rfl)]
      go_simp
      refine hK.out _ (put5 ((w5).setCell ⟨gs', r'.length * 5 + 3, none⟩ (.slice (some ⟨g5, 0, none⟩) (m'.node.cnt + 1) c5)) g5 (m'.node.cnt * 5) (.string m'.kid) (.int .i64 l.node.kind) (.bool l.node.exec) (.string l.node.text) (.slice A3 l.node.cnt k3)) ?_
      clear hK K
      try dsimp only
      try simp only [Act.put, List.getElem_toArray, List.getElem_cons_succ, List.getElem_cons_zero, List.setIfInBounds_toArray, List.set_cons_zero, List.set_cons_succ]
      generalize hw7 : put5 ((w5).setCell ⟨gs', r'.length * 5 + 3, none⟩ (.slice (some ⟨g5, 0, none⟩) (m'.node.cnt + 1) c5)) g5 (m'.node.cnt * 5) (.string m'.kid) (.int .i64 l.node.kind) (.bool l.node.exec) (.string l.node.text) (.slice A3 l.node.cnt k3) = w7
      refine wpAnyLast_done (by kernel_rfl) ?_ _
      refine NoPanic.normal ?_
      have hp := HX4.out.addKid2 rfl TX4.out l.node A3 k3 HIN4.out HBZ.out g5 c5 HO5.out HG5.out HA5.out (.inr hw7.symm)
      have HP7 := Lib.hid hp
      clear hp HX4 TX4 HIN4 HBX4 HO5 HG5 HA5 HBZ HOZ HNEW HBBZ HSS z0 z1 z2 z3 z4 y0 y1 y2 y3 y4 q3 qf
      have hpc : { p with x := p.x.close } = { p with x := { p.x with stack := { m' with node := .add m'.node m'.kid l.node } :: r', next := 16 } } := by unfold WS.close; rw [hs]
      have hq := HP7.out.put (p' := { p with x := { p.x with stack := { m' with node := .add m'.node m'.kid l.node } :: r', next := 16 } }) 7 (.int .i64 (16 : Nat)) rfl rfl rfl
      have c7 := HP7.out.c7
      have f7 := HP7.out.free 7
      rw [← hpc] at hq
      have HQ := Lib.hid hq
      clear hq hpc hw7 HP7
      go_wp2_with fail
      go_end0
      exact ⟨rfl, _, _, _, HQ.out⟩
end Go.Proofs.YtlcppkcclolgcaaDoor

namespace Go.Proofs.YtlcppkcclolgcaaDoor
set_option linter.unusedVariables false
set_option linter.unusedSimpArgs false
open Go.RowKit

set_option maxRecDepth 100000 in
set_option maxHeartbeats 4000000 in
theorem ch_reg (w0 : World) (S : Nat → Prop) (B gp : Nat) (fl : Nat → Nat) (p : PS) (gf : Nat) (sv rv : Value) (s : ByteArray) (w : World) (H : PaW w0 S w B gp fl p gf sv rv) (hn : p.x.next = 3) (l : Lv) (r : List Lv) (hs : p.x.stack = l :: r) (hr : r.length ≤ 32) (hcn : ∀ m ∈ r, m.node.cnt ≤ 1048576) (heq : s = wRegular) :
    Calls Tryd.prog 45 #[.pointer (some ⟨gp, 0, none⟩), .string s] w fun e w' => WordR w0 S B gp p gf (.ok (p.x.put 4 (kindSet 1))) e w' := by
  obtain ⟨gs, cap, kv, ks, T⟩ := H.top hs
  have CT := Lib.hid ((ptop_any w0 S B gp fl p gf sv rv w H gs r.length cap T.sv (by omega)).mono fun e w' h => (show e = .returned (.pointer (some ⟨gs, r.length * 5, none⟩)) ∧ Below w.heap.size w w' from ⟨h.1, by obtain ⟨k, rfl⟩ := h.2; exact below_drw w k⟩))
  have HH := Lib.hid H
  have HT := Lib.hid T
  have hgg : gp ≠ gs := fun e => by have h1 := H.lab; have h2 := T.lab; rw [e] at h1; omega
  have hgg2 : gs ≠ gp := fun e => hgg e.symm
  have he : (s.toList == [114, 101, 103, 117, 108, 97, 114]) = true := by rw [heq]; exact str_eq rfl
  clear heq
  clear H T
  go_enter Tryd.func45, Tryd.ntmps45
  go_upto_region 3 with (go_at_call 46; refine CT.out.mono ?_; rintro e w1 ⟨rfl, h1⟩; have HX := Lib.hid (HH.out.later h1); have TX := Lib.hid (HT.out.later h1); clear h1)
  have c7 := HX.out.c7
  rw [hn] at c7
  replace c7 : w1.cell? ⟨gp, 7, none⟩ = some (.int .i64 3) := c7
  have f7 := HX.out.free 7
  have c1 := HX.out.c1
  have d0 : w1.cell? ⟨gs, r.length * 5, none⟩ = some (.int .i64 l.node.kind) := TX.out.cell 0 (by omega)
  have f0 := TX.out.free (r.length * 5)
  have hk : PaW w0 S (w1.setCell ⟨gs, r.length * 5, none⟩ (.int .i64 1)) B gp fl { p with x := { p.x with stack := (kindSet 1) l :: r } } gf sv rv := HX.out.topSet hs TX.out.sv (l' := (kindSet 1) l) 0 (by omega) (.int .i64 1) (fun kv => by simp only [lvCells, kindSet, (own_kind _ _ _ _).1, (own_kind _ _ _ _).2.1, (own_kind _ _ _ _).2.2]; rfl) (own_cnt _ _ _ _) (fun _ _ _ h => ND.KC.own_ _ _ _ h)
  have hq := hk.put (p' := { p with x := { p.x with stack := (kindSet 1) l :: r, next := 4 } }) 7 (.int .i64 (4 : Nat)) rfl rfl rfl
  have hx : p.x.put 4 (kindSet 1) = { p.x with stack := (kindSet 1) l :: r, next := 4 } := by unfold WS.put; rw [hs]; rfl
  have HX2 := Lib.hid hx
  clear hx
  have HQ := Lib.hid hq
  clear hk hq
  go_wp2_with fail
  go_ret
  rw [HX2.out]
  exact ⟨rfl, _, _, _, HQ.out⟩
set_option maxRecDepth 100000 in
set_option maxHeartbeats 4000000 in
theorem ch_sym (w0 : World) (S : Nat → Prop) (B gp : Nat) (fl : Nat → Nat) (p : PS) (gf : Nat) (sv rv : Value) (s : ByteArray) (w : World) (H : PaW w0 S w B gp fl p gf sv rv) (hn : p.x.next = 3) (l : Lv) (r : List Lv) (hs : p.x.stack = l :: r) (hr : r.length ≤ 32) (hcn : ∀ m ∈ r, m.node.cnt ≤ 1048576) (hne0 : s ≠ wRegular) (heq : s = wSymlink) :
    Calls Tryd.prog 45 #[.pointer (some ⟨gp, 0, none⟩), .string s] w fun e w' => WordR w0 S B gp p gf (.ok (p.x.put 8 (kindSet 2))) e w' := by
  obtain ⟨gs, cap, kv, ks, T⟩ := H.top hs
  have CT := Lib.hid ((ptop_any w0 S B gp fl p gf sv rv w H gs r.length cap T.sv (by omega)).mono fun e w' h => (show e = .returned (.pointer (some ⟨gs, r.length * 5, none⟩)) ∧ Below w.heap.size w w' from ⟨h.1, by obtain ⟨k, rfl⟩ := h.2; exact below_drw w k⟩))
  have HH := Lib.hid H
  have HT := Lib.hid T
  have hgg : gp ≠ gs := fun e => by have h1 := H.lab; have h2 := T.lab; rw [e] at h1; omega
  have hgg2 : gs ≠ gp := fun e => hgg e.symm
  have n0 := str_ne (t := wRegular) (l := [114, 101, 103, 117, 108, 97, 114]) rfl hne0
  have he : (s.toList == [115, 121, 109, 108, 105, 110, 107]) = true := by rw [heq]; exact str_eq rfl
  clear heq
  clear hne0
  clear H T
  go_enter Tryd.func45, Tryd.ntmps45
  go_upto_region 3 with (go_at_call 46; refine CT.out.mono ?_; rintro e w1 ⟨rfl, h1⟩; have HX := Lib.hid (HH.out.later h1); have TX := Lib.hid (HT.out.later h1); clear h1)
  have c7 := HX.out.c7
  rw [hn] at c7
  replace c7 : w1.cell? ⟨gp, 7, none⟩ = some (.int .i64 3) := c7
  have f7 := HX.out.free 7
  have c1 := HX.out.c1
  have d0 : w1.cell? ⟨gs, r.length * 5, none⟩ = some (.int .i64 l.node.kind) := TX.out.cell 0 (by omega)
  have f0 := TX.out.free (r.length * 5)
  have hk : PaW w0 S (w1.setCell ⟨gs, r.length * 5, none⟩ (.int .i64 2)) B gp fl { p with x := { p.x with stack := (kindSet 2) l :: r } } gf sv rv := HX.out.topSet hs TX.out.sv (l' := (kindSet 2) l) 0 (by omega) (.int .i64 2) (fun kv => by simp only [lvCells, kindSet, (own_kind _ _ _ _).1, (own_kind _ _ _ _).2.1, (own_kind _ _ _ _).2.2]; rfl) (own_cnt _ _ _ _) (fun _ _ _ h => ND.KC.own_ _ _ _ h)
  have hq := hk.put (p' := { p with x := { p.x with stack := (kindSet 2) l :: r, next := 8 } }) 7 (.int .i64 (8 : Nat)) rfl rfl rfl
  have hx : p.x.put 8 (kindSet 2) = { p.x with stack := (kindSet 2) l :: r, next := 8 } := by unfold WS.put; rw [hs]; rfl
  have HX2 := Lib.hid hx
  clear hx
  have HQ := Lib.hid hq
  clear hk hq
  go_wp2_with fail
  go_ret
  rw [HX2.out]
  exact ⟨rfl, _, _, _, HQ.out⟩
set_option maxRecDepth 100000 in
set_option maxHeartbeats 4000000 in
theorem ch_dir (w0 : World) (S : Nat → Prop) (B gp : Nat) (fl : Nat → Nat) (p : PS) (gf : Nat) (sv rv : Value) (s : ByteArray) (w : World) (H : PaW w0 S w B gp fl p gf sv rv) (hn : p.x.next = 3) (l : Lv) (r : List Lv) (hs : p.x.stack = l :: r) (hr : r.length ≤ 32) (hcn : ∀ m ∈ r, m.node.cnt ≤ 1048576) (hne0 : s ≠ wRegular) (hne1 : s ≠ wSymlink) (heq : s = wDirectory) :
    Calls Tryd.prog 45 #[.pointer (some ⟨gp, 0, none⟩), .string s] w fun e w' => WordR w0 S B gp p gf (.ok (p.x.put 11 (kindSet 3))) e w' := by
  obtain ⟨gs, cap, kv, ks, T⟩ := H.top hs
  have CT := Lib.hid ((ptop_any w0 S B gp fl p gf sv rv w H gs r.length cap T.sv (by omega)).mono fun e w' h => (show e = .returned (.pointer (some ⟨gs, r.length * 5, none⟩)) ∧ Below w.heap.size w w' from ⟨h.1, by obtain ⟨k, rfl⟩ := h.2; exact below_drw w k⟩))
  have HH := Lib.hid H
  have HT := Lib.hid T
  have hgg : gp ≠ gs := fun e => by have h1 := H.lab; have h2 := T.lab; rw [e] at h1; omega
  have hgg2 : gs ≠ gp := fun e => hgg e.symm
  have n0 := str_ne (t := wRegular) (l := [114, 101, 103, 117, 108, 97, 114]) rfl hne0
  have n1 := str_ne (t := wSymlink) (l := [115, 121, 109, 108, 105, 110, 107]) rfl hne1
  have he : (s.toList == [100, 105, 114, 101, 99, 116, 111, 114, 121]) = true := by rw [heq]; exact str_eq rfl
  clear heq
  clear hne0
  clear hne1
  clear H T
  go_enter Tryd.func45, Tryd.ntmps45
  go_upto_region 3 with (go_at_call 46; refine CT.out.mono ?_; rintro e w1 ⟨rfl, h1⟩; have HX := Lib.hid (HH.out.later h1); have TX := Lib.hid (HT.out.later h1); clear h1)
  have c7 := HX.out.c7
  rw [hn] at c7
  replace c7 : w1.cell? ⟨gp, 7, none⟩ = some (.int .i64 3) := c7
  have f7 := HX.out.free 7
  have c1 := HX.out.c1
  have d0 : w1.cell? ⟨gs, r.length * 5, none⟩ = some (.int .i64 l.node.kind) := TX.out.cell 0 (by omega)
  have f0 := TX.out.free (r.length * 5)
  have hk : PaW w0 S (w1.setCell ⟨gs, r.length * 5, none⟩ (.int .i64 3)) B gp fl { p with x := { p.x with stack := (kindSet 3) l :: r } } gf sv rv := HX.out.topSet hs TX.out.sv (l' := (kindSet 3) l) 0 (by omega) (.int .i64 3) (fun kv => by simp only [lvCells, kindSet, (own_kind _ _ _ _).1, (own_kind _ _ _ _).2.1, (own_kind _ _ _ _).2.2]; rfl) (own_cnt _ _ _ _) (fun _ _ _ h => ND.KC.own_ _ _ _ h)
  have hq := hk.put (p' := { p with x := { p.x with stack := (kindSet 3) l :: r, next := 11 } }) 7 (.int .i64 (11 : Nat)) rfl rfl rfl
  have hx : p.x.put 11 (kindSet 3) = { p.x with stack := (kindSet 3) l :: r, next := 11 } := by unfold WS.put; rw [hs]; rfl
  have HX2 := Lib.hid hx
  clear hx
  have HQ := Lib.hid hq
  clear hk hq
  go_wp2_with fail
  go_ret
  rw [HX2.out]
  exact ⟨rfl, _, _, _, HQ.out⟩
set_option maxRecDepth 100000 in
set_option maxHeartbeats 4000000 in
theorem ch_bad3 (w0 : World) (S : Nat → Prop) (B gp : Nat) (fl : Nat → Nat) (p : PS) (gf : Nat) (sv rv : Value) (s : ByteArray) (w : World) (H : PaW w0 S w B gp fl p gf sv rv) (hn : p.x.next = 3) (l : Lv) (r : List Lv) (hs : p.x.stack = l :: r) (hr : r.length ≤ 32) (hcn : ∀ m ∈ r, m.node.cnt ≤ 1048576) (hne0 : s ≠ wRegular) (hne1 : s ≠ wSymlink) (hne2 : s ≠ wDirectory) :
    Calls Tryd.prog 45 #[.pointer (some ⟨gp, 0, none⟩), .string s] w fun e w' => WordR w0 S B gp p gf (.error 70) e w' := by
  obtain ⟨gs, cap, kv, ks, T⟩ := H.top hs
  have CT := Lib.hid ((ptop_any w0 S B gp fl p gf sv rv w H gs r.length cap T.sv (by omega)).mono fun e w' h => (show e = .returned (.pointer (some ⟨gs, r.length * 5, none⟩)) ∧ Below w.heap.size w w' from ⟨h.1, by obtain ⟨k, rfl⟩ := h.2; exact below_drw w k⟩))
  have HH := Lib.hid H
  have HT := Lib.hid T
  have hgg : gp ≠ gs := fun e => by have h1 := H.lab; have h2 := T.lab; rw [e] at h1; omega
  have hgg2 : gs ≠ gp := fun e => hgg e.symm
  have n0 := str_ne (t := wRegular) (l := [114, 101, 103, 117, 108, 97, 114]) rfl hne0
  have n1 := str_ne (t := wSymlink) (l := [115, 121, 109, 108, 105, 110, 107]) rfl hne1
  have n2 := str_ne (t := wDirectory) (l := [100, 105, 114, 101, 99, 116, 111, 114, 121]) rfl hne2
  clear hne0
  clear hne1
  clear hne2
  clear H T
  go_enter Tryd.func45, Tryd.ntmps45
  go_upto_region 3 with (go_at_call 46; refine CT.out.mono ?_; rintro e w1 ⟨rfl, h1⟩; have HX := Lib.hid (HH.out.later h1); have TX := Lib.hid (HT.out.later h1); clear h1)
  have c7 := HX.out.c7
  rw [hn] at c7
  replace c7 : w1.cell? ⟨gp, 7, none⟩ = some (.int .i64 3) := c7
  have f7 := HX.out.free 7
  have c1 := HX.out.c1
  go_wp2_with (go_at_call 26; refine (pfail_any w0 S B gp fl p gf sv rv 70 p.start _ HX.out).mono ?_; rintro e w6 ⟨rfl, hf⟩; have HF := Lib.hid hf; clear hf)
  go_ret
  exact ⟨rfl, _, _, _, HF.out⟩
set_option maxRecDepth 100000 in
set_option maxHeartbeats 4000000 in
theorem ch_exec (w0 : World) (S : Nat → Prop) (B gp : Nat) (fl : Nat → Nat) (p : PS) (gf : Nat) (sv rv : Value) (s : ByteArray) (w : World) (H : PaW w0 S w B gp fl p gf sv rv) (hn : p.x.next = 4) (l : Lv) (r : List Lv) (hs : p.x.stack = l :: r) (hr : r.length ≤ 32) (hcn : ∀ m ∈ r, m.node.cnt ≤ 1048576) (heq : s = wExec) :
    Calls Tryd.prog 45 #[.pointer (some ⟨gp, 0, none⟩), .string s] w fun e w' => WordR w0 S B gp p gf (.ok (p.x.put 5 execSet)) e w' := by
  obtain ⟨gs, cap, kv, ks, T⟩ := H.top hs
  have CT := Lib.hid ((ptop_any w0 S B gp fl p gf sv rv w H gs r.length cap T.sv (by omega)).mono fun e w' h => (show e = .returned (.pointer (some ⟨gs, r.length * 5, none⟩)) ∧ Below w.heap.size w w' from ⟨h.1, by obtain ⟨k, rfl⟩ := h.2; exact below_drw w k⟩))
  have HH := Lib.hid H
  have HT := Lib.hid T
  have hgg : gp ≠ gs := fun e => by have h1 := H.lab; have h2 := T.lab; rw [e] at h1; omega
  have hgg2 : gs ≠ gp := fun e => hgg e.symm
  have he : (s.toList == [101, 120, 101, 99, 117, 116, 97, 98, 108, 101]) = true := by rw [heq]; exact str_eq rfl
  clear heq
  clear H T
  go_enter Tryd.func45, Tryd.ntmps45
  go_upto_region 3 with (go_at_call 46; refine CT.out.mono ?_; rintro e w1 ⟨rfl, h1⟩; have HX := Lib.hid (HH.out.later h1); have TX := Lib.hid (HT.out.later h1); clear h1)
  have c7 := HX.out.c7
  rw [hn] at c7
  replace c7 : w1.cell? ⟨gp, 7, none⟩ = some (.int .i64 4) := c7
  have f7 := HX.out.free 7
  have c1 := HX.out.c1
  have d0 : w1.cell? ⟨gs, r.length * 5 + 1, none⟩ = some (.bool l.node.exec) := TX.out.cell 1 (by omega)
  have f0 := TX.out.free (r.length * 5 + 1)
  have hk : PaW w0 S (w1.setCell ⟨gs, r.length * 5 + 1, none⟩ (.bool true)) B gp fl { p with x := { p.x with stack := execSet l :: r } } gf sv rv := HX.out.topSet hs TX.out.sv (l' := execSet l) 1 (by omega) (.bool true) (fun kv => by simp only [lvCells, execSet, (own_kind _ _ _ _).1, (own_kind _ _ _ _).2.1, (own_kind _ _ _ _).2.2]; rfl) (own_cnt _ _ _ _) (fun _ _ _ h => ND.KC.own_ _ _ _ h)
  have hq := hk.put (p' := { p with x := { p.x with stack := execSet l :: r, next := 5 } }) 7 (.int .i64 (5 : Nat)) rfl rfl rfl
  have hx : p.x.put 5 execSet = { p.x with stack := execSet l :: r, next := 5 } := by unfold WS.put; rw [hs]; rfl
  have HX2 := Lib.hid hx
  clear hx
  have HQ := Lib.hid hq
  clear hk hq
  go_wp2_with fail
  go_ret
  rw [HX2.out]
  exact ⟨rfl, _, _, _, HQ.out⟩
set_option maxRecDepth 100000 in
set_option maxHeartbeats 4000000 in
theorem ch_cont (w0 : World) (S : Nat → Prop) (B gp : Nat) (fl : Nat → Nat) (p : PS) (gf : Nat) (sv rv : Value) (s : ByteArray) (w : World) (H : PaW w0 S w B gp fl p gf sv rv) (hn : p.x.next = 4) (l : Lv) (r : List Lv) (hs : p.x.stack = l :: r) (hr : r.length ≤ 32) (hcn : ∀ m ∈ r, m.node.cnt ≤ 1048576) (hne0 : s ≠ wExec) (heq : s = wContents) :
    Calls Tryd.prog 45 #[.pointer (some ⟨gp, 0, none⟩), .string s] w fun e w' => WordR w0 S B gp p gf (.ok { p.x with next := 7 }) e w' := by
  obtain ⟨gs, cap, kv, ks, T⟩ := H.top hs
  have CT := Lib.hid ((ptop_any w0 S B gp fl p gf sv rv w H gs r.length cap T.sv (by omega)).mono fun e w' h => (show e = .returned (.pointer (some ⟨gs, r.length * 5, none⟩)) ∧ Below w.heap.size w w' from ⟨h.1, by obtain ⟨k, rfl⟩ := h.2; exact below_drw w k⟩))
  have HH := Lib.hid H
  have HT := Lib.hid T
  have hgg : gp ≠ gs := fun e => by have h1 := H.lab; have h2 := T.lab; rw [e] at h1; omega
  have hgg2 : gs ≠ gp := fun e => hgg e.symm
  have n0 := str_ne (t := wExec) (l := [101, 120, 101, 99, 117, 116, 97, 98, 108, 101]) rfl hne0
  have he : (s.toList == [99, 111, 110, 116, 101, 110, 116, 115]) = true := by rw [heq]; exact str_eq rfl
  clear heq
  clear hne0
  clear H T
  go_enter Tryd.func45, Tryd.ntmps45
  go_upto_region 3 with (go_at_call 46; refine CT.out.mono ?_; rintro e w1 ⟨rfl, h1⟩; have HX := Lib.hid (HH.out.later h1); have TX := Lib.hid (HT.out.later h1); clear h1)
  have c7 := HX.out.c7
  rw [hn] at c7
  replace c7 : w1.cell? ⟨gp, 7, none⟩ = some (.int .i64 4) := c7
  have f7 := HX.out.free 7
  have c1 := HX.out.c1
  have hq := HX.out.put (p' := { p with x := { p.x with stack := l :: r, next := 7 } }) 7 (.int .i64 (7 : Nat)) rfl hs.symm rfl
  have HQ := Lib.hid hq
  clear hq
  go_wp2_with fail
  go_ret
  exact ⟨rfl, _, _, _, HQ.out⟩
set_option maxRecDepth 100000 in
set_option maxHeartbeats 4000000 in
theorem ch_bad4 (w0 : World) (S : Nat → Prop) (B gp : Nat) (fl : Nat → Nat) (p : PS) (gf : Nat) (sv rv : Value) (s : ByteArray) (w : World) (H : PaW w0 S w B gp fl p gf sv rv) (hn : p.x.next = 4) (l : Lv) (r : List Lv) (hs : p.x.stack = l :: r) (hr : r.length ≤ 32) (hcn : ∀ m ∈ r, m.node.cnt ≤ 1048576) (hne0 : s ≠ wExec) (hne1 : s ≠ wContents) :
    Calls Tryd.prog 45 #[.pointer (some ⟨gp, 0, none⟩), .string s] w fun e w' => WordR w0 S B gp p gf (.error 70) e w' := by
  obtain ⟨gs, cap, kv, ks, T⟩ := H.top hs
  have CT := Lib.hid ((ptop_any w0 S B gp fl p gf sv rv w H gs r.length cap T.sv (by omega)).mono fun e w' h => (show e = .returned (.pointer (some ⟨gs, r.length * 5, none⟩)) ∧ Below w.heap.size w w' from ⟨h.1, by obtain ⟨k, rfl⟩ := h.2; exact below_drw w k⟩))
  have HH := Lib.hid H
  have HT := Lib.hid T
  have hgg : gp ≠ gs := fun e => by have h1 := H.lab; have h2 := T.lab; rw [e] at h1; omega
  have hgg2 : gs ≠ gp := fun e => hgg e.symm
  have n0 := str_ne (t := wExec) (l := [101, 120, 101, 99, 117, 116, 97, 98, 108, 101]) rfl hne0
  have n1 := str_ne (t := wContents) (l := [99, 111, 110, 116, 101, 110, 116, 115]) rfl hne1
  clear hne0
  clear hne1
  clear H T
  go_enter Tryd.func45, Tryd.ntmps45
  go_upto_region 3 with (go_at_call 46; refine CT.out.mono ?_; rintro e w1 ⟨rfl, h1⟩; have HX := Lib.hid (HH.out.later h1); have TX := Lib.hid (HT.out.later h1); clear h1)
  have c7 := HX.out.c7
  rw [hn] at c7
  replace c7 : w1.cell? ⟨gp, 7, none⟩ = some (.int .i64 4) := c7
  have f7 := HX.out.free 7
  have c1 := HX.out.c1
  go_wp2_with (go_at_call 26; refine (pfail_any w0 S B gp fl p gf sv rv 70 p.start _ HX.out).mono ?_; rintro e w6 ⟨rfl, hf⟩; have HF := Lib.hid hf; clear hf)
  go_ret
  exact ⟨rfl, _, _, _, HF.out⟩
set_option maxRecDepth 100000 in
set_option maxHeartbeats 4000000 in
theorem ch_entry (w0 : World) (S : Nat → Prop) (B gp : Nat) (fl : Nat → Nat) (p : PS) (gf : Nat) (sv rv : Value) (s : ByteArray) (w : World) (H : PaW w0 S w B gp fl p gf sv rv) (hn : p.x.next = 11) (l : Lv) (r : List Lv) (hs : p.x.stack = l :: r) (hr : r.length ≤ 32) (hcn : ∀ m ∈ r, m.node.cnt ≤ 1048576) (heq : s = wEntry) :
    Calls Tryd.prog 45 #[.pointer (some ⟨gp, 0, none⟩), .string s] w fun e w' => WordR w0 S B gp p gf (.ok { p.x with next := 12 }) e w' := by
  obtain ⟨gs, cap, kv, ks, T⟩ := H.top hs
  have CT := Lib.hid ((ptop_any w0 S B gp fl p gf sv rv w H gs r.length cap T.sv (by omega)).mono fun e w' h => (show e = .returned (.pointer (some ⟨gs, r.length * 5, none⟩)) ∧ Below w.heap.size w w' from ⟨h.1, by obtain ⟨k, rfl⟩ := h.2; exact below_drw w k⟩))
  have HH := Lib.hid H
  have HT := Lib.hid T
  have hgg : gp ≠ gs := fun e => by have h1 := H.lab; have h2 := T.lab; rw [e] at h1; omega
  have hgg2 : gs ≠ gp := fun e => hgg e.symm
  have he : (s.toList == [101, 110, 116, 114, 121]) = true := by rw [heq]; exact str_eq rfl
  clear heq
  clear H T
  go_enter Tryd.func45, Tryd.ntmps45
  go_upto_region 3 with (go_at_call 46; refine CT.out.mono ?_; rintro e w1 ⟨rfl, h1⟩; have HX := Lib.hid (HH.out.later h1); have TX := Lib.hid (HT.out.later h1); clear h1)
  have c7 := HX.out.c7
  rw [hn] at c7
  replace c7 : w1.cell? ⟨gp, 7, none⟩ = some (.int .i64 11) := c7
  have f7 := HX.out.free 7
  have c1 := HX.out.c1
  have hq := HX.out.put (p' := { p with x := { p.x with stack := l :: r, next := 12 } }) 7 (.int .i64 (12 : Nat)) rfl hs.symm rfl
  have HQ := Lib.hid hq
  clear hq
  go_wp2_with fail
  go_ret
  exact ⟨rfl, _, _, _, HQ.out⟩
set_option maxRecDepth 100000 in
set_option maxHeartbeats 4000000 in
theorem ch_close (w0 : World) (S : Nat → Prop) (B gp : Nat) (fl : Nat → Nat) (p : PS) (gf : Nat) (sv rv : Value) (s : ByteArray) (w : World) (H : PaW w0 S w B gp fl p gf sv rv) (hn : p.x.next = 11) (l : Lv) (r : List Lv) (hs : p.x.stack = l :: r) (hr : r.length ≤ 32) (hcn : ∀ m ∈ r, m.node.cnt ≤ 1048576) (hne0 : s ≠ wEntry) (heq : s = wClose) :
    Calls Tryd.prog 45 #[.pointer (some ⟨gp, 0, none⟩), .string s] w fun e w' => WordR w0 S B gp p gf (.ok p.x.close) e w' := by
  obtain ⟨gs, cap, kv, ks, T⟩ := H.top hs
  have CT := Lib.hid ((ptop_any w0 S B gp fl p gf sv rv w H gs r.length cap T.sv (by omega)).mono fun e w' h => (show e = .returned (.pointer (some ⟨gs, r.length * 5, none⟩)) ∧ Below w.heap.size w w' from ⟨h.1, by obtain ⟨k, rfl⟩ := h.2; exact below_drw w k⟩))
  have HH := Lib.hid H
  have HT := Lib.hid T
  have hgg : gp ≠ gs := fun e => by have h1 := H.lab; have h2 := T.lab; rw [e] at h1; omega
  have hgg2 : gs ≠ gp := fun e => hgg e.symm
  have n0 := str_ne (t := wEntry) (l := [101, 110, 116, 114, 121]) rfl hne0
  have he : (s.toList == [41]) = true := by rw [heq]; exact str_eq rfl
  clear heq
  clear hne0
  clear H T
  go_enter Tryd.func45, Tryd.ntmps45
  go_upto_region 3 with (go_at_call 46; refine CT.out.mono ?_; rintro e w1 ⟨rfl, h1⟩; have HX := Lib.hid (HH.out.later h1); have TX := Lib.hid (HT.out.later h1); clear h1)
  have c7 := HX.out.c7
  rw [hn] at c7
  replace c7 : w1.cell? ⟨gp, 7, none⟩ = some (.int .i64 11) := c7
  have f7 := HX.out.free 7
  have c1 := HX.out.c1
  have CC := Lib.hid (pclose_any w0 S B gp fl p gf sv rv w1 HX.out l r hs hr hcn)
  go_wp2_with (go_at_call 49; refine CC.out.mono ?_; rintro e w6 ⟨rfl, hf⟩; have HF := Lib.hid hf; clear hf)
  go_ret
  exact ⟨rfl, HF.out⟩
set_option maxRecDepth 100000 in
set_option maxHeartbeats 4000000 in
theorem ch_bad11 (w0 : World) (S : Nat → Prop) (B gp : Nat) (fl : Nat → Nat) (p : PS) (gf : Nat) (sv rv : Value) (s : ByteArray) (w : World) (H : PaW w0 S w B gp fl p gf sv rv) (hn : p.x.next = 11) (l : Lv) (r : List Lv) (hs : p.x.stack = l :: r) (hr : r.length ≤ 32) (hcn : ∀ m ∈ r, m.node.cnt ≤ 1048576) (hne0 : s ≠ wEntry) (hne1 : s ≠ wClose) :
    Calls Tryd.prog 45 #[.pointer (some ⟨gp, 0, none⟩), .string s] w fun e w' => WordR w0 S B gp p gf (.error 70) e w' := by
  obtain ⟨gs, cap, kv, ks, T⟩ := H.top hs
  have CT := Lib.hid ((ptop_any w0 S B gp fl p gf sv rv w H gs r.length cap T.sv (by omega)).mono fun e w' h => (show e = .returned (.pointer (some ⟨gs, r.length * 5, none⟩)) ∧ Below w.heap.size w w' from ⟨h.1, by obtain ⟨k, rfl⟩ := h.2; exact below_drw w k⟩))
  have HH := Lib.hid H
  have HT := Lib.hid T
  have hgg : gp ≠ gs := fun e => by have h1 := H.lab; have h2 := T.lab; rw [e] at h1; omega
  have hgg2 : gs ≠ gp := fun e => hgg e.symm
  have n0 := str_ne (t := wEntry) (l := [101, 110, 116, 114, 121]) rfl hne0
  have n1 := str_ne (t := wClose) (l := [41]) rfl hne1
  clear hne0
  clear hne1
  clear H T
  go_enter Tryd.func45, Tryd.ntmps45
  go_upto_region 3 with (go_at_call 46; refine CT.out.mono ?_; rintro e w1 ⟨rfl, h1⟩; have HX := Lib.hid (HH.out.later h1); have TX := Lib.hid (HT.out.later h1); clear h1)
  have c7 := HX.out.c7
  rw [hn] at c7
  replace c7 : w1.cell? ⟨gp, 7, none⟩ = some (.int .i64 11) := c7
  have f7 := HX.out.free 7
  have c1 := HX.out.c1
  go_wp2_with (go_at_call 26; refine (pfail_any w0 S B gp fl p gf sv rv 70 p.start _ HX.out).mono ?_; rintro e w6 ⟨rfl, hf⟩; have HF := Lib.hid hf; clear hf)
  go_ret
  exact ⟨rfl, _, _, _, HF.out⟩
theorem choose_any (w0 : World) (S : Nat → Prop) (B gp : Nat) (fl : Nat → Nat) (p : PS) (gf : Nat) (sv rv : Value) (s : ByteArray) (w : World) (H : PaW w0 S w B gp fl p gf sv rv) (hn : p.x.next = 3 ∨ p.x.next = 4 ∨ p.x.next = 11) (l : Lv) (r : List Lv) (hs : p.x.stack = l :: r) (hr : r.length ≤ 32) (hcn : ∀ m ∈ r, m.node.cnt ≤ 1048576) :
    Calls Tryd.prog 45 #[.pointer (some ⟨gp, 0, none⟩), .string s] w fun e w' => WordR w0 S B gp p gf (p.x.word s) e w' := by
  rcases hn with hn | hn | hn
  · have hw : p.x.word s = if s = wRegular then .ok (p.x.put 4 (kindSet 1)) else if s = wSymlink then .ok (p.x.put 8 (kindSet 2)) else if s = wDirectory then .ok (p.x.put 11 (kindSet 3)) else .error 70 := by
      unfold WS.word
      rw [hn]
      rfl
    rw [hw]
    by_cases h1 : s = wRegular
    · rw [if_pos h1]; exact ch_reg w0 S B gp fl p gf sv rv s w H hn l r hs hr hcn h1
    · rw [if_neg h1]
      by_cases h2 : s = wSymlink
      · rw [if_pos h2]; exact ch_sym w0 S B gp fl p gf sv rv s w H hn l r hs hr hcn h1 h2
      · rw [if_neg h2]
        by_cases h3 : s = wDirectory
        · rw [if_pos h3]; exact ch_dir w0 S B gp fl p gf sv rv s w H hn l r hs hr hcn h1 h2 h3
        · rw [if_neg h3]; exact ch_bad3 w0 S B gp fl p gf sv rv s w H hn l r hs hr hcn h1 h2 h3
  · have hw : p.x.word s = if s = wExec then .ok (p.x.put 5 execSet) else if s = wContents then .ok { p.x with next := 7 } else .error 70 := by
      unfold WS.word
      rw [hn]
      rfl
    rw [hw]
    by_cases h1 : s = wExec
    · rw [if_pos h1]; exact ch_exec w0 S B gp fl p gf sv rv s w H hn l r hs hr hcn h1
    · rw [if_neg h1]
      by_cases h2 : s = wContents
      · rw [if_pos h2]; exact ch_cont w0 S B gp fl p gf sv rv s w H hn l r hs hr hcn h1 h2
      · rw [if_neg h2]; exact ch_bad4 w0 S B gp fl p gf sv rv s w H hn l r hs hr hcn h1 h2
  · have hw : p.x.word s = if s = wEntry then .ok { p.x with next := 12 } else if s = wClose then .ok p.x.close else .error 70 := by
      unfold WS.word
      rw [hn]
      rfl
    rw [hw]
    by_cases h1 : s = wEntry
    · rw [if_pos h1]; exact ch_entry w0 S B gp fl p gf sv rv s w H hn l r hs hr hcn h1
    · rw [if_neg h1]
      by_cases h2 : s = wClose
      · rw [if_pos h2]; exact ch_close w0 S B gp fl p gf sv rv s w H hn l r hs hr hcn h1 h2
      · rw [if_neg h2]; exact ch_bad11 w0 S B gp fl p gf sv rv s w H hn l r hs hr hcn h1 h2
end Go.Proofs.YtlcppkcclolgcaaDoor

namespace Go.Proofs.YtlcppkcclolgcaaDoor
set_option linter.unusedVariables false
set_option linter.unusedSimpArgs false
open Go.RowKit

set_option maxRecDepth 100000 in
set_option maxHeartbeats 4000000 in
theorem wd_plain (w0 : World) (S : Nat → Prop) (B gp : Nat) (fl : Nat → Nat) (p : PS) (gf : Nat) (sv rv : Value) (s : ByteArray) (w : World) (H : PaW w0 S w B gp fl p gf sv rv) (want : ByteArray) (t : Nat) (hp : plainW p.x.next = some (want, t)) :
    Calls Tryd.prog 29 #[.pointer (some ⟨gp, 0, none⟩), .string s] w fun e w' => WordR w0 S B gp p gf (if s = want then .ok { p.x with next := t } else .error 70) e w' := by
  have CP : ∀ w, Calls Tryd.prog 43 #[.int .i64 (p.x.next : Int)] w fun e w' => e = .returned (.tuple #[.string want, .int .i64 (t : Int), .bool true]) ∧ w = w' := fun w => by
    have h := plain_any p.x.next w
    rw [hp] at h
    exact h
  have CP := Lib.hid CP
  have c7 := H.c7
  have f7 := H.free 7
  have c1 := H.c1
  have HH := Lib.hid H
  clear hp
  by_cases h1 : s = want
  · rw [if_pos h1]
    have he : (s.toList == want.toList) = true := by rw [h1]; exact beq_self_eq_true _
    have hq := HH.out.put (p' := { p with x := { p.x with next := t } }) 7 (.int .i64 (t : Nat)) rfl rfl rfl
    have HQ := Lib.hid hq
    clear hq h1 H
    go_enter Tryd.func29, Tryd.ntmps29
    go_wp2_with (go_at_call 43; refine (CP.out _).mono ?_; rintro e w' ⟨rfl, rfl⟩)
    go_ret
    exact ⟨rfl, _, _, _, HQ.out⟩
  · rw [if_neg h1]
    have he : (s.toList == want.toList) = false := by
      rw [toList_data, toList_data]
      cases hb : (s.data.toList == want.data.toList) with
      | false => rfl
      | true =>
        exfalso
        apply h1
        apply ByteArray.ext
        apply Array.ext'
        exact eq_of_beq hb
    clear h1 H
    go_enter Tryd.func29, Tryd.ntmps29
    go_wp2_with (first | (go_at_call 43; refine (CP.out _).mono ?_; rintro e w' ⟨rfl, rfl⟩) | (go_at_call 26; refine (pfail_any w0 S B gp fl p gf sv rv 70 p.start _ HH.out).mono ?_; rintro e w6 ⟨rfl, hf⟩; have HF := Lib.hid hf; clear hf))
    go_ret
    exact ⟨rfl, _, _, _, HF.out⟩
set_option maxRecDepth 100000 in
set_option maxHeartbeats 4000000 in
/-- a word that another function looks at -/
theorem wd_call (w0 : World) (S : Nat → Prop) (B gp : Nat) (fl : Nat → Nat) (p : PS) (gf : Nat) (sv rv : Value) (s : ByteArray) (w : World) (H : PaW w0 S w B gp fl p gf sv rv) (hsz : s.size ≤ 1048576) (hl : p.x.stack.length ≤ 32) (hcn : ∀ m ∈ p.x.stack, m.node.cnt ≤ 1048576)
    (hk : p.x.next = 1 ∨ ((p.x.next = 3 ∨ p.x.next = 4 ∨ p.x.next = 11 ∨ p.x.next = 14) ∧ ∃ l r, p.x.stack = l :: r)) :
    Calls Tryd.prog 29 #[.pointer (some ⟨gp, 0, none⟩), .string s] w fun e w' => WordR w0 S B gp p gf (p.x.word s) e w' := by
  have hpn : plainW p.x.next = none := by
    unfold plainW
    rcases hk with h | ⟨h | h | h | h, _⟩ <;> rw [h] <;> rfl
  have CP : ∀ w, Calls Tryd.prog 43 #[.int .i64 (p.x.next : Int)] w fun e w' => e = .returned (.tuple #[.string ⟨#[]⟩, .int .i64 0, .bool false]) ∧ w = w' := fun w => by
    have h := plain_any p.x.next w
    rw [hpn] at h
    exact h
  obtain ⟨R, hR⟩ : ∃ R, p.x.word s = R := ⟨_, rfl⟩
  rw [hR]
  have c7 := H.c7
  rcases hk with hk | ⟨hk | hk | hk | hk, l, r, hs⟩
  · have CC := open_any w0 S B gp fl p gf sv rv s w H hk hl
    rw [hR] at CC
    rw [hk] at c7 CP
    replace c7 : w.cell? ⟨gp, 7, none⟩ = some (.int .i64 1) := c7
    have CC := Lib.hid CC
    have CP : Hid (∀ w, Calls Tryd.prog 43 #[.int .i64 1] w fun e w' => e = .returned (.tuple #[.string ⟨#[]⟩, .int .i64 0, .bool false]) ∧ w = w') := Lib.hid CP
    clear H hR hk hcn hpn
    cases R with
    | ok y =>
      go_enter Tryd.func29, Tryd.ntmps29
      go_wp2_with (first | (go_at_call 43; refine (CP.out _).mono ?_; rintro e w' ⟨rfl, rfl⟩) | (go_at_call 44; refine CC.out.mono ?_; rintro e w6 ⟨rfl, hf⟩; have HF := Lib.hid hf; clear hf))
      go_ret
      exact ⟨rfl, HF.out⟩
    | error q =>
      go_enter Tryd.func29, Tryd.ntmps29
      go_wp2_with (first | (go_at_call 43; refine (CP.out _).mono ?_; rintro e w' ⟨rfl, rfl⟩) | (go_at_call 44; refine CC.out.mono ?_; rintro e w6 ⟨rfl, hf⟩; have HF := Lib.hid hf; clear hf))
      go_ret
      exact ⟨rfl, HF.out⟩
  all_goals
    have hlr : r.length ≤ 32 := by rw [hs] at hl; simp only [List.length_cons] at hl; omega
    have hcr : ∀ m ∈ r, m.node.cnt ≤ 1048576 := fun m hm => hcn m (by rw [hs]; exact List.mem_cons_of_mem _ hm)
    have hcl : l.node.cnt ≤ 1048576 := hcn l (by rw [hs]; exact List.mem_cons_self ..)
  · have CC := choose_any w0 S B gp fl p gf sv rv s w H (.inl hk) l r hs hlr hcr
    rw [hR] at CC
    rw [hk] at c7 CP
    replace c7 : w.cell? ⟨gp, 7, none⟩ = some (.int .i64 3) := c7
    have CC := Lib.hid CC
    have CP : Hid (∀ w, Calls Tryd.prog 43 #[.int .i64 3] w fun e w' => e = .returned (.tuple #[.string ⟨#[]⟩, .int .i64 0, .bool false]) ∧ w = w') := Lib.hid CP
    clear H hR hk hcn hpn hs hcr
    cases R with
    | ok y =>
      go_enter Tryd.func29, Tryd.ntmps29
      go_wp2_with (first | (go_at_call 43; refine (CP.out _).mono ?_; rintro e w' ⟨rfl, rfl⟩) | (go_at_call 45; refine CC.out.mono ?_; rintro e w6 ⟨rfl, hf⟩; have HF := Lib.hid hf; clear hf))
      go_ret
      exact ⟨rfl, HF.out⟩
    | error q =>
      go_enter Tryd.func29, Tryd.ntmps29
      go_wp2_with (first | (go_at_call 43; refine (CP.out _).mono ?_; rintro e w' ⟨rfl, rfl⟩) | (go_at_call 45; refine CC.out.mono ?_; rintro e w6 ⟨rfl, hf⟩; have HF := Lib.hid hf; clear hf))
      go_ret
      exact ⟨rfl, HF.out⟩
  · have CC := choose_any w0 S B gp fl p gf sv rv s w H (.inr (.inl hk)) l r hs hlr hcr
    rw [hR] at CC
    rw [hk] at c7 CP
    replace c7 : w.cell? ⟨gp, 7, none⟩ = some (.int .i64 4) := c7
    have CC := Lib.hid CC
    have CP : Hid (∀ w, Calls Tryd.prog 43 #[.int .i64 4] w fun e w' => e = .returned (.tuple #[.string ⟨#[]⟩, .int .i64 0, .bool false]) ∧ w = w') := Lib.hid CP
    clear H hR hk hcn hpn hs hcr
    cases R with
    | ok y =>
      go_enter Tryd.func29, Tryd.ntmps29
      go_wp2_with (first | (go_at_call 43; refine (CP.out _).mono ?_; rintro e w' ⟨rfl, rfl⟩) | (go_at_call 45; refine CC.out.mono ?_; rintro e w6 ⟨rfl, hf⟩; have HF := Lib.hid hf; clear hf))
      go_ret
      exact ⟨rfl, HF.out⟩
    | error q =>
      go_enter Tryd.func29, Tryd.ntmps29
      go_wp2_with (first | (go_at_call 43; refine (CP.out _).mono ?_; rintro e w' ⟨rfl, rfl⟩) | (go_at_call 45; refine CC.out.mono ?_; rintro e w6 ⟨rfl, hf⟩; have HF := Lib.hid hf; clear hf))
      go_ret
      exact ⟨rfl, HF.out⟩
  · have CC := choose_any w0 S B gp fl p gf sv rv s w H (.inr (.inr hk)) l r hs hlr hcr
    rw [hR] at CC
    rw [hk] at c7 CP
    replace c7 : w.cell? ⟨gp, 7, none⟩ = some (.int .i64 11) := c7
    have CC := Lib.hid CC
    have CP : Hid (∀ w, Calls Tryd.prog 43 #[.int .i64 11] w fun e w' => e = .returned (.tuple #[.string ⟨#[]⟩, .int .i64 0, .bool false]) ∧ w = w') := Lib.hid CP
    clear H hR hk hcn hpn hs hcr
    cases R with
    | ok y =>
      go_enter Tryd.func29, Tryd.ntmps29
      go_wp2_with (first | (go_at_call 43; refine (CP.out _).mono ?_; rintro e w' ⟨rfl, rfl⟩) | (go_at_call 45; refine CC.out.mono ?_; rintro e w6 ⟨rfl, hf⟩; have HF := Lib.hid hf; clear hf))
      go_ret
      exact ⟨rfl, HF.out⟩
    | error q =>
      go_enter Tryd.func29, Tryd.ntmps29
      go_wp2_with (first | (go_at_call 43; refine (CP.out _).mono ?_; rintro e w' ⟨rfl, rfl⟩) | (go_at_call 45; refine CC.out.mono ?_; rintro e w6 ⟨rfl, hf⟩; have HF := Lib.hid hf; clear hf))
      go_ret
      exact ⟨rfl, HF.out⟩
  · have CC := pname_any w0 S B gp fl p gf sv rv s w H hk l r hs hlr hsz hcl
    rw [hR] at CC
    rw [hk] at c7 CP
    replace c7 : w.cell? ⟨gp, 7, none⟩ = some (.int .i64 14) := c7
    have CC := Lib.hid CC
    have CP : Hid (∀ w, Calls Tryd.prog 43 #[.int .i64 14] w fun e w' => e = .returned (.tuple #[.string ⟨#[]⟩, .int .i64 0, .bool false]) ∧ w = w') := Lib.hid CP
    clear H hR hk hcn hpn hs hcr
    cases R with
    | ok y =>
      go_enter Tryd.func29, Tryd.ntmps29
      go_wp2_with (first | (go_at_call 43; refine (CP.out _).mono ?_; rintro e w' ⟨rfl, rfl⟩) | (go_at_call 48; refine CC.out.mono ?_; rintro e w6 ⟨rfl, hf⟩; have HF := Lib.hid hf; clear hf))
      go_ret
      exact ⟨rfl, HF.out⟩
    | error q =>
      go_enter Tryd.func29, Tryd.ntmps29
      go_wp2_with (first | (go_at_call 43; refine (CP.out _).mono ?_; rintro e w' ⟨rfl, rfl⟩) | (go_at_call 48; refine CC.out.mono ?_; rintro e w6 ⟨rfl, hf⟩; have HF := Lib.hid hf; clear hf))
      go_ret
      exact ⟨rfl, HF.out⟩
end Go.Proofs.YtlcppkcclolgcaaDoor

namespace Go.Proofs.YtlcppkcclolgcaaDoor
set_option linter.unusedVariables false
set_option linter.unusedSimpArgs false
open Go.RowKit

theorem text_put {w0 w : World} {S : Nat → Prop} {B gp : Nat} {fl : Nat → Nat} {p : PS} {gf : Nat} {sv rv : Value} (H : PaW w0 S w B gp fl p gf sv rv) {l : Lv} {r : List Lv} (hs : p.x.stack = l :: r) {gs cap : Nat} (hsv : sv = .slice (some ⟨gs, 0, none⟩) (r.length + 1) cap) (s : ByteArray) :
    PaW w0 S ((w.setCell ⟨gs, r.length * 5 + 2, none⟩ (.string s)).setCell ⟨gp, 7, none⟩ (.int .i64 10)) B gp fl { p with x := p.x.put 10 (textSet s) } gf sv rv := by
  have hk : PaW w0 S (w.setCell ⟨gs, r.length * 5 + 2, none⟩ (.string s)) B gp fl { p with x := { p.x with stack := textSet s l :: r } } gf sv rv := H.topSet hs hsv (l' := textSet s l) 2 (by omega) (.string s) (fun kv => by simp only [lvCells, textSet, (own_kind _ _ _ _).1, (own_kind _ _ _ _).2.1, (own_kind _ _ _ _).2.2]; rfl) (own_cnt _ _ _ _) (fun _ _ _ h => ND.KC.own_ _ _ _ h)
  have hq := hk.put (p' := { p with x := { p.x with stack := textSet s l :: r, next := 10 } }) 7 (.int .i64 (10 : Nat)) rfl rfl rfl
  have hx : p.x.put 10 (textSet s) = { p.x with stack := textSet s l :: r, next := 10 } := by unfold WS.put; rw [hs]; rfl
  rw [hx]
  exact hq
set_option maxRecDepth 100000 in
set_option maxHeartbeats 4000000 in
theorem wd_text (w0 : World) (S : Nat → Prop) (B gp : Nat) (fl : Nat → Nat) (p : PS) (gf : Nat) (sv rv : Value) (s : ByteArray) (w : World) (H : PaW w0 S w B gp fl p gf sv rv) (hk : p.x.next = 7) (l : Lv) (r : List Lv) (hs : p.x.stack = l :: r) (hr : r.length ≤ 32) :
    Calls Tryd.prog 29 #[.pointer (some ⟨gp, 0, none⟩), .string s] w fun e w' => WordR w0 S B gp p gf (.ok (p.x.put 10 (textSet s))) e w' := by
  obtain ⟨gs, cap, kv, ks, T⟩ := H.top hs
  have CT := Lib.hid ((ptop_any w0 S B gp fl p gf sv rv w H gs r.length cap T.sv (by omega)).mono fun e w' h => (show e = .returned (.pointer (some ⟨gs, r.length * 5, none⟩)) ∧ Below w.heap.size w w' from ⟨h.1, by obtain ⟨k, rfl⟩ := h.2; exact below_drw w k⟩))
  have CP : Hid (∀ w, Calls Tryd.prog 43 #[.int .i64 7] w fun e w' => e = .returned (.tuple #[.string ⟨#[]⟩, .int .i64 0, .bool false]) ∧ w = w') := Lib.hid fun w => plain_any 7 w
  have HH := Lib.hid H
  have HT := Lib.hid T
  have hgg : gp ≠ gs := fun e => by have h1 := H.lab; have h2 := T.lab; rw [e] at h1; omega
  have hgg2 : gs ≠ gp := fun e => hgg e.symm
  have c7 := H.c7
  rw [hk] at c7
  replace c7 : w.cell? ⟨gp, 7, none⟩ = some (.int .i64 7) := c7
  clear H T
  go_enter Tryd.func29, Tryd.ntmps29
  go_wp2_with (first | (go_at_call 43; refine (CP.out _).mono ?_; rintro e w' ⟨rfl, rfl⟩) | (go_at_call 46; refine CT.out.mono ?_; rintro e w1 ⟨rfl, h1⟩; have HX := Lib.hid (HH.out.later h1); have TX := Lib.hid (HT.out.later h1); have d2 : w1.cell? ⟨gs, r.length * 5 + 2, none⟩ = some (.string l.node.text) := TX.out.cell 2 (by omega); have f2 := TX.out.free (r.length * 5 + 2); have c7' : w1.cell? ⟨gp, 7, none⟩ = some (.int .i64 (p.x.next : Nat)) := HX.out.c7; have f7' := HX.out.free 7; have HQ := Lib.hid (text_put HX.out hs TX.out.sv s); clear h1))
  go_ret
  exact ⟨rfl, _, _, _, HQ.out⟩
set_option maxRecDepth 100000 in
set_option maxHeartbeats 4000000 in
theorem wd_target (w0 : World) (S : Nat → Prop) (B gp : Nat) (fl : Nat → Nat) (p : PS) (gf : Nat) (sv rv : Value) (s : ByteArray) (w : World) (H : PaW w0 S w B gp fl p gf sv rv) (hk : p.x.next = 9) (l : Lv) (r : List Lv) (hs : p.x.stack = l :: r) (hr : r.length ≤ 32) :
    Calls Tryd.prog 29 #[.pointer (some ⟨gp, 0, none⟩), .string s] w fun e w' => WordR w0 S B gp p gf (if tgE s ≠ 0 then .error (tgE s) else .ok (p.x.put 10 (textSet s))) e w' := by
  obtain ⟨gs, cap, kv, ks, T⟩ := H.top hs
  have CT := Lib.hid ((ptop_any w0 S B gp fl p gf sv rv w H gs r.length cap T.sv (by omega)).mono fun e w' h => (show e = .returned (.pointer (some ⟨gs, r.length * 5, none⟩)) ∧ Below w.heap.size w w' from ⟨h.1, by obtain ⟨k, rfl⟩ := h.2; exact below_drw w k⟩))
  have CP : Hid (∀ w, Calls Tryd.prog 43 #[.int .i64 9] w fun e w' => e = .returned (.tuple #[.string ⟨#[]⟩, .int .i64 0, .bool false]) ∧ w = w') := Lib.hid fun w => plain_any 9 w
  have CG := Lib.hid (fun w => target_any s w)
  have HH := Lib.hid H
  have HT := Lib.hid T
  have hgg : gp ≠ gs := fun e => by have h1 := H.lab; have h2 := T.lab; rw [e] at h1; omega
  have hgg2 : gs ≠ gp := fun e => hgg e.symm
  have c7 := H.c7
  have c1 := H.c1
  rw [hk] at c7
  replace c7 : w.cell? ⟨gp, 7, none⟩ = some (.int .i64 9) := c7
  clear H T
  by_cases h1 : tgE s = 0
  · rw [if_neg (by simpa using h1)]
    have h1I : (tgE s != 0) = false := by simpa using h1
    clear h1
    go_enter Tryd.func29, Tryd.ntmps29
    go_wp2_with (first | (go_at_call 43; refine (CP.out _).mono ?_; rintro e w' ⟨rfl, rfl⟩) | (go_at_call 47; refine (CG.out _).mono ?_; rintro e w' ⟨rfl, rfl⟩) | (go_at_call 46; refine CT.out.mono ?_; rintro e w1 ⟨rfl, h1⟩; have HX := Lib.hid (HH.out.later h1); have TX := Lib.hid (HT.out.later h1); have d2 : w1.cell? ⟨gs, r.length * 5 + 2, none⟩ = some (.string l.node.text) := TX.out.cell 2 (by omega); have f2 := TX.out.free (r.length * 5 + 2); have c7' : w1.cell? ⟨gp, 7, none⟩ = some (.int .i64 (p.x.next : Nat)) := HX.out.c7; have f7' := HX.out.free 7; have HQ := Lib.hid (text_put HX.out hs TX.out.sv s); clear h1))
    go_ret
    exact ⟨rfl, _, _, _, HQ.out⟩
  · rw [if_pos h1]
    have h1I : (tgE s != 0) = true := by simpa using h1
    clear h1
    go_enter Tryd.func29, Tryd.ntmps29
    go_wp2_with (first | (go_at_call 43; refine (CP.out _).mono ?_; rintro e w' ⟨rfl, rfl⟩) | (go_at_call 47; refine (CG.out _).mono ?_; rintro e w' ⟨rfl, rfl⟩) | (go_at_call 26; refine (pfail_any w0 S B gp fl p gf sv rv (tgE s) p.start _ HH.out).mono ?_; rintro e w6 ⟨rfl, hf⟩; have HF := Lib.hid hf; clear hf))
    go_ret
    exact ⟨rfl, _, _, _, HF.out⟩
set_option maxRecDepth 100000 in
set_option maxHeartbeats 4000000 in
theorem wd_close (w0 : World) (S : Nat → Prop) (B gp : Nat) (fl : Nat → Nat) (p : PS) (gf : Nat) (sv rv : Value) (s : ByteArray) (w : World) (H : PaW w0 S w B gp fl p gf sv rv) (hk : p.x.next = 10) (l : Lv) (r : List Lv) (hs : p.x.stack = l :: r) (hr : r.length ≤ 32) (hcn : ∀ m ∈ r, m.node.cnt ≤ 1048576) :
    Calls Tryd.prog 29 #[.pointer (some ⟨gp, 0, none⟩), .string s] w fun e w' => WordR w0 S B gp p gf (if s ≠ wClose then .error 70 else .ok p.x.close) e w' := by
  have CC := Lib.hid (pclose_any w0 S B gp fl p gf sv rv w H l r hs hr hcn)
  have CP : Hid (∀ w, Calls Tryd.prog 43 #[.int .i64 10] w fun e w' => e = .returned (.tuple #[.string ⟨#[]⟩, .int .i64 0, .bool false]) ∧ w = w') := Lib.hid fun w => plain_any 10 w
  have HH := Lib.hid H
  have c7 := H.c7
  have c1 := H.c1
  rw [hk] at c7
  replace c7 : w.cell? ⟨gp, 7, none⟩ = some (.int .i64 10) := c7
  clear H hcn hs
  by_cases h1 : s = wClose
  · rw [if_neg (by simpa using h1)]
    have he : (s.toList == [41]) = true := by rw [h1]; exact str_eq rfl
    clear h1
    go_enter Tryd.func29, Tryd.ntmps29
    go_wp2_with (first | (go_at_call 43; refine (CP.out _).mono ?_; rintro e w' ⟨rfl, rfl⟩) | (go_at_call 49; refine CC.out.mono ?_; rintro e w6 ⟨rfl, hf⟩; have HF := Lib.hid hf; clear hf))
    go_ret
    exact ⟨rfl, HF.out⟩
  · rw [if_pos h1]
    have he := str_ne (t := wClose) (l := [41]) rfl h1
    clear h1
    go_enter Tryd.func29, Tryd.ntmps29
    go_wp2_with (first | (go_at_call 43; refine (CP.out _).mono ?_; rintro e w' ⟨rfl, rfl⟩) | (go_at_call 26; refine (pfail_any w0 S B gp fl p gf sv rv 70 p.start _ HH.out).mono ?_; rintro e w6 ⟨rfl, hf⟩; have HF := Lib.hid hf; clear hf))
    go_ret
    exact ⟨rfl, _, _, _, HF.out⟩
/-- which word may come, and is there a node that is open -/
theorem Inv.place {x : WS} {ws : List ByteArray} (h : Inv x ws) (hw : x.whole = false) : x.next = 0 ∨ x.next = 1 ∨ (2 ≤ x.next ∧ x.next ≤ 16 ∧ ∃ l r, x.stack = l :: r) := by
  cases h with
  | done => cases hw
  | magic => exact .inl rfl
  | open_ => exact .inr (.inl rfl)
  | top k l r n t h1 h2 h3 =>
    refine .inr (.inr ⟨?_, ?_, l, r, rfl⟩) <;> (show _ ≤ _) <;> cases h3 <;> simp
theorem word_any (w0 : World) (S : Nat → Prop) (B gp : Nat) (fl : Nat → Nat) (p : PS) (gf : Nat) (sv rv : Value) (s : ByteArray) (w : World) (H : PaW w0 S w B gp fl p gf sv rv) (hsz : s.size ≤ 1048576) (hl : p.x.stack.length ≤ 32) (hcn : ∀ m ∈ p.x.stack, m.node.cnt ≤ 1048576)
    (hk : p.x.next = 0 ∨ p.x.next = 1 ∨ (2 ≤ p.x.next ∧ p.x.next ≤ 16 ∧ ∃ l r, p.x.stack = l :: r)) :
    Calls Tryd.prog 29 #[.pointer (some ⟨gp, 0, none⟩), .string s] w fun e w' => WordR w0 S B gp p gf (p.x.word s) e w' := by
  cases hp : plainW p.x.next with
  | some q =>
    obtain ⟨want, t⟩ := q
    have hw : p.x.word s = if s = want then .ok { p.x with next := t } else .error 70 := by
      unfold WS.word
      rw [hp]
    rw [hw]
    exact wd_plain w0 S B gp fl p gf sv rv s w H want t hp
  | none =>
    rcases hk with hk | hk | ⟨h2, h16, l, r, hs⟩
    · rw [hk] at hp; cases hp
    · exact wd_call w0 S B gp fl p gf sv rv s w H hsz hl hcn (.inl hk)
    · have hlr : r.length ≤ 32 := by rw [hs] at hl; simp only [List.length_cons] at hl; omega
      have hcr : ∀ m ∈ r, m.node.cnt ≤ 1048576 := fun m hm => hcn m (by rw [hs]; exact List.mem_cons_of_mem _ hm)
      have hn : ∀ k, p.x.next = k → plainW k = none := fun k e => by rw [← e]; exact hp
      have h9 : p.x.next = 3 ∨ p.x.next = 4 ∨ p.x.next = 11 ∨ p.x.next = 14 ∨ p.x.next = 7 ∨ p.x.next = 9 ∨ p.x.next = 10 := by
        unfold plainW at hp
        by_cases h : p.x.next = 3 ∨ p.x.next = 4 ∨ p.x.next = 11 ∨ p.x.next = 14 ∨ p.x.next = 7 ∨ p.x.next = 9 ∨ p.x.next = 10
        · exact h
        · exfalso
          have h5 : p.x.next = 2 ∨ p.x.next = 5 ∨ p.x.next = 6 ∨ p.x.next = 8 ∨ p.x.next = 12 ∨ p.x.next = 13 ∨ p.x.next = 15 ∨ p.x.next = 16 := by omega
          rcases h5 with h5 | h5 | h5 | h5 | h5 | h5 | h5 | h5 <;> (rw [h5] at hp; cases hp)
      rcases h9 with h9 | h9 | h9 | h9 | h9 | h9 | h9
      · exact wd_call w0 S B gp fl p gf sv rv s w H hsz hl hcn (.inr ⟨.inl h9, l, r, hs⟩)
      · exact wd_call w0 S B gp fl p gf sv rv s w H hsz hl hcn (.inr ⟨.inr (.inl h9), l, r, hs⟩)
      · exact wd_call w0 S B gp fl p gf sv rv s w H hsz hl hcn (.inr ⟨.inr (.inr (.inl h9)), l, r, hs⟩)
      · exact wd_call w0 S B gp fl p gf sv rv s w H hsz hl hcn (.inr ⟨.inr (.inr (.inr h9)), l, r, hs⟩)
      · have hw : p.x.word s = .ok (p.x.put 10 (textSet s)) := by unfold WS.word; rw [h9]; rfl
        rw [hw]
        exact wd_text w0 S B gp fl p gf sv rv s w H h9 l r hs hlr
      · have hw : p.x.word s = if tgE s ≠ 0 then .error (tgE s) else .ok (p.x.put 10 (textSet s)) := by unfold WS.word; rw [h9]; rfl
        rw [hw]
        exact wd_target w0 S B gp fl p gf sv rv s w H h9 l r hs hlr
      · have hw : p.x.word s = if s ≠ wClose then .error 70 else .ok p.x.close := by unfold WS.word; rw [h9]; rfl
        rw [hw]
        exact wd_close w0 S B gp fl p gf sv rv s w H h9 l r hs hlr hcr
end Go.Proofs.YtlcppkcclolgcaaDoor
