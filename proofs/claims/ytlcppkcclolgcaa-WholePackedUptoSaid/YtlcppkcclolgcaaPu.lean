/- The walk of the parser's close. -/
import Derived.Test.YtlcppkcclolgcaaPs
namespace Go.Proofs.Ytlcppkcclolgcaa
set_option linter.unusedVariables false
set_option linter.unusedSimpArgs false
open Go.RowKit
open Go.Proofs.YtlcppkcclolgcaaW.PrintLast

theorem PaW.stk_top {w0 w : World} {S : Nat → Prop} {B gp : Nat} {fl : Nat → Nat} {p : PS} {gf : Nat} {sv rv : Value} (H : PaW w0 S w B gp fl p gf sv rv) {l : Lv} {r : List Lv} (hs : p.x.stack = l :: r) {gs cap : Nat} {kv : Value} {ks0 : List Value} (T : TopS w B fl l r.length sv gs cap kv ks0) :
    ∃ cr ks, w.ownsRow B 110 5 sv (r.length + 1) (cr ++ lvCells l kv) ∧ cr.length = r.length * 5 ∧ StC fl w B r cr ∧ w.ownsRow B 79 5 kv l.node.cnt ks ∧ l.node.KC (fun b => fl b = 0) w ks ∧ (∀ b, kv.ownBlock = some b → fl b = 5 + r.length) ∧ ∀ k, sv.ownBlock = some k → fl k = 4 := by
  obtain ⟨cs, h1, h2, h3⟩ := H.stk
  rw [hs] at h1 h2
  obtain ⟨cr, kv', ks, rfl, h4, h5, h6, h7⟩ := h2
  have hl := h4.len
  have e : kv' = kv := by
    have h1' := h1
    rw [T.sv] at h1'
    have hc := h1'.cells (g := gs) rfl (r.length * 5 + 3) kv' (by rw [List.getElem?_append_right (by omega), show r.length * 5 + 3 - cr.length = 3 by omega]; rfl)
    rw [addr_add0, T.cell 3 (by omega)] at hc
    simpa [lvCells] using hc.symm
  subst e
  exact ⟨cr, ks, h1, hl, h4, h5, h6, h7, h3⟩
theorem owns_cap {w : World} {B : Nat} {e : TypeId} {sz g n cap : Nat} {xs : List Value} (h : w.ownsRow B e sz (.slice (some ⟨g, 0, none⟩) n cap) n xs) : n ≤ cap ∧ cap ≤ maxLen := by
  obtain ⟨h1, ⟨h2, _⟩ | ⟨g', cap', cur, hv, hb, hg, hn, hm, hs, ht⟩⟩ := h
  · cases h2
  · injection hv with e1 e2 e3
    subst e3
    exact ⟨hn, hm⟩
theorem owns_cut {w : World} {B : Nat} {e : TypeId} {sz g n cap : Nat} {xs ys : List Value} (h : w.ownsRow B e sz (.slice (some ⟨g, 0, none⟩) (n + 1) cap) (n + 1) (xs ++ ys)) (hx : xs.length = n * sz) : w.ownsRow B e sz (.slice (some ⟨g, 0, none⟩) n cap) n xs := by
  obtain ⟨h1, ⟨h2, _⟩ | ⟨g', cap', cur, hv, hb, hg, hn, hm, hs, ht⟩⟩ := h
  · cases h2
  · injection hv with e1 e2 e3
    injection e1 with e1
    injection e1 with e1 e4 e5
    subst e1
    subst e3
    refine ⟨hx, .inr ⟨g, cap, cur, rfl, hb, hg, by omega, hm, hs, ?_⟩⟩
    have := congrArg (List.take (n * sz)) ht
    rw [List.take_take, Nat.min_eq_left (Nat.mul_le_mul_right _ (Nat.le_succ n)), List.take_append_of_le_length (by omega), List.take_of_length_le (l := xs) (by omega)] at this
    exact this
/-- kids in their row, as a tree's -/
theorem kids_in {w : World} {B : Nat} {S : Nat → Prop} {n : ND} {kv : Value} {ks : List Value} (ho : w.ownsRow B 79 5 kv n.cnt ks) (hk : n.KC S w ks) (hS : ∀ b, kv.ownBlock = some b → S b) : ∃ a c, kv = .slice a n.cnt c ∧ n.InS S w a := by
  obtain ⟨h1, ⟨rfl, h0⟩ | ⟨g, cap, cur, rfl, hb, hg, hn, hm, hs, ht⟩⟩ := ho
  · exact ⟨none, 0, by rw [h0], .inl h0⟩
  · refine ⟨some ⟨g, 0, none⟩, cap, rfl, .inr ⟨_, rfl, ?_⟩⟩
    exact ND.KC.row (hS g rfl) cur hg (by rw [h1]; exact ht) hk
/-- the innermost open node is taken off -/
theorem PaW.pop {w0 w : World} {S : Nat → Prop} {B gp : Nat} {fl : Nat → Nat} {p : PS} {gf : Nat} {sv rv : Value} (H : PaW w0 S w B gp fl p gf sv rv) {l : Lv} {r : List Lv} (hs : p.x.stack = l :: r) {gs cap : Nat} {kv : Value} {ks0 : List Value} (T : TopS w B fl l r.length sv gs cap kv ks0) :
    PaW w0 S (w.setCell ⟨gp, 9, none⟩ (.slice (some ⟨gs, 0, none⟩) r.length cap)) B gp (lbl fl kv 0) { p with x := { p.x with stack := r } } gf (.slice (some ⟨gs, 0, none⟩) r.length cap) rv ∧
      ∃ a c, kv = .slice a l.node.cnt c ∧ l.node.InS (fun b => lbl fl kv 0 b = 0) (w.setCell ⟨gp, 9, none⟩ (.slice (some ⟨gs, 0, none⟩) r.length cap)) a := by
  obtain ⟨cr, ks, h1, hl, h4, h5, h6, h7, h3⟩ := H.stk_top hs T
  obtain ⟨a, cap', e, hroot⟩ := H.root
  have hlab := H.lab
  have hsv := T.sv
  subst hsv
  have hf0 : ∀ b, fl b = 0 → lbl fl kv 0 b = 0 := fun b h0 => by
    rw [lbl_other (fun e => by have := h7 b e; omega)]; exact h0
  have hfr : ∀ b, fl b ≠ 5 + r.length → lbl fl kv 0 b = fl b := fun b hb => lbl_other (fun e => hb (h7 b e))
  have hfn : ∀ b, lbl fl kv 0 b ≠ 0 → fl b ≠ 0 := fun b hb h0 => hb (hf0 b h0)
  have hk : ∀ b, b ≠ gp → (w.setCell ⟨gp, 9, none⟩ (.slice (some ⟨gs, 0, none⟩) r.length cap)).heap[b]? = w.heap[b]? := fun b hb => Below.heap_setCell _ _ _ _ hb
  have hne0 : ∀ b, fl b ≠ 1 → b ≠ gp := fun b hb e => by rw [e] at hb; exact hb hlab
  refine ⟨⟨?_, ?_, fun k h => ⟨(H.hB k (hfn k h)).1, by simpa [World.setCell] using (H.hB k (hfn k h)).2⟩, fun k h => H.sl k (hfn k h), H.away.set gp 9 _ (H.sl gp (by omega)), ⟨cr, ?_, ?_, ?_⟩, a, cap', e, ?_⟩, ?_⟩
  · rw [heap_setCell_same w gp 9 _ _ _ H.row]; rfl
  · rw [hfr gp (by omega)]; exact hlab
  · refine owns_kept (owns_cut h1 hl) (fun b hb hv => hk b (hne0 b ?_))
    rw [h3 b hv]; omega
  · exact h4.kept (fun b hb h0 => ⟨hk b (hne0 b (by omega)), hf0 b h0⟩) (fun b hb h5 h6 => ⟨hk b (hne0 b (by omega)), hfr b (by have : fl b < 5 + r.length := h6; omega)⟩)
  · intro k hv
    rw [hfr k (by rw [h3 k hv]; omega)]
    exact h3 k hv
  · exact hroot.kept (fun b hb h0 => ⟨hk b (hne0 b (by omega)), hf0 b h0⟩)
  · refine kids_in (owns_kept h5 (fun b hb hv => hk b (hne0 b (by rw [h7 b hv]; omega)))) (h6.kept (fun b hb h0 => ⟨hk b (hne0 b (by omega)), hf0 b h0⟩)) (fun b hv => lbl_own hv)
/-- the root is whole -/
theorem PaW.putRoot {w0 w w' : World} {S : Nat → Prop} {B gp : Nat} {fl : Nat → Nat} {p : PS} {gf : Nat} {sv rv : Value} (H : PaW w0 S w B gp fl p gf sv rv) (n : ND) (a : Option Addr) (c : Nat) (hin : n.InS (fun b => fl b = 0) w a)
    (hrow : w'.heap[gp]? = some (.cells (pcells { p with x := { p.x with root := n, whole := true } } gf sv (.slice a n.cnt c)) 52 (0, 0))) (hg : w.grownBy w' (some gp)) :
    PaW w0 S w' B gp fl { p with x := { p.x with root := n, whole := true } } gf sv (.slice a n.cnt c) := by
  obtain ⟨cs, h1, h2, h3⟩ := H.stk
  have hlab := H.lab
  have hk : ∀ b, b < w.heap.size → b ≠ gp → w'.heap[b]? = w.heap[b]? := fun b hb hne => hg.block b hb (by simp; exact hne)
  have hne0 : ∀ b, fl b ≠ 1 → b ≠ gp := fun b hb e => by rw [e] at hb; exact hb hlab
  exact ⟨hrow, hlab, fun k h => ⟨(H.hB k h).1, Nat.lt_of_lt_of_le (H.hB k h).2 hg.size⟩, H.sl, H.away.grown hg (fun k e hl => by injection e with e; subst e; exact H.sl gp (by omega) hl),
    ⟨cs, owns_kept h1 (fun b hb hv => hk b hb (hne0 b (by rw [h3 b hv]; omega))), h2.kept (fun b hb h0 => ⟨hk b hb (hne0 b (by omega)), h0⟩) (fun b hb h5 _ => ⟨hk b hb (hne0 b (by omega)), rfl⟩), h3⟩, a, c, rfl, hin.kept (fun b hb h0 => ⟨hk b hb (hne0 b (by omega)), h0⟩)⟩
/-- a kid more -/
theorem PaW.addKid {w0 w w' : World} {S : Nat → Prop} {B gp : Nat} {fl : Nat → Nat} {p : PS} {gf : Nat} {sv rv v5 : Value} (H : PaW w0 S w B gp fl p gf sv rv) {m : Lv} {r : List Lv} (hs : p.x.stack = m :: r) {gs cap : Nat} {kv : Value} {ks : List Value} (T : TopS w B fl m r.length sv gs cap kv ks)
    (n : ND) (a : Option Addr) (c : Nat) (hin : n.InS (fun b => fl b = 0) w a) (ha : Away w0 S w') (hz : w.heap.size ≤ w'.heap.size) (hk : ∀ b, b < w.heap.size → b ≠ gs → kv.ownBlock ≠ some b → w'.heap[b]? = w.heap[b]?)
    (ho : w'.ownsRow B 79 5 v5 (m.node.cnt + 1) (ks ++ [.string m.kid, .int .i64 n.kind, .bool n.exec, .string n.text, .slice a n.cnt c]))
    (hst : ∀ cr, w.ownsRow B 110 5 sv (r.length + 1) (cr ++ lvCells m kv) → cr.length = r.length * 5 → w'.ownsRow B 110 5 sv (r.length + 1) (cr ++ lvCells m v5))
    (hat : v5.ownBlock = kv.ownBlock ∨ ∃ k, v5.ownBlock = some k ∧ w.heap.size ≤ k) :
    PaW w0 S w' B gp (lbl fl v5 (5 + r.length)) { p with x := { p.x with stack := { m with node := .add m.node m.kid n } :: r } } gf sv rv := by
  obtain ⟨cr, ks', h1, hl, h4, h5, h6, h7, h3⟩ := H.stk_top hs T
  obtain ⟨ar, cap', e, hroot⟩ := H.root
  have hlab := H.lab
  have hgs := T.lab
  have hsz := H.away.size
  have hgp := H.lt
  have hf : ∀ b, b < w.heap.size → fl b ≠ 5 + r.length → lbl fl v5 (5 + r.length) b = fl b := fun b hb hne => lbl_other (fun e => by
    rcases hat with h | ⟨k, h, hk'⟩
    · exact hne (h7 b (by rw [← h, e]))
    · rw [e] at h; injection h with h; omega)
  have hkk : ∀ b, b < w.heap.size → fl b ≠ 4 → fl b ≠ 5 + r.length → w'.heap[b]? = w.heap[b]? := fun b hb h4' h5' => hk b hb (fun e => by rw [e] at h4'; exact h4' hgs) (fun e => h5' (h7 b e))
  have ho' : w'.ownsRow B 79 5 v5 (ND.add m.node m.kid n).cnt (ks ++ [Value.string m.kid, .int .i64 n.kind, .bool n.exec, .string n.text, .slice a n.cnt c]) := ho
  refine ⟨(hkk gp hgp (by omega) (by omega)).trans H.row, by rw [hf gp hgp (by omega)]; exact hlab, fun k h => ?_, fun k h hlt => ?_, ha, ⟨cr ++ lvCells m v5, hst cr h1 hl, ⟨cr, v5, _, rfl, ?_, ho', ⟨ks, a, c, rfl, ?_, ?_⟩, fun b hb => lbl_own hb⟩, fun k hv => ?_⟩, ar, cap', e, ?_⟩
  · by_cases hv : v5.ownBlock = some k
    · exact ho.lt k hv
    · rw [lbl_other hv] at h
      exact ⟨(H.hB k h).1, Nat.lt_of_lt_of_le (H.hB k h).2 hz⟩
  · by_cases hv : v5.ownBlock = some k
    · rcases hat with h' | ⟨k', h', hk'⟩
      · exact H.sl k (by rw [h7 k (by rw [← h', hv])]; omega) hlt
      · rw [hv] at h'; injection h' with h'; omega
    · rw [lbl_other hv] at h
      exact H.sl k h hlt
  · exact h4.kept (fun b hb h0 => ⟨hkk b hb (by omega) (by omega), by rw [hf b hb (by omega)]; exact h0⟩) (fun b hb h5 h6 => ⟨hkk b hb (by omega) (by omega), hf b hb (by omega)⟩)
  · exact T.kc.kept (fun b hb h0 => ⟨hkk b hb (by omega) (by omega), by rw [hf b hb (by omega)]; exact h0⟩)
  · exact hin.kept (fun b hb h0 => ⟨hkk b hb (by omega) (by omega), by rw [hf b hb (by omega)]; exact h0⟩)
  · have hlt := (h1.lt k hv).2
    rw [hf k hlt (by rw [h3 k hv]; omega)]
    exact h3 k hv
  · exact hroot.kept (fun b hb h0 => ⟨hkk b hb (by omega) (by omega), by rw [hf b hb (by omega)]; exact h0⟩)
def zero5 : List Value := [.string ⟨#[]⟩, .int .i64 0, .bool false, .string ⟨#[]⟩, .slice none 0 0]
def put5 (w : World) (g o : Nat) (e0 e1 e2 e3 e4 : Value) : World := ((((w.setCell ⟨g, o, none⟩ e0).setCell ⟨g, o + 1, none⟩ e1).setCell ⟨g, o + 2, none⟩ e2).setCell ⟨g, o + 3, none⟩ e3).setCell ⟨g, o + 4, none⟩ e4
theorem put5_other (w : World) (g o b : Nat) (e0 e1 e2 e3 e4 : Value) (h : b ≠ g) : (put5 w g o e0 e1 e2 e3 e4).heap[b]? = w.heap[b]? :=
  (Below.heap_setCell _ _ _ _ h).trans ((Below.heap_setCell _ _ _ _ h).trans ((Below.heap_setCell _ _ _ _ h).trans ((Below.heap_setCell _ _ _ _ h).trans (Below.heap_setCell _ _ _ _ h))))
theorem put5_grown (w : World) (g o : Nat) (e0 e1 e2 e3 e4 : Value) : w.grownBy (put5 w g o e0 e1 e2 e3 e4) (some g) :=
  only_setG (only_setG (only_setG (only_setG (only_setG (World.grownBy.refl w _) _ _) _ _) _ _) _ _) _ _
theorem put5_owns {w : World} {B : Nat} {e : TypeId} {g n cap : Nat} {xs : List Value} {z0 z1 z2 z3 z4 : Value} (h : w.ownsRow B e 5 (.slice (some ⟨g, 0, none⟩) (n + 1) cap) (n + 1) (xs ++ [z0, z1, z2, z3, z4])) (hx : xs.length = n * 5) (e0 e1 e2 e3 e4 : Value) :
    (put5 w g (n * 5) e0 e1 e2 e3 e4).ownsRow B e 5 (.slice (some ⟨g, 0, none⟩) (n + 1) cap) (n + 1) (xs ++ [e0, e1, e2, e3, e4]) := by
  have hl : ∀ (a b c d f : Value), (xs ++ [a, b, c, d, f]).length = n * 5 + 5 := fun a b c d f => by simp; omega
  have hset : ∀ (j : Nat) (u : Value) (ys : List Value), (xs ++ ys).set (n * 5 + j) u = xs ++ ys.set j u := fun j u ys => by
    rw [List.set_append_right _ _ (by omega), show n * 5 + j - xs.length = j by omega]
  have h0 := owns_set h (n * 5 + 0) (by rw [hl]; omega) e0
  rw [hset] at h0
  have h1 := owns_set h0 (n * 5 + 1) (by simp; omega) e1
  rw [hset] at h1
  have h2 := owns_set h1 (n * 5 + 2) (by simp; omega) e2
  rw [hset] at h2
  have h3 := owns_set h2 (n * 5 + 3) (by simp; omega) e3
  rw [hset] at h3
  have h4 := owns_set h3 (n * 5 + 4) (by simp; omega) e4
  rw [hset] at h4
  exact h4
theorem PaW.addKid2 {w0 w wA w5 w7 : World} {S : Nat → Prop} {B gp : Nat} {fl : Nat → Nat} {p : PS} {gf : Nat} {sv rv : Value} (H : PaW w0 S w B gp fl p gf sv rv) {m : Lv} {r : List Lv} (hs : p.x.stack = m :: r) {gs cap : Nat} {kv : Value} {ks : List Value} (T : TopS w B fl m r.length sv gs cap kv ks)
    (n : ND) (a : Option Addr) (c : Nat) (hin : n.InS (fun b => fl b = 0) w a) (hb : Below w.heap.size w wA) (g5 c5 : Nat) (ho : w5.ownsRow B 79 5 (.slice (some ⟨g5, 0, none⟩) (m.node.cnt + 1) c5) (m.node.cnt + 1) (ks ++ zero5)) (hg : wA.grownBy w5 kv.ownBlock)
    (hat : (Value.slice (some ⟨g5, 0, none⟩) (m.node.cnt + 1) c5).ownBlock = kv.ownBlock ∨ (Value.slice (some ⟨g5, 0, none⟩) (m.node.cnt + 1) c5).ownBlock = some wA.heap.size)
    (h7 : w7 = (put5 w5 g5 (m.node.cnt * 5) (.string m.kid) (.int .i64 n.kind) (.bool n.exec) (.string n.text) (.slice a n.cnt c)).setCell ⟨gs, r.length * 5 + 3, none⟩ (.slice (some ⟨g5, 0, none⟩) (m.node.cnt + 1) c5) ∨
      w7 = put5 (w5.setCell ⟨gs, r.length * 5 + 3, none⟩ (.slice (some ⟨g5, 0, none⟩) (m.node.cnt + 1) c5)) g5 (m.node.cnt * 5) (.string m.kid) (.int .i64 n.kind) (.bool n.exec) (.string n.text) (.slice a n.cnt c)) :
    PaW w0 S w7 B gp (lbl fl (.slice (some ⟨g5, 0, none⟩) (m.node.cnt + 1) c5) (5 + r.length)) { p with x := { p.x with stack := { m with node := .add m.node m.kid n } :: r } } gf sv rv := by
  have hlt := T.lt
  have hgs := T.lab
  have hkl := T.klab
  have hz := hb.size
  have hz5 := hg.size
  have hsz := H.away.size
  have hks := T.kc.len
  have hat' : g5 = wA.heap.size ∨ kv.ownBlock = some g5 := by
    rcases hat with h | h
    · exact .inr h.symm
    · left; injection h
  have hne : g5 ≠ gs := by
    rcases hat' with h | h
    · omega
    · intro e; subst e; have := hkl _ h; omega
  have hw5 : ∀ b, b < w.heap.size → kv.ownBlock ≠ some b → w5.heap[b]? = w.heap[b]? := fun b hb' hv => by
    rw [hg.block b (by omega) (fun e => hv e.symm), hb.block b hb']
  have hS : ∀ k, k < w0.heap.size → kv.ownBlock = some k → S k := fun k hk hv => H.sl k (by rw [hkl k hv]; omega) hk
  have hSs : gs < w0.heap.size → S gs := fun h => H.sl gs (by omega) h
  have hSg : g5 < w0.heap.size → S g5 := fun h => by
    rcases hat' with h' | h'
    · omega
    · exact hS g5 h h'
  have ha5 : Away w0 S w5 := (H.away.later hb).grown hg (fun k e hk => hS k hk e)
  have hat2 : (Value.slice (some ⟨g5, 0, none⟩) (m.node.cnt + 1) c5).ownBlock = kv.ownBlock ∨ ∃ k, (Value.slice (some ⟨g5, 0, none⟩) (m.node.cnt + 1) c5).ownBlock = some k ∧ w.heap.size ≤ k := by
    rcases hat with h | h
    · exact .inl h
    · exact .inr ⟨_, h, hz⟩
  have hrow : ∀ cr, w.ownsRow B 110 5 sv (r.length + 1) (cr ++ lvCells m kv) → w5.ownsRow B 110 5 sv (r.length + 1) (cr ++ lvCells m kv) := fun cr h => owns_kept h (fun b hb' hv => hw5 b hb' (fun e => by
    have h1 := hkl b e
    rw [T.sv] at hv
    have hv : gs = b := by injection hv
    subst hv
    omega))
  have hset : ∀ (W : World) cr, W.ownsRow B 110 5 sv (r.length + 1) (cr ++ lvCells m kv) → cr.length = r.length * 5 → (W.setCell ⟨gs, r.length * 5 + 3, none⟩ (.slice (some ⟨g5, 0, none⟩) (m.node.cnt + 1) c5)).ownsRow B 110 5 sv (r.length + 1) (cr ++ lvCells m (.slice (some ⟨g5, 0, none⟩) (m.node.cnt + 1) c5)) := fun W cr h hl => by
    rw [T.sv] at h ⊢
    have h1 := owns_set h (r.length * 5 + 3) (by simp [lvCells]; omega) (.slice (some ⟨g5, 0, none⟩) (m.node.cnt + 1) c5)
    rw [List.set_append_right _ _ (by omega), show r.length * 5 + 3 - cr.length = 3 by omega] at h1
    exact h1
  have hgv : ∀ b, (Value.slice (some ⟨g5, 0, none⟩) (m.node.cnt + 1) c5).ownBlock = some b → b = g5 := fun b h => by injection h with h; exact h.symm
  have hsvb : ∀ b, sv.ownBlock = some b → b = gs := fun b h => by rw [T.sv] at h; injection h with h; exact h.symm
  have hbne : ∀ b, b < w.heap.size → kv.ownBlock ≠ some b → b ≠ g5 := fun b hb' hv => by
    rcases hat' with h | h
    · omega
    · intro e; subst e; exact hv h
  rcases h7 with h7 | h7
  · have P1 := put5_grown w5 g5 (m.node.cnt * 5) (.string m.kid) (.int .i64 n.kind) (.bool n.exec) (.string n.text) (.slice a n.cnt c)
    have P2 := fun b h => put5_other w5 g5 (m.node.cnt * 5) b (.string m.kid) (.int .i64 n.kind) (.bool n.exec) (.string n.text) (.slice a n.cnt c) h
    have P3 := put5_owns ho hks (.string m.kid) (.int .i64 n.kind) (.bool n.exec) (.string n.text) (.slice a n.cnt c)
    generalize put5 w5 g5 (m.node.cnt * 5) (.string m.kid) (.int .i64 n.kind) (.bool n.exec) (.string n.text) (.slice a n.cnt c) = wP at *
    have hzP := P1.size
    have haP : Away w0 S wP := ha5.grown P1 (fun k e hk => by injection e with e; subst e; exact hSg hk)
    have hz7 : w7.heap.size = wP.heap.size := by rw [h7]; simp [World.setCell]
    have hk7 : ∀ b, b ≠ gs → w7.heap[b]? = wP.heap[b]? := fun b hb' => by rw [h7]; exact Below.heap_setCell _ _ _ _ hb'
    have ha7 : Away w0 S w7 := by rw [h7]; exact haP.set gs _ _ hSs
    refine H.addKid hs T n a c hin ha7 (by omega) (fun b hb' hbs hv => (hk7 b hbs).trans ((P2 b (hbne b hb' hv)).trans (hw5 b hb' hv))) (owns_kept P3 (fun b _ hv => hk7 b (by rw [hgv b hv]; exact hne))) (fun cr h hl => ?_) hat2
    rw [h7]
    exact hset wP cr (owns_kept (hrow cr h) (fun b _ hv => P2 b (by rw [hsvb b hv]; exact fun e => hne e.symm))) hl
  · obtain ⟨wQ, hwQ⟩ : ∃ wQ, wQ = w5.setCell ⟨gs, r.length * 5 + 3, none⟩ (.slice (some ⟨g5, 0, none⟩) (m.node.cnt + 1) c5) := ⟨_, rfl⟩
    rw [← hwQ] at h7
    have hzQ : wQ.heap.size = w5.heap.size := by rw [hwQ]; simp [World.setCell]
    have hkQ : ∀ b, b ≠ gs → wQ.heap[b]? = w5.heap[b]? := fun b hb' => by rw [hwQ]; exact Below.heap_setCell _ _ _ _ hb'
    have haQ : Away w0 S wQ := by rw [hwQ]; exact ha5.set gs _ _ hSs
    have hoQ := owns_kept (w' := wQ) ho (fun b _ hv => hkQ b (by rw [hgv b hv]; exact hne))
    have hrQ : ∀ cr, w.ownsRow B 110 5 sv (r.length + 1) (cr ++ lvCells m kv) → cr.length = r.length * 5 → wQ.ownsRow B 110 5 sv (r.length + 1) (cr ++ lvCells m (.slice (some ⟨g5, 0, none⟩) (m.node.cnt + 1) c5)) := fun cr h hl => by rw [hwQ]; exact hset w5 cr (hrow cr h) hl
    clear hwQ
    have P1 := put5_grown wQ g5 (m.node.cnt * 5) (.string m.kid) (.int .i64 n.kind) (.bool n.exec) (.string n.text) (.slice a n.cnt c)
    have P2 := fun b h => put5_other wQ g5 (m.node.cnt * 5) b (.string m.kid) (.int .i64 n.kind) (.bool n.exec) (.string n.text) (.slice a n.cnt c) h
    have P3 := put5_owns hoQ hks (.string m.kid) (.int .i64 n.kind) (.bool n.exec) (.string n.text) (.slice a n.cnt c)
    rw [← h7] at P1 P2 P3
    have hzP := P1.size
    exact H.addKid hs T n a c hin (haQ.grown P1 (fun k e hk => by injection e with e; subst e; exact hSg hk)) (by omega) (fun b hb' hbs hv => (P2 b (hbne b hb' hv)).trans ((hkQ b hbs).trans (hw5 b hb' hv))) P3 (fun cr h hl => owns_kept (hrQ cr h hl) (fun b _ hv => P2 b (by rw [hsvb b hv]; exact fun e => hne e.symm))) hat2
end Go.Proofs.Ytlcppkcclolgcaa

