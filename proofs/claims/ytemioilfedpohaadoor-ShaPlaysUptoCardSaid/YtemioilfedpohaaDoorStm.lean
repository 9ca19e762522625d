/- A State of sha in memory: what its block holds, and how the steps turn it. -/
import Derived.Test.YtemioilfedpohaaDoorShs
import Derived.Deep.MidRow
import Derived.Laws.CopyOwn
import Derived.Lib.LazyBuf
import Derived.Deep.AppendLies
import Derived.OwnWalk
namespace Go.Proofs.YtemioilfedpohaaDoor
set_option linter.unusedVariables false
set_option linter.unusedSimpArgs false
open Go.RowKit

/-- one kind's cells, as a list -/
def cl (k : IntKind) (xs : List Nat) : List Value := xs.map fun (x : Nat) => Value.int k (x : Int)
theorem cl_length (k : IntKind) (xs : List Nat) : (cl k xs).length = xs.length := by simp [cl]
theorem cl_array (k : IntKind) (xs : List Nat) : (cl k xs).toArray = cw k xs := rfl
theorem cl_one (k : IntKind) (xs : List Nat) : ∀ v ∈ cl k xs, v.oneCell' = true := by
  intro v hv
  simp only [cl, List.mem_map] at hv
  obtain ⟨y, _, rfl⟩ := hv
  rfl
theorem cl_get (k : IntKind) (xs : List Nat) (i : Nat) (h : i < xs.length) : (cl k xs)[i]? = some (.int k (xs.getD i 0 : Nat)) := by simp [cl, h]

/-- the cells of a State -/
def stc (n : Nat) (h buf : List Nat) (used : Nat) : List Value := .int .i64 (n : Int) :: (cl .u32 h ++ (cl .u8 buf ++ [.int .i64 (used : Int)]))
theorem stc_length {n : Nat} {h buf : List Nat} {used : Nat} (hh : h.length = 8) (hb : buf.length = 64) : (stc n h buf used).length = 74 := by simp [stc, cl, hh, hb]

theorem splice_step {α : Type} (L : List α) (o : Nat) (v : α) (r : List α) (h : o < L.length) : splice (L.set o v) (o + 1) r = splice L o (v :: r) := by
  obtain ⟨A, x, B, rfl, rfl⟩ : ∃ A x B, L = A ++ x :: B ∧ A.length = o := ⟨L.take o, L[o], L.drop (o + 1), by simp, by simp; omega⟩
  have e1 : (A ++ x :: B).set A.length v = (A ++ [v]) ++ B := by simp
  have e2 : (A ++ [v]).length = A.length + 1 := by simp
  have e3 : (A ++ x :: B).drop (A.length + (v :: r).length) = B.drop r.length := by
    rw [List.drop_append, List.drop_eq_nil_of_le (by simp), show A.length + (v :: r).length - A.length = r.length + 1 by simp]
    simp
  have e4 : ((A ++ [v]) ++ B).drop (A.length + 1 + r.length) = B.drop r.length := by
    rw [List.drop_append, List.drop_eq_nil_of_le (by rw [e2]; omega), e2, show A.length + 1 + r.length - (A.length + 1) = r.length by omega]
    simp
  unfold splice
  rw [e1, e3, e4, List.take_left' e2, List.take_left' rfl]
  simp
/-- what lies in a row behind cells laid over it -/
theorem heap_setCells {g : Nat} {t : TypeId} : ∀ (vs : List Value) (o : Nat) (w : World) (L : List Value), w.heap[g]? = some (.cells L.toArray t (0, 0)) → o + vs.length ≤ L.length →
    (w.setCells g o vs).heap[g]? = some (.cells (splice L o vs).toArray t (0, 0))
  | [], o, w, L, h, _ => by
    rw [World.setCells, h]
    simp [splice]
  | v :: r, o, w, L, h, hl => by
    simp only [List.length_cons] at hl
    have h1 : (w.setCell ⟨g, o, none⟩ v).heap[g]? = some (.cells (L.set o v).toArray t (0, 0)) := by
      rw [heap_setCell_same w g o _ t _ h]
      simp
    rw [World.setCells, heap_setCells r (o + 1) _ _ h1 (by rw [List.length_set]; omega), splice_step L o v r (by omega)]
theorem heap_setCells_other {g k : Nat} (hne : k ≠ g) : ∀ (vs : List Value) (o : Nat) (w : World), (w.setCells g o vs).heap[k]? = w.heap[k]?
  | [], _, _ => rfl
  | v :: r, o, w => by rw [World.setCells, heap_setCells_other hne r (o + 1) _, Below.heap_setCell _ _ _ _ hne]
theorem size_setCells {g : Nat} : ∀ (vs : List Value) (o : Nat) (w : World), (w.setCells g o vs).heap.size = w.heap.size
  | [], _, _ => rfl
  | _ :: r, o, _ => by rw [World.setCells, size_setCells r (o + 1) _]; simp [World.setCell]

/-- only block g, and what is new, has turned -/
theorem only_drewN {a w : World} {row : Option Nat} (h : a.grownBy w row) (n : Nat) : a.grownBy (w.drewN n) row := ⟨h.os, h.tape, h.output, h.size, h.block⟩
theorem only_drew {a w : World} {row : Option Nat} (h : a.grownBy w row) : a.grownBy w.drew row := ⟨h.os, h.tape, h.output, h.size, h.block⟩
theorem only_alloc {a w : World} {row : Option Nat} (h : a.grownBy w row) (o : Obj) : a.grownBy (w.alloc o) row :=
  ⟨h.os, h.tape, h.output, Nat.le_trans h.size (by simp), fun i hi hne => (Below.heap_alloc w o i (Nat.lt_of_lt_of_le hi h.size)).trans (h.block i hi hne)⟩
theorem only_setCell {a w : World} {g : Nat} (h : a.grownBy w (some g)) {p : Addr} (hp : p.block = g ∨ a.heap.size ≤ p.block) (u : Value) : a.grownBy (w.setCell p u) (some g) :=
  ⟨h.os, h.tape, h.output, by simpa [World.setCell] using h.size, fun i hi hne => (Below.heap_setCell w p u i (by
    rintro rfl
    rcases hp with hp | hp
    · exact hne (by rw [hp])
    · omega)).trans (h.block i hi hne)⟩
theorem only_setCells {a : World} {g : Nat} : ∀ (vs : List Value) (o : Nat) (w : World), a.grownBy w (some g) → a.grownBy (w.setCells g o vs) (some g)
  | [], _, _, h => h
  | v :: r, o, w, h => only_setCells r (o + 1) _ (only_setCell h (.inl rfl) v)
theorem only_below {a w w' : World} {row : Option Nat} (h : a.grownBy w row) (hb : Below w.heap.size w w') : a.grownBy w' row :=
  ⟨hb.os.trans h.os, hb.tape.trans h.tape, hb.output.trans h.output, Nat.le_trans h.size hb.size, fun i hi hn => (hb.block i (Nat.lt_of_lt_of_le hi h.size)).trans (h.block i hi hn)⟩
theorem only_trans {a b c : World} {g : Nat} (h : a.grownBy b (some g)) (k : b.grownBy c (some g)) : a.grownBy c (some g) :=
  ⟨k.os.trans h.os, k.tape.trans h.tape, k.output.trans h.output, Nat.le_trans h.size k.size, fun i hi hn => (k.block i (Nat.lt_of_lt_of_le hi h.size) hn).trans (h.block i hi hn)⟩
theorem only_new {B : Nat} {a b c : World} {g : Nat} (h : Below B a b) (k : b.grownBy c (some g)) (hB : B ≤ a.heap.size) (hg : B ≤ g) : Below B a c :=
  ⟨k.os.trans h.os, k.tape.trans h.tape, k.output.trans h.output, Nat.le_trans h.size k.size, fun i hi => (k.block i (by have := h.size; omega) (by simp; omega)).trans (h.block i hi)⟩

/-- the two tables of sha -/
structure Tab (w : World) : Prop where
  k : ∃ TK, w.heap[0]? = some (.cells (cw .u32 KT) TK (0, 0))
  s : ∃ TS, w.heap[1]? = some (.cells (cw .u32 ST) TS (0, 0))
theorem Tab.two {w : World} (h : Tab w) : 2 ≤ w.heap.size := by
  obtain ⟨_, TS, h⟩ := h
  rcases Nat.lt_or_ge 1 w.heap.size with h1 | h1
  · omega
  · rw [Array.getElem?_eq_none h1] at h; cases h
theorem Tab.only {w w' : World} {g : Nat} (h : Tab w) (hg : 2 ≤ g) (ho : w.grownBy w' (some g)) : Tab w' := by
  have := h.two
  obtain ⟨⟨TK, h1⟩, TS, h2⟩ := h
  exact ⟨⟨TK, (ho.block 0 (by omega) (by simp; omega)).trans h1⟩, TS, (ho.block 1 (by omega) (by simp; omega)).trans h2⟩
theorem Tab.below {w w' : World} {B : Nat} (h : Tab w) (hb : Below B w w') (hB : 2 ≤ B) : Tab w' := by
  obtain ⟨⟨TK, h1⟩, TS, h2⟩ := h
  exact ⟨⟨TK, (hb.block 0 (by omega)).trans h1⟩, TS, (hb.block 1 (by omega)).trans h2⟩

/-- block g is a State with these fields -/
structure IsSt (w : World) (g n : Nat) (h buf : List Nat) (used : Nat) : Prop where
  row : w.heap[g]? = some (.cells (stc n h buf used).toArray 43 (0, 0))
  h8 : h.length = 8
  b64 : buf.length = 64
theorem IsSt.lt {w : World} {g n : Nat} {h buf : List Nat} {used : Nat} (H : IsSt w g n h buf used) : g < w.heap.size := by
  rcases Nat.lt_or_ge g w.heap.size with h1 | h1
  · exact h1
  · have := H.row; rw [Array.getElem?_eq_none h1] at this; cases this
theorem IsSt.cell0 {w : World} {g n : Nat} {h buf : List Nat} {used : Nat} (H : IsSt w g n h buf used) : w.cell? ⟨g, 0, none⟩ = some (.int .i64 (n : Int)) := by
  rw [cell_of_row w g 0 _ _ _ H.row]; rfl
theorem IsSt.cell73 {w : World} {g n : Nat} {h buf : List Nat} {used : Nat} (H : IsSt w g n h buf used) : w.cell? ⟨g, 73, none⟩ = some (.int .i64 (used : Int)) := by
  rw [cell_of_row w g 73 _ _ _ H.row]
  have hh := H.h8
  have hb := H.b64
  simp [stc, cl, hh, hb]
theorem IsSt.free {w : World} {g n : Nat} {h buf : List Nat} {used : Nat} (H : IsSt w g n h buf used) (i : Nat) : w.frozen? ⟨g, i, none⟩ = false := frozen_of_row w g i _ _ H.row
theorem IsSt.rangeH {w : World} {g n : Nat} {h buf : List Nat} {used : Nat} (H : IsSt w g n h buf used) : w.rangeAt g 1 (cl .u32 h) := by
  intro j v hv
  have hj : j < (cl .u32 h).length := (List.getElem?_eq_some_iff.1 hv).1
  rw [cell_of_row w g _ _ _ _ H.row, List.getElem?_toArray, stc, show 1 + j = j + 1 by omega, List.getElem?_cons_succ, List.getElem?_append_left hj]
  exact hv
theorem IsSt.rangeB {w : World} {g n : Nat} {h buf : List Nat} {used : Nat} (H : IsSt w g n h buf used) : w.rangeAt g 9 (cl .u8 buf) := by
  intro j v hv
  have hj : j < (cl .u8 buf).length := (List.getElem?_eq_some_iff.1 hv).1
  have hh := H.h8
  rw [cell_of_row w g _ _ _ _ H.row, List.getElem?_toArray, stc, show 9 + j = (8 + j) + 1 by omega, List.getElem?_cons_succ, List.getElem?_append_right (by rw [cl_length]; omega), cl_length, hh, show 8 + j - 8 = j by omega, List.getElem?_append_left hj]
  exact hv
theorem IsSt.there {w : World} {g n : Nat} {h buf : List Nat} {used : Nat} (H : IsSt w g n h buf used) (o m : Nat) (hm : o + m ≤ 74) : w.there g o m := by
  intro j hj
  refine ⟨?_, H.free _⟩
  rw [cell_of_row w g _ _ _ _ H.row, List.getElem?_toArray, List.getElem?_eq_getElem (by rw [stc_length H.h8 H.b64]; omega)]
  rfl
theorem IsSt.set0 {w : World} {g n : Nat} {h buf : List Nat} {used : Nat} (H : IsSt w g n h buf used) (m : Nat) : IsSt (w.setCell ⟨g, 0, none⟩ (.int .i64 (m : Int))) g m h buf used := by
  refine ⟨?_, H.h8, H.b64⟩
  rw [heap_setCell_same w g 0 _ _ _ H.row]
  simp [stc]
theorem IsSt.set73 {w : World} {g n : Nat} {h buf : List Nat} {used : Nat} (H : IsSt w g n h buf used) (m : Nat) : IsSt (w.setCell ⟨g, 73, none⟩ (.int .i64 (m : Int))) g n h buf m := by
  refine ⟨?_, H.h8, H.b64⟩
  rw [heap_setCell_same w g 73 _ _ _ H.row]
  have e1 : (cl .u32 h).length = 8 := by rw [cl_length, H.h8]
  have e2 : (cl .u8 buf).length = 64 := by rw [cl_length, H.b64]
  congr 2
  simp only [stc, List.setIfInBounds_toArray, List.set_cons_succ]
  rw [List.set_append_right _ _ (by omega), List.set_append_right _ _ (by omega), e1, e2]
  rfl
theorem IsSt.setH {w : World} {g n : Nat} {h buf : List Nat} {used : Nat} (H : IsSt w g n h buf used) (h' : List Nat) (hl : h'.length = 8) : IsSt (w.setCells g 1 (cl .u32 h')) g n h' buf used := by
  have e1 : (cl .u32 h).length = 8 := by rw [cl_length, H.h8]
  have e2 : (cl .u32 h').length = 8 := by rw [cl_length, hl]
  refine ⟨?_, hl, H.b64⟩
  rw [heap_setCells _ _ _ _ H.row (by rw [stc_length H.h8 H.b64, e2]; omega)]
  congr 2
  simp only [splice, e2, stc, List.take_succ_cons, List.take_zero, List.drop_succ_cons, List.cons_append, List.nil_append]
  rw [List.drop_left' e1]
theorem IsSt.setB {w : World} {g n : Nat} {h buf : List Nat} {used : Nat} (H : IsSt w g n h buf used) (o : Nat) (u : List Nat) (hl : o + u.length ≤ 64) : IsSt (w.setCells g (9 + o) (cl .u8 u)) g n h (over buf o u) used := by
  have e1 : (cl .u32 h).length = 8 := by rw [cl_length, H.h8]
  have hb := H.b64
  refine ⟨?_, H.h8, by rw [over_length _ _ _ (by omega), hb]⟩
  rw [heap_setCells _ _ _ _ H.row (by rw [stc_length H.h8 H.b64, cl_length]; omega)]
  congr 2
  simp only [splice, cl_length, stc]
  rw [show 9 + o = (8 + o) + 1 by omega, show 8 + o + 1 + u.length = (8 + o + u.length) + 1 by omega, List.take_succ_cons, List.drop_succ_cons]
  rw [List.take_append, List.take_of_length_le (by omega), e1, show 8 + o - 8 = o by omega, List.drop_append, List.drop_eq_nil_of_le (by omega), e1, show 8 + o + u.length - 8 = o + u.length by omega]
  rw [List.take_append_of_le_length (by rw [cl_length]; omega), List.drop_append_of_le_length (by rw [cl_length]; omega)]
  simp only [over, cl, List.map_append, List.map_take, List.map_drop, List.append_assoc, List.cons_append, List.nil_append]
theorem IsSt.far {w w' : World} {g n : Nat} {h buf : List Nat} {used : Nat} (H : IsSt w g n h buf used) (e : w'.heap[g]? = w.heap[g]?) : IsSt w' g n h buf used := ⟨e.trans H.row, H.h8, H.b64⟩
theorem IsSt.below {w w' : World} {B g n : Nat} {h buf : List Nat} {used : Nat} (H : IsSt w g n h buf used) (hb : Below B w w') (hg : g < B) : IsSt w' g n h buf used := H.far (hb.block g hg)

/-- block g is a State in which the text T has been written -/
def StAt (w : World) (g : Nat) (T : List Nat) : Prop := ∃ n h buf used, IsSt w g n h buf used ∧ Stt T n h buf used
theorem StAt.far {w w' : World} {g : Nat} {T : List Nat} (H : StAt w g T) (e : w'.heap[g]? = w.heap[g]?) : StAt w' g T := by
  obtain ⟨n, h, buf, used, h1, h2⟩ := H
  exact ⟨n, h, buf, used, h1.far e, h2⟩
theorem StAt.lt {w : World} {g : Nat} {T : List Nat} (H : StAt w g T) : g < w.heap.size := by
  obtain ⟨n, h, buf, used, h1, _⟩ := H
  exact h1.lt
theorem StAt.below {w w' : World} {B g : Nat} {T : List Nat} (H : StAt w g T) (hb : Below B w w') (hg : g < B) : StAt w' g T := H.far (hb.block g hg)
theorem StAt.only {w w' : World} {g g' : Nat} {T : List Nat} (H : StAt w g T) (ho : w.grownBy w' (some g')) (hg : g ≠ g') : StAt w' g T := H.far (ho.block g H.lt (by simp; omega))
end Go.Proofs.YtemioilfedpohaaDoor
