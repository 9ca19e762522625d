/- What the texts on pack lean on: rows of numbers in memory, what a call leaves alone. -/
import Derived.Test.YtlcppkcclolgcaaProg
import Derived.WalkKit
import Derived.WalkSpells
import Derived.WalkLawsBesides
import Derived.Deep.QuietTactic
import Derived.BigQuiet
import Derived.StillTailTactics
import Derived.Deep.LoopGhost
import Derived.Laws.CopyOwn
import Derived.Outline
import Derived.Laws.Rows
import Derived.Below
import Derived.OneCell
import Derived.Deep.MidRow
import Derived.Lib.LazyBuf
import Derived.Deep.AppendLies
import Derived.OwnWalk
import Derived.Deep.WholeRow
import Derived.Lib.Hide
import Derived.Deep.RegionHeld3
import Derived.Lib.ConvBytes
import Derived.Laws.MakeOwn
import Derived.Laws.OwnMore
import Derived.Laws.BytesArg
namespace Go.Proofs.Ytlcppkcclolgcaa
set_option linter.unusedVariables false
set_option linter.unusedSimpArgs false
open Go.RowKit

def cw (k : IntKind) (xs : List Nat) : Array Value := (xs.map fun (x : Nat) => Value.int k (x : Int)).toArray
theorem cw_size (k : IntKind) (xs : List Nat) : (cw k xs).size = xs.length := by simp [cw]
theorem cw_get (k : IntKind) (xs : List Nat) (i : Nat) (h : i < xs.length) : (cw k xs)[i]? = some (.int k (xs.getD i 0 : Nat)) := by
  simp [cw, h]
theorem cw_set (k : IntKind) (xs : List Nat) (i v : Nat) : (cw k xs).setIfInBounds i (.int k (v : Int)) = cw k (xs.set i v) := by
  apply Array.ext'
  simp [cw, List.map_set]
theorem cw_one (k : IntKind) (xs : List Nat) : (cw k xs).all (·.oneCell') = true := by
  rw [Array.all_eq_true_iff_forall_mem]
  intro x hx
  simp only [cw, List.mem_toArray, List.mem_map] at hx
  obtain ⟨y, _, rfl⟩ := hx
  rfl
def cl (k : IntKind) (xs : List Nat) : List Value := xs.map fun (x : Nat) => Value.int k (x : Int)
theorem cl_length (k : IntKind) (xs : List Nat) : (cl k xs).length = xs.length := by simp [cl]
theorem cl_array (k : IntKind) (xs : List Nat) : (cl k xs).toArray = cw k xs := rfl
theorem cl_one (k : IntKind) (xs : List Nat) : ∀ v ∈ cl k xs, v.oneCell' = true := by
  intro v hv
  simp only [cl, List.mem_map] at hv
  obtain ⟨y, _, rfl⟩ := hv
  rfl
theorem cl_get (k : IntKind) (xs : List Nat) (i : Nat) (h : i < xs.length) : (cl k xs)[i]? = some (.int k (xs.getD i 0 : Nat)) := by simp [cl, h]
theorem splice_step {α : Type} (L : List α) (o : Nat) (v : α) (r : List α) (h : o < L.length) : splice (L.set o v) (o + 1) r = splice L o (v :: r) := by
  obtain ⟨A, x, B, rfl, rfl⟩ : ∃ A x B, L = A ++ x :: B ∧ A.length = o := ⟨L.take o, L[o], L.drop (o + 1), by simp, by simp; omega⟩
  have e1 : (A ++ x :: B).set A.length v = (A ++ [v]) ++ B := by simp
  have e2 : (A ++ [v]).length = A.length + 1 := by simp
  have e3 : (A ++ x :: B).drop (A.length + (v :: r).length) = B.drop r.length := by
    rw [List.drop_append, List.drop_eq_nil_of_le (by simp), show A.length + (v :: r).length - A.length = r.length + 1 by simp]
    simp
  have e4 : ((A ++ [v]) ++ B).drop (A.length + 1 + r.length) = B.drop r.length := by
    rw [List.drop_append, List.drop_eq_nil_of_le (by rw [e2]; omega), e2, show A.length + 1 + r.length - (A.length + 1) = r.length by omega]
    simp
  unfold splice
  rw [e1, e3, e4, List.take_left' e2, List.take_left' rfl]
  simp
theorem heap_setCells {g : Nat} {t : TypeId} : ∀ (vs : List Value) (o : Nat) (w : World) (L : List Value), w.heap[g]? = some (.cells L.toArray t (0, 0)) → o + vs.length ≤ L.length →
    (w.setCells g o vs).heap[g]? = some (.cells (splice L o vs).toArray t (0, 0))
  | [], o, w, L, h, _ => by
    rw [World.setCells, h]
    simp [splice]
  | v :: r, o, w, L, h, hl => by
    simp only [List.length_cons] at hl
    have h1 : (w.setCell ⟨g, o, none⟩ v).heap[g]? = some (.cells (L.set o v).toArray t (0, 0)) := by
      rw [heap_setCell_same w g o _ t _ h]
      simp
    rw [World.setCells, heap_setCells r (o + 1) _ _ h1 (by rw [List.length_set]; omega), splice_step L o v r (by omega)]
theorem heap_setCells_other {g k : Nat} (hne : k ≠ g) : ∀ (vs : List Value) (o : Nat) (w : World), (w.setCells g o vs).heap[k]? = w.heap[k]?
  | [], _, _ => rfl
  | v :: r, o, w => by rw [World.setCells, heap_setCells_other hne r (o + 1) _, Below.heap_setCell _ _ _ _ hne]
theorem size_setCells {g : Nat} : ∀ (vs : List Value) (o : Nat) (w : World), (w.setCells g o vs).heap.size = w.heap.size
  | [], _, _ => rfl
  | _ :: r, o, _ => by rw [World.setCells, size_setCells r (o + 1) _]; simp [World.setCell]
theorem only_drewN {a w : World} {row : Option Nat} (h : a.grownBy w row) (n : Nat) : a.grownBy (w.drewN n) row := ⟨h.os, h.tape, h.output, h.size, h.block⟩
theorem only_drew {a w : World} {row : Option Nat} (h : a.grownBy w row) : a.grownBy w.drew row := ⟨h.os, h.tape, h.output, h.size, h.block⟩
theorem only_alloc {a w : World} {row : Option Nat} (h : a.grownBy w row) (o : Obj) : a.grownBy (w.alloc o) row :=
  ⟨h.os, h.tape, h.output, Nat.le_trans h.size (by simp), fun i hi hne => (Below.heap_alloc w o i (Nat.lt_of_lt_of_le hi h.size)).trans (h.block i hi hne)⟩
theorem only_setCell {a w : World} {g : Nat} (h : a.grownBy w (some g)) {p : Addr} (hp : p.block = g ∨ a.heap.size ≤ p.block) (u : Value) : a.grownBy (w.setCell p u) (some g) :=
  ⟨h.os, h.tape, h.output, by simpa [World.setCell] using h.size, fun i hi hne => (Below.heap_setCell w p u i (by
    rintro rfl
    rcases hp with hp | hp
    · exact hne (by rw [hp])
    · omega)).trans (h.block i hi hne)⟩
theorem only_setCells {a : World} {g : Nat} : ∀ (vs : List Value) (o : Nat) (w : World), a.grownBy w (some g) → a.grownBy (w.setCells g o vs) (some g)
  | [], _, _, h => h
  | v :: r, o, w, h => only_setCells r (o + 1) _ (only_setCell h (.inl rfl) v)
theorem only_below {a w w' : World} {row : Option Nat} (h : a.grownBy w row) (hb : Below w.heap.size w w') : a.grownBy w' row :=
  ⟨hb.os.trans h.os, hb.tape.trans h.tape, hb.output.trans h.output, Nat.le_trans h.size hb.size, fun i hi hn => (hb.block i (Nat.lt_of_lt_of_le hi h.size)).trans (h.block i hi hn)⟩
theorem only_trans {a b c : World} {g : Nat} (h : a.grownBy b (some g)) (k : b.grownBy c (some g)) : a.grownBy c (some g) :=
  ⟨k.os.trans h.os, k.tape.trans h.tape, k.output.trans h.output, Nat.le_trans h.size k.size, fun i hi hn => (k.block i (Nat.lt_of_lt_of_le hi h.size) hn).trans (h.block i hi hn)⟩
theorem only_new {B : Nat} {a b c : World} {g : Nat} (h : Below B a b) (k : b.grownBy c (some g)) (hB : B ≤ a.heap.size) (hg : B ≤ g) : Below B a c :=
  ⟨k.os.trans h.os, k.tape.trans h.tape, k.output.trans h.output, Nat.le_trans h.size k.size, fun i hi => (k.block i (by have := h.size; omega) (by simp; omega)).trans (h.block i hi)⟩
theorem row_cell {w : World} {g : Nat} {k : IntKind} {xs : List Nat} {t : TypeId} (h : w.heap[g]? = some (.cells (cw k xs) t (0, 0))) (i : Nat) (hi : i < xs.length) : w.cell? ⟨g, i, none⟩ = some (.int k (xs.getD i 0 : Nat)) := by
  rw [cell_of_row w g i _ t _ h, cw_get k xs i hi]
theorem row_free {w : World} {g : Nat} {k : IntKind} {xs : List Nat} {t : TypeId} (h : w.heap[g]? = some (.cells (cw k xs) t (0, 0))) (i : Nat) : w.frozen? ⟨g, i, none⟩ = false := frozen_of_row w g i _ t h
theorem row_store {w : World} {g : Nat} {k : IntKind} {xs : List Nat} {t : TypeId} (h : w.heap[g]? = some (.cells (cw k xs) t (0, 0))) (i v : Nat) : (w.setCell ⟨g, i, none⟩ (.int k (v : Int))).heap[g]? = some (.cells (cw k (xs.set i v)) t (0, 0)) := by
  rw [heap_setCell_same w g i _ t _ h, cw_set]
theorem row_other {w : World} {g g' i : Nat} {v : Value} {o : Option Obj} (h : w.heap[g]? = o) (hne : g ≠ g') : (w.setCell ⟨g', i, none⟩ v).heap[g]? = o := by
  rw [heap_setCell_other w _ _ _ hne, h]
theorem only_setG {a w : World} {g : Nat} (h : a.grownBy w (some g)) (i : Nat) (u : Value) : a.grownBy (w.setCell ⟨g, i, none⟩ u) (some g) := only_setCell (p := ⟨g, i, none⟩) h (.inl rfl) u
theorem add_add (a : Addr) (i j : Nat) : (a.add i).add j = a.add (i + j) := by
  unfold Addr.add
  by_cases hi : i = 0 <;> by_cases hj : j = 0 <;> simp [hi, hj, Nat.add_assoc]
theorem block_add (a : Addr) (j : Nat) : (a.add j).block = a.block := by unfold Addr.add; split <;> rfl
theorem lt_of_row {w : World} {g : Nat} {o : Obj} (h : w.heap[g]? = some o) : g < w.heap.size := (Array.getElem?_eq_some_iff.1 h).1
def upd {α : Type} (f : Nat → α) (k : Nat) (v : α) : Nat → α := fun i => if i = k then v else f i
theorem upd_same {α : Type} (f : Nat → α) (k : Nat) (v : α) : upd f k v k = v := by simp [upd]
theorem upd_ne {α : Type} (f : Nat → α) (k : Nat) (v : α) (i : Nat) (h : i ≠ k) : upd f k v i = f i := by simp [upd, h]
def Bytes (xs : List Nat) : Prop := ∀ x ∈ xs, x < 256
def nb (s : ByteArray) : List Nat := s.data.toList.map UInt8.toNat
theorem nb_length (s : ByteArray) : (nb s).length = s.size := by simp [nb]
theorem nb_bytes (s : ByteArray) : Bytes (nb s) := by
  intro x hx
  simp only [nb, List.mem_map] at hx
  obtain ⟨b, _, rfl⟩ := hx
  exact b.toNat_lt
theorem nb_append (s t : ByteArray) : nb (s ++ t) = nb s ++ nb t := by simp [nb]
def strOf (ps : List Nat) : ByteArray := ⟨(ps.map UInt8.ofNat).toArray⟩
theorem strOf_size (ps : List Nat) : (strOf ps).size = ps.length := by simp [strOf, ByteArray.size]
theorem nb_strOf (ps : List Nat) (h : Bytes ps) : nb (strOf ps) = ps := by
  simp only [nb, strOf, List.map_map]
  conv => rhs; rw [← List.map_id ps]
  apply List.map_congr_left
  intro x hx
  have := h x hx
  simp
  omega
theorem nb_inj {s t : ByteArray} (h : nb s = nb t) : s = t := by
  apply ByteArray.ext
  apply Array.ext'
  unfold nb at h
  exact (List.map_inj_right (fun a b hab => UInt8.toNat_inj.1 hab)).1 h

/-- 'string(p)' of a row's beginning -/
theorem run_conv_row {W : World} {g n cap : Nat} {xs : List Nat} {t : TypeId} (h : W.heap[g]? = some (.cells (cw .u8 xs) t (0, 0))) (hn : n ≤ xs.length) (hb : Bytes xs) :
    (convert 38 9 (.slice (some ⟨g, 0, none⟩) n cap)).run Try.prog W = .ok (.string (strOf (xs.take n))) W := by
  have hadd : ∀ j, (⟨g, 0, none⟩ : Addr).add j = ⟨g, j, none⟩ := fun j => by unfold Addr.add; split <;> simp_all
  have hl : (loadCells ⟨g, 0, none⟩ n).run Try.prog W = .ok (((xs.take n).map fun (n : Nat) => (n : Int)).map (Value.int .u8)).toArray W := by
    have := run_loadCells_list (P := Try.prog) W ⟨g, 0, none⟩ (cl .u8 (xs.take n)) (fun j v hv => by
      have hj : j < (cl .u8 (xs.take n)).length := (List.getElem?_eq_some_iff.1 hv).1
      rw [cl_length, List.length_take] at hj
      rw [cl_get _ _ _ (by rw [List.length_take]; exact hj)] at hv
      rw [← hv, hadd, row_cell h j (by omega)]
      congr 3
      simp [List.getD_eq_getElem?_getD, List.getElem?_take, show j < n by omega])
    rw [cl_length, List.length_take, Nat.min_eq_left hn] at this
    rw [this]
    simp [cl, Function.comp_def]
  have hr := run_bytesToString (P := Try.prog) W ⟨g, 0, none⟩ n cap _ hl
  rw [run_convert_bytes_string W _ _ 5 _ n cap Try.underlying38 Try.underlying5 Try.underlying9]
  rw [hr]
  congr 2
  rw [foldl_push_bytes]
  apply ByteArray.ext
  apply Array.ext'
  rw [List.map_map]
  show (ByteArray.empty.data ++ _).toList = _
  rw [Array.toList_append]
  show [] ++ _ = _
  rw [List.nil_append, strOf]
  apply List.map_congr_left
  intro x _
  simp
end Go.Proofs.Ytlcppkcclolgcaa
