/- What the texts on pack lean on: rows of numbers in memory, what a call leaves alone. Bytes that the call owns: a slice over a row that may bear a conversion's mark behind its last cell. The walk of wire.Int: a number in eight bytes, the lowest first. Contracts of the shelf laid at the dump of td, as the kit's tools write them in plain words (laylib.py). The walks of wire.Text and wire.Framed. Plain: file trees as data, their words, their sizes; where a tree lies in memory. -/
import Derived.Test.YtlcppkcclolgcaaDoorProg
import Derived.WalkKit
import Derived.WalkSpells
import Derived.WalkLawsBesides
import Derived.Deep.QuietTactic
import Derived.BigQuiet
import Derived.StillTailTactics
import Derived.Deep.LoopGhost
import Derived.Laws.CopyOwn
import Derived.Outline
import Derived.Laws.Rows
import Derived.Below
import Derived.OneCell
import Derived.Deep.MidRow
import Derived.Lib.LazyBuf
import Derived.Deep.AppendLies
import Derived.OwnWalk
import Derived.Deep.WholeRow
import Derived.Lib.Hide
import Derived.Deep.RegionHeld3
import Derived.Lib.ConvBytes
import Derived.Laws.MakeOwn
import Derived.Laws.OwnMore
import Derived.Laws.BytesArg
import Derived.Maps.AppendAt
import Derived.Lib.AppendStr
import Derived.Lib.FrozenHead
import Derived.Shelf.Small.Strs
import Derived.Shelf.Strings.Search1
import Derived.Shelf.Strings.Repeat
import Derived.Shelf.Small.Utf8
import Derived.Shelf.Strings.Runes
import Derived.Shelf.Strings.IndexAny
import Derived.Shelf.Strings.IndexAnyAll
import Derived.Lib.Repeat
namespace Go.Proofs.YtlcppkcclolgcaaDoor
set_option linter.unusedVariables false
set_option linter.unusedSimpArgs false
open Go.RowKit

def cw (k : IntKind) (xs : List Nat) : Array Value := (xs.map fun (x : Nat) => Value.int k (x : Int)).toArray
theorem cw_size (k : IntKind) (xs : List Nat) : (cw k xs).size = xs.length := by simp [cw]
theorem cw_get (k : IntKind) (xs : List Nat) (i : Nat) (h : i < xs.length) : (cw k xs)[i]? = some (.int k (xs.getD i 0 : Nat)) := by
  simp [cw, h]
theorem cw_set (k : IntKind) (xs : List Nat) (i v : Nat) : (cw k xs).setIfInBounds i (.int k (v : Int)) = cw k (xs.set i v) := by
  apply Array.ext'
  simp [cw, List.map_set]
theorem cw_one (k : IntKind) (xs : List Nat) : (cw k xs).all (·.oneCell') = true := by
  rw [Array.all_eq_true_iff_forall_mem]
  intro x hx
  simp only [cw, List.mem_toArray, List.mem_map] at hx
  obtain ⟨y, _, rfl⟩ := hx
  rfl
def cl (k : IntKind) (xs : List Nat) : List Value := xs.map fun (x : Nat) => Value.int k (x : Int)
theorem cl_length (k : IntKind) (xs : List Nat) : (cl k xs).length = xs.length := by simp [cl]
theorem cl_array (k : IntKind) (xs : List Nat) : (cl k xs).toArray = cw k xs := rfl
theorem cl_one (k : IntKind) (xs : List Nat) : ∀ v ∈ cl k xs, v.oneCell' = true := by
  intro v hv
  simp only [cl, List.mem_map] at hv
  obtain ⟨y, _, rfl⟩ := hv
  rfl
theorem cl_get (k : IntKind) (xs : List Nat) (i : Nat) (h : i < xs.length) : (cl k xs)[i]? = some (.int k (xs.getD i 0 : Nat)) := by simp [cl, h]
theorem splice_step {α : Type} (L : List α) (o : Nat) (v : α) (r : List α) (h : o < L.length) : splice (L.set o v) (o + 1) r = splice L o (v :: r) := by
  obtain ⟨A, x, B, rfl, rfl⟩ : ∃ A x B, L = A ++ x :: B ∧ A.length = o := ⟨L.take o, L[o], L.drop (o + 1), by simp, by simp; omega⟩
  have e1 : (A ++ x :: B).set A.length v = (A ++ [v]) ++ B := by simp
  have e2 : (A ++ [v]).length = A.length + 1 := by simp
  have e3 : (A ++ x :: B).drop (A.length + (v :: r).length) = B.drop r.length := by
    rw [List.drop_append, List.drop_eq_nil_of_le (by simp), show A.length + (v :: r).length - A.length = r.length + 1 by simp]
    simp
  have e4 : ((A ++ [v]) ++ B).drop (A.length + 1 + r.length) = B.drop r.length := by
    rw [List.drop_append, List.drop_eq_nil_of_le (by rw [e2]; omega), e2, show A.length + 1 + r.length - (A.length + 1) = r.length by omega]
    simp
  unfold splice
  rw [e1, e3, e4, List.take_left' e2, List.take_left' rfl]
  simp
theorem heap_setCells {g : Nat} {t : TypeId} : ∀ (vs : List Value) (o : Nat) (w : World) (L : List Value), w.heap[g]? = some (.cells L.toArray t (0, 0)) → o + vs.length ≤ L.length →
    (w.setCells g o vs).heap[g]? = some (.cells (splice L o vs).toArray t (0, 0))
  | [], o, w, L, h, _ => by
    rw [World.setCells, h]
    simp [splice]
  | v :: r, o, w, L, h, hl => by
    simp only [List.length_cons] at hl
    have h1 : (w.setCell ⟨g, o, none⟩ v).heap[g]? = some (.cells (L.set o v).toArray t (0, 0)) := by
      rw [heap_setCell_same w g o _ t _ h]
      simp
    rw [World.setCells, heap_setCells r (o + 1) _ _ h1 (by rw [List.length_set]; omega), splice_step L o v r (by omega)]
theorem heap_setCells_other {g k : Nat} (hne : k ≠ g) : ∀ (vs : List Value) (o : Nat) (w : World), (w.setCells g o vs).heap[k]? = w.heap[k]?
  | [], _, _ => rfl
  | v :: r, o, w => by rw [World.setCells, heap_setCells_other hne r (o + 1) _, Below.heap_setCell _ _ _ _ hne]
theorem size_setCells {g : Nat} : ∀ (vs : List Value) (o : Nat) (w : World), (w.setCells g o vs).heap.size = w.heap.size
  | [], _, _ => rfl
  | _ :: r, o, _ => by rw [World.setCells, size_setCells r (o + 1) _]; simp [World.setCell]
theorem only_drewN {a w : World} {row : Option Nat} (h : a.grownBy w row) (n : Nat) : a.grownBy (w.drewN n) row := ⟨h.os, h.tape, h.output, h.size, h.block⟩
theorem only_drew {a w : World} {row : Option Nat} (h : a.grownBy w row) : a.grownBy w.drew row := ⟨h.os, h.tape, h.output, h.size, h.block⟩
theorem only_alloc {a w : World} {row : Option Nat} (h : a.grownBy w row) (o : Obj) : a.grownBy (w.alloc o) row :=
  ⟨h.os, h.tape, h.output, Nat.le_trans h.size (by simp), fun i hi hne => (Below.heap_alloc w o i (Nat.lt_of_lt_of_le hi h.size)).trans (h.block i hi hne)⟩
theorem only_setCell {a w : World} {g : Nat} (h : a.grownBy w (some g)) {p : Addr} (hp : p.block = g ∨ a.heap.size ≤ p.block) (u : Value) : a.grownBy (w.setCell p u) (some g) :=
  ⟨h.os, h.tape, h.output, by simpa [World.setCell] using h.size, fun i hi hne => (Below.heap_setCell w p u i (by
    rintro rfl
    rcases hp with hp | hp
    · exact hne (by rw [hp])
    · omega)).trans (h.block i hi hne)⟩
theorem only_setCells {a : World} {g : Nat} : ∀ (vs : List Value) (o : Nat) (w : World), a.grownBy w (some g) → a.grownBy (w.setCells g o vs) (some g)
  | [], _, _, h => h
  | v :: r, o, w, h => only_setCells r (o + 1) _ (only_setCell h (.inl rfl) v)
theorem only_below {a w w' : World} {row : Option Nat} (h : a.grownBy w row) (hb : Below w.heap.size w w') : a.grownBy w' row :=
  ⟨hb.os.trans h.os, hb.tape.trans h.tape, hb.output.trans h.output, Nat.le_trans h.size hb.size, fun i hi hn => (hb.block i (Nat.lt_of_lt_of_le hi h.size)).trans (h.block i hi hn)⟩
theorem only_trans {a b c : World} {g : Nat} (h : a.grownBy b (some g)) (k : b.grownBy c (some g)) : a.grownBy c (some g) :=
  ⟨k.os.trans h.os, k.tape.trans h.tape, k.output.trans h.output, Nat.le_trans h.size k.size, fun i hi hn => (k.block i (Nat.lt_of_lt_of_le hi h.size) hn).trans (h.block i hi hn)⟩
theorem only_new {B : Nat} {a b c : World} {g : Nat} (h : Below B a b) (k : b.grownBy c (some g)) (hB : B ≤ a.heap.size) (hg : B ≤ g) : Below B a c :=
  ⟨k.os.trans h.os, k.tape.trans h.tape, k.output.trans h.output, Nat.le_trans h.size k.size, fun i hi => (k.block i (by have := h.size; omega) (by simp; omega)).trans (h.block i hi)⟩
theorem row_cell {w : World} {g : Nat} {k : IntKind} {xs : List Nat} {t : TypeId} (h : w.heap[g]? = some (.cells (cw k xs) t (0, 0))) (i : Nat) (hi : i < xs.length) : w.cell? ⟨g, i, none⟩ = some (.int k (xs.getD i 0 : Nat)) := by
  rw [cell_of_row w g i _ t _ h, cw_get k xs i hi]
theorem row_free {w : World} {g : Nat} {k : IntKind} {xs : List Nat} {t : TypeId} (h : w.heap[g]? = some (.cells (cw k xs) t (0, 0))) (i : Nat) : w.frozen? ⟨g, i, none⟩ = false := frozen_of_row w g i _ t h
theorem row_store {w : World} {g : Nat} {k : IntKind} {xs : List Nat} {t : TypeId} (h : w.heap[g]? = some (.cells (cw k xs) t (0, 0))) (i v : Nat) : (w.setCell ⟨g, i, none⟩ (.int k (v : Int))).heap[g]? = some (.cells (cw k (xs.set i v)) t (0, 0)) := by
  rw [heap_setCell_same w g i _ t _ h, cw_set]
theorem row_other {w : World} {g g' i : Nat} {v : Value} {o : Option Obj} (h : w.heap[g]? = o) (hne : g ≠ g') : (w.setCell ⟨g', i, none⟩ v).heap[g]? = o := by
  rw [heap_setCell_other w _ _ _ hne, h]
theorem only_setG {a w : World} {g : Nat} (h : a.grownBy w (some g)) (i : Nat) (u : Value) : a.grownBy (w.setCell ⟨g, i, none⟩ u) (some g) := only_setCell (p := ⟨g, i, none⟩) h (.inl rfl) u
theorem add_add (a : Addr) (i j : Nat) : (a.add i).add j = a.add (i + j) := by
  unfold Addr.add
  by_cases hi : i = 0 <;> by_cases hj : j = 0 <;> simp [hi, hj, Nat.add_assoc]
theorem block_add (a : Addr) (j : Nat) : (a.add j).block = a.block := by unfold Addr.add; split <;> rfl
theorem lt_of_row {w : World} {g : Nat} {o : Obj} (h : w.heap[g]? = some o) : g < w.heap.size := (Array.getElem?_eq_some_iff.1 h).1
def upd {α : Type} (f : Nat → α) (k : Nat) (v : α) : Nat → α := fun i => if i = k then v else f i
theorem upd_same {α : Type} (f : Nat → α) (k : Nat) (v : α) : upd f k v k = v := by simp [upd]
theorem upd_ne {α : Type} (f : Nat → α) (k : Nat) (v : α) (i : Nat) (h : i ≠ k) : upd f k v i = f i := by simp [upd, h]
def Bytes (xs : List Nat) : Prop := ∀ x ∈ xs, x < 256
def nb (s : ByteArray) : List Nat := s.data.toList.map UInt8.toNat
theorem nb_length (s : ByteArray) : (nb s).length = s.size := by simp [nb]
theorem nb_bytes (s : ByteArray) : Bytes (nb s) := by
  intro x hx
  simp only [nb, List.mem_map] at hx
  obtain ⟨b, _, rfl⟩ := hx
  exact b.toNat_lt
theorem nb_append (s t : ByteArray) : nb (s ++ t) = nb s ++ nb t := by simp [nb]
def strOf (ps : List Nat) : ByteArray := ⟨(ps.map UInt8.ofNat).toArray⟩
theorem strOf_size (ps : List Nat) : (strOf ps).size = ps.length := by simp [strOf, ByteArray.size]
theorem nb_strOf (ps : List Nat) (h : Bytes ps) : nb (strOf ps) = ps := by
  simp only [nb, strOf, List.map_map]
  conv => rhs; rw [← List.map_id ps]
  apply List.map_congr_left
  intro x hx
  have := h x hx
  simp
  omega
theorem nb_inj {s t : ByteArray} (h : nb s = nb t) : s = t := by
  apply ByteArray.ext
  apply Array.ext'
  unfold nb at h
  exact (List.map_inj_right (fun a b hab => UInt8.toNat_inj.1 hab)).1 h

/-- 'string(p)' of a row's beginning -/
theorem run_conv_row {W : World} {g n cap : Nat} {xs : List Nat} {t : TypeId} (h : W.heap[g]? = some (.cells (cw .u8 xs) t (0, 0))) (hn : n ≤ xs.length) (hb : Bytes xs) :
    (convert 38 9 (.slice (some ⟨g, 0, none⟩) n cap)).run Tryd.prog W = .ok (.string (strOf (xs.take n))) W := by
  have hadd : ∀ j, (⟨g, 0, none⟩ : Addr).add j = ⟨g, j, none⟩ := fun j => by unfold Addr.add; split <;> simp_all
  have hl : (loadCells ⟨g, 0, none⟩ n).run Tryd.prog W = .ok (((xs.take n).map fun (n : Nat) => (n : Int)).map (Value.int .u8)).toArray W := by
    have := run_loadCells_list (P := Tryd.prog) W ⟨g, 0, none⟩ (cl .u8 (xs.take n)) (fun j v hv => by
      have hj : j < (cl .u8 (xs.take n)).length := (List.getElem?_eq_some_iff.1 hv).1
      rw [cl_length, List.length_take] at hj
      rw [cl_get _ _ _ (by rw [List.length_take]; exact hj)] at hv
      rw [← hv, hadd, row_cell h j (by omega)]
      congr 3
      simp [List.getD_eq_getElem?_getD, List.getElem?_take, show j < n by omega])
    rw [cl_length, List.length_take, Nat.min_eq_left hn] at this
    rw [this]
    simp [cl, Function.comp_def]
  have hr := run_bytesToString (P := Tryd.prog) W ⟨g, 0, none⟩ n cap _ hl
  rw [run_convert_bytes_string W _ _ 5 _ n cap Tryd.underlying38 Tryd.underlying5 Tryd.underlying9]
  rw [hr]
  congr 2
  rw [foldl_push_bytes]
  apply ByteArray.ext
  apply Array.ext'
  rw [List.map_map]
  show (ByteArray.empty.data ++ _).toList = _
  rw [Array.toList_append]
  show [] ++ _ = _
  rw [List.nil_append, strOf]
  apply List.map_congr_left
  intro x _
  simp
end Go.Proofs.YtlcppkcclolgcaaDoor

namespace Go.Proofs.YtlcppkcclolgcaaDoor
set_option linter.unusedVariables false
set_option linter.unusedSimpArgs false
open Go.RowKit

/-- the frozen range lies behind the n cells -/
def Clear (fz : Nat × Nat) (n : Nat) : Prop := fz.2 = 0 ∨ n ≤ fz.1
theorem clear_frozen {w : World} {g i : Nat} {cur : Array Value} {t : TypeId} {fz : Nat × Nat} (h : w.heap[g]? = some (.cells cur t fz)) (hc : Clear fz cur.size) (hi : i < cur.size) : w.frozen? ⟨g, i, none⟩ = false := by
  obtain ⟨lo, hi'⟩ := fz
  simp only [World.frozen?, h, Bool.and_eq_false_iff, decide_eq_false_iff_not]
  rcases hc with hc | hc
  · right
    simp only at hc
    omega
  · left
    simp only at hc
    omega
/-- v holds the bytes xs in a row of its own, not below base -/
def OwnB (w : World) (base : Nat) (v : Value) (xs : List Nat) : Prop :=
  (v = .slice none 0 0 ∧ xs = []) ∨
  ∃ g cap cur fz, v = .slice (some ⟨g, 0, none⟩) xs.length cap ∧ base ≤ g ∧ w.heap[g]? = some (.cells cur 5 fz) ∧ Clear fz cur.size ∧ xs.length ≤ cap ∧ cap ≤ maxLen ∧ cur.size = cap ∧ cur.toList.take xs.length = cl .u8 xs
section
variable {w w' : World} {base : Nat} {v : Value} {xs : List Nat}
theorem OwnB.nil (w : World) (base : Nat) : OwnB w base (.slice none 0 0) [] := .inl ⟨rfl, rfl⟩
theorem OwnB.slice (h : OwnB w base v xs) : ∃ A c, v = .slice A xs.length c := by
  rcases h with ⟨rfl, rfl⟩ | ⟨g, cap, cur, fz, rfl, _⟩
  · exact ⟨_, _, rfl⟩
  · exact ⟨_, _, rfl⟩
theorem OwnB.lt (h : OwnB w base v xs) : ∀ k, v.ownBlock = some k → base ≤ k ∧ k < w.heap.size := by
  intro k hk
  rcases h with ⟨rfl, _⟩ | ⟨g, cap, cur, fz, rfl, hb, hg, _⟩
  · simp [Value.ownBlock] at hk
  · simp [Value.ownBlock] at hk
    subst hk
    exact ⟨hb, lt_of_row hg⟩
theorem OwnB.kept {row : Option Nat} (h : OwnB w base v xs) (hg : w.grownBy w' row) (hne : v.ownBlock = none ∨ v.ownBlock ≠ row) : OwnB w' base v xs := by
  rcases h with hn | ⟨g, cap, cur, fz, rfl, hb, hgg, rest⟩
  · exact .inl hn
  · refine .inr ⟨g, cap, cur, fz, rfl, hb, ?_, rest⟩
    rw [hg.block g (lt_of_row hgg) (by simpa [Value.ownBlock] using hne)]
    exact hgg
theorem OwnB.later (h : OwnB w base v xs) (hb : Below w.heap.size w w') : OwnB w' base v xs :=
  h.kept (only_below (row := none) (World.grownBy.refl w _) hb) (by cases h : v.ownBlock with
    | none => exact .inl rfl
    | some k => exact .inr (by simp))
theorem OwnB.mono {base' : Nat} (h : OwnB w base v xs) (hb : base' ≤ base) : OwnB w base' v xs := by
  rcases h with hn | ⟨g, cap, cur, fz, e, hb', rest⟩
  · exact .inl hn
  · exact .inr ⟨g, cap, cur, fz, e, Nat.le_trans hb hb', rest⟩
theorem OwnB.of (h : w.ownsRow base 5 1 v xs.length (cl .u8 xs)) : OwnB w base v xs := by
  obtain ⟨_, ⟨rfl, h0⟩ | ⟨g, cap, cur, rfl, hb, hg, hn, hm, hs, ht⟩⟩ := h
  · exact .inl ⟨rfl, List.eq_nil_of_length_eq_zero h0⟩
  · exact .inr ⟨g, cap, cur, (0, 0), rfl, hb, hg, .inl rfl, hn, hm, by simpa using hs, by simpa using ht⟩
theorem OwnB.cells (h : OwnB w base v xs) {g : Nat} (hg : v.ownBlock = some g) : ∀ j u, (cl .u8 xs)[j]? = some u → w.cell? ((⟨g, 0, none⟩ : Addr).add j) = some u := by
  intro j u hu
  rcases h with ⟨rfl, _⟩ | ⟨g', cap, cur, fz, rfl, _, hgg, _, _, _, _, htake⟩
  · simp [Value.ownBlock] at hg
  · simp [Value.ownBlock] at hg
    subst hg
    have hadd : (⟨g', 0, none⟩ : Addr).add j = ⟨g', j, none⟩ := by unfold Addr.add; split <;> simp_all
    rw [hadd, cell_of_row w g' j cur _ fz hgg]
    rw [← htake, List.getElem?_take] at hu
    split at hu
    · simpa using hu
    · cases hu
/-- the byte at place j -/
theorem OwnB.cell (h : OwnB w base v xs) {A : Option Addr} {c : Nat} (hv : v = .slice A xs.length c) (j : Nat) (hj : j < xs.length) : ∃ g, A = some ⟨g, 0, none⟩ ∧ w.cell? ⟨g, j, none⟩ = some (.int .u8 (xs.getD j 0 : Nat)) := by
  rcases h with ⟨rfl, rfl⟩ | ⟨g, cap, cur, fz, rfl, hb, hgg, hcl, hn, hm, hs, ht⟩
  · simp at hj
  · injection hv with hv1 hv2 hv3
    refine ⟨g, hv1.symm, ?_⟩
    have hc := OwnB.cells (w := w) (base := base) (v := .slice (some ⟨g, 0, none⟩) xs.length cap) (.inr ⟨g, cap, cur, fz, rfl, hb, hgg, hcl, hn, hm, hs, ht⟩) (g := g) rfl j _ (cl_get .u8 xs j hj)
    have hadd : (⟨g, 0, none⟩ : Addr).add j = ⟨g, j, none⟩ := by unfold Addr.add; split <;> simp_all
    rw [hadd] at hc
    exact hc
/-- '[:0]' -/
theorem OwnB.cut (h : OwnB w base v xs) {A : Option Addr} {c : Nat} (hv : v = .slice A xs.length c) : OwnB w base (.slice A 0 c) [] := by
  rcases h with ⟨rfl, rfl⟩ | ⟨g, cap, cur, fz, rfl, hb, hgg, hcl, hn, hm, hs, ht⟩
  · injection hv with hv1 hv2 hv3
    exact .inl ⟨by rw [← hv1, ← hv3], rfl⟩
  · injection hv with hv1 hv2 hv3
    subst hv1
    subst hv3
    exact .inr ⟨g, cap, cur, fz, rfl, hb, hgg, hcl, Nat.zero_le _, hm, hs, by simp [cl]⟩
/-- a row of the call's own that was made by '[]byte(s)' -/
theorem OwnB.conv (w : World) (s : ByteArray) (hs : s.size ≤ 140737488355328) (hbase : base ≤ w.heap.size) : OwnB (Lib.bytesWorld w 5 s) base (.slice (some ⟨w.heap.size, 0, none⟩) s.size (grownCap w s.size 0 5)) (nb s) := by
  have hge := grownCap_ge w s.size 0 5
  have hsz : (Lib.bytesCells w 5 s).size = grownCap w s.size 0 5 := by
    have hd : s.data.size = s.size := rfl
    simp only [Lib.bytesCells, Array.size_append, Array.size_map, Array.size_replicate, hd]
    omega
  refine .inr ⟨w.heap.size, _, _, _, by rw [nb_length], hbase, Lib.bytesWorld_at_new w _ s, .inr (Nat.le_refl _), by rw [nb_length]; exact hge, grownCap_le_maxLen w _ _ _ (by simp only [maxLen]; omega), hsz, ?_⟩
  simp only [Lib.bytesCells, Array.toList_append, Array.toList_map]
  rw [List.take_append_of_le_length (by simp [nb])]
  rw [List.take_of_length_le (by simp [nb])]
  unfold cl nb
  rw [List.map_map]
  rfl
end
theorem below_conv {B : Nat} (w0 w : World) (s : ByteArray) (h : Below B w0 w) (hB : B ≤ w0.heap.size) : Below B w0 (Lib.bytesWorld w 5 s) :=
  ⟨h.os, h.tape, h.output, Nat.le_trans h.size (by rw [Lib.bytesWorld_size]; omega), fun k hk => (Lib.bytesWorld_at_old w _ s k (Nat.lt_of_lt_of_le hk (Nat.le_trans hB h.size))).trans (h.block k hk)⟩

/-- cells stored into a row ahead of its frozen range -/
theorem store_ahead (P : Program) (g o : Nat) (t : TypeId) (fz : Nat × Nat) : ∀ (vs : List Value) (i : Nat) (cur : Array Value) (w : World), w.heap[g]? = some (.cells cur t fz) → Clear fz cur.size → o + i + vs.length ≤ cur.size → (∀ v ∈ vs, v.oneCell' = true) →
    (storeCells ⟨g, o, none⟩ vs i).run P w = .ok () (w.setRow g (cur.toList.take (o + i) ++ vs ++ cur.toList.drop (o + i + vs.length)).toArray)
  | [], i, cur, w, hg, _, _, _ => by
    simp only [storeCells, List.append_nil, List.length_nil, Nat.add_zero, List.take_append_drop, Array.toArray_toList]
    rw [setRow_self w g cur t fz hg]
    rfl
  | v :: rest, i, cur, w, hg, hfz, hl, h1 => by
    have hl' : o + i + (rest.length + 1) ≤ cur.size := by simpa using hl
    have hadd : (⟨g, o, none⟩ : Addr).add i = ⟨g, o + i, none⟩ := by unfold Addr.add; split <;> simp_all
    have hst : (store ((⟨g, o, none⟩ : Addr).add i) v).run P w = .ok () (w.setRow g (cur.setIfInBounds (o + i) v)) := by
      rw [hadd, run_store P w _ v _ (h1 v (by simp)), cell_of_row w g (o + i) cur t fz hg, Array.getElem?_eq_getElem (by omega), ← setCell_eq_setRow w g (o + i) cur t fz v hg]
      simp [clear_frozen hg hfz (show o + i < cur.size by omega)]
    have ih := store_ahead P g o t fz rest (i + 1) (cur.setIfInBounds (o + i) v) (w.setRow g (cur.setIfInBounds (o + i) v)) (setRow_heap w g cur _ t _ hg) (by simpa using hfz) (by simp; omega) (fun x hx => h1 x (by simp [hx]))
    simp only [storeCells, Sem.run_bind, hst, Result.andThen_ok, ih, setRow_setRow]
    congr 3
    have e := list_seg_step cur.toList (o + i) v rest (by simpa using hl')
    simpa [Array.toList_setIfInBounds, Nat.add_assoc] using e

section
variable (w : World)
theorem u8_info : ∃ i0 : TypeInfo, Tryd.prog.info? 5 = some i0 ∧ i0.zero = some (.int .u8 0) ∧ i0.size = 1 ∧ i0.bytes = 1 := by
  obtain ⟨i0, h⟩ := info_parts (show (Tryd.prog.info? 5).map (fun i => (i.zero, i.size, i.bytes)) = some (some (.int .u8 0), 1, 1) by kernel_rfl)
  exact ⟨i0, h⟩
/-- where a row of n + m cells lies behind an append that found room -/
theorem OwnB.room {base g cap : Nat} {cur : Array Value} {fz : Nat × Nat} {xs ys : List Nat} (hb : base ≤ g) (hg : w.heap[g]? = some (.cells cur 5 fz)) (hc : Clear fz cur.size) (hcap : xs.length + ys.length ≤ cap) (hm : cap ≤ maxLen) (hs : cur.size = cap) (ht : cur.toList.take xs.length = cl .u8 xs) :
    OwnB (w.setRow g (cur.toList.take xs.length ++ cl .u8 ys ++ cur.toList.drop (xs.length + ys.length)).toArray) base (.slice (some ⟨g, 0, none⟩) (xs.length + ys.length) cap) (xs ++ ys) := by
  have hsz : (cur.toList.take xs.length ++ cl .u8 ys ++ cur.toList.drop (xs.length + ys.length)).toArray.size = cur.size := by
    simp only [List.size_toArray, List.length_append, List.length_take, List.length_drop, Array.length_toList, cl_length]
    omega
  refine .inr ⟨g, cap, _, fz, by rw [List.length_append], hb, setRow_heap w g cur _ _ _ hg, by rw [hsz]; exact hc, by rw [List.length_append]; exact hcap, hm, hsz.trans hs, ?_⟩
  rw [ht]
  have e : cl .u8 (xs ++ ys) = cl .u8 xs ++ cl .u8 ys := by simp [cl]
  rw [e, ← cl_length .u8 (xs ++ ys), e]
  exact List.take_left
theorem grown_setRow (g : Nat) (cs : Array Value) : w.grownBy (w.setRow g cs) (some g) := ⟨rfl, rfl, rfl, by simp, fun k _ hk => setRow_other w g k _ (fun e => hk (by rw [e]))⟩
/-- 'append(b, s...)' -/
theorem run_app_string (base : Nat) (v : Value) (xs : List Nat) (hown : OwnB w base v xs) (s : ByteArray) (ty : TypeId) (hl : xs.length + s.size ≤ 140737488355328) (hbase : base ≤ w.heap.size) :
    ∃ v' w', (Builtin.append_ #[38, 9] ty #[v, .string s]).run Tryd.prog w = .ok v' w' ∧ OwnB w' base v' (xs ++ nb s) ∧ w.grownBy w' v.ownBlock := by
  obtain ⟨i0, hi, hz, hs1, hb1⟩ := u8_info
  have hcs : Lib.strCells s = cl .u8 (nb s) := by
    unfold Lib.strCells cl nb
    rw [List.map_map]
    rfl
  have hml : xs.length + s.size ≤ maxLen := by simp only [maxLen]; omega
  rcases hown with ⟨rfl, rfl⟩ | ⟨g, cap, cur, fz, rfl, hb, hg, hc, hcap, hm, hs, ht⟩
  · obtain ⟨v', w', h1, h2, h3, _⟩ := Lib.run_append_own_string (P := Tryd.prog) w base 38 9 ty 5 i0 Tryd.underlying38 Tryd.underlying9 hi hz hs1 hb1 (.slice none 0 0) 0 [] (World.ownsRow_nil _ _ _ _) s (by simpa using hml) (by simpa using hl) hbase
    refine ⟨v', w', h1, OwnB.of ?_, h3⟩
    rw [List.nil_append, nb_length, ← hcs]
    simpa using h2
  · by_cases hroom : xs.length + s.size ≤ cap
    · have hf := Lib.run_firstCells_string (P := Tryd.prog) w 1 s
      have hst := store_ahead Tryd.prog g xs.length 5 fz (Lib.strCells s) 0 cur w hg hc (by rw [Lib.strCells_length]; omega) (Lib.strCells_oneCell s)
      simp only [Nat.add_zero, Lib.strCells_length] at hst
      have hr : (Builtin.append_ #[38, 9] ty #[.slice (some ⟨g, 0, none⟩) xs.length cap, .string s]).run Tryd.prog w =
          .ok (.slice (some ⟨g, 0, none⟩) (xs.length + s.size) cap) (w.setRow g (cur.toList.take xs.length ++ Lib.strCells s ++ cur.toList.drop (xs.length + s.size)).toArray) := by
        simp [Builtin.append_, run_underlying Tryd.underlying38, run_underlying Tryd.underlying9, sizeOf, typeInfo, hi, hs1, Builtin.lenOf, hroom, hf, Addr.add_lit, hst]
      refine ⟨_, _, hr, ?_, grown_setRow w g _⟩
      have h2 := OwnB.room w (ys := nb s) hb hg hc (by rw [nb_length]; exact hroom) hm hs ht
      rw [nb_length, ← hcs] at h2
      exact h2
    · have holds := OwnB.cells (w := w) (base := base) (xs := xs) (.inr ⟨g, cap, cur, fz, rfl, hb, hg, hc, hcap, hm, hs, ht⟩) (g := g) rfl
      have hr := Lib.run_append_grow_string (P := Tryd.prog) w 38 9 ty 5 i0 (.int .u8 0) Tryd.underlying38 Tryd.underlying9 hi hz ⟨g, 0, none⟩ xs.length cap (cl .u8 xs) (by rw [hs1, cl_length]; omega) holds s (by omega) (by omega) (by rw [hb1]; exact growslice_fits (by omega) (by omega))
      have hge := grownCap_ge w (xs.length + s.size) cap 5
      refine ⟨_, _, hr, ?_, ⟨rfl, rfl, rfl, by simp, fun k hk _ => Below.heap_alloc w.drew _ k hk⟩⟩
      refine .inr ⟨w.heap.size, _, _, (0, 0), by rw [List.length_append, nb_length], hbase, heap_alloc_new w.drew _, .inl rfl, by rw [List.length_append, nb_length]; exact hge, grownCap_le_maxLen w _ _ _ hml, ?_, ?_⟩
      · have hz1 : (Value.int IntKind.u8 0).cells.size = 1 := rfl
        simp only [Array.size_append, List.size_toArray, size_zeroCells, hz1, cl_length, Lib.strCells_length]
        omega
      · rw [hcs]
        have e : cl .u8 (xs ++ nb s) = cl .u8 xs ++ cl .u8 (nb s) := by simp [cl]
        simp only [Array.toList_append, List.append_assoc]
        rw [← List.append_assoc, ← cl_length .u8 (xs ++ nb s), e]
        exact List.take_left
/-- 'append(b, x, y, ..)': the elements lie in a row of their own -/
theorem run_app_bytes (base : Nat) (v : Value) (xs : List Nat) (hown : OwnB w base v xs) (ad : Addr) (ys : List Nat) (c : Nat) (ty : TypeId) (hnews : ∀ j u, (cl .u8 ys)[j]? = some u → w.cell? (ad.add j) = some u) (hl : xs.length + ys.length ≤ 140737488355328) (hbase : base ≤ w.heap.size) :
    ∃ v' w', (Builtin.append_ #[38, 38] ty #[v, .slice (some ad) ys.length c]).run Tryd.prog w = .ok v' w' ∧ OwnB w' base v' (xs ++ ys) ∧ w.grownBy w' v.ownBlock ∧ (v'.ownBlock = v.ownBlock ∨ v'.ownBlock = some w.heap.size) := by
  obtain ⟨i0, hi, hz, hs1, hb1⟩ := u8_info
  have hml : xs.length + ys.length ≤ maxLen := by simp only [maxLen]; omega
  have hyl : (cl .u8 ys).length = ys.length * i0.size := by rw [cl_length, hs1]; omega
  rcases hown with ⟨rfl, rfl⟩ | ⟨g, cap, cur, fz, rfl, hb, hg, hc, hcap, hm, hs, ht⟩
  · obtain ⟨v', w', h1, h2, h3, _, h5⟩ := run_append_own_at (P := Tryd.prog) w base 38 ty 5 i0 (.int .u8 0) 1 1 Tryd.underlying38 hi hz hs1 hb1 rfl (by decide) (.slice none 0 0) 0 [] (World.ownsRow_nil _ _ _ _) ad ys.length c (cl .u8 ys) (by rw [cl_length]; omega) hnews (cl_one .u8 ys) (by simpa using hml) (by simpa using hl) hbase
    refine ⟨v', w', h1, OwnB.of ?_, h3, h5⟩
    simpa using h2
  · by_cases hroom : xs.length + ys.length ≤ cap
    · have hf := run_firstCells_some (P := Tryd.prog) w i0.size ys.length ad ys.length c (cl .u8 ys) hyl hnews
      rw [hs1] at hf
      have hst := store_ahead Tryd.prog g xs.length 5 fz (cl .u8 ys) 0 cur w hg hc (by rw [cl_length]; omega) (cl_one .u8 ys)
      simp only [Nat.add_zero, cl_length] at hst
      have hr : (Builtin.append_ #[38, 38] ty #[.slice (some ⟨g, 0, none⟩) xs.length cap, .slice (some ad) ys.length c]).run Tryd.prog w =
          .ok (.slice (some ⟨g, 0, none⟩) (xs.length + ys.length) cap) (w.setRow g (cur.toList.take xs.length ++ cl .u8 ys ++ cur.toList.drop (xs.length + ys.length)).toArray) := by
        simp [Builtin.append_, run_underlying Tryd.underlying38, sizeOf, typeInfo, hi, hs1, Builtin.lenOf, hroom, hf, Addr.add_lit, hst]
      exact ⟨_, _, hr, OwnB.room w hb hg hc hroom hm hs ht, grown_setRow w g _, .inl rfl⟩
    · have holds := OwnB.cells (w := w) (base := base) (xs := xs) (.inr ⟨g, cap, cur, fz, rfl, hb, hg, hc, hcap, hm, hs, ht⟩) (g := g) rfl
      have hr := run_append_grow (P := Tryd.prog) w 38 ty 5 i0 (.int .u8 0) Tryd.underlying38 hi hz ⟨g, 0, none⟩ xs.length cap (cl .u8 xs) (by rw [hs1, cl_length]; omega) holds ad ys.length c (cl .u8 ys) hyl hnews (by omega) (by omega) (by rw [hb1]; exact growslice_fits (by omega) (by omega))
      have hge := grownCap_ge w (xs.length + ys.length) cap 5
      refine ⟨_, _, hr, ?_, ⟨rfl, rfl, rfl, by simp, fun k hk _ => Below.heap_alloc w.drew _ k hk⟩, .inr rfl⟩
      refine .inr ⟨w.heap.size, _, _, (0, 0), by rw [List.length_append], hbase, heap_alloc_new w.drew _, .inl rfl, by rw [List.length_append]; exact hge, grownCap_le_maxLen w _ _ _ hml, ?_, ?_⟩
      · have hz1 : (Value.int IntKind.u8 0).cells.size = 1 := rfl
        simp only [Array.size_append, List.size_toArray, size_zeroCells, hz1, cl_length]
        omega
      · have e : cl .u8 (xs ++ ys) = cl .u8 xs ++ cl .u8 ys := by simp [cl]
        simp only [Array.toList_append, List.append_assoc]
        rw [← List.append_assoc, ← cl_length .u8 (xs ++ ys), e]
        exact List.take_left
/-- at the operation -/
theorem wp_app_string {o : Oper} {a : Act} {K : Act → World → Prop} {Q : Exit → Act → World → Prop} (sl x : Operand)
    (ho : o.op = .call { callee := .builtin .append, args := #[sl, x], argTypes := #[38, 9] })
    (base : Nat) (v : Value) (xs : List Nat) (hs : a.eval sl = v) (hown : OwnB w base v xs) (s : ByteArray) (hx : a.eval x = .string s) (hl : xs.length + s.size ≤ 140737488355328) (hbase : base ≤ w.heap.size)
    (h : ∀ v' w', OwnB w' base v' (xs ++ nb s) → w.grownBy w' v.ownBlock → K (a.put o.dst v') w') : o.wp Tryd.prog a w K Q := by
  obtain ⟨v', w', hr, h2, h3⟩ := run_app_string w base v xs hown s o.type hl hbase
  unfold Oper.wp execOp
  simp only [ho, resolve, invoke, builtin, Sem.run_bind, Sem.run_pure, Result.andThen_ok, List.map_toArray, List.map_cons, List.map_nil, hs, hx, hr]
  exact h v' w' h2 h3
theorem wp_app_bytes {o : Oper} {a : Act} {K : Act → World → Prop} {Q : Exit → Act → World → Prop} (sl x : Operand)
    (ho : o.op = .call { callee := .builtin .append, args := #[sl, x], argTypes := #[38, 38] })
    (base : Nat) (v : Value) (xs : List Nat) (hs : a.eval sl = v) (hown : OwnB w base v xs) (ad : Addr) (ys : List Nat) (c : Nat) (hx : a.eval x = .slice (some ad) ys.length c) (hnews : ∀ j u, (cl .u8 ys)[j]? = some u → w.cell? (ad.add j) = some u) (hl : xs.length + ys.length ≤ 140737488355328) (hbase : base ≤ w.heap.size)
    (h : ∀ v' w', OwnB w' base v' (xs ++ ys) → w.grownBy w' v.ownBlock → (v'.ownBlock = v.ownBlock ∨ v'.ownBlock = some w.heap.size) → K (a.put o.dst v') w') : o.wp Tryd.prog a w K Q := by
  obtain ⟨v', w', hr, h2, h3, h4⟩ := run_app_bytes w base v xs hown ad ys c o.type hnews hl hbase
  unfold Oper.wp execOp
  simp only [ho, resolve, invoke, builtin, Sem.run_bind, Sem.run_pure, Result.andThen_ok, List.map_toArray, List.map_cons, List.map_nil, hs, hx, hr]
  exact h v' w' h2 h3 h4
/-- at a plain region's list -/
theorem wpList_app_bytes {ops : Array Oper} {rest : List Oper} {o : Oper} {a : Act} {Q : Exit → Act → World → Prop} (hgd : o.guard = none) (sl x : Operand)
    (ho : o.op = .call { callee := .builtin .append, args := #[sl, x], argTypes := #[38, 38] })
    (base : Nat) (v : Value) (xs : List Nat) (hs : a.eval sl = v) (hown : OwnB w base v xs) (ad : Addr) (ys : List Nat) (c : Nat) (hx : a.eval x = .slice (some ad) ys.length c) (hnews : ∀ j u, (cl .u8 ys)[j]? = some u → w.cell? (ad.add j) = some u) (hl : xs.length + ys.length ≤ 140737488355328) (hbase : base ≤ w.heap.size)
    (h : ∀ v' w', OwnB w' base v' (xs ++ ys) → w.grownBy w' v.ownBlock → (v'.ownBlock = v.ownBlock ∨ v'.ownBlock = some w.heap.size) → wpList Tryd.prog ops Q rest (a.put o.dst v') w') : wpList Tryd.prog ops Q (o :: rest) a w :=
  wpList_plain hgd fun K hK => wp_app_bytes w sl x ho base v xs hs hown ad ys c hx hnews hl hbase fun v' w' h2 h3 h4 => hK _ _ (h v' w' h2 h3 h4)
theorem news_bytes (ys : List Nat) (t : TypeId) : ∀ j u, (cl .u8 ys)[j]? = some u → (w.alloc (.cells (cl .u8 ys).toArray t)).cell? ((⟨w.heap.size, 0, none⟩ : Addr).add j) = some u := by
  intro j u hj
  have hadd : (⟨w.heap.size, 0, none⟩ : Addr).add j = ⟨w.heap.size, j, none⟩ := by unfold Addr.add; split <;> simp_all
  rw [hadd, cell_of_row _ _ _ _ _ _ (heap_alloc_new w _)]
  simpa using hj
/-- 'string(p)' -/
theorem run_conv_own {base : Nat} {v : Value} {xs : List Nat} (h : OwnB w base v xs) (hb : Bytes xs) :
    (convert 38 9 v).run Tryd.prog w = .ok (.string (strOf xs)) w := by
  rcases h with ⟨rfl, rfl⟩ | ⟨g, cap, cur, fz, rfl, hbg, hg, hc, hcap, hm, hs, ht⟩
  · rw [run_convert_bytes_string w _ _ 5 _ 0 0 Tryd.underlying38 Tryd.underlying5 Tryd.underlying9]
    rfl
  · have holds := OwnB.cells (w := w) (base := base) (xs := xs) (.inr ⟨g, cap, cur, fz, rfl, hbg, hg, hc, hcap, hm, hs, ht⟩) (g := g) rfl
    have hl : (loadCells ⟨g, 0, none⟩ xs.length).run Tryd.prog w = .ok ((xs.map fun (n : Nat) => (n : Int)).map (Value.int .u8)).toArray w := by
      have := run_loadCells_list (P := Tryd.prog) w ⟨g, 0, none⟩ (cl .u8 xs) holds
      rw [cl_length] at this
      rw [this]
      simp [cl, Function.comp_def]
    have hr := run_bytesToString (P := Tryd.prog) w ⟨g, 0, none⟩ xs.length cap _ hl
    rw [run_convert_bytes_string w _ _ 5 _ xs.length cap Tryd.underlying38 Tryd.underlying5 Tryd.underlying9]
    rw [hr]
    congr 2
    rw [foldl_push_bytes]
    apply ByteArray.ext
    apply Array.ext'
    rw [List.map_map]
    show (ByteArray.empty.data ++ _).toList = _
    rw [Array.toList_append]
    show [] ++ _ = _
    rw [List.nil_append, strOf]
    apply List.map_congr_left
    intro x _
    simp
end
end Go.Proofs.YtlcppkcclolgcaaDoor

namespace Go.Proofs.YtlcppkcclolgcaaDoor
set_option linter.unusedVariables false
set_option linter.unusedSimpArgs false
open Go.RowKit

/-- the bytes so far -/
def fl8 (n : Nat) : Nat → List Nat
  | 0 => List.replicate 8 0
  | j + 1 => (fl8 n j).set j (n / 2 ^ (8 * j) % 256)
theorem fl8_length (n : Nat) : ∀ j, (fl8 n j).length = 8
  | 0 => by simp [fl8]
  | j + 1 => by simp [fl8, fl8_length n j]
/-- a number in eight bytes, the lowest first -/
def le8 (n : Nat) : List Nat := fl8 n 8
theorem fl8_bytes (n : Nat) : ∀ j, Bytes (fl8 n j)
  | 0 => by intro x hx; simp [fl8] at hx; omega
  | j + 1 => by
    intro x hx
    rcases List.mem_or_eq_of_mem_set hx with h | h
    · exact fl8_bytes n j x h
    · rw [h]; exact Nat.mod_lt _ (by omega)
set_option maxRecDepth 100000 in
set_option maxHeartbeats 2000000 in
theorem wint_any (n : Nat) (hn : n < 18446744073709551616) (w : World) : Calls Tryd.prog 52 #[.int .u64 (n : Int)] w fun e w' => e = .returned (.string (strOf (le8 n))) ∧ Below w.heap.size w w' := by
  go_enter Tryd.func52, Tryd.ntmps52
  go_wp2_with fail
  go_loopw [5] (fun i wr => ∃ j : Nat, j ≤ 8 ∧ i = .int .i64 j ∧ wr.heap[w.heap.size]? = some (.cells (cw .u8 (fl8 n j)) 140 (0, 0)) ∧ Below w.heap.size w wr) (fun i _ => 8 - (intOf i).toNat)
  case atStart => exact ⟨0, by omega, rfl, heap_alloc_new _ _, (Below.refl _ _).alloc (Nat.le_refl _) _⟩
  case round =>
    obtain ⟨j, hj, rfl, hrow, hb⟩ := hrel
    by_cases hlt : j < 8
    · have h0 : (0 : Int) ≤ j := by omega
      have h1 : (j : Int) < 8 := by omega
      have hc := row_cell hrow j (by rw [fl8_length]; omega)
      have hf := row_free hrow j
      have hst := row_store hrow j (n / 2 ^ (8 * j) % 256)
      have hb2 : Below w.heap.size w (wr.setCell ⟨w.heap.size, j, none⟩ (.int .u8 ((n / 2 ^ (8 * j) % 256 : Nat) : Int))) := hb.setCell (by simp) _
      rw [show (fl8 n j).set j (n / 2 ^ (8 * j) % 256) = fl8 n (j + 1) from rfl] at hst
      generalize (fl8 n j).getD j 0 = y at *
      have hsh1 : (n : Int) / 2 ^ (8 * (j : Int)).toNat = ((n / 2 ^ (8 * j) : Nat) : Int) := by
        rw [show (8 * (j : Int)).toNat = 8 * j by omega, Int.natCast_ediv]
        congr 1
      have hsh2 : (n : Int) / 2 ^ (8 * j) = ((n / 2 ^ (8 * j) : Nat) : Int) := by
        rw [Int.natCast_ediv]
        congr 1
      have h80 : (0 : Int) ≤ 8 * (j : Int) := by omega
      have h81 : 8 * (j : Int) ≤ 64 := by omega
      have hw8 : wrap64 (8 * (j : Int)) = 8 * (j : Int) := by unfold wrap64; omega
      generalize n / 2 ^ (8 * j) = m at *
      have hwm : IntKind.u8.wrap (m : Int) = ((m % 256 : Nat) : Int) := by rw [Int.natCast_emod]; simp [IntKind.wrap, IntKind.bits, IntKind.signed]
      generalize m % 256 = r at *
      have HST := Lib.hid hst
      have HB := Lib.hid hb2
      clear hst hb2 hrow
      go_wp2_with fail
      go_roundw
      case rel => exact ⟨j + 1, by omega, by go_num, HST.out, HB.out⟩
      case measure => simp [intOf]; omega
    · obtain rfl : j = 8 := by omega
      have hcv := run_conv_row (n := 8) (cap := 8) hrow (by rw [fl8_length]; omega) (fl8_bytes n 8)
      rw [List.take_of_length_le (by rw [fl8_length]; omega)] at hcv
      go_wp2_with fail
      go_ret
      exact ⟨rfl, hb⟩
end Go.Proofs.YtlcppkcclolgcaaDoor

namespace Go.Proofs
open Go.Shelf
def Tryd.lays119_ren : Go.Shelf.Ren := ⟨fun | 119 => 84 | n => n, fun | 21 => 21 | 4 => 4 | n => n, fun | n => n⟩
theorem Tryd.lays119 : Go.Proofs.Lays.n119 Tryd.prog Tryd.lays119_ren := {
  mixed := by kernel_rfl
  f119 := Tryd.func84.trans (congrArg some (by kernel_rfl))
  t4 := Tryd.underlying4
  a4 := Tryd.isAgg4
  z4 := Tryd.sizeOf4
  v4 := Tryd.zeroValue4
  t21 := Tryd.underlying21
  a21 := Tryd.isAgg21
  z21 := Tryd.sizeOf21
  v21 := Tryd.zeroValue21 }
/-- utf8.ValidRune: "ValidRune reports whether r can be legally encoded as UTF-8. Code points that are out of range or a surrogate half are illegal.": IT RETURNS 'Lib.validRune r'; the world is as it was. (LAID: no walk: one application.) -/
theorem Tryd.utf8_ValidRune (r : Int) (w : World) :
    Calls Tryd.prog 84 #[.int .i32 r] w fun e w' => e = .returned (.bool (Lib.validRune r)) ∧ w' = w := Any.utf8_ValidRune Tryd.lays119 r w
def Tryd.lays213_ren : Go.Shelf.Ren := ⟨fun | 213 => 77 | 265 => 83 | n => n, fun | 9 => 9 | 3 => 3 | n => n, fun | n => n⟩
theorem Tryd.lays213 : Go.Proofs.Lays.n213 Tryd.prog Tryd.lays213_ren := {
  mixed := by kernel_rfl
  f213 := Tryd.func77.trans (congrArg some (by kernel_rfl))
  f265 := Tryd.func83.trans (congrArg some (by kernel_rfl))
  t3 := Tryd.underlying3
  a3 := Tryd.isAgg3
  z3 := Tryd.sizeOf3
  v3 := Tryd.zeroValue3
  t9 := Tryd.underlying9
  a9 := Tryd.isAgg9
  z9 := Tryd.sizeOf9
  v9 := Tryd.zeroValue9 }
open Go.RowKit in
/-- internal/bytealg.CompareString (what strings.Compare calls): IT RETURNS 'Lib.compareBytes a b'; the world is as it was. (LAID: no walk: one application.) -/
theorem Tryd.bytealg_CompareString (a b : ByteArray) (w : World) :
    Calls Tryd.prog 77 #[.string a, .string b] w fun e w' => e = .returned (.int .i64 (Lib.compareBytes a.data.toList b.data.toList)) ∧ w' = w := Any.bytealg_CompareString Tryd.lays213 a b w
def Tryd.lays106_ren : Go.Shelf.Ren := ⟨fun | 106 => 70 | 213 => 77 | 265 => 83 | n => n, fun | 9 => 9 | 3 => 3 | n => n, fun | n => n⟩
theorem Tryd.lays106 : Go.Proofs.Lays.n106 Tryd.prog Tryd.lays106_ren := {
  mixed := by kernel_rfl
  f106 := Tryd.func70.trans (congrArg some (by kernel_rfl))
  f213 := Tryd.func77.trans (congrArg some (by kernel_rfl))
  f265 := Tryd.func83.trans (congrArg some (by kernel_rfl))
  t3 := Tryd.underlying3
  a3 := Tryd.isAgg3
  z3 := Tryd.sizeOf3
  v3 := Tryd.zeroValue3
  t9 := Tryd.underlying9
  a9 := Tryd.isAgg9
  z9 := Tryd.sizeOf9
  v9 := Tryd.zeroValue9 }
open Go.RowKit in
/-- strings.Compare: "Compare returns an integer comparing two strings lexicographically. The result will be 0 if a == b, -1 if a < b, and +1 if a > b.": IT RETURNS 'Lib.compareBytes a b'; the world is as it was. (LAID: no walk: one application.) -/
theorem Tryd.strings_Compare (a b : ByteArray) (w : World) :
    Calls Tryd.prog 70 #[.string a, .string b] w fun e w' => e = .returned (.int .i64 (Lib.compareBytes a.data.toList b.data.toList)) ∧ w' = w := Any.strings_Compare Tryd.lays106 a b w
def Tryd.lays137_ren : Go.Shelf.Ren := ⟨fun | 137 => 60 | 217 => 69 | 266 => 76 | n => n, fun | 9 => 9 | 5 => 5 | 3 => 3 | n => n, fun | n => n⟩
theorem Tryd.lays137 : Go.Proofs.Lays.n137 Tryd.prog Tryd.lays137_ren := {
  mixed := by kernel_rfl
  f137 := Tryd.func60.trans (congrArg some (by kernel_rfl))
  f217 := Tryd.func69.trans (congrArg some (by kernel_rfl))
  f266 := Tryd.func76.trans (congrArg some (by kernel_rfl))
  t3 := Tryd.underlying3
  a3 := Tryd.isAgg3
  z3 := Tryd.sizeOf3
  v3 := Tryd.zeroValue3
  t5 := Tryd.underlying5
  a5 := Tryd.isAgg5
  z5 := Tryd.sizeOf5
  v5 := Tryd.zeroValue5
  t9 := Tryd.underlying9
  a9 := Tryd.isAgg9
  z9 := Tryd.sizeOf9
  v9 := Tryd.zeroValue9 }
open Go.RowKit in
/-- strings.IndexByte: "IndexByte returns the index of the first instance of c in s, or -1 if c is not present in s.": IT RETURNS 'Lib.indexByte s c'; the world is as it was. (LAID: no walk: one application.) -/
theorem Tryd.strings_IndexByte (s : ByteArray) (c : Int) (w : World) :
    Calls Tryd.prog 60 #[.string s, .int .u8 c] w fun e w' => e = .returned (.int .i64 (Lib.indexByte s.data.toList c.toNat.toUInt8)) ∧ w' = w := Any.strings_IndexByte Tryd.lays137 s c w
def Tryd.lays152_ren : Go.Shelf.Ren := ⟨fun | 152 => 79 | 137 => 60 | 119 => 84 | 224 => 85 | 225 => 86 | 217 => 69 | 266 => 76 | n => n, fun | 9 => 9 | 21 => 21 | 3 => 3 | 4 => 4 | 5 => 5 | 0 => 0 | 46 => 97 | n => n, fun | n => n⟩
theorem Tryd.lays152 : Go.Proofs.Lays.n152 Tryd.prog Tryd.lays152_ren := {
  mixed := by kernel_rfl
  f119 := Tryd.func84.trans (congrArg some (by kernel_rfl))
  f137 := Tryd.func60.trans (congrArg some (by kernel_rfl))
  f152 := Tryd.func79.trans (congrArg some (by kernel_rfl))
  f217 := Tryd.func69.trans (congrArg some (by kernel_rfl))
  f224 := Tryd.func85.trans (congrArg some (by kernel_rfl))
  f225 := Tryd.func86.trans (congrArg some (by kernel_rfl))
  f266 := Tryd.func76.trans (congrArg some (by kernel_rfl))
  t0 := Tryd.underlying0
  a0 := Tryd.isAgg0
  z0 := Tryd.sizeOf0
  v0 := Tryd.zeroValue0
  t3 := Tryd.underlying3
  a3 := Tryd.isAgg3
  z3 := Tryd.sizeOf3
  v3 := Tryd.zeroValue3
  t4 := Tryd.underlying4
  a4 := Tryd.isAgg4
  z4 := Tryd.sizeOf4
  v4 := Tryd.zeroValue4
  t5 := Tryd.underlying5
  a5 := Tryd.isAgg5
  z5 := Tryd.sizeOf5
  v5 := Tryd.zeroValue5
  t9 := Tryd.underlying9
  a9 := Tryd.isAgg9
  z9 := Tryd.sizeOf9
  v9 := Tryd.zeroValue9
  t21 := Tryd.underlying21
  a21 := Tryd.isAgg21
  z21 := Tryd.sizeOf21
  v21 := Tryd.zeroValue21
  t46 := Tryd.underlying97
  a46 := Tryd.isAgg97
  z46 := Tryd.sizeOf97
  v46 := Tryd.zeroValue97 }
open Go.RowKit Go.Lib in
theorem Tryd.strings_IndexRune_ascii (s : ByteArray) (r : Int) (w : World) (h0 : 0 ≤ r) (h1 : r < 128) :
    Calls Tryd.prog 79 #[.string s, .int .i32 r] w fun e w' => e = .returned (.int .i64 (Lib.indexByte s.data.toList r.toNat.toUInt8)) ∧ w' = w := Any.strings_IndexRune_ascii Tryd.lays152 s r w h0 h1
def Tryd.lays226_ren : Go.Shelf.Ren := ⟨fun | 226 => 80 | n => n, fun | 3 => 3 | 4 => 4 | n => n, fun | n => n⟩
theorem Tryd.lays226 : Go.Proofs.Lays.n226 Tryd.prog Tryd.lays226_ren := {
  mixed := by kernel_rfl
  f226 := Tryd.func80.trans (congrArg some (by kernel_rfl))
  t3 := Tryd.underlying3
  a3 := Tryd.isAgg3
  z3 := Tryd.sizeOf3
  v3 := Tryd.zeroValue3
  t4 := Tryd.underlying4
  a4 := Tryd.isAgg4
  z4 := Tryd.sizeOf4
  v4 := Tryd.zeroValue4 }
open Go.RowKit Go.Lib in
theorem Tryd.strings_shouldUseASCIISet (n : Int) (w : World) :
    Calls Tryd.prog 80 #[.int .i64 n] w fun e w' => e = .returned (.bool (decide (8 < n))) ∧ w' = w := Any.strings_shouldUseASCIISet Tryd.lays226 n w
def Tryd.lays153_ren : Go.Shelf.Ren := ⟨fun | 153 => 75 | 152 => 79 | 226 => 80 | 227 => 81 | 228 => 82 | 137 => 60 | 119 => 84 | 224 => 85 | 225 => 86 | 217 => 69 | 266 => 76 | n => n, fun | 9 => 9 | 3 => 3 | 4 => 4 | 5 => 5 | 21 => 21 | 117 => 153 | 116 => 152 | 0 => 0 | 46 => 97 | 124 => 156 | n => n, fun | n => n⟩
theorem Tryd.lays153 : Go.Proofs.Lays.n153 Tryd.prog Tryd.lays153_ren := {
  mixed := by kernel_rfl
  f119 := Tryd.func84.trans (congrArg some (by kernel_rfl))
  f137 := Tryd.func60.trans (congrArg some (by kernel_rfl))
  f152 := Tryd.func79.trans (congrArg some (by kernel_rfl))
  f153 := Tryd.func75.trans (congrArg some (by kernel_rfl))
  f217 := Tryd.func69.trans (congrArg some (by kernel_rfl))
  f224 := Tryd.func85.trans (congrArg some (by kernel_rfl))
  f225 := Tryd.func86.trans (congrArg some (by kernel_rfl))
  f226 := Tryd.func80.trans (congrArg some (by kernel_rfl))
  f227 := Tryd.func81.trans (congrArg some (by kernel_rfl))
  f228 := Tryd.func82.trans (congrArg some (by kernel_rfl))
  f266 := Tryd.func76.trans (congrArg some (by kernel_rfl))
  t0 := Tryd.underlying0
  a0 := Tryd.isAgg0
  z0 := Tryd.sizeOf0
  v0 := Tryd.zeroValue0
  t3 := Tryd.underlying3
  a3 := Tryd.isAgg3
  z3 := Tryd.sizeOf3
  v3 := Tryd.zeroValue3
  t4 := Tryd.underlying4
  a4 := Tryd.isAgg4
  z4 := Tryd.sizeOf4
  v4 := Tryd.zeroValue4
  t5 := Tryd.underlying5
  a5 := Tryd.isAgg5
  z5 := Tryd.sizeOf5
  v5 := Tryd.zeroValue5
  t9 := Tryd.underlying9
  a9 := Tryd.isAgg9
  z9 := Tryd.sizeOf9
  v9 := Tryd.zeroValue9
  t21 := Tryd.underlying21
  a21 := Tryd.isAgg21
  z21 := Tryd.sizeOf21
  v21 := Tryd.zeroValue21
  t46 := Tryd.underlying97
  a46 := Tryd.isAgg97
  z46 := Tryd.sizeOf97
  v46 := Tryd.zeroValue97
  t116 := Tryd.underlying152
  a116 := Tryd.isAgg152
  z116 := Tryd.sizeOf152
  t117 := Tryd.underlying153
  a117 := Tryd.isAgg153
  z117 := Tryd.sizeOf153
  v117 := Tryd.zeroValue153
  t124 := Tryd.underlying156
  a124 := Tryd.isAgg156
  z124 := Tryd.sizeOf156
  v124 := Tryd.zeroValue156 }
open Go.RowKit Go.Lib in
theorem Tryd.strings_IndexAny_long (hv116 : ∀ w, (zeroValue 152).run Tryd.prog w = .ok (.agg (Array.replicate 256 (.bool false))) w) (s chars : ByteArray) (w : World) (h2 : 2 ≤ chars.size) (h8 : 8 < s.size) (hs : s.size < 4294967281) (hcs : chars.size < 4294967281) (hascii : ∀ (j : Nat) b, chars.data.toList[j]? = some b → b.toNat < 128) :
    Calls Tryd.prog 75 #[.string s, .string chars] w fun e w' => e = .returned (.int .i64 (Lib.indexAny s.data.toList chars.data.toList)) ∧ w' = ((w.alloc (.cells (Lib.setCells chars.data.toList) 152)).alloc (.cells (Lib.setCells chars.data.toList) 152)) := Any.strings_IndexAny_long Tryd.lays153 hv116 (by kernel_rfl) s chars w h2 h8 hs hcs hascii
def Tryd.lays105_ren : Go.Shelf.Ren := ⟨fun | 105 => 53 | 212 => 64 | 99 => 65 | 165 => 66 | 166 => 34 | 170 => 67 | 169 => 22 | 263 => 71 | 264 => 72 | 206 => 73 | 240 => 51 | 241 => 74 | 276 => 63 | 277 => 78 | n => n, fun | 9 => 9 | 3 => 3 | 4 => 4 | 20 => 20 | 0 => 0 | 46 => 97 | 109 => 141 | 5 => 5 | 72 => 62 | 76 => 102 | 51 => 73 | 146 => 144 | 53 => 85 | 148 => 146 | 70 => 60 | 37 => 38 | 75 => 101 | 127 => 105 | 164 => 138 | 80 => 67 | n => n, fun | n => n⟩
theorem Tryd.lays105 : Go.Proofs.Lays.n105 Tryd.prog Tryd.lays105_ren := {
  mixed := by kernel_rfl
  f99 := Tryd.func65.trans (congrArg some (by kernel_rfl))
  f105 := Tryd.func53.trans (congrArg some (by kernel_rfl))
  f165 := Tryd.func66.trans (congrArg some (by kernel_rfl))
  f166 := Tryd.func34.trans (congrArg some (by kernel_rfl))
  f169 := Tryd.func22.trans (congrArg some (by kernel_rfl))
  f170 := Tryd.func67.trans (congrArg some (by kernel_rfl))
  f206 := Tryd.func73.trans (congrArg some (by kernel_rfl))
  f212 := Tryd.func64.trans (congrArg some (by kernel_rfl))
  f240 := Tryd.func51.trans (congrArg some (by kernel_rfl))
  f241 := Tryd.func74.trans (congrArg some (by kernel_rfl))
  f263 := Tryd.func71.trans (congrArg some (by kernel_rfl))
  f264 := Tryd.func72.trans (congrArg some (by kernel_rfl))
  f276 := Tryd.func63.trans (congrArg some (by kernel_rfl))
  f277 := Tryd.func78.trans (congrArg some (by kernel_rfl))
  t0 := Tryd.underlying0
  a0 := Tryd.isAgg0
  z0 := Tryd.sizeOf0
  v0 := Tryd.zeroValue0
  t3 := Tryd.underlying3
  a3 := Tryd.isAgg3
  z3 := Tryd.sizeOf3
  v3 := Tryd.zeroValue3
  t4 := Tryd.underlying4
  a4 := Tryd.isAgg4
  z4 := Tryd.sizeOf4
  v4 := Tryd.zeroValue4
  t5 := Tryd.underlying5
  a5 := Tryd.isAgg5
  z5 := Tryd.sizeOf5
  v5 := Tryd.zeroValue5
  t9 := Tryd.underlying9
  a9 := Tryd.isAgg9
  z9 := Tryd.sizeOf9
  v9 := Tryd.zeroValue9
  t20 := Tryd.underlying20
  a20 := Tryd.isAgg20
  z20 := Tryd.sizeOf20
  v20 := Tryd.zeroValue20
  t37 := Tryd.underlying38
  a37 := Tryd.isAgg38
  z37 := Tryd.sizeOf38
  v37 := Tryd.zeroValue38
  t46 := Tryd.underlying97
  a46 := Tryd.isAgg97
  z46 := Tryd.sizeOf97
  v46 := Tryd.zeroValue97
  t51 := Tryd.underlying73
  a51 := Tryd.isAgg73
  z51 := Tryd.sizeOf73
  v51 := Tryd.zeroValue73
  t53 := Tryd.underlying85
  a53 := Tryd.isAgg85
  z53 := Tryd.sizeOf85
  v53 := Tryd.zeroValue85
  t70 := Tryd.underlying60
  a70 := Tryd.isAgg60
  z70 := Tryd.sizeOf60
  v70 := Tryd.zeroValue60
  t72 := Tryd.underlying62
  a72 := Tryd.isAgg62
  z72 := Tryd.sizeOf62
  v72 := Tryd.zeroValue62
  t75 := Tryd.underlying101
  a75 := Tryd.isAgg101
  z75 := Tryd.sizeOf101
  v75 := Tryd.zeroValue101
  t76 := Tryd.underlying102
  a76 := Tryd.isAgg102
  z76 := Tryd.sizeOf102
  v76 := Tryd.zeroValue102
  t109 := Tryd.underlying141
  a109 := Tryd.isAgg141
  z109 := Tryd.sizeOf141
  v109 := Tryd.zeroValue141
  t127 := Tryd.underlying105
  a127 := Tryd.isAgg105
  z127 := Tryd.sizeOf105
  v127 := Tryd.zeroValue105
  t146 := Tryd.underlying144
  a146 := Tryd.isAgg144
  z146 := Tryd.sizeOf144
  v146 := Tryd.zeroValue144
  t148 := Tryd.underlying146
  a148 := Tryd.isAgg146
  z148 := Tryd.sizeOf146
  v148 := Tryd.zeroValue146
  t164 := Tryd.underlying138
  a164 := Tryd.isAgg138
  z164 := Tryd.sizeOf138
  v164 := Tryd.zeroValue138 }
theorem Tryd.Builder_Extra_105 : Builder.Extra Tryd.prog Tryd.lays105_ren := {
  sizeBuilder := by kernel_rfl
  liesBuilder := by kernel_rfl
  t5 := Tryd.underlying5
  a5 := Tryd.isAgg5
  z5 := Tryd.sizeOf5
  v5 := Tryd.zeroValue5
  infoByte := by kernel_rfl
  cellsByte := by kernel_rfl
  sizeByte := by kernel_rfl
  neB5 := by decide }
open Go.RowKit Go.Lib in
/-- **strings.Repeat: count ≥ 0, the result within one allocation: count copies of s.** (LAID: no walk: one application.) -/
theorem Tryd.strings_Repeat (s : ByteArray) (c : Nat) (w : World) (hc : c ≤ 9223372036854775807) (hlen : s.size * c ≤ 140737488355328) :
    Calls Tryd.prog 53 #[.string s, .int .i64 c] w fun e w' => e = .returned (.string ⟨(Lib.repeatL s.data.toList c).toArray⟩) ∧ Below w.heap.size w w' := Any.strings_Repeat Tryd.lays105 Tryd.Builder_Extra_105 s c w hc hlen
end Go.Proofs

namespace Go.Proofs.YtlcppkcclolgcaaDoor
set_option linter.unusedVariables false
set_option linter.unusedSimpArgs false
open Go.RowKit

/-- the noughts behind a text of n bytes -/
def padN (n : Nat) : Nat := (8 - n % 8) % 8
/-- a text, framed -/
def frameL (xs : List Nat) : List Nat := le8 xs.length ++ xs ++ List.replicate (padN xs.length) 0
theorem le8_length (n : Nat) : (le8 n).length = 8 := fl8_length n 8
theorem le8_bytes (n : Nat) : Bytes (le8 n) := fl8_bytes n 8
theorem frameL_length (xs : List Nat) : (frameL xs).length = 8 + (xs.length + 7) / 8 * 8 := by
  simp only [frameL, List.length_append, le8_length, List.length_replicate, padN]
  omega
theorem frameL_bytes (xs : List Nat) (h : Bytes xs) : Bytes (frameL xs) := by
  intro x hx
  simp only [frameL, List.mem_append, List.mem_replicate] at hx
  rcases hx with (hx | hx) | hx
  · exact le8_bytes _ x hx
  · exact h x hx
  · omega
theorem strOf_append (a b : List Nat) : strOf (a ++ b) = strOf a ++ strOf b := by
  apply ByteArray.ext
  simp [strOf]
theorem strOf_nb (s : ByteArray) : strOf (nb s) = s := by
  apply nb_inj
  rw [nb_strOf _ (nb_bytes s)]
theorem repeat_zero : ∀ c, Lib.repeatL [0] c = List.replicate c 0
  | 0 => rfl
  | c + 1 => by
    rw [Lib.repeatL, repeat_zero c]
    rfl
theorem pad_str (c : Nat) : (⟨(Lib.repeatL (⟨#[0]⟩ : ByteArray).data.toList c).toArray⟩ : ByteArray) = strOf (List.replicate c 0) := by
  show (⟨(Lib.repeatL [0] c).toArray⟩ : ByteArray) = _
  rw [repeat_zero]
  apply ByteArray.ext
  simp [strOf]
set_option maxRecDepth 100000 in
set_option maxHeartbeats 2000000 in
theorem text_any (s : ByteArray) (hs : s.size ≤ 140737488351232) (w : World) :
    Calls Tryd.prog 35 #[.string s] w fun e w' => e = .returned (.string (strOf (frameL (nb s)))) ∧ Below w.heap.size w w' := by
  have C1 := Lib.hid (fun w => wint_any s.size (by omega) w)
  have hp : padN s.size ≤ 7 := by unfold padN; omega
  have C2 : Hid (∀ w, Calls Tryd.prog 53 #[.string ⟨#[0]⟩, .int .i64 ((padN s.size : Nat) : Int)] w fun e w' => e = .returned (.string (strOf (List.replicate (padN s.size) 0))) ∧ Below w.heap.size w w') := Lib.hid fun w => by
    have h := Go.Proofs.Tryd.strings_Repeat ⟨#[0]⟩ (padN s.size) w (by omega) (by show 1 * _ ≤ _; omega)
    rw [pad_str] at h
    exact h
  have hpI : -((s.size : Int) % 8) % 8 = (padN s.size : Nat) := by
    unfold padN
    omega
  have hfin : strOf (le8 s.size) ++ s ++ strOf (List.replicate (padN s.size) 0) = strOf (frameL (nb s)) := by
    unfold frameL
    rw [nb_length, strOf_append, strOf_append, strOf_nb]
  have l1 : (strOf (le8 s.size)).size = 8 := by rw [strOf_size, le8_length]
  have l2 : (strOf (List.replicate (padN s.size) 0)).size ≤ 7 := by rw [strOf_size, List.length_replicate]; exact hp
  have l3 : (strOf (le8 s.size) ++ s).size ≤ 140737488351240 := by rw [ByteArray.size_append]; omega
  rw [← hfin]
  clear hfin hp
  generalize padN s.size = c at *
  generalize strOf (le8 s.size) = A at *
  generalize strOf (List.replicate c 0) = Z at *
  go_enter Tryd.func35, Tryd.ntmps35
  go_wp2_with (first | (go_at_call 52; refine (C1.out _).mono ?_; rintro e w1 ⟨rfl, h1⟩; have H1 := Lib.hid h1; clear h1) | (go_at_call 53; refine (C2.out _).mono ?_; rintro e w2 ⟨rfl, h2⟩; have H2 := Lib.hid h2; clear h2))
  go_ret
  exact ⟨rfl, H1.out.trans (H2.out.mono H1.out.size)⟩
end Go.Proofs.YtlcppkcclolgcaaDoor

namespace Go.Proofs.YtlcppkcclolgcaaDoor
set_option linter.unusedVariables false
set_option linter.unusedSimpArgs false
open Go.RowKit

/-- a node: its own fields, then its kids, the last one outermost -/
inductive ND where
  | leaf (kind : Int) (exec : Bool) (text : ByteArray)
  | add (p : ND) (name : ByteArray) (c : ND)
namespace ND
def kind : ND → Int
  | leaf k _ _ => k
  | add p _ _ => p.kind
def exec : ND → Bool
  | leaf _ x _ => x
  | add p _ _ => p.exec
def text : ND → ByteArray
  | leaf _ _ t => t
  | add p _ _ => p.text
def cnt : ND → Nat
  | leaf _ _ _ => 0
  | add p _ _ => p.cnt + 1
/-- the last kid's name -/
def last : ND → ByteArray
  | leaf _ _ _ => ⟨#[]⟩
  | add _ nm _ => nm
/-- its first i kids alone -/
def pre : ND → Nat → ND
  | leaf k x t, _ => leaf k x t
  | add p nm c, i => if i ≤ p.cnt then p.pre i else add p nm c
/-- its size, for inductions -/
def sz : ND → Nat
  | leaf _ _ _ => 1
  | add p _ c => p.sz + c.sz + 1
/-- all its strings and counts are of at most m -/
def small (m : Nat) : ND → Prop
  | leaf _ _ t => t.size ≤ m
  | add p nm c => p.small m ∧ nm.size ≤ m ∧ c.small m ∧ p.cnt + 1 ≤ m
theorem pre_kind (n : ND) (i : Nat) : (n.pre i).kind = n.kind := by
  induction n with
  | leaf => rfl
  | add p nm c ih _ => unfold pre; split <;> simp [kind, ih]
theorem pre_exec (n : ND) (i : Nat) : (n.pre i).exec = n.exec := by
  induction n with
  | leaf => rfl
  | add p nm c ih _ => unfold pre; split <;> simp [exec, ih]
theorem pre_text (n : ND) (i : Nat) : (n.pre i).text = n.text := by
  induction n with
  | leaf => rfl
  | add p nm c ih _ => unfold pre; split <;> simp [text, ih]
theorem pre_cnt (n : ND) (i : Nat) (h : i ≤ n.cnt) : (n.pre i).cnt = i := by
  induction n with
  | leaf => simp only [cnt] at h; simp only [pre, cnt]; omega
  | add p nm c ih _ =>
    simp only [cnt] at h
    unfold pre
    split
    · next h1 => exact ih h1
    · simp only [cnt]; omega
theorem pre_all (n : ND) : n.pre n.cnt = n := by
  cases n with
  | leaf => rfl
  | add p nm c =>
    show (if p.cnt + 1 ≤ p.cnt then p.pre (p.cnt + 1) else add p nm c) = _
    exact if_neg (by omega)
theorem pre_succ (n : ND) (i : Nat) (h : i < n.cnt) : ∃ nm c, n.pre (i + 1) = add (n.pre i) nm c ∧ c.sz < n.sz := by
  induction n with
  | leaf => simp [cnt] at h
  | add p nm c ih _ =>
    simp only [cnt] at h
    by_cases h1 : i < p.cnt
    · obtain ⟨m, d, e1, e2⟩ := ih h1
      refine ⟨m, d, ?_, by simp only [sz]; omega⟩
      simp only [pre]
      rw [if_pos (by omega), if_pos (by omega), e1]
    · have hi : i = p.cnt := by omega
      subst hi
      refine ⟨nm, c, ?_, by simp only [sz]; omega⟩
      simp only [pre]
      rw [if_neg (by omega), if_pos (Nat.le_refl _), pre_all]
theorem pre_small {n : ND} {m : Nat} (h : n.small m) (i : Nat) : (n.pre i).small m := by
  induction n with
  | leaf => exact h
  | add p nm c ih _ =>
    unfold pre
    split
    · exact ih h.1
    · exact h
/-- a node as a value: its kids' slice lies at a -/
def val (n : ND) (a : Option Addr) (cap : Nat) : Value := .agg #[.int .i64 n.kind, .bool n.exec, .string n.text, .slice a n.cnt cap]
/-- the kids of a node lie from x on, all of it below block B -/
def At (B : Nat) (w : World) (x : Addr) : ND → Prop
  | leaf _ _ _ => True
  | add p nm c => p.At B w x ∧ x.block < B ∧ ∃ a cap, w.cell? (x.add (p.cnt * 5)) = some (.string nm) ∧ w.cell? ⟨(x.add (p.cnt * 5)).block, (x.add (p.cnt * 5)).off + 1, none⟩ = some (.int .i64 c.kind) ∧ w.cell? ⟨(x.add (p.cnt * 5)).block, (x.add (p.cnt * 5)).off + 2, none⟩ = some (.bool c.exec) ∧
      w.cell? ⟨(x.add (p.cnt * 5)).block, (x.add (p.cnt * 5)).off + 3, none⟩ = some (.string c.text) ∧ w.cell? ⟨(x.add (p.cnt * 5)).block, (x.add (p.cnt * 5)).off + 4, none⟩ = some (.slice a c.cnt cap) ∧ (c.cnt = 0 ∨ ∃ y, a = some y ∧ c.At B w y)
/-- the kids of a node lie where its slice says -/
def In (B : Nat) (w : World) (a : Option Addr) (n : ND) : Prop := n.cnt = 0 ∨ ∃ y, a = some y ∧ n.At B w y
theorem At.below {B B' : Nat} {w w' : World} (hb : Below B' w w') (hB : B ≤ B') : ∀ {n : ND} {x : Addr}, n.At B w x → n.At B w' x := by
  intro n
  induction n with
  | leaf => intro x _; trivial
  | add p nm c ih1 ih2 =>
    intro x h
    obtain ⟨h1, h2, a, cap, c0, c1, c2, c3, c4, h3⟩ := h
    have hk : ∀ q : Addr, q.block = x.block → w'.cell? q = w.cell? q := fun q e => hb.cell (by rw [e]; omega)
    refine ⟨ih1 h1, h2, a, cap, (hk (x.add (p.cnt * 5)) (block_add _ _)).trans c0, (hk ⟨(x.add (p.cnt * 5)).block, (x.add (p.cnt * 5)).off + 1, none⟩ (block_add _ _)).trans c1, (hk ⟨(x.add (p.cnt * 5)).block, (x.add (p.cnt * 5)).off + 2, none⟩ (block_add _ _)).trans c2, (hk ⟨(x.add (p.cnt * 5)).block, (x.add (p.cnt * 5)).off + 3, none⟩ (block_add _ _)).trans c3, (hk ⟨(x.add (p.cnt * 5)).block, (x.add (p.cnt * 5)).off + 4, none⟩ (block_add _ _)).trans c4, ?_⟩
    rcases h3 with h3 | ⟨y, e, h3⟩
    · exact .inl h3
    · exact .inr ⟨y, e, ih2 h3⟩
theorem In.below {B B' : Nat} {w w' : World} (hb : Below B' w w') (hB : B ≤ B') {n : ND} {a : Option Addr} (h : n.In B w a) : n.In B w' a := by
  rcases h with h | ⟨y, e, h⟩
  · exact .inl h
  · exact .inr ⟨y, e, h.below hb hB⟩
/-- the kid at i -/
theorem At.kid {B : Nat} {w : World} {x : Addr} : ∀ {n : ND}, n.At B w x → ∀ {i : Nat}, i < n.cnt → ∃ nm c, n.pre (i + 1) = add (n.pre i) nm c ∧ c.sz < n.sz ∧ (∀ m, n.small m → nm.size ≤ m ∧ c.small m) ∧ x.block < B ∧
    ∃ a cap, w.cell? (x.add (i * 5)) = some (.string nm) ∧ w.cell? ⟨(x.add (i * 5)).block, (x.add (i * 5)).off + 1, none⟩ = some (.int .i64 c.kind) ∧ w.cell? ⟨(x.add (i * 5)).block, (x.add (i * 5)).off + 2, none⟩ = some (.bool c.exec) ∧
      w.cell? ⟨(x.add (i * 5)).block, (x.add (i * 5)).off + 3, none⟩ = some (.string c.text) ∧ w.cell? ⟨(x.add (i * 5)).block, (x.add (i * 5)).off + 4, none⟩ = some (.slice a c.cnt cap) ∧ c.In B w a := by
  intro n
  induction n with
  | leaf => intro _ i h; simp [cnt] at h
  | add p nm c ih _ =>
    intro h i hi
    obtain ⟨h1, h2, a, cap, c0, c1, c2, c3, c4, h3⟩ := h
    simp only [cnt] at hi
    by_cases hlt : i < p.cnt
    · obtain ⟨m, d, e1, e2, e5, e3, e4⟩ := ih h1 hlt
      refine ⟨m, d, ?_, by simp only [sz]; omega, fun mm hs => e5 mm hs.1, e3, e4⟩
      simp only [pre]
      rw [if_pos (by omega), if_pos (by omega), e1]
    · have hi : i = p.cnt := by omega
      subst hi
      refine ⟨nm, c, ?_, by simp only [sz]; omega, fun mm hs => ⟨hs.2.1, hs.2.2.1⟩, h2, a, cap, c0, c1, c2, c3, c4, h3⟩
      simp only [pre]
      rw [if_neg (by omega), if_pos (Nat.le_refl _), pre_all]
end ND
/-! ### words -/
def fr (n : Nat) : Nat := 8 + (n + 7) / 8 * 8
def frSum (ss : List ByteArray) : Nat := (ss.map fun s => fr s.size).sum
def wMagic : ByteArray := ⟨#[100, 101, 112, 111, 116, 45, 97, 114, 99, 104, 105, 118, 101, 45, 49]⟩
def wOpen : ByteArray := ⟨#[40]⟩
def wClose : ByteArray := ⟨#[41]⟩
def wType : ByteArray := ⟨#[116, 121, 112, 101]⟩
def wRegular : ByteArray := ⟨#[114, 101, 103, 117, 108, 97, 114]⟩
def wExec : ByteArray := ⟨#[101, 120, 101, 99, 117, 116, 97, 98, 108, 101]⟩
def wEmpty : ByteArray := ⟨#[]⟩
def wContents : ByteArray := ⟨#[99, 111, 110, 116, 101, 110, 116, 115]⟩
def wSymlink : ByteArray := ⟨#[115, 121, 109, 108, 105, 110, 107]⟩
def wTarget : ByteArray := ⟨#[116, 97, 114, 103, 101, 116]⟩
def wDirectory : ByteArray := ⟨#[100, 105, 114, 101, 99, 116, 111, 114, 121]⟩
def wEntry : ByteArray := ⟨#[101, 110, 116, 114, 121]⟩
def wName : ByteArray := ⟨#[110, 97, 109, 101]⟩
def wNode : ByteArray := ⟨#[110, 111, 100, 101]⟩
namespace ND
/-- a node's words, its kids' being k -/
def wordsOf (n : ND) (k : List ByteArray) : List ByteArray :=
  [wOpen, wType] ++ (if n.kind = 1 then [wRegular] ++ (if n.exec then [wExec, wEmpty] else []) ++ [wContents, n.text]
    else if n.kind = 2 then [wSymlink, wTarget, n.text] else [wDirectory] ++ k) ++ [wClose]
/-- the words of the kids -/
def kwords : ND → List ByteArray
  | leaf _ _ _ => []
  | add p nm c => p.kwords ++ [wEntry, wOpen, wName, nm, wNode] ++ c.wordsOf c.kwords ++ [wClose]
def words (n : ND) : List ByteArray := n.wordsOf n.kwords
end ND
/-- words, framed -/
def frames (ws : List ByteArray) : List Nat := ws.flatMap fun s => frameL (nb s)
theorem frames_nil : frames [] = [] := rfl
theorem frames_cons (s : ByteArray) (r : List ByteArray) : frames (s :: r) = frameL (nb s) ++ frames r := rfl
theorem frames_append (a b : List ByteArray) : frames (a ++ b) = frames a ++ frames b := by simp [frames]
theorem frames_length (ws : List ByteArray) : (frames ws).length = frSum ws := by
  induction ws with
  | nil => rfl
  | cons s r ih =>
    rw [frames_cons, List.length_append, ih, frameL_length, nb_length]
    rfl
theorem frSum_append (a b : List ByteArray) : frSum (a ++ b) = frSum a + frSum b := by simp [frSum]
theorem frames_bytes (ws : List ByteArray) : Bytes (frames ws) := by
  induction ws with
  | nil => intro x hx; cases hx
  | cons s r ih =>
    intro x hx
    rw [frames_cons, List.mem_append] at hx
    rcases hx with hx | hx
    · exact frameL_bytes _ (nb_bytes s) x hx
    · exact ih x hx
/-- the archive of a tree -/
def arc (n : ND) : List Nat := frames (wMagic :: n.words)
end Go.Proofs.YtlcppkcclolgcaaDoor
