/- What stands in memory while ShaPlays plays: three States behind a row of pointers, three strings in a row. -/
import Derived.Test.YtemioilfedpohaaDoorDigEq
import Derived.Test.YtemioilfedpohaaDoorShaCuts
namespace Go.Proofs.YtemioilfedpohaaDoor
set_option linter.unusedVariables false
open Go.RowKit

/-- a row of three -/
def r3 (F : Nat → Value) : List Value := [F 0, F 1, F 2]
theorem lt3 {k : Nat} (h : k < 3) : k = 0 ∨ k = 1 ∨ k = 2 := by omega
theorem r3_set (F F' : Nat → Value) (k : Nat) (v : Value) (hk : k < 3) (hv : F' k = v) (hne : ∀ i, i < 3 → i ≠ k → F' i = F i) : (r3 F).set k v = r3 F' := by
  rcases lt3 hk with rfl | rfl | rfl
  · simp [r3, hv, hne 1 (by omega) (by omega), hne 2 (by omega) (by omega)]
  · simp [r3, hv, hne 0 (by omega) (by omega), hne 2 (by omega) (by omega)]
  · simp [r3, hv, hne 0 (by omega) (by omega), hne 1 (by omega) (by omega)]
theorem r3_get (F : Nat → Value) (k : Nat) (hk : k < 3) : (r3 F).toArray[k]? = some (F k) := by
  rcases lt3 hk with rfl | rfl | rfl <;> simp [r3]
def upd {α : Type} (f : Nat → α) (k : Nat) (v : α) : Nat → α := fun i => if i = k then v else f i
theorem upd_same {α : Type} (f : Nat → α) (k : Nat) (v : α) : upd f k v k = v := by simp [upd]
theorem upd_ne {α : Type} (f : Nat → α) (k : Nat) (v : α) (i : Nat) (h : i ≠ k) : upd f k v i = f i := by simp [upd, h]
def pv (g : Nat) : Value := .pointer (some ⟨g, 0, none⟩)
def pj (j : Nat) (ps : Nat → Nat) (i : Nat) : Value := if i < j then pv (ps i) else .pointer none

structure PlB (w0 w : World) (gl gd j : Nat) (ps : Nat → Nat) (ss us : Nat → ByteArray) (B : Nat) : Prop where
  tab : Tab w
  below : Below w0.heap.size w0 w
  lrow : w.heap[gl]? = some (.cells (r3 (pj j ps)).toArray 49 (0, 0))
  srow : w.heap[gd]? = some (.cells (r3 fun i => .string (ss i)).toArray 50 (0, 0))
  ol : w0.heap.size ≤ gl
  od : gl < gd
  pl : ∀ k, k < j → w0.heap.size ≤ ps k ∧ ps k ≠ gl ∧ ps k ≠ gd
  ds : ∀ i k, i < j → k < j → ps i = ps k → i = k
  st : ∀ k, k < j → StAt w (ps k) (nb (us k))
  siz : ∀ k, k < 3 → (ss k).size ≤ B
  siu : ∀ k, k < j → (us k).size ≤ B

section
variable {w0 w w' : World} {gl gd j B : Nat} {ps : Nat → Nat} {ss us : Nat → ByteArray}
theorem lt_of_row {w : World} {g : Nat} {o : Obj} (h : w.heap[g]? = some o) : g < w.heap.size := (Array.getElem?_eq_some_iff.1 h).1
theorem PlB.later (H : PlB w0 w gl gd j ps ss us B) (hb : Below w.heap.size w w') : PlB w0 w' gl gd j ps ss us B :=
  ⟨H.tab.below hb H.tab.two, H.below.trans (hb.mono H.below.size), (hb.block _ (lt_of_row H.lrow)).trans H.lrow, (hb.block _ (lt_of_row H.srow)).trans H.srow, H.ol, H.od, H.pl, H.ds,
    fun k hk => (H.st k hk).below hb (H.st k hk).lt, H.siz, H.siu⟩
theorem PlB.more (H : PlB w0 w gl gd j ps ss us B) {B' : Nat} (h : B ≤ B') : PlB w0 w gl gd j ps ss us B' :=
  ⟨H.tab, H.below, H.lrow, H.srow, H.ol, H.od, H.pl, H.ds, H.st, fun k hk => Nat.le_trans (H.siz k hk) h, fun k hk => Nat.le_trans (H.siu k hk) h⟩
theorem PlB.drew (H : PlB w0 w gl gd j ps ss us B) : PlB w0 w.drew gl gd j ps ss us B := H.later ⟨rfl, rfl, rfl, Nat.le_refl _, fun _ _ => rfl⟩
theorem PlB.cellL (H : PlB w0 w gl gd j ps ss us B) (k : Nat) (hk : k < 3) : w.cell? ⟨gl, k, none⟩ = some (pj j ps k) := by
  rw [cell_of_row w gl k _ _ _ H.lrow, r3_get _ _ hk]
theorem PlB.cellS (H : PlB w0 w gl gd j ps ss us B) (k : Nat) (hk : k < 3) : w.cell? ⟨gd, k, none⟩ = some (.string (ss k)) := by
  rw [cell_of_row w gd k _ _ _ H.srow, r3_get _ _ hk]
theorem PlB.freeL (H : PlB w0 w gl gd j ps ss us B) (k : Nat) : w.frozen? ⟨gl, k, none⟩ = false := frozen_of_row w gl k _ _ H.lrow
theorem PlB.freeS (H : PlB w0 w gl gd j ps ss us B) (k : Nat) : w.frozen? ⟨gd, k, none⟩ = false := frozen_of_row w gd k _ _ H.srow
/-- a State turned -/
theorem PlB.turn (H : PlB w0 w gl gd j ps ss us B) (h2 : 2 ≤ w0.heap.size) (k : Nat) (hk : k < j) (x : ByteArray) (hx : x.size ≤ B) (hst : StAt w' (ps k) (nb x)) (ho : w.grownBy w' (some (ps k))) : PlB w0 w' gl gd j ps ss (upd us k x) B := by
  obtain ⟨a1, a2, a3⟩ := H.pl k hk
  refine ⟨H.tab.only (by omega) ho, only_new H.below ho (Nat.le_refl _) a1, (ho.block _ (lt_of_row H.lrow) (by simp; omega)).trans H.lrow, (ho.block _ (lt_of_row H.srow) (by simp; omega)).trans H.srow, H.ol, H.od, H.pl, H.ds, fun i hi => ?_, H.siz, fun i hi => ?_⟩
  · by_cases e : i = k
    · rw [e, upd_same]; exact hst
    · rw [upd_ne _ _ _ _ e]
      exact (H.st i hi).only ho (fun h => e (H.ds i k hi hk h))
  · by_cases e : i = k
    · rw [e, upd_same]; exact hx
    · rw [upd_ne _ _ _ _ e]; exact H.siu i hi
/-- a string laid -/
theorem PlB.says (H : PlB w0 w gl gd j ps ss us B) (h2 : 2 ≤ w0.heap.size) (k : Nat) (hk : k < 3) (x : ByteArray) (hx : x.size ≤ B) : PlB w0 (w.setCell ⟨gd, k, none⟩ (.string x)) gl gd j ps (upd ss k x) us B := by
  have h1 := H.ol
  have h3 := H.od
  have hne : ∀ g, g ≠ gd → (w.setCell ⟨gd, k, none⟩ (.string x)).heap[g]? = w.heap[g]? := fun g hg => Below.heap_setCell _ _ _ _ (by simpa using hg)
  refine ⟨H.tab.only (g := gd) (by omega) (only_setG (World.grownBy.refl w _) k _), H.below.setCell (by simp; omega) _, (hne gl (by omega)).trans H.lrow, ?_, H.ol, H.od, H.pl, H.ds, fun i hi => (H.st i hi).far (hne _ (H.pl i hi).2.2), fun i hi => ?_, H.siu⟩
  · rw [heap_setCell_same w gd k _ _ _ H.srow]
    congr 2
    rw [List.setIfInBounds_toArray, r3_set _ (fun i => .string (upd ss k x i)) k _ hk (by rw [upd_same]) (fun i _ hi => by rw [upd_ne _ _ _ _ hi])]
  · by_cases e : i = k
    · rw [e, upd_same]; exact hx
    · rw [upd_ne _ _ _ _ e]; exact H.siz i hi
/-- a pointer to another State laid -/
theorem PlB.points (H : PlB w0 w gl gd j ps ss us B) (h2 : 2 ≤ w0.heap.size) (k g J : Nat) (x : ByteArray) (hJ : J = j ∧ k < j ∨ J = j + 1 ∧ k = j) (hk : k < 3) (hx : x.size ≤ B) (hst : StAt w g (nb x)) (hg : w0.heap.size ≤ g ∧ g ≠ gl ∧ g ≠ gd) (hnew : ∀ i, i < j → ps i ≠ g) :
    PlB w0 (w.setCell ⟨gl, k, none⟩ (pv g)) gl gd J (upd ps k g) ss (upd us k x) B := by
  have h1 := H.ol
  have h3 := H.od
  have hne : ∀ b, b ≠ gl → (w.setCell ⟨gl, k, none⟩ (pv g)).heap[b]? = w.heap[b]? := fun b hb => Below.heap_setCell _ _ _ _ (by simpa using hb)
  refine ⟨H.tab.only (g := gl) (by omega) (only_setG (World.grownBy.refl w _) k _), H.below.setCell (by simp; omega) _, ?_, (hne gd (by omega)).trans H.srow, H.ol, H.od, fun i hi => ?_, fun a b ha hb => ?_, fun i hi => ?_, H.siz, fun i hi => ?_⟩
  · rw [heap_setCell_same w gl k _ _ _ H.lrow]
    congr 2
    rw [List.setIfInBounds_toArray, r3_set _ (pj J (upd ps k g)) k _ hk (by rw [pj, if_pos (by omega), upd_same]) (fun i _ hi => by
      rw [pj, pj, upd_ne _ _ _ _ hi]
      by_cases e : i < j
      · rw [if_pos e, if_pos (by omega)]
      · rw [if_neg e, if_neg (by omega)])]
  · by_cases e : i = k
    · rw [e, upd_same]; exact hg
    · rw [upd_ne _ _ _ _ e]; exact H.pl i (by omega)
  · by_cases e : a = k
    · by_cases f : b = k
      · omega
      · rw [e, upd_same, upd_ne _ _ _ _ f]
        intro h
        exact absurd h.symm (hnew b (by omega))
    · by_cases f : b = k
      · rw [f, upd_same, upd_ne _ _ _ _ e]
        intro h
        exact absurd h (hnew a (by omega))
      · rw [upd_ne _ _ _ _ e, upd_ne _ _ _ _ f]
        exact H.ds a b (by omega) (by omega)
  · by_cases e : i = k
    · rw [e, upd_same, upd_same]; exact hst.far (hne _ hg.2.1)
    · rw [upd_ne _ _ _ _ e, upd_ne _ _ _ _ e]; exact (H.st i (by omega)).far (hne _ (H.pl i (by omega)).2.1)
  · by_cases e : i = k
    · rw [e, upd_same]; exact hx
    · rw [upd_ne _ _ _ _ e]; exact H.siu i (by omega)
end

/-- .. and the call that is being played -/
structure PlO (w0 w : World) (gl gd : Nat) (ps : Nat → Nat) (ss us : Nat → ByteArray) (B go : Nat) (who kind : Int) (txt : ByteArray) : Prop where
  b : PlB w0 w gl gd 3 ps ss us B
  row : w.heap[go]? = some (.cells #[.int .i64 who, .int .i64 kind, .string txt] 52 (0, 0))
  g : gd < go
  p : ∀ k, k < 3 → ps k < go
section
variable {w0 w w' : World} {gl gd B go : Nat} {ps : Nat → Nat} {ss us : Nat → ByteArray} {who kind : Int} {txt : ByteArray}
theorem PlO.later (H : PlO w0 w gl gd ps ss us B go who kind txt) (hb : Below w.heap.size w w') : PlO w0 w' gl gd ps ss us B go who kind txt :=
  ⟨H.b.later hb, (hb.block _ (lt_of_row H.row)).trans H.row, H.g, H.p⟩
theorem PlO.drew (H : PlO w0 w gl gd ps ss us B go who kind txt) : PlO w0 w.drew gl gd ps ss us B go who kind txt := H.later ⟨rfl, rfl, rfl, Nat.le_refl _, fun _ _ => rfl⟩
theorem PlO.turn (H : PlO w0 w gl gd ps ss us B go who kind txt) (h2 : 2 ≤ w0.heap.size) (k : Nat) (hk : k < 3) (x : ByteArray) (hx : x.size ≤ B) (hst : StAt w' (ps k) (nb x)) (ho : w.grownBy w' (some (ps k))) : PlO w0 w' gl gd ps ss (upd us k x) B go who kind txt :=
  ⟨H.b.turn h2 k hk x hx hst ho, (ho.block _ (lt_of_row H.row) (by have := H.p k hk; simp; omega)).trans H.row, H.g, H.p⟩
theorem PlO.more (H : PlO w0 w gl gd ps ss us B go who kind txt) {B' : Nat} (h : B ≤ B') : PlO w0 w gl gd ps ss us B' go who kind txt := ⟨H.b.more h, H.row, H.g, H.p⟩
theorem PlO.start (H : PlB w0 w gl gd 3 ps ss us B) (who kind : Int) (txt : ByteArray) : PlO w0 (w.alloc (.cells #[.int .i64 who, .int .i64 kind, .string txt] 52)) gl gd ps ss us B w.heap.size who kind txt :=
  ⟨H.later ((Below.refl _ _).alloc (Nat.le_refl _) _), heap_alloc_new _ _, lt_of_row H.srow, fun k hk => (H.st k hk).lt⟩
theorem PlO.cellT (H : PlO w0 w gl gd ps ss us B go who kind txt) : w.cell? ⟨go, 2, none⟩ = some (.string txt) := by
  rw [cell_of_row w go 2 _ _ _ H.row]; rfl
end

/-- one call as it came in -/
structure Call where
  who : Int
  kind : Int
  text : ByteArray
/-- the calls as they came in -/
structure IsOps (w : World) (a : Option Addr) (len cap : Nat) (f : Nat → Call) : Prop where
  at_ : 0 < len → ∃ x, a = some x ∧ x.block < w.heap.size ∧ ∀ i, i < len → w.cell? (x.add (i * 3)) = some (.int .i64 (f i).who) ∧ w.cell? (x.add (i * 3 + 1)) = some (.int .i64 (f i).kind) ∧ w.cell? (x.add (i * 3 + 2)) = some (.string (f i).text)
  wf : ∀ i, i < len → (Lit.int .i64 (f i).who).wf = true
/-- their texts' lengths together -/
def tsum (f : Nat → Call) : Nat → Nat
  | 0 => 0
  | n + 1 => tsum f n + (f n).text.size
theorem tsum_mono (f : Nat → Call) {a b : Nat} (h : a ≤ b) : tsum f a ≤ tsum f b := by
  induction b with
  | zero => obtain rfl : a = 0 := by omega
            exact Nat.le_refl _
  | succ n ih =>
    by_cases e : a = n + 1
    · rw [e]; exact Nat.le_refl _
    · have := ih (by omega)
      show _ ≤ tsum f n + _
      omega
end Go.Proofs.YtemioilfedpohaaDoor

