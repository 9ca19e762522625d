/- The walks of tree's walker: add, below. -/
import Derived.Test.YtlcppkcclolgcaaFld
namespace Go.Proofs.Ytlcppkcclolgcaa
set_option linter.unusedVariables false
set_option linter.unusedSimpArgs false
open Go.RowKit

/-- a walker in memory: block g, counting b bytes; below B nothing has changed since w0 -/
structure WkS (w0 : World) (B g : Nat) (b : Nat) (w : World) : Prop where
  row : w.heap[g]? = some (.cells #[.int .i64 (b : Int)] 133 (0, 0))
  bel : Below B w0 w
  hg : B ≤ g
section
variable {w0 w w' : World} {B g b : Nat}
theorem WkS.cell (H : WkS w0 B g b w) : w.cell? ⟨g, 0, none⟩ = some (.int .i64 (b : Int)) := cell_of_row w g 0 _ _ _ H.row
theorem WkS.free (H : WkS w0 B g b w) : w.frozen? ⟨g, 0, none⟩ = false := frozen_of_row w g 0 _ _ H.row
theorem WkS.lt (H : WkS w0 B g b w) : g < w.heap.size := lt_of_row H.row
theorem WkS.later (H : WkS w0 B g b w) (hb : Below w.heap.size w w') : WkS w0 B g b w' :=
  ⟨(hb.block _ H.lt).trans H.row, H.bel.trans (hb.mono (Nat.le_trans H.hg (Nat.le_of_lt H.lt))), H.hg⟩
theorem WkS.drew (H : WkS w0 B g b w) : WkS w0 B g b w.drew := H.later (Below.refl _ _).drew
theorem WkS.put (H : WkS w0 B g b w) (b' : Nat) : WkS w0 B g b' (w.setCell ⟨g, 0, none⟩ (.int .i64 (b' : Int))) :=
  ⟨by rw [heap_setCell_same w g 0 _ _ _ H.row]; rfl, H.bel.setCell H.hg _, H.hg⟩
end
/-- what a walk gives up with -/
def offV (path : ByteArray) (code : Int) : Value := .iface 135 (.agg #[.string path, .int .i64 code])
def addC (b n : Nat) : Except Int Nat := if b + n ≤ 1048576 then .ok (b + n) else .error 2
/-- how a part of the walk ends: it goes on, or gives up -/
def WkPost (w0 : World) (B g : Nat) (w : World) (R : Except Int Nat) (e : Ending) (w' : World) : Prop :=
  w.grownBy w' (some g) ∧ ((∃ b', R = .ok b' ∧ b' ≤ 1048576 ∧ e = .returned (.tuple #[]) ∧ WkS w0 B g b' w') ∨ (∃ c p b', R = .error c ∧ e = .panicked [{ v := offV p c, recovered := false }] ∧ WkS w0 B g b' w'))
theorem only_later {w wA w' : World} {g : Nat} (hb : Below w.heap.size w wA) (hg : wA.grownBy w' (some g)) : w.grownBy w' (some g) := only_trans (only_below (World.grownBy.refl w _) hb) hg
theorem only_of {w w' : World} {g : Nat} (hb : Below w.heap.size w w') : w.grownBy w' (some g) := only_below (World.grownBy.refl w _) hb
set_option maxRecDepth 100000 in
set_option maxHeartbeats 2000000 in
theorem add_any (w0 : World) (B g b n : Nat) (path : ByteArray) (w : World) (H : WkS w0 B g b w) (hb : b ≤ 1048576) (hn : n ≤ 100000000) :
    Calls Try.prog 70 #[.pointer (some ⟨g, 0, none⟩), .string path, .int .i64 (n : Int)] w fun e w' => (w.grownBy w' (some g) ∧ WkS w0 B g (b + n) w') ∧
      ((b + n ≤ 1048576 ∧ e = .returned (.tuple #[])) ∨ (1048576 < b + n ∧ e = .panicked [{ v := offV path 2, recovered := false }])) := by
  have c0 := H.cell
  have f0 := H.free
  have h1 := H.put (b + n)
  have k0 := h1.cell
  have HF := Lib.hid h1
  have HG := Lib.hid (only_setG (World.grownBy.refl w (some g)) 0 (.int .i64 ((b + n : Nat) : Int)))
  have e1 : ((b + n : Nat) : Int) = (b : Int) + n := by omega
  rw [e1] at k0
  have hb0 : (0 : Int) ≤ b := by omega
  have hn0 : (0 : Int) ≤ n := by omega
  have hb2 : (b : Int) ≤ 1048576 := by omega
  have hn2 : (n : Int) ≤ 100000000 := by omega
  have HE := Lib.hid e1
  clear h1 H e1
  by_cases hle : b + n ≤ 1048576
  · have hleI : (b : Int) + n ≤ 1048576 := by omega
    go_enter Try.func70, Try.ntmps70
    go_wp2_with fail
    go_end0
    have h := HF.out
    have h2 := HG.out
    rw [HE.out] at h h2
    exact ⟨⟨h2, h⟩, .inl ⟨hle, rfl⟩⟩
  · have hleI : 1048576 < (b : Int) + n := by omega
    go_enter Try.func70, Try.ntmps70
    go_wp2_with fail
    have h := HF.out
    have h2 := HG.out
    rw [HE.out] at h h2
    exact ⟨rfl, ⟨h2, h⟩, .inr ⟨by omega, rfl⟩⟩
theorem addP_any (w0 : World) (B g b n : Nat) (path : ByteArray) (w : World) (H : WkS w0 B g b w) (hb : b ≤ 1048576) (hn : n ≤ 100000000) :
    Calls Try.prog 70 #[.pointer (some ⟨g, 0, none⟩), .string path, .int .i64 (n : Int)] w fun e w' => WkPost w0 B g w (addC b n) e w' := by
  refine (add_any w0 B g b n path w H hb hn).mono ?_
  rintro e w' ⟨⟨hg, h⟩, ⟨h1, rfl⟩ | ⟨h1, rfl⟩⟩
  · exact ⟨hg, .inl ⟨b + n, if_pos h1, h1, rfl, h⟩⟩
  · exact ⟨hg, .inr ⟨2, path, b + n, if_neg (by omega), rfl, h⟩⟩
/-- the path of a kid -/
def belowV (path kid : ByteArray) (depth : Nat) : ByteArray := if depth = 1 then kid else path ++ ⟨#[47]⟩ ++ kid
theorem belowV_size (path kid : ByteArray) (depth : Nat) : (belowV path kid depth).size ≤ path.size + 1 + kid.size := by
  unfold belowV
  split
  · omega
  · rw [ByteArray.size_append, ByteArray.size_append]
    show path.size + 1 + kid.size ≤ _
    omega
theorem below_any (path kid : ByteArray) (depth : Nat) (hp : path.size ≤ 1099511627776) (hk : kid.size ≤ 1099511627776) (hd : depth ≤ 1000) (w : World) :
    Calls Try.prog 71 #[.string path, .string kid, .int .i64 (depth : Int)] w fun e w' => e = .returned (.string (belowV path kid depth)) ∧ w = w' := by
  have l1 : (path ++ (⟨#[47]⟩ : ByteArray)).size ≤ 1099511627777 := by
    rw [ByteArray.size_append]
    show path.size + 1 ≤ _
    omega
  unfold belowV
  by_cases h1 : depth = 1
  · subst h1
    rw [if_pos rfl]
    go_enter Try.func71, Try.ntmps71
    go_wp2_with fail
    go_ret
    exact ⟨rfl, rfl⟩
  · rw [if_neg h1]
    have hd1 : ((depth : Int) == 1) = false := by simp; omega
    go_enter Try.func71, Try.ntmps71
    go_wp2_with fail
    go_ret
    exact ⟨rfl, rfl⟩
end Go.Proofs.Ytlcppkcclolgcaa

