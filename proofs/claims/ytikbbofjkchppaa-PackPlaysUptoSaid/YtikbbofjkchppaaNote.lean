/- The walks of the packer's note and back. -/
import Derived.Test.YtikbbofjkchppaaPmap
namespace Go.Proofs.Ytikbbofjkchppaa
set_option linter.unusedVariables false
set_option linter.unusedSimpArgs false
open Go.RowKit

/-- block gp is a packer -/
structure PkRow (w : World) (gp : Nat) (v : Value) (plain b : Nat) : Prop where
  row : w.heap[gp]? = some (.cells #[v, .int .i64 (plain : Int), .map (some b)] 71 (0, 0))
section
variable {w w' : World} {gp plain b : Nat} {v : Value}
theorem PkRow.cell0 (h : PkRow w gp v plain b) : w.cell? ⟨gp, 0, none⟩ = some v := by rw [cell_of_row w gp 0 _ _ _ h.row]; rfl
theorem PkRow.cell1 (h : PkRow w gp v plain b) : w.cell? ⟨gp, 1, none⟩ = some (.int .i64 (plain : Int)) := by rw [cell_of_row w gp 1 _ _ _ h.row]; rfl
theorem PkRow.cell2 (h : PkRow w gp v plain b) : w.cell? ⟨gp, 2, none⟩ = some (.map (some b)) := by rw [cell_of_row w gp 2 _ _ _ h.row]; rfl
theorem PkRow.free (h : PkRow w gp v plain b) (i : Nat) : w.frozen? ⟨gp, i, none⟩ = false := frozen_of_row w gp i _ _ h.row
theorem PkRow.far (h : PkRow w gp v plain b) (e : w'.heap[gp]? = w.heap[gp]?) : PkRow w' gp v plain b := ⟨e.trans h.row⟩
theorem PkRow.lt (h : PkRow w gp v plain b) : gp < w.heap.size := lt_of_row h.row
end

/-- the map when place i has been noted -/
def noted (s : ByteArray) (i : Nat) (F : List Nat → Option Nat) : List Nat → Option Nat := if i + 4 ≤ s.size then fun x => if x = win (nb s) i then some i else F x else F

set_option maxRecDepth 100000 in
set_option maxHeartbeats 2000000 in
theorem note_any (gp b n plain i : Nat) (v : Value) (F : List Nat → Option Nat) (s : ByteArray) (w : World) (hp : PkRow w gp v plain b) (hm : LastMap w b n F) (hne : gp ≠ b) (hi : i ≤ s.size) (hs : s.size ≤ 1048576) (hn : n < maxLen) :
    Calls Try.prog 29 #[.pointer (some ⟨gp, 0, none⟩), .string s, .int .i64 (i : Int)] w fun e w' => e = .returned (.tuple #[]) ∧ LastMap w' b (n + 1) (noted s i F) ∧ w.grownBy w' (some b) := by
  have w4 : wrap64 ((i : Int) + 4) = (i : Int) + 4 := by unfold wrap64; omega
  have h0 : (0 : Int) ≤ i := by omega
  have HP := Lib.hid hp
  have HM := Lib.hid hm
  clear hp hm
  go_enter Try.func29, Try.ntmps29
  by_cases h4 : i + 4 ≤ s.size
  · have h1 : (i : Int) + 4 ≤ s.size := by omega
    have hc := HP.out.cell2
    go_wp2_with fail
    refine wp_region_noPanic ?_
    refine wp_region_held_drew (S := fun w' => w'.cell? ⟨gp, 2, none⟩ = some (.map (some b))) (by kernel_rfl) hc (fun hHeld => ?_)
    refine wpAnyH_take (i := 0) (oi := _) (v := (.pointer (some ⟨gp, 0, none⟩))) rfl (by kernel_rfl) (by kernel_rfl) (by kernel_rfl) (fun _ _ _ h => h) (Or.inl ⟨by rfl, fun w' _ => by go_simp⟩) hHeld ?_
    try simp only [Act.put, List.getElem_toArray, List.getElem_cons_succ, List.getElem_cons_zero, List.setIfInBounds_toArray, List.set_cons_zero, List.set_cons_succ]
    refine wpAnyH_take (i := 1) (oi := _) (v := (.pointer (some ⟨gp, 0, none⟩))) rfl (by kernel_rfl) (by kernel_rfl) (by kernel_rfl) (fun _ _ _ h => h) (Or.inl ⟨by rfl, fun w' _ => by go_simp⟩) hHeld ?_
    try simp only [Act.put, List.getElem_toArray, List.getElem_cons_succ, List.getElem_cons_zero, List.setIfInBounds_toArray, List.set_cons_zero, List.set_cons_succ]
    refine wpAnyH_take (i := 2) (oi := _) (v := (.pointer (some ⟨gp, 2, none⟩))) rfl (by kernel_rfl) (by kernel_rfl) (by kernel_rfl) (fun _ _ _ h => h) (Or.inl ⟨by rfl, fun w' _ => by go_simp⟩) hHeld ?_
    try simp only [Act.put, List.getElem_toArray, List.getElem_cons_succ, List.getElem_cons_zero, List.setIfInBounds_toArray, List.set_cons_zero, List.set_cons_succ]
    refine wpAnyH_take (i := 3) (oi := _) (v := (.map (some b))) rfl (by kernel_rfl) (by kernel_rfl) (by kernel_rfl) (fun _ _ _ h => h) (Or.inl ⟨by rfl, fun w' hSw => by go_simp⟩) hHeld ?_
    try simp only [Act.put, List.getElem_toArray, List.getElem_cons_succ, List.getElem_cons_zero, List.setIfInBounds_toArray, List.set_cons_zero, List.set_cons_succ]
    refine wpAnyH_take (i := 4) (oi := _) (v := (.string s)) rfl (by kernel_rfl) (by kernel_rfl) (by kernel_rfl) (fun _ _ _ h => h) (Or.inl ⟨by rfl, fun w' _ => by go_simp⟩) hHeld ?_
    try simp only [Act.put, List.getElem_toArray, List.getElem_cons_succ, List.getElem_cons_zero, List.setIfInBounds_toArray, List.set_cons_zero, List.set_cons_succ]
    refine wpAnyH_take (i := 5) (oi := _) (v := (.int .i64 (i : Int))) rfl (by kernel_rfl) (by kernel_rfl) (by kernel_rfl) (fun _ _ _ h => h) (Or.inl ⟨by rfl, fun w' _ => by go_simp⟩) hHeld ?_
    try simp only [Act.put, List.getElem_toArray, List.getElem_cons_succ, List.getElem_cons_zero, List.setIfInBounds_toArray, List.set_cons_zero, List.set_cons_succ]
    refine wpAnyH_take (i := 7) (oi := _) (v := (.int .i64 (i : Int))) rfl (by kernel_rfl) (by kernel_rfl) (by kernel_rfl) (fun _ _ _ h => h) (Or.inl ⟨by rfl, fun w' _ => by go_simp⟩) hHeld ?_
    try simp only [Act.put, List.getElem_toArray, List.getElem_cons_succ, List.getElem_cons_zero, List.setIfInBounds_toArray, List.set_cons_zero, List.set_cons_succ]
    refine wpAnyH_ready (rs := [6]) (by kernel_rfl) (by simp) ?_
    refine AllReadyH.cons (o := _) rfl (fun K hK => ?_) AllReadyH.nil
    rw [if_pos (by rfl)]
    go_simp
    go_at_call 41
    refine (four_any s i h4 (by omega) _).mono ?_
    rintro e w2 ⟨rfl, hb2⟩
    have hb3 : Below w.heap.size w w2 := ⟨hb2.os, hb2.tape, hb2.output, hb2.size, hb2.block⟩
    have hg2 : w.grownBy w2 (some b) := only_below (World.grownBy.refl w _) hb3
    have hm2 := HM.out.kept (only_below (row := none) (World.grownBy.refl w _) hb3) (by simp)
    have hp2 := HP.out.far (hb3.block _ HP.out.lt)
    obtain ⟨w3, hrun, hm3, hg3⟩ := hm2.store (win_is s i h4) i (by omega) hn
    have hp3 := hp2.far (hg3.block _ hp2.lt (by simp; omega))
    have hout : LastMap w3 b (n + 1) (noted s i F) ∧ w.grownBy w3 (some b) := ⟨by rw [noted, if_pos h4]; exact hm3, only_trans hg2 hg3⟩
    refine hK.out _ _ hp2.cell2 (fun hHeld => ?_)
    clear hK K
    try dsimp only
    try simp only [Act.put, List.getElem_toArray, List.getElem_cons_succ, List.getElem_cons_zero, List.setIfInBounds_toArray, List.set_cons_zero, List.set_cons_succ]
    refine wpAnyH_ready (rs := [8]) (by kernel_rfl) (by simp) ?_
    refine AllReadyH.cons (o := _) rfl (fun K hK => ?_) AllReadyH.nil
    rw [if_pos (by rfl)]
    go_simp
    refine hK.out _ _ hp3.cell2 (fun hHeld => ?_)
    clear hK K
    try dsimp only
    try simp only [Act.put, List.getElem_toArray, List.getElem_cons_succ, List.getElem_cons_zero, List.setIfInBounds_toArray, List.set_cons_zero, List.set_cons_succ]
    refine wpAnyH_done (by kernel_rfl) ?_ _
    refine NoPanic.normal ?_
    go_wp2_with fail
    go_end0
    exact ⟨rfl, hout⟩
  · have h1 : ¬ (i : Int) + 4 ≤ s.size := by omega
    go_wp2_with fail
    go_end0
    refine ⟨rfl, ?_, World.grownBy.refl w _⟩
    rw [noted, if_neg h4]
    obtain ⟨D, a, b, c⟩ := HM.out
    exact ⟨D, a.mono (by omega), b, c⟩
end Go.Proofs.Ytikbbofjkchppaa

