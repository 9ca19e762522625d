/- The walk of pack.four: the four bytes from a place on. -/
import Derived.Test.YtikbbofjkchppaaPkb
namespace Go.Proofs.Ytikbbofjkchppaa
set_option linter.unusedVariables false
set_option linter.unusedSimpArgs false
open Go.RowKit

/-- the four bytes from place i on -/
def win (S : List Nat) (i : Nat) : List Nat := [S.getD i 0, S.getD (i + 1) 0, S.getD (i + 2) 0, S.getD (i + 3) 0]
theorem getD_nb (m : ByteArray) (j : Nat) (h : j < m.size) : (nb m).getD j 0 = (m[j]'h).toNat := by
  simp [nb, List.getD_eq_getElem?_getD, h]
  rfl
theorem info4 : (Try.prog.info? 88).map (·.size) = some 4 := by kernel_rfl
set_option maxRecDepth 100000 in
set_option maxHeartbeats 2000000 in
theorem four_any (s : ByteArray) (i : Nat) (hi : i + 4 ≤ s.size) (hs : s.size ≤ 140737488351232) (w : World) : Calls Try.prog 41 #[.string s, .int .i64 (i : Int)] w fun e w' => e = .returned (.agg (cw .u8 (win (nb s) i))) ∧ Below w.heap.size w w' := by
  have h0 : (0 : Int) ≤ i := by omega
  have h1 : (i : Int) < s.size := by omega
  have h2 : (i : Int) + 1 < s.size := by omega
  have h3 : (i : Int) + 2 < s.size := by omega
  have h4 : (i : Int) + 3 < s.size := by omega
  have w1 : wrap64 ((i : Int) + 1) = (i : Int) + 1 := by unfold wrap64; omega
  have w2 : wrap64 ((i : Int) + 2) = (i : Int) + 2 := by unfold wrap64; omega
  have w3 : wrap64 ((i : Int) + 3) = (i : Int) + 3 := by unfold wrap64; omega
  have b0 : (s[i]'(by omega)).toNat = (nb s).getD i 0 := (getD_nb s i (by omega)).symm
  have b1 : (s[i + 1]'(by omega)).toNat = (nb s).getD (i + 1) 0 := (getD_nb s (i + 1) (by omega)).symm
  have b2 : (s[i + 2]'(by omega)).toNat = (nb s).getD (i + 2) 0 := (getD_nb s (i + 2) (by omega)).symm
  have b3 : (s[i + 3]'(by omega)).toNat = (nb s).getD (i + 3) 0 := (getD_nb s (i + 3) (by omega)).symm
  have e0 : (i : Int).toNat = i := by omega
  have e1 : ((i : Int) + 1).toNat = i + 1 := by omega
  have e2 : ((i : Int) + 2).toNat = i + 2 := by omega
  have e3 : ((i : Int) + 3).toNat = i + 3 := by omega
  have wI1 : IntKind.i64.wrap ((i : Int) + 1) = (i : Int) + 1 := by simp [IntKind.wrap, IntKind.bits, IntKind.signed]; omega
  have wI2 : IntKind.i64.wrap ((i : Int) + 2) = (i : Int) + 2 := by simp [IntKind.wrap, IntKind.bits, IntKind.signed]; omega
  have wI3 : IntKind.i64.wrap ((i : Int) + 3) = (i : Int) + 3 := by simp [IntKind.wrap, IntKind.bits, IntKind.signed]; omega
  have g1 : (0 : Int) ≤ (i : Int) + 1 := by omega
  have g2 : (0 : Int) ≤ (i : Int) + 2 := by omega
  have g3 : (0 : Int) ≤ (i : Int) + 3 := by omega
  obtain ⟨x0, hx0⟩ : ∃ x, x = (nb s).getD i 0 := ⟨_, rfl⟩
  obtain ⟨x1, hx1⟩ : ∃ x, x = (nb s).getD (i + 1) 0 := ⟨_, rfl⟩
  obtain ⟨x2, hx2⟩ : ∃ x, x = (nb s).getD (i + 2) 0 := ⟨_, rfl⟩
  obtain ⟨x3, hx3⟩ : ∃ x, x = (nb s).getD (i + 3) 0 := ⟨_, rfl⟩
  have hwin : win (nb s) i = [x0, x1, x2, x3] := by rw [win, hx0, hx1, hx2, hx3]
  rw [← hx0] at b0
  rw [← hx1] at b1
  rw [← hx2] at b2
  rw [← hx3] at b3
  rw [hwin]
  clear hx0 hx1 hx2 hx3 hwin
  go_enter Try.func41, Try.ntmps41
  go_wp2_with fail
  refine wp_region_any (by kernel_rfl) ?_
  change wpAny _ _ _ _ _ _ _ (World.drew _)
  refine wpAny_take (i := 0) (oi := _) (v := (.string s)) rfl (by kernel_rfl) (by kernel_rfl) (by kernel_rfl) (fun _ _ _ h => h) (Or.inl ⟨by rfl, fun w' => by go_simp⟩) ?_
  try simp only [Act.put, List.getElem_toArray, List.getElem_cons_succ, List.getElem_cons_zero, List.setIfInBounds_toArray, List.set_cons_zero, List.set_cons_succ]
  refine wpAny_take (i := 1) (oi := _) (v := (.int .i64 (i : Int))) rfl (by kernel_rfl) (by kernel_rfl) (by kernel_rfl) (fun _ _ _ h => h) (Or.inl ⟨by rfl, fun w' => by go_simp⟩) ?_
  try simp only [Act.put, List.getElem_toArray, List.getElem_cons_succ, List.getElem_cons_zero, List.setIfInBounds_toArray, List.set_cons_zero, List.set_cons_succ]
  refine wpAny_take (i := 2) (oi := _) (v := (.int .u8 (x0 : Int))) rfl (by kernel_rfl) (by kernel_rfl) (by kernel_rfl) (fun _ _ _ h => h) (Or.inl ⟨by rfl, fun w' => by go_simp⟩) ?_
  try simp only [Act.put, List.getElem_toArray, List.getElem_cons_succ, List.getElem_cons_zero, List.setIfInBounds_toArray, List.set_cons_zero, List.set_cons_succ]
  refine wpAny_take (i := 3) (oi := _) (v := (.string s)) rfl (by kernel_rfl) (by kernel_rfl) (by kernel_rfl) (fun _ _ _ h => h) (Or.inl ⟨by rfl, fun w' => by go_simp⟩) ?_
  try simp only [Act.put, List.getElem_toArray, List.getElem_cons_succ, List.getElem_cons_zero, List.setIfInBounds_toArray, List.set_cons_zero, List.set_cons_succ]
  refine wpAny_take (i := 4) (oi := _) (v := (.int .i64 (i : Int))) rfl (by kernel_rfl) (by kernel_rfl) (by kernel_rfl) (fun _ _ _ h => h) (Or.inl ⟨by rfl, fun w' => by go_simp⟩) ?_
  try simp only [Act.put, List.getElem_toArray, List.getElem_cons_succ, List.getElem_cons_zero, List.setIfInBounds_toArray, List.set_cons_zero, List.set_cons_succ]
  refine wpAny_take (i := 5) (oi := _) (v := (.int .i64 ((i : Int) + 1))) rfl (by kernel_rfl) (by kernel_rfl) (by kernel_rfl) (fun _ _ _ h => h) (Or.inl ⟨by rfl, fun w' => by go_simp⟩) ?_
  try simp only [Act.put, List.getElem_toArray, List.getElem_cons_succ, List.getElem_cons_zero, List.setIfInBounds_toArray, List.set_cons_zero, List.set_cons_succ]
  refine wpAny_take (i := 6) (oi := _) (v := (.int .u8 (x1 : Int))) rfl (by kernel_rfl) (by kernel_rfl) (by kernel_rfl) (fun _ _ _ h => h) (Or.inl ⟨by rfl, fun w' => by go_simp⟩) ?_
  try simp only [Act.put, List.getElem_toArray, List.getElem_cons_succ, List.getElem_cons_zero, List.setIfInBounds_toArray, List.set_cons_zero, List.set_cons_succ]
  refine wpAny_take (i := 7) (oi := _) (v := (.string s)) rfl (by kernel_rfl) (by kernel_rfl) (by kernel_rfl) (fun _ _ _ h => h) (Or.inl ⟨by rfl, fun w' => by go_simp⟩) ?_
  try simp only [Act.put, List.getElem_toArray, List.getElem_cons_succ, List.getElem_cons_zero, List.setIfInBounds_toArray, List.set_cons_zero, List.set_cons_succ]
  refine wpAny_take (i := 8) (oi := _) (v := (.int .i64 (i : Int))) rfl (by kernel_rfl) (by kernel_rfl) (by kernel_rfl) (fun _ _ _ h => h) (Or.inl ⟨by rfl, fun w' => by go_simp⟩) ?_
  try simp only [Act.put, List.getElem_toArray, List.getElem_cons_succ, List.getElem_cons_zero, List.setIfInBounds_toArray, List.set_cons_zero, List.set_cons_succ]
  refine wpAny_take (i := 9) (oi := _) (v := (.int .i64 ((i : Int) + 2))) rfl (by kernel_rfl) (by kernel_rfl) (by kernel_rfl) (fun _ _ _ h => h) (Or.inl ⟨by rfl, fun w' => by go_simp⟩) ?_
  try simp only [Act.put, List.getElem_toArray, List.getElem_cons_succ, List.getElem_cons_zero, List.setIfInBounds_toArray, List.set_cons_zero, List.set_cons_succ]
  refine wpAny_take (i := 10) (oi := _) (v := (.int .u8 (x2 : Int))) rfl (by kernel_rfl) (by kernel_rfl) (by kernel_rfl) (fun _ _ _ h => h) (Or.inl ⟨by rfl, fun w' => by go_simp⟩) ?_
  try simp only [Act.put, List.getElem_toArray, List.getElem_cons_succ, List.getElem_cons_zero, List.setIfInBounds_toArray, List.set_cons_zero, List.set_cons_succ]
  refine wpAny_take (i := 11) (oi := _) (v := (.string s)) rfl (by kernel_rfl) (by kernel_rfl) (by kernel_rfl) (fun _ _ _ h => h) (Or.inl ⟨by rfl, fun w' => by go_simp⟩) ?_
  try simp only [Act.put, List.getElem_toArray, List.getElem_cons_succ, List.getElem_cons_zero, List.setIfInBounds_toArray, List.set_cons_zero, List.set_cons_succ]
  refine wpAny_take (i := 12) (oi := _) (v := (.int .i64 (i : Int))) rfl (by kernel_rfl) (by kernel_rfl) (by kernel_rfl) (fun _ _ _ h => h) (Or.inl ⟨by rfl, fun w' => by go_simp⟩) ?_
  try simp only [Act.put, List.getElem_toArray, List.getElem_cons_succ, List.getElem_cons_zero, List.setIfInBounds_toArray, List.set_cons_zero, List.set_cons_succ]
  refine wpAny_take (i := 13) (oi := _) (v := (.int .i64 ((i : Int) + 3))) rfl (by kernel_rfl) (by kernel_rfl) (by kernel_rfl) (fun _ _ _ h => h) (Or.inl ⟨by rfl, fun w' => by go_simp⟩) ?_
  try simp only [Act.put, List.getElem_toArray, List.getElem_cons_succ, List.getElem_cons_zero, List.setIfInBounds_toArray, List.set_cons_zero, List.set_cons_succ]
  refine wpAny_take (i := 14) (oi := _) (v := (.int .u8 (x3 : Int))) rfl (by kernel_rfl) (by kernel_rfl) (by kernel_rfl) (fun _ _ _ h => h) (Or.inl ⟨by rfl, fun w' => by go_simp⟩) ?_
  try simp only [Act.put, List.getElem_toArray, List.getElem_cons_succ, List.getElem_cons_zero, List.setIfInBounds_toArray, List.set_cons_zero, List.set_cons_succ]
  refine wpAny_take (i := 15) (oi := _) (v := (.agg (cw .u8 [x0, x1, x2, x3]))) rfl (by kernel_rfl) (by kernel_rfl) (by kernel_rfl) (fun _ _ _ h => h) (Or.inl ⟨by rfl, fun w' => by (go_simp; rfl)⟩) ?_
  try simp only [Act.put, List.getElem_toArray, List.getElem_cons_succ, List.getElem_cons_zero, List.setIfInBounds_toArray, List.set_cons_zero, List.set_cons_succ]
  refine wpAny_ready (rs := [16]) (by kernel_rfl) (by simp) ?_
  refine AllReady.cons (o := _) rfl (fun K hK => ?_) AllReady.nil
  rw [if_pos (by rfl)]
  refine wp_store_row 88 _ _ rfl w.heap.size _ rfl rfl 88 (cw .u8 [0, 0, 0, 0]) ?_ ?_ ?_ ?_ ?_
  · exact heap_alloc_new _ _
  · exact info4
  · rfl
  · exact cw_one _ _
  · refine hK _ _ ?_
    clear hK K
    try simp only [Act.put, List.getElem_toArray, List.getElem_cons_succ, List.getElem_cons_zero, List.setIfInBounds_toArray, List.set_cons_zero, List.set_cons_succ]
    refine wpAny_done (by kernel_rfl) ?_ _
    have hrow : (((w.alloc (.cells (cw .u8 [0, 0, 0, 0]) 88)).drew).setRow w.heap.size (cw .u8 [x0, x1, x2, x3])).heap[w.heap.size]? = some (.cells (cw .u8 [x0, x1, x2, x3]) 88 (0, 0)) := setRow_heap _ _ _ _ _ _ (heap_alloc_new _ _)
    have hb : Below w.heap.size w (((w.alloc (.cells (cw .u8 [0, 0, 0, 0]) 88)).drew).setRow w.heap.size (cw .u8 [x0, x1, x2, x3])) := below_setRow ((Below.refl _ _).alloc (Nat.le_refl _) _).drew (Nat.le_refl _) _
    go_wp2_with fail
    exact bodyPost_ret (results_cell_row rfl _ _ w.heap.size 88 _ (0, 0) _ rfl hrow Try.underlying88 rfl info4) rfl ⟨rfl, hb⟩
end Go.Proofs.Ytikbbofjkchppaa

