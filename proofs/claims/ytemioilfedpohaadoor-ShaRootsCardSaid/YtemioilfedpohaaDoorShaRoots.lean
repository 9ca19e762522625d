/- The walk of the law ShaRoots. -/
import Derived.Test.YtemioilfedpohaaDoorRtd
import Derived.Test.YtemioilfedpohaaDoorSbWalkShaBlocks
import Derived.Test.YtemioilfedpohaaDoorRof
namespace Go.Proofs.YtemioilfedpohaaDoor
set_option linter.unusedVariables false
set_option linter.unusedSimpArgs false
open Go.RowKit

theorem eq8 (xs : List Nat) (hl : xs.length = 8) (w : World) : (binOp .eql 23 (.agg (cw .u32 xs)) (.agg (cw .u32 xs))).run Tryd.prog w = .ok (.bool true) w := by
  obtain ⟨inf, hinf⟩ := Option.isSome_iff_exists.1 (show (Tryd.prog.info? 22).isSome = true by kernel_rfl)
  have := eqr_eql (P := Tryd.prog) (k := .u32) (t := 23) (e := 22) (n := 8) (inf := inf) Tryd.underlying23 Tryd.underlying22 hinf (by kernel_rfl) xs xs hl hl w
  rw [decide_eq_true rfl] at this
  exact this
theorem rooted_lit (b h : List Nat) (h0 h1 h2 h3 h4 h5 h6 h7 : Nat) (hh : h = [h0, h1, h2, h3, h4, h5, h6, h7]) (hb : b.length = 64) (hs : Small h) (hy : Bytes b) (w : World) :
    Calls Tryd.prog 13 #[.agg (cw .u32 h).toList.toArray, .agg (cw .u8 b).toList.toArray] w
      fun e w' => e = .returned (.agg (cw .u32 (blk KT h b))) ∧ Below w.heap.size w w' := by
  rw [Array.toArray_toList, Array.toArray_toList]
  exact rooted_any h b h0 h1 h2 h3 h4 h5 h6 h7 hh hb hs hy w

set_option maxRecDepth 100000 in
set_option maxHeartbeats 2000000 in
theorem roots_walk {TK : TypeId} (h b : List Nat) (h0 h1 h2 h3 h4 h5 h6 h7 : Nat) (hh : h = [h0, h1, h2, h3, h4, h5, h6, h7]) (hb : b.length = 64) (hs : Small h) (hy : Bytes b) (w : World)
    (hK : w.heap[0]? = some (.cells (cw .u32 KT) TK (0, 0))) :
    Calls Tryd.prog 4 #[.agg (cw .u32 h), .agg (cw .u8 b)] w fun e w' => e = .returned (.bool true) ∧ Below w.heap.size w w' := by
  have hst : HoldB w ((w.alloc (.cells (cw .u32 h) 23)).alloc (.cells (cw .u8 b) 24)) h b := by
    have e1 : ((w.alloc (.cells (cw .u32 h) 23)).alloc (.cells (cw .u8 b) 24)).heap = (w.heap.push (.cells (cw .u32 h) 23)).push (.cells (cw .u8 b) 24) := rfl
    refine ⟨by rw [e1]; simp, ?_, ?_, ((Below.refl _ _).alloc (Nat.le_refl _) _).alloc (by simp) _⟩
    all_goals rw [e1]; simp only [Array.getElem?_push, Array.size_push]
    · rw [if_neg (by omega), if_pos trivial]
    · rw [if_pos trivial]
  have hw0 : 0 < w.heap.size := by
    rcases Nat.eq_zero_or_pos w.heap.size with h | h
    · rw [Array.getElem?_eq_none (by omega)] at hK; cases hK
    · exact h
  have HK := Lib.hid hK
  have HST := Lib.hid hst
  have hi2 : (Tryd.prog.info? 24).map (·.size) = some (cw .u8 b).toList.length := by rw [Array.length_toList, cw_size, hb]; exact info64b
  have hi1 : (Tryd.prog.info? 23).map (·.size) = some (cw .u32 h).toList.length := by rw [Array.length_toList, cw_size, hh]; exact info8
  have HH := Lib.hid hh
  have he1 := eq8 (blk KT h b) (blk_length KT h b (by rw [hh]; rfl) hs)
  have he2 := eq8 ST rfl
  clear hK hst hh
  go_enter Tryd.func4, Tryd.ntmps4
  go_wp2_with fail
  refine wp_region_noPanic ?_
  refine wp_region_held_drew (S := fun w' => HoldB w w' h b) (by kernel_rfl) HST.out.drew1 (fun hHeld => ?_)
  refine wpAnyH_take (i := 0) (oi := _) (v := _) rfl (by kernel_rfl) (by kernel_rfl) (by kernel_rfl) (fun _ _ _ h => h) (yieldsIf_load_mid (by rfl) _ _ rfl w.heap.size 0 rfl ((cw .u32 h).toList) _ (fun _ H => H.range1) Tryd.underlying23 rfl hi1) hHeld ?_
  try simp only [Act.put, List.getElem_toArray, List.getElem_cons_succ, List.getElem_cons_zero, List.setIfInBounds_toArray, List.set_cons_zero, List.set_cons_succ]
  refine wpAnyH_take (i := 1) (oi := _) (v := _) rfl (by kernel_rfl) (by kernel_rfl) (by kernel_rfl) (fun _ _ _ h => h) (yieldsIf_load_mid (by rfl) _ _ rfl (w.heap.size+1) 0 rfl ((cw .u8 b).toList) _ (fun _ H => H.range2) Tryd.underlying24 rfl hi2) hHeld ?_
  try simp only [Act.put, List.getElem_toArray, List.getElem_cons_succ, List.getElem_cons_zero, List.setIfInBounds_toArray, List.set_cons_zero, List.set_cons_succ]
  refine wpAnyH_take (i := 3) (oi := _) (v := _) rfl (by kernel_rfl) (by kernel_rfl) (by kernel_rfl) (fun _ _ _ h => h) (yieldsIf_load_mid (by rfl) _ _ rfl w.heap.size 0 rfl ((cw .u32 h).toList) _ (fun _ H => H.range1) Tryd.underlying23 rfl hi1) hHeld ?_
  try simp only [Act.put, List.getElem_toArray, List.getElem_cons_succ, List.getElem_cons_zero, List.setIfInBounds_toArray, List.set_cons_zero, List.set_cons_succ]
  refine wpAnyH_take (i := 4) (oi := _) (v := _) rfl (by kernel_rfl) (by kernel_rfl) (by kernel_rfl) (fun _ _ _ h => h) (yieldsIf_load_mid (by rfl) _ _ rfl (w.heap.size+1) 0 rfl ((cw .u8 b).toList) _ (fun _ H => H.range2) Tryd.underlying24 rfl hi2) hHeld ?_
  try simp only [Act.put, List.getElem_toArray, List.getElem_cons_succ, List.getElem_cons_zero, List.setIfInBounds_toArray, List.set_cons_zero, List.set_cons_succ]
  refine wpAnyH_ready (rs := [2]) (by kernel_rfl) (by simp) ?_
  refine AllReadyH.cons (o := _) rfl (fun K hK => ?_) AllReadyH.nil
  rw [if_pos (by rfl)]
  go_simp
  go_at_call 11
  refine (block_lit KT b h h0 h1 h2 h3 h4 h5 h6 h7 HH.out hb hs hy KT_length _ ((hHeld.below.block 0 hw0).trans HK.out)).mono ?_
  rintro e w1 ⟨rfl, hbel⟩
  refine hK.out _ _ (hHeld.later hbel) (fun hHeld => ?_)
  clear hK K hbel
  try dsimp only
  try simp only [Act.put, List.getElem_toArray, List.getElem_cons_succ, List.getElem_cons_zero, List.setIfInBounds_toArray, List.set_cons_zero, List.set_cons_succ]
  refine wpAnyH_ready (rs := [5]) (by kernel_rfl) (by simp) ?_
  refine AllReadyH.cons (o := _) rfl (fun K hK => ?_) AllReadyH.nil
  rw [if_pos (by rfl)]
  go_simp
  go_at_call 13
  refine (rooted_lit b h h0 h1 h2 h3 h4 h5 h6 h7 HH.out hb hs hy _).mono ?_
  rintro e w2 ⟨rfl, hbel2⟩
  refine hK.out _ _ (hHeld.later hbel2) (fun hHeld => ?_)
  clear hK K hbel2
  try simp only [Act.put, List.getElem_toArray, List.getElem_cons_succ, List.getElem_cons_zero, List.setIfInBounds_toArray, List.set_cons_zero, List.set_cons_succ]
  refine wpAnyH_take (i := 6) (oi := _) (v := .bool true) rfl (by kernel_rfl) (by kernel_rfl) (by kernel_rfl) (fun _ _ _ h => h) (yieldsIf_bin (by rfl) _ _ _ _ _ rfl _ _ _ rfl rfl (fun w => run_eqGuard_agg _ _ _ _ _ _ _ (by kernel_rfl)) he1) hHeld ?_
  try simp only [Act.put, List.getElem_toArray, List.getElem_cons_succ, List.getElem_cons_zero, List.setIfInBounds_toArray, List.set_cons_zero, List.set_cons_succ]
  refine wpAnyH_take (i := 7) (oi := _) (v := (.bool true)) rfl (by kernel_rfl) (by kernel_rfl) (by kernel_rfl) (fun _ _ _ h => h) (Or.inl ⟨by rfl, fun w' _ => by go_simp⟩) hHeld ?_
  try simp only [Act.put, List.getElem_toArray, List.getElem_cons_succ, List.getElem_cons_zero, List.setIfInBounds_toArray, List.set_cons_zero, List.set_cons_succ]
  refine wpAnyH_ready (rs := [8]) (by kernel_rfl) (by simp) ?_
  refine AllReadyH.cons (o := _) rfl (fun K hK => ?_) AllReadyH.nil
  rw [if_pos (by rfl)]
  go_simp
  go_at_call 14
  refine (rooted8_any _).mono ?_
  rintro e w3 ⟨rfl, hbel3⟩
  refine hK.out _ _ (hHeld.later hbel3) (fun hHeld => ?_)
  clear hK K hbel3
  try simp only [Act.put, List.getElem_toArray, List.getElem_cons_succ, List.getElem_cons_zero, List.setIfInBounds_toArray, List.set_cons_zero, List.set_cons_succ]
  refine wpAnyH_ready (rs := [9]) (by kernel_rfl) (by simp) ?_
  refine AllReadyH.cons (o := _) rfl (fun K hK => ?_) AllReadyH.nil
  rw [if_pos (by rfl)]
  go_simp
  go_at_call 15
  refine (start_any _).mono ?_
  rintro e w4 ⟨rfl, hbel4⟩
  refine hK.out _ _ (hHeld.later hbel4) (fun hHeld => ?_)
  clear hK K hbel4
  try simp only [Act.put, List.getElem_toArray, List.getElem_cons_succ, List.getElem_cons_zero, List.setIfInBounds_toArray, List.set_cons_zero, List.set_cons_succ]
  refine wpAnyH_take (i := 10) (oi := _) (v := .bool true) rfl (by kernel_rfl) (by kernel_rfl) (by kernel_rfl) (fun _ _ _ h => h) (yieldsIf_bin (by rfl) _ _ _ _ _ rfl _ _ _ rfl rfl (fun w => run_eqGuard_agg _ _ _ _ _ _ _ (by kernel_rfl)) he2) hHeld ?_
  try simp only [Act.put, List.getElem_toArray, List.getElem_cons_succ, List.getElem_cons_zero, List.setIfInBounds_toArray, List.set_cons_zero, List.set_cons_succ]
  refine wpAnyH_take (i := 11) (oi := _) (v := (.bool true)) rfl (by kernel_rfl) (by kernel_rfl) (by kernel_rfl) (fun _ _ _ h => h) (Or.inl ⟨by rfl, fun w' _ => by go_simp⟩) hHeld ?_
  try simp only [Act.put, List.getElem_toArray, List.getElem_cons_succ, List.getElem_cons_zero, List.setIfInBounds_toArray, List.set_cons_zero, List.set_cons_succ]
  refine wpAnyH_take (i := 12) (oi := _) (v := (.bool true)) rfl (by kernel_rfl) (by kernel_rfl) (by kernel_rfl) (fun _ _ _ h => h) (Or.inl ⟨by rfl, fun w' _ => by go_simp⟩) hHeld ?_
  try simp only [Act.put, List.getElem_toArray, List.getElem_cons_succ, List.getElem_cons_zero, List.setIfInBounds_toArray, List.set_cons_zero, List.set_cons_succ]
  refine wpAnyH_done (by kernel_rfl) ?_ _
  refine NoPanic.normal ?_
  have HB := Lib.hid hHeld.below
  clear hHeld
  go_wp2_with fail
  go_ret
  exact ⟨rfl, HB.out⟩
theorem shaRoots_walk (h : List Nat) (hl : h.length = 8) (hs : ∀ x ∈ h, x < 4294967296) (b : List Nat) (hb : b.length = 64) (hy : ∀ x ∈ b, x < 256) (w : World) (hK : ∃ TK, w.heap[0]? = some (.cells (cw .u32 KT) TK (0, 0))) :
    Calls Tryd.prog 4 #[.agg (cw .u32 h), .agg (cw .u8 b)] w fun e w' => e = .returned (.bool true) ∧ Below w.heap.size w w' := by
  obtain ⟨a0, a1, a2, a3, a4, a5, a6, a7, hh⟩ : ∃ a0 a1 a2 a3 a4 a5 a6 a7, h = [a0, a1, a2, a3, a4, a5, a6, a7] := by
    match h, hl with
    | [a0, a1, a2, a3, a4, a5, a6, a7], _ => exact ⟨a0, a1, a2, a3, a4, a5, a6, a7, rfl⟩
  obtain ⟨TK, hK⟩ := hK
  exact roots_walk h b a0 a1 a2 a3 a4 a5 a6 a7 hh hb hs hy w hK
end Go.Proofs.YtemioilfedpohaaDoor

