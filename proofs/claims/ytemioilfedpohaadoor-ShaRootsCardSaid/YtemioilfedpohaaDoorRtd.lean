/- The walk of depotref01.Rooted. -/
import Derived.Test.YtemioilfedpohaaDoorRootAll
import Derived.Test.YtemioilfedpohaaDoorRblkShaBlocks
namespace Go.Proofs.YtemioilfedpohaaDoor
set_option linter.unusedVariables false
set_option linter.unusedSimpArgs false
open Go.RowKit

/-- what stands in memory while the document's rooted block is worked out: the words in block g5, the eight words in g7 -/
structure RtH (w wr : World) (g5 g7 : Nat) (h ws v : List Nat) : Prop where
  o5 : w.heap.size + 3 ≤ g5
  o7 : g5 < g7
  size : g7 < wr.heap.size
  hh : wr.heap[w.heap.size]? = some (.cells (cw .u32 h) 23 (0, 0))
  hr : wr.heap[w.heap.size + 2]? = some (.cells (cw .u32 [0, 0, 0, 0, 0, 0, 0, 0]) 23 (0, 0))
  h5 : wr.heap[g5]? = some (.cells (cw .u32 ws) 56 (0, 0))
  h7 : wr.heap[g7]? = some (.cells (cw .u32 v) 23 (0, 0))
  v8 : v.length = 8
  below : Below w.heap.size w wr
theorem RtH.later {w wr w1 : World} {g5 g7 : Nat} {h ws v : List Nat} (H : RtH w wr g5 g7 h ws v) (hb : Below wr.heap.size wr w1) : RtH w w1 g5 g7 h ws v :=
  have h1 := H.o5; have h2 := H.o7; have h4 := H.size
  ⟨h1, h2, Nat.lt_of_lt_of_le h4 hb.size, (hb.block _ (by omega)).trans H.hh, (hb.block _ (by omega)).trans H.hr, (hb.block _ (by omega)).trans H.h5, (hb.block _ (by omega)).trans H.h7, H.v8, H.below.trans (hb.mono (by omega))⟩
theorem RtH.drew1 {w wr : World} {g5 g7 : Nat} {h ws v : List Nat} (H : RtH w wr g5 g7 h ws v) : RtH w wr.drew g5 g7 h ws v :=
  H.later ⟨rfl, rfl, rfl, Nat.le_refl _, fun _ _ => rfl⟩
theorem RtH.row2 {w wr : World} {g5 g7 : Nat} {h ws v : List Nat} (H : RtH w wr g5 g7 h ws v) (v' : List Nat) (hl : v'.length = 8) : RtH w (wr.setCells g7 0 (cw .u32 v').toList) g5 g7 h ws v' :=
  have h1 := H.o5; have h2 := H.o7; have h4 := H.size
  ⟨h1, h2, by rw [size_setCells]; exact h4, (heap_setCells_other (by omega) _ _ wr).trans H.hh, (heap_setCells_other (by omega) _ _ wr).trans H.hr, (heap_setCells_other (by omega) _ _ wr).trans H.h5, by
    have hv := H.v8
    rw [show (cw .u32 v').toList = cl .u32 v' from rfl, heap_setCells _ _ _ (cl .u32 v) H.h7 (by rw [cl_length, cl_length]; omega)]
    congr 2
    simp only [splice, List.take_zero, List.nil_append, Nat.zero_add]
    rw [List.drop_eq_nil_of_le (by rw [cl_length, cl_length]; omega), List.append_nil]
    rfl, hl, below_setCells (by omega) _ _ wr H.below⟩
theorem RtH.store {w wr : World} {g5 g7 : Nat} {h ws v : List Nat} (H : RtH w wr g5 g7 h ws v) (i x : Nat) : RtH w (wr.setCell ⟨g7, i, none⟩ (.int .u32 (x : Int))) g5 g7 h ws (v.set i x) :=
  have h1 := H.o5; have h2 := H.o7; have h4 := H.size
  ⟨h1, h2, by simpa [World.setCell] using h4, row_other H.hh (by omega), row_other H.hr (by omega), row_other H.h5 (by omega), row_store H.h7 i x, by rw [List.length_set]; exact H.v8, H.below.setCell (by simp; omega) _⟩
theorem RtH.rangeV {w wr : World} {g5 g7 : Nat} {h ws v : List Nat} (H : RtH w wr g5 g7 h ws v) : wr.rangeAt g7 0 (cl .u32 v) := by
  intro j u hu
  rw [Nat.zero_add, cell_of_row wr _ j _ _ _ H.h7]
  simpa [cl, cw] using hu
theorem RtH.thereV {w wr : World} {g5 g7 : Nat} {h ws v : List Nat} (H : RtH w wr g5 g7 h ws v) (n : Nat) (hn : n = 8) : wr.there g7 0 n := by
  intro j hj
  rw [row_cell H.h7 (0 + j) (by rw [H.v8]; omega)]
  exact ⟨rfl, row_free H.h7 _⟩

set_option maxRecDepth 100000 in
set_option maxHeartbeats 4000000 in
theorem rooted_any (h b : List Nat) (h0 h1 h2 h3 h4 h5 h6 h7 : Nat) (hh : h = [h0, h1, h2, h3, h4, h5, h6, h7]) (hb : b.length = 64) (hs : Small h) (hy : Bytes b) (w : World) :
    Calls Tryd.prog 13 #[.agg (cw .u32 h), .agg (cw .u8 b)] w fun e w' => e = .returned (.agg (cw .u32 (blk KT h b))) ∧ Below w.heap.size w w' := by
  obtain ⟨W, hW⟩ : ∃ W, W = ((w.alloc (.cells (cw .u32 h) 23)).alloc (.cells (cw .u8 b) 24)).alloc (.cells (cw .u32 [0, 0, 0, 0, 0, 0, 0, 0]) 23) := ⟨_, rfl⟩
  have e1 : W.heap = ((w.heap.push (.cells (cw .u32 h) 23)).push (.cells (cw .u8 b) 24)).push (.cells (cw .u32 [0, 0, 0, 0, 0, 0, 0, 0]) 23) := by rw [hW]; rfl
  have k1 : W.heap[w.heap.size]? = some (.cells (cw .u32 h) 23 (0, 0)) := by
    rw [e1]; simp only [Array.getElem?_push, Array.size_push]; rw [if_neg (by omega), if_neg (by omega), if_pos trivial]
  have k2 : W.heap[w.heap.size + 1]? = some (.cells (cw .u8 b) 24 (0, 0)) := by
    rw [e1]; simp only [Array.getElem?_push, Array.size_push]; rw [if_neg (by omega), if_pos trivial]
  have k3 : W.heap[w.heap.size + 2]? = some (.cells (cw .u32 [0, 0, 0, 0, 0, 0, 0, 0]) 23 (0, 0)) := by
    rw [e1]; simp only [Array.getElem?_push, Array.size_push]; rw [if_pos trivial]
  have k4 : W.heap.size = w.heap.size + 3 := by rw [e1]; simp
  have k5 : Below w.heap.size w W := by
    rw [hW]
    exact (((Below.refl _ _).alloc (Nat.le_refl _) _).alloc (by simp) _).alloc (by simp; omega) _
  rw [hW] at k2
  have K1 := Lib.hid k1
  have K3 := Lib.hid k3
  have K4 := Lib.hid k4
  have K5 := Lib.hid k5
  have HW := Lib.hid hW
  have HHH := Lib.hid hh
  clear k1 k3 k4 k5 e1 hW hh
  go_enter Tryd.func13, Tryd.ntmps13
  go_wp2_with (first | (with_reducible refine wpList_load_row rfl 24 _ rfl (w.heap.size + 1) rfl 24 (cw .u8 b) (0, 0) _ ?_ Tryd.underlying24 rfl ?_ ?_))
  · exact k2
  · rw [cw_size, hb]; exact info64b
  · go_wp2_with fail
    refine (words_any b hb hy _).mono ?_
    rintro e w1 ⟨rfl, hb1⟩
    have hbW : Below W.heap.size W w1 := by rw [HW.out]; exact hb1
    have j1 : w1.heap[w.heap.size]? = _ := (hbW.block _ (by have := K4.out; omega)).trans K1.out
    have j2 : w1.heap[w.heap.size + 2]? = _ := (hbW.block _ (by have := K4.out; omega)).trans K3.out
    have j3 : w.heap.size + 3 ≤ w1.heap.size := by have := K4.out; have := hbW.size; omega
    have j4 : Below w.heap.size w w1 := K5.out.trans (hbW.mono (by have := K4.out; omega))
    have J1 := Lib.hid j1
    have J2 := Lib.hid j2
    have J4 := Lib.hid j4
    have hws := sch_length b 48
    clear hb1 hbW j1 j2 j4 k2 K1 K3 K4 K5 HW
    generalize hwe : sch b 48 = ws at *
    have HWS := Lib.hid hwe
    clear hwe
    have l1 : (w1.alloc (.cells (cw .u32 (List.replicate 64 0)) 56)).heap[w1.heap.size]? = some (.cells (cw .u32 (List.replicate 64 0)) 56 (0, 0)) := heap_alloc_new _ _
    have L1 := Lib.hid l1
    clear l1
    obtain ⟨W2, hW2⟩ : ∃ W2, W2 = (w1.alloc (.cells (cw .u32 (List.replicate 64 0)) 56)).setRow w1.heap.size (cw .u32 ws) := ⟨_, rfl⟩
    have n2 : NewRow w1 W2 (cw .u32 ws) 56 := by rw [hW2]; exact new_row _ _ _ _
    obtain ⟨W5, hW5⟩ : ∃ W5, W5 = (W2.alloc (.cells (cw .u32 [0, 0, 0, 0, 0, 0, 0, 0]) 23)).setRow W2.heap.size (cw .u32 h) := ⟨_, rfl⟩
    have n5 : NewRow W2 W5 (cw .u32 h) 23 := by rw [hW5]; exact new_row _ _ _ _
    have s2 := n2.size
    have s5 := n5.size
    have held0 : RtH w W5 w1.heap.size W2.heap.size h ws (rnds KT ws h 0) := by
      have up : ∀ i, i < w1.heap.size → W5.heap[i]? = w1.heap[i]? := fun i hi => (n5.below.block i (by omega)).trans (n2.below.block i hi)
      refine ⟨j3, by omega, by omega, (up _ (by omega)).trans J1.out, (up _ (by omega)).trans J2.out, ?_, n5.new, by rw [HHH.out]; rfl, ?_⟩
      · exact (n5.below.block _ (by omega)).trans n2.new
      · exact J4.out.trans ((n2.below.mono (by omega)).trans (n5.below.mono (by omega)))
    have l4 : W2.heap[w.heap.size]? = some (.cells (cw .u32 h) 23 (0, 0)) := (n2.below.block _ (by omega)).trans J1.out
    have l5 := heap_alloc_new W2 (.cells (cw .u32 [0, 0, 0, 0, 0, 0, 0, 0]) 23)
    rw [s2] at held0 l5 hW5
    clear n2 n5 s5 s2
    subst hW5
    subst hW2
    have L4 := Lib.hid l4
    have L5 := Lib.hid l5
    have HELD := Lib.hid held0
    clear held0 l4 l5 J1 J2 J4
    have hh8 : (cw .u32 h).size = 8 := by rw [cw_size, HHH.out]; rfl
    have HI8 : Hid (∀ j, (Tryd.prog.info? 23).map (·.size) = some (cl .u32 (rnds KT ws h j)).length) := Lib.hid (fun j => by
      obtain ⟨A, B, C, D, E, F, G, Q, hveq, _⟩ := rnds_eight KT ws h (by rw [HHH.out]; rfl) hs j
      rw [cl_length, hveq]; exact info8)
    go_wp2_with (first | (with_reducible refine wpList_store_row rfl 56 _ _ rfl w1.heap.size _ rfl rfl 56 (cw .u32 (List.replicate 64 0)) ?_ ?_ ?_ ?_ ?_) | (with_reducible refine wpList_load_row rfl 23 _ rfl w.heap.size rfl 23 (cw .u32 h) (0, 0) _ ?_ Tryd.underlying23 rfl ?_ ?_) | (with_reducible refine wpList_store_row rfl 23 _ _ rfl (w1.heap.size + 1) _ rfl rfl 23 (cw .u32 [0, 0, 0, 0, 0, 0, 0, 0]) ?_ ?_ ?_ ?_ ?_))
    · exact L1.out
    · rw [cw_size, hws]; exact info64
    · rw [cw_size, cw_size, hws]; rfl
    · exact cw_one _ _
    · exact L4.out
    · rw [hh8]; exact info8
    · exact L5.out
    · rw [hh8]; exact info8
    · rw [hh8]; rfl
    · exact cw_one _ _
    · clear L1 L4 L5
      go_wp2_with fail
      go_loopw [7, 8] (fun pv ct wx => ∃ i : Nat, i ≤ 64 ∧ pv = .int .i64 (PR.getD i 0 : Nat) ∧ ct = .int .i64 i ∧ RtH w wx w1.heap.size (w1.heap.size + 1) h ws (rnds KT ws h i)) (fun _ ct _ => 64 - (intOf ct).toNat)
      case atStart => exact ⟨0, by omega, rfl, rfl, HELD.out⟩
      case round =>
        clear HELD hh8 j3
        generalize hg7 : w1.heap.size + 1 = g7 at *
        generalize w1.heap.size = g5 at *
        obtain ⟨i, hi, rfl, rfl, hH⟩ := hrel
        obtain ⟨A, B, C, D, E, F, G, Q, hveq, bA, bB, bC, bD, bE, bF, bG, bQ⟩ := rnds_eight KT ws h (by rw [HHH.out]; rfl) hs i
        by_cases hlt : i < 64
        · have hsm : Small [A, B, C, D, E, F, G, Q] := by
            intro x hx
            simp only [List.mem_cons, List.not_mem_nil, or_false] at hx
            omega
          have HN := Lib.hid (next_at i hlt)
          have HR3 := Lib.hid (root3_at i hlt)
          obtain ⟨kj, hkj⟩ : ∃ kj, kj = KT.getD i 0 := ⟨_, rfl⟩
          obtain ⟨wj, hwj⟩ : ∃ wj, wj = ws.getD i 0 := ⟨_, rfl⟩
          obtain ⟨s, hse⟩ : ∃ s, s = (kj + wj) % 4294967296 := ⟨_, rfl⟩
          have hsI : ((kj : Int) + wj) % 4294967296 = (s : Int) := by rw [hse]; omega
          have hsW : IntKind.u32.wrap ((kj : Int) + wj) = (s : Int) := by rw [IntKind.wrap_u32']; exact hsI
          have hnx : rnd [A, B, C, D, E, F, G, Q] s = rnds KT ws h (i + 1) := by rw [hse, rnd_mod, rnds, hveq, hkj, hwj]
          have hn8 : (rnds KT ws h (i + 1)).length = 8 := by rw [← hnx]; rfl
          have HI8 := Lib.hid (HI8.out i)
          have HNX := Lib.hid hnx
          have HN8 := Lib.hid hn8
          have HWJ := Lib.hid hwj
          have HRN : Hid ((cl .u32 (rnds KT ws h i)).toArray = cw .u32 [A, B, C, D, E, F, G, Q]) := Lib.hid (by rw [hveq]; rfl)
          obtain ⟨p1, hp1⟩ : ∃ p, p = PR.getD (i + 1) 0 := ⟨_, rfl⟩
          rw [← hp1] at HN HR3
          rw [← hkj] at HR3
          have HP1 := Lib.hid hp1
          generalize PR.getD i 0 = p0 at *
          have i0 : (0 : Int) ≤ i := by omega
          have i1 : (i : Int) < 64 := by omega
          have HH := Lib.hid hH
          clear hH hp1 hkj hwj hse hnx hn8 hveq bA bB bC bD bE bF bG bQ
          go_wp2_with fail
          refine (HN.out _).mono ?_
          rintro e wn ⟨rfl, rfl⟩
          go_wp2_with fail
          refine wp_region_any (by kernel_rfl) ?_
          change wpAny _ _ _ _ _ _ _ (World.drew _)
          have hH := HH.out.drew1
          clear HH HN
          generalize World.drew _ = wd at *
          refine wpAny_take (i := 1) (oi := _) (v := (.int .i64 (p1 : Int))) rfl (by kernel_rfl) (by kernel_rfl) (by kernel_rfl) (fun _ _ _ h => h) (Or.inl ⟨by rfl, fun w' => by go_simp⟩) ?_
          try simp only [Act.put, List.getElem_toArray, List.getElem_cons_succ, List.getElem_cons_zero, List.setIfInBounds_toArray, List.set_cons_zero, List.set_cons_succ]
          refine wpAny_take (i := 3) (oi := _) (v := (.int .i64 (i : Int))) rfl (by kernel_rfl) (by kernel_rfl) (by kernel_rfl) (fun _ _ _ h => h) (Or.inl ⟨by rfl, fun w' => by go_simp⟩) ?_
          try simp only [Act.put, List.getElem_toArray, List.getElem_cons_succ, List.getElem_cons_zero, List.setIfInBounds_toArray, List.set_cons_zero, List.set_cons_succ]
          refine wpAny_take (i := 4) (oi := _) (v := (.pointer (some ⟨g5, i, none⟩))) rfl (by kernel_rfl) (by kernel_rfl) (by kernel_rfl) (fun _ _ _ h => h) (Or.inl ⟨by rfl, fun w' => by go_simp⟩) ?_
          try simp only [Act.put, List.getElem_toArray, List.getElem_cons_succ, List.getElem_cons_zero, List.setIfInBounds_toArray, List.set_cons_zero, List.set_cons_succ]
          refine wpAny_ready (rs := [0, 2, 5]) (by kernel_rfl) (by simp) ?_
          refine (AllReady.cons (o := _) rfl (fun K hK => ?_) (AllReady.cons (o := _) rfl (fun K hK => ?_) (AllReady.cons (o := _) rfl (fun K hK => ?_) AllReady.nil)))
          all_goals rw [if_pos (by rfl)]
          · refine wp_load_mid _ _ rfl g7 0 rfl (cl .u32 (rnds KT ws h i)) _ hH.rangeV Tryd.underlying23 rfl HI8.out ?_
            refine hK _ _ ?_
            clear hK K
            try simp only [Act.put, List.getElem_toArray, List.getElem_cons_succ, List.getElem_cons_zero, List.setIfInBounds_toArray, List.set_cons_zero, List.set_cons_succ]
            refine wpAny_ready (rs := [2, 5]) (by kernel_rfl) (by simp) ?_
            refine (AllReady.cons (o := _) rfl (fun K hK => ?_) (AllReady.cons (o := _) rfl (fun K hK => ?_) AllReady.nil))
            all_goals rw [if_pos (by rfl)]
            · go_simp
              go_at_call 33
              refine (HR3.out _).mono ?_
              rintro e wn ⟨rfl, hbn⟩
              refine hK _ _ ?_
              clear hK K
              try simp only [Act.put, List.getElem_toArray, List.getElem_cons_succ, List.getElem_cons_zero, List.setIfInBounds_toArray, List.set_cons_zero, List.set_cons_succ]
              have hH := hH.later hbn
              clear hbn
              refine wpAny_ready (rs := [5]) (by kernel_rfl) (by simp) ?_
              refine AllReady.cons (o := _) rfl (fun K hK => ?_) AllReady.nil
              rw [if_pos (by rfl)]
              have cW := row_cell hH.h5 i (by rw [hws]; exact hlt)
              rw [← HWJ.out] at cW
              go_simp
              refine hK _ _ ?_
              clear hK K cW
              try simp only [Act.put, List.getElem_toArray, List.getElem_cons_succ, List.getElem_cons_zero, List.setIfInBounds_toArray, List.set_cons_zero, List.set_cons_succ]
              have hH0 := Lib.hid hH
              clear hH
              refine wpAny_take (i := 6) (oi := _) (v := (.int .u32 (s : Int))) rfl (by kernel_rfl) (by kernel_rfl) (by kernel_rfl) (fun _ _ _ h => h) (Or.inl ⟨by rfl, fun w' => by go_simp⟩) ?_
              try simp only [Act.put, List.getElem_toArray, List.getElem_cons_succ, List.getElem_cons_zero, List.setIfInBounds_toArray, List.set_cons_zero, List.set_cons_succ]
              refine wpAny_ready (rs := [7]) (by kernel_rfl) (by simp) ?_
              refine AllReady.cons (o := _) rfl (fun K hK => ?_) AllReady.nil
              rw [if_pos (by rfl)]
              go_simp
              go_at_call 31
              rw [HRN.out]
              refine (rstep_any A B C D E F G Q s hsm _).mono ?_
              rintro e wm ⟨rfl, hbm⟩
              have hH2 := hH0.out.later hbm
              refine hK _ _ ?_
              clear hK K
              try simp only [Act.put, List.getElem_toArray, List.getElem_cons_succ, List.getElem_cons_zero, List.setIfInBounds_toArray, List.set_cons_zero, List.set_cons_succ]
              refine wpAny_ready (rs := [8]) (by kernel_rfl) (by simp) ?_
              refine AllReady.cons (o := _) rfl (fun K hK => ?_) AllReady.nil
              rw [if_pos (by rfl)]
              rw [HNX.out]
              refine wp_store_mid _ _ _ rfl g7 0 (cw .u32 (rnds KT ws h (i + 1))) rfl rfl (hH2.thereV _ (by rw [cw_size, HN8.out])) (by rw [cw_size, HN8.out]; exact info8) (cw_one _ _) ?_
              have hH3 := hH2.row2 (rnds KT ws h (i + 1)) HN8.out
              refine hK _ _ ?_
              clear hK K
              try simp only [Act.put, List.getElem_toArray, List.getElem_cons_succ, List.getElem_cons_zero, List.setIfInBounds_toArray, List.set_cons_zero, List.set_cons_succ]
              refine wpAny_done (by kernel_rfl) ?_ _
              have HH3 := Lib.hid hH3
              clear hH2 hH3 hbm hH0
              go_wp2_with fail
              go_roundw
              case rel => exact ⟨i + 1, by omega, by rw [HP1.out], by go_num, HH3.out⟩
              case measure => simp [intOf]; omega
            · have cW := row_cell hH.h5 i (by rw [hws]; exact hlt)
              rw [← HWJ.out] at cW
              go_simp
              refine hK _ _ ?_
              clear hK K cW
              try simp only [Act.put, List.getElem_toArray, List.getElem_cons_succ, List.getElem_cons_zero, List.setIfInBounds_toArray, List.set_cons_zero, List.set_cons_succ]
              refine wpAny_ready (rs := [2]) (by kernel_rfl) (by simp) ?_
              refine AllReady.cons (o := _) rfl (fun K hK => ?_) AllReady.nil
              rw [if_pos (by rfl)]
              go_simp
              go_at_call 33
              refine (HR3.out _).mono ?_
              rintro e wn ⟨rfl, hbn⟩
              refine hK _ _ ?_
              clear hK K
              try simp only [Act.put, List.getElem_toArray, List.getElem_cons_succ, List.getElem_cons_zero, List.setIfInBounds_toArray, List.set_cons_zero, List.set_cons_succ]
              have hH := hH.later hbn
              clear hbn
              have hH0 := Lib.hid hH
              clear hH
              refine wpAny_take (i := 6) (oi := _) (v := (.int .u32 (s : Int))) rfl (by kernel_rfl) (by kernel_rfl) (by kernel_rfl) (fun _ _ _ h => h) (Or.inl ⟨by rfl, fun w' => by go_simp⟩) ?_
              try simp only [Act.put, List.getElem_toArray, List.getElem_cons_succ, List.getElem_cons_zero, List.setIfInBounds_toArray, List.set_cons_zero, List.set_cons_succ]
              refine wpAny_ready (rs := [7]) (by kernel_rfl) (by simp) ?_
              refine AllReady.cons (o := _) rfl (fun K hK => ?_) AllReady.nil
              rw [if_pos (by rfl)]
              go_simp
              go_at_call 31
              rw [HRN.out]
              refine (rstep_any A B C D E F G Q s hsm _).mono ?_
              rintro e wm ⟨rfl, hbm⟩
              have hH2 := hH0.out.later hbm
              refine hK _ _ ?_
              clear hK K
              try simp only [Act.put, List.getElem_toArray, List.getElem_cons_succ, List.getElem_cons_zero, List.setIfInBounds_toArray, List.set_cons_zero, List.set_cons_succ]
              refine wpAny_ready (rs := [8]) (by kernel_rfl) (by simp) ?_
              refine AllReady.cons (o := _) rfl (fun K hK => ?_) AllReady.nil
              rw [if_pos (by rfl)]
              rw [HNX.out]
              refine wp_store_mid _ _ _ rfl g7 0 (cw .u32 (rnds KT ws h (i + 1))) rfl rfl (hH2.thereV _ (by rw [cw_size, HN8.out])) (by rw [cw_size, HN8.out]; exact info8) (cw_one _ _) ?_
              have hH3 := hH2.row2 (rnds KT ws h (i + 1)) HN8.out
              refine hK _ _ ?_
              clear hK K
              try simp only [Act.put, List.getElem_toArray, List.getElem_cons_succ, List.getElem_cons_zero, List.setIfInBounds_toArray, List.set_cons_zero, List.set_cons_succ]
              refine wpAny_done (by kernel_rfl) ?_ _
              have HH3 := Lib.hid hH3
              clear hH2 hH3 hbm hH0
              go_wp2_with fail
              go_roundw
              case rel => exact ⟨i + 1, by omega, by rw [HP1.out], by go_num, HH3.out⟩
              case measure => simp [intOf]; omega
          · go_simp
            go_at_call 33
            refine (HR3.out _).mono ?_
            rintro e wn ⟨rfl, hbn⟩
            refine hK _ _ ?_
            clear hK K
            try simp only [Act.put, List.getElem_toArray, List.getElem_cons_succ, List.getElem_cons_zero, List.setIfInBounds_toArray, List.set_cons_zero, List.set_cons_succ]
            have hH := hH.later hbn
            clear hbn
            refine wpAny_ready (rs := [0, 5]) (by kernel_rfl) (by simp) ?_
            refine (AllReady.cons (o := _) rfl (fun K hK => ?_) (AllReady.cons (o := _) rfl (fun K hK => ?_) AllReady.nil))
            all_goals rw [if_pos (by rfl)]
            · refine wp_load_mid _ _ rfl g7 0 rfl (cl .u32 (rnds KT ws h i)) _ hH.rangeV Tryd.underlying23 rfl HI8.out ?_
              refine hK _ _ ?_
              clear hK K
              try simp only [Act.put, List.getElem_toArray, List.getElem_cons_succ, List.getElem_cons_zero, List.setIfInBounds_toArray, List.set_cons_zero, List.set_cons_succ]
              refine wpAny_ready (rs := [5]) (by kernel_rfl) (by simp) ?_
              refine AllReady.cons (o := _) rfl (fun K hK => ?_) AllReady.nil
              rw [if_pos (by rfl)]
              have cW := row_cell hH.h5 i (by rw [hws]; exact hlt)
              rw [← HWJ.out] at cW
              go_simp
              refine hK _ _ ?_
              clear hK K cW
              try simp only [Act.put, List.getElem_toArray, List.getElem_cons_succ, List.getElem_cons_zero, List.setIfInBounds_toArray, List.set_cons_zero, List.set_cons_succ]
              have hH0 := Lib.hid hH
              clear hH
              refine wpAny_take (i := 6) (oi := _) (v := (.int .u32 (s : Int))) rfl (by kernel_rfl) (by kernel_rfl) (by kernel_rfl) (fun _ _ _ h => h) (Or.inl ⟨by rfl, fun w' => by go_simp⟩) ?_
              try simp only [Act.put, List.getElem_toArray, List.getElem_cons_succ, List.getElem_cons_zero, List.setIfInBounds_toArray, List.set_cons_zero, List.set_cons_succ]
              refine wpAny_ready (rs := [7]) (by kernel_rfl) (by simp) ?_
              refine AllReady.cons (o := _) rfl (fun K hK => ?_) AllReady.nil
              rw [if_pos (by rfl)]
              go_simp
              go_at_call 31
              rw [HRN.out]
              refine (rstep_any A B C D E F G Q s hsm _).mono ?_
              rintro e wm ⟨rfl, hbm⟩
              have hH2 := hH0.out.later hbm
              refine hK _ _ ?_
              clear hK K
              try simp only [Act.put, List.getElem_toArray, List.getElem_cons_succ, List.getElem_cons_zero, List.setIfInBounds_toArray, List.set_cons_zero, List.set_cons_succ]
              refine wpAny_ready (rs := [8]) (by kernel_rfl) (by simp) ?_
              refine AllReady.cons (o := _) rfl (fun K hK => ?_) AllReady.nil
              rw [if_pos (by rfl)]
              rw [HNX.out]
              refine wp_store_mid _ _ _ rfl g7 0 (cw .u32 (rnds KT ws h (i + 1))) rfl rfl (hH2.thereV _ (by rw [cw_size, HN8.out])) (by rw [cw_size, HN8.out]; exact info8) (cw_one _ _) ?_
              have hH3 := hH2.row2 (rnds KT ws h (i + 1)) HN8.out
              refine hK _ _ ?_
              clear hK K
              try simp only [Act.put, List.getElem_toArray, List.getElem_cons_succ, List.getElem_cons_zero, List.setIfInBounds_toArray, List.set_cons_zero, List.set_cons_succ]
              refine wpAny_done (by kernel_rfl) ?_ _
              have HH3 := Lib.hid hH3
              clear hH2 hH3 hbm hH0
              go_wp2_with fail
              go_roundw
              case rel => exact ⟨i + 1, by omega, by rw [HP1.out], by go_num, HH3.out⟩
              case measure => simp [intOf]; omega
            · have cW := row_cell hH.h5 i (by rw [hws]; exact hlt)
              rw [← HWJ.out] at cW
              go_simp
              refine hK _ _ ?_
              clear hK K cW
              try simp only [Act.put, List.getElem_toArray, List.getElem_cons_succ, List.getElem_cons_zero, List.setIfInBounds_toArray, List.set_cons_zero, List.set_cons_succ]
              refine wpAny_take (i := 6) (oi := _) (v := (.int .u32 (s : Int))) rfl (by kernel_rfl) (by kernel_rfl) (by kernel_rfl) (fun _ _ _ h => h) (Or.inl ⟨by rfl, fun w' => by go_simp⟩) ?_
              try simp only [Act.put, List.getElem_toArray, List.getElem_cons_succ, List.getElem_cons_zero, List.setIfInBounds_toArray, List.set_cons_zero, List.set_cons_succ]
              refine wpAny_ready (rs := [0]) (by kernel_rfl) (by simp) ?_
              refine AllReady.cons (o := _) rfl (fun K hK => ?_) AllReady.nil
              rw [if_pos (by rfl)]
              refine wp_load_mid _ _ rfl g7 0 rfl (cl .u32 (rnds KT ws h i)) _ hH.rangeV Tryd.underlying23 rfl HI8.out ?_
              refine hK _ _ ?_
              clear hK K
              try simp only [Act.put, List.getElem_toArray, List.getElem_cons_succ, List.getElem_cons_zero, List.setIfInBounds_toArray, List.set_cons_zero, List.set_cons_succ]
              have hH0 := Lib.hid hH
              clear hH
              refine wpAny_ready (rs := [7]) (by kernel_rfl) (by simp) ?_
              refine AllReady.cons (o := _) rfl (fun K hK => ?_) AllReady.nil
              rw [if_pos (by rfl)]
              go_simp
              go_at_call 31
              rw [HRN.out]
              refine (rstep_any A B C D E F G Q s hsm _).mono ?_
              rintro e wm ⟨rfl, hbm⟩
              have hH2 := hH0.out.later hbm
              refine hK _ _ ?_
              clear hK K
              try simp only [Act.put, List.getElem_toArray, List.getElem_cons_succ, List.getElem_cons_zero, List.setIfInBounds_toArray, List.set_cons_zero, List.set_cons_succ]
              refine wpAny_ready (rs := [8]) (by kernel_rfl) (by simp) ?_
              refine AllReady.cons (o := _) rfl (fun K hK => ?_) AllReady.nil
              rw [if_pos (by rfl)]
              rw [HNX.out]
              refine wp_store_mid _ _ _ rfl g7 0 (cw .u32 (rnds KT ws h (i + 1))) rfl rfl (hH2.thereV _ (by rw [cw_size, HN8.out])) (by rw [cw_size, HN8.out]; exact info8) (cw_one _ _) ?_
              have hH3 := hH2.row2 (rnds KT ws h (i + 1)) HN8.out
              refine hK _ _ ?_
              clear hK K
              try simp only [Act.put, List.getElem_toArray, List.getElem_cons_succ, List.getElem_cons_zero, List.setIfInBounds_toArray, List.set_cons_zero, List.set_cons_succ]
              refine wpAny_done (by kernel_rfl) ?_ _
              have HH3 := Lib.hid hH3
              clear hH2 hH3 hbm hH0
              go_wp2_with fail
              go_roundw
              case rel => exact ⟨i + 1, by omega, by rw [HP1.out], by go_num, HH3.out⟩
              case measure => simp [intOf]; omega
          · have cW := row_cell hH.h5 i (by rw [hws]; exact hlt)
            rw [← HWJ.out] at cW
            go_simp
            refine hK _ _ ?_
            clear hK K cW
            try simp only [Act.put, List.getElem_toArray, List.getElem_cons_succ, List.getElem_cons_zero, List.setIfInBounds_toArray, List.set_cons_zero, List.set_cons_succ]
            refine wpAny_ready (rs := [0, 2]) (by kernel_rfl) (by simp) ?_
            refine (AllReady.cons (o := _) rfl (fun K hK => ?_) (AllReady.cons (o := _) rfl (fun K hK => ?_) AllReady.nil))
            all_goals rw [if_pos (by rfl)]
            · refine wp_load_mid _ _ rfl g7 0 rfl (cl .u32 (rnds KT ws h i)) _ hH.rangeV Tryd.underlying23 rfl HI8.out ?_
              refine hK _ _ ?_
              clear hK K
              try simp only [Act.put, List.getElem_toArray, List.getElem_cons_succ, List.getElem_cons_zero, List.setIfInBounds_toArray, List.set_cons_zero, List.set_cons_succ]
              refine wpAny_ready (rs := [2]) (by kernel_rfl) (by simp) ?_
              refine AllReady.cons (o := _) rfl (fun K hK => ?_) AllReady.nil
              rw [if_pos (by rfl)]
              go_simp
              go_at_call 33
              refine (HR3.out _).mono ?_
              rintro e wn ⟨rfl, hbn⟩
              refine hK _ _ ?_
              clear hK K
              try simp only [Act.put, List.getElem_toArray, List.getElem_cons_succ, List.getElem_cons_zero, List.setIfInBounds_toArray, List.set_cons_zero, List.set_cons_succ]
              have hH := hH.later hbn
              clear hbn
              have hH0 := Lib.hid hH
              clear hH
              refine wpAny_take (i := 6) (oi := _) (v := (.int .u32 (s : Int))) rfl (by kernel_rfl) (by kernel_rfl) (by kernel_rfl) (fun _ _ _ h => h) (Or.inl ⟨by rfl, fun w' => by go_simp⟩) ?_
              try simp only [Act.put, List.getElem_toArray, List.getElem_cons_succ, List.getElem_cons_zero, List.setIfInBounds_toArray, List.set_cons_zero, List.set_cons_succ]
              refine wpAny_ready (rs := [7]) (by kernel_rfl) (by simp) ?_
              refine AllReady.cons (o := _) rfl (fun K hK => ?_) AllReady.nil
              rw [if_pos (by rfl)]
              go_simp
              go_at_call 31
              rw [HRN.out]
              refine (rstep_any A B C D E F G Q s hsm _).mono ?_
              rintro e wm ⟨rfl, hbm⟩
              have hH2 := hH0.out.later hbm
              refine hK _ _ ?_
              clear hK K
              try simp only [Act.put, List.getElem_toArray, List.getElem_cons_succ, List.getElem_cons_zero, List.setIfInBounds_toArray, List.set_cons_zero, List.set_cons_succ]
              refine wpAny_ready (rs := [8]) (by kernel_rfl) (by simp) ?_
              refine AllReady.cons (o := _) rfl (fun K hK => ?_) AllReady.nil
              rw [if_pos (by rfl)]
              rw [HNX.out]
              refine wp_store_mid _ _ _ rfl g7 0 (cw .u32 (rnds KT ws h (i + 1))) rfl rfl (hH2.thereV _ (by rw [cw_size, HN8.out])) (by rw [cw_size, HN8.out]; exact info8) (cw_one _ _) ?_
              have hH3 := hH2.row2 (rnds KT ws h (i + 1)) HN8.out
              refine hK _ _ ?_
              clear hK K
              try simp only [Act.put, List.getElem_toArray, List.getElem_cons_succ, List.getElem_cons_zero, List.setIfInBounds_toArray, List.set_cons_zero, List.set_cons_succ]
              refine wpAny_done (by kernel_rfl) ?_ _
              have HH3 := Lib.hid hH3
              clear hH2 hH3 hbm hH0
              go_wp2_with fail
              go_roundw
              case rel => exact ⟨i + 1, by omega, by rw [HP1.out], by go_num, HH3.out⟩
              case measure => simp [intOf]; omega
            · go_simp
              go_at_call 33
              refine (HR3.out _).mono ?_
              rintro e wn ⟨rfl, hbn⟩
              refine hK _ _ ?_
              clear hK K
              try simp only [Act.put, List.getElem_toArray, List.getElem_cons_succ, List.getElem_cons_zero, List.setIfInBounds_toArray, List.set_cons_zero, List.set_cons_succ]
              have hH := hH.later hbn
              clear hbn
              refine wpAny_take (i := 6) (oi := _) (v := (.int .u32 (s : Int))) rfl (by kernel_rfl) (by kernel_rfl) (by kernel_rfl) (fun _ _ _ h => h) (Or.inl ⟨by rfl, fun w' => by go_simp⟩) ?_
              try simp only [Act.put, List.getElem_toArray, List.getElem_cons_succ, List.getElem_cons_zero, List.setIfInBounds_toArray, List.set_cons_zero, List.set_cons_succ]
              refine wpAny_ready (rs := [0]) (by kernel_rfl) (by simp) ?_
              refine AllReady.cons (o := _) rfl (fun K hK => ?_) AllReady.nil
              rw [if_pos (by rfl)]
              refine wp_load_mid _ _ rfl g7 0 rfl (cl .u32 (rnds KT ws h i)) _ hH.rangeV Tryd.underlying23 rfl HI8.out ?_
              refine hK _ _ ?_
              clear hK K
              try simp only [Act.put, List.getElem_toArray, List.getElem_cons_succ, List.getElem_cons_zero, List.setIfInBounds_toArray, List.set_cons_zero, List.set_cons_succ]
              have hH0 := Lib.hid hH
              clear hH
              refine wpAny_ready (rs := [7]) (by kernel_rfl) (by simp) ?_
              refine AllReady.cons (o := _) rfl (fun K hK => ?_) AllReady.nil
              rw [if_pos (by rfl)]
              go_simp
              go_at_call 31
              rw [HRN.out]
              refine (rstep_any A B C D E F G Q s hsm _).mono ?_
              rintro e wm ⟨rfl, hbm⟩
              have hH2 := hH0.out.later hbm
              refine hK _ _ ?_
              clear hK K
              try simp only [Act.put, List.getElem_toArray, List.getElem_cons_succ, List.getElem_cons_zero, List.setIfInBounds_toArray, List.set_cons_zero, List.set_cons_succ]
              refine wpAny_ready (rs := [8]) (by kernel_rfl) (by simp) ?_
              refine AllReady.cons (o := _) rfl (fun K hK => ?_) AllReady.nil
              rw [if_pos (by rfl)]
              rw [HNX.out]
              refine wp_store_mid _ _ _ rfl g7 0 (cw .u32 (rnds KT ws h (i + 1))) rfl rfl (hH2.thereV _ (by rw [cw_size, HN8.out])) (by rw [cw_size, HN8.out]; exact info8) (cw_one _ _) ?_
              have hH3 := hH2.row2 (rnds KT ws h (i + 1)) HN8.out
              refine hK _ _ ?_
              clear hK K
              try simp only [Act.put, List.getElem_toArray, List.getElem_cons_succ, List.getElem_cons_zero, List.setIfInBounds_toArray, List.set_cons_zero, List.set_cons_succ]
              refine wpAny_done (by kernel_rfl) ?_ _
              have HH3 := Lib.hid hH3
              clear hH2 hH3 hbm hH0
              go_wp2_with fail
              go_roundw
              case rel => exact ⟨i + 1, by omega, by rw [HP1.out], by go_num, HH3.out⟩
              case measure => simp [intOf]; omega
        · obtain rfl : i = 64 := by omega
          rw [show ((64 : Nat) : Int) = 64 from rfl]
          have HHE := Lib.hid hH
          have HVE := Lib.hid hveq
          have hvl : (rnds KT ws h 64).length = 8 := by rw [hveq]; rfl
          have hv8 := Small.get (xs := rnds KT ws h 64) (by rw [hveq]; intro x hx; simp only [List.mem_cons, List.not_mem_nil, or_false] at hx; omega)
          generalize PR.getD 64 0 = p64 at *
          clear hH hveq hlt hi bA bB bC bD bE bF bG bQ
          go_wp2_with fail
          go_loopw [9] (fun ct wx => ∃ k : Nat, k ≤ 8 ∧ ct = .int .i64 k ∧ RtH w wx g5 g7 h ws (addTo h (rnds KT ws h 64) k)) (fun ct _ => 8 - (intOf ct).toNat)
          case atStart => exact ⟨0, by omega, rfl, HHE.out⟩
          case round =>
            clear HHE
            obtain ⟨k, hk, rfl, hheld⟩ := hrel
            have hal := addTo_length h (rnds KT ws h 64) k
            by_cases hlt : k < 8
            · have c0 := row_cell hheld.h7 k (by omega)
              have c1 := row_cell hheld.hh k (by rw [HHH.out]; exact hlt)
              have f0 := row_free hheld.h7 k
              obtain ⟨y, hy'⟩ : ∃ y, y = ((addTo h (rnds KT ws h 64) k).getD k 0 + h.getD k 0) % 4294967296 := ⟨_, rfl⟩
              have hyI : (((addTo h (rnds KT ws h 64) k).getD k 0 : Nat) + (h.getD k 0 : Nat) : Int) % 4294967296 = (y : Int) := by rw [hy']; omega
              have hyW : IntKind.u32.wrap (((addTo h (rnds KT ws h 64) k).getD k 0 : Nat) + (h.getD k 0 : Nat) : Int) = (y : Int) := by rw [IntKind.wrap_u32']; exact hyI
              have eA : (addTo h (rnds KT ws h 64) k).set k y = addTo h (rnds KT ws h 64) (k + 1) := by rw [hy']; rfl
              have hst := hheld.store k y
              rw [eA] at hst
              have HST := Lib.hid hst
              clear hst eA hy' hheld hal
              generalize (addTo h (rnds KT ws h 64) k).getD k 0 = p at *
              generalize h.getD k 0 = q at *
              have k0 : (0 : Int) ≤ k := by omega
              have k1 : (k : Int) < 8 := by omega
              go_wp2_with fail
              go_still_tail 8, (by kernel_rfl)
              change wpList _ _ _ _ _ wr.drew
              clear c1
              go_wp2_with fail
              go_roundw
              case rel => exact ⟨k + 1, by omega, by go_num, HST.out.drew1⟩
              case measure => simp [intOf]; omega
            · obtain rfl : k = 8 := by omega
              rw [show ((8 : Nat) : Int) = 8 from rfl]
              have hc7 := hheld.h7
              have hcr := hheld.hr
              have hfin : Below w.heap.size w (wr.setRow (w.heap.size + 2) (cw .u32 (addTo h (rnds KT ws h 64) 8))) := below_setRow hheld.below (by omega) _
              have hrow := setRow_heap wr (w.heap.size + 2) (cw .u32 [0, 0, 0, 0, 0, 0, 0, 0]) (cw .u32 (addTo h (rnds KT ws h 64) 8)) 23 (0, 0) hcr
              have h8 : (cw .u32 (addTo h (rnds KT ws h 64) 8)).size = 8 := by rw [cw_size, hal, hvl]
              have hval : addTo h (rnds KT ws h 64) 8 = addL h (rnds KT ws h 64) := by rw [HVE.out, HHH.out]; exact addTo_eight _ _ _ _ _ _ _ _ _ _ _ _ _ _ _ _
              have C7 := Lib.hid hc7
              have CR := Lib.hid hcr
              have HF := Lib.hid hfin
              have HW := Lib.hid hrow
              have HV := Lib.hid hval
              clear hc7 hcr hfin hrow hval hheld hal hvl hlt hk
              go_wp2_with (first | (with_reducible refine wpList_load_row rfl 23 _ rfl g7 rfl 23 (cw .u32 (addTo h (rnds KT ws h 64) 8)) (0, 0) _ ?_ Tryd.underlying23 rfl ?_ ?_) | (with_reducible refine wpList_store_row rfl 23 _ _ rfl (w.heap.size + 2) _ rfl rfl 23 (cw .u32 [0, 0, 0, 0, 0, 0, 0, 0]) ?_ ?_ ?_ ?_ ?_))
              · exact C7.out
              · rw [h8]; exact info8
              · exact CR.out
              · rw [h8]; exact info8
              · rw [h8]; rfl
              · exact cw_one _ _
              · go_wp2_with fail
                refine bodyPost_ret (results_cell_row rfl _ _ (w.heap.size + 2) 23 _ (0, 0) _ rfl HW.out Tryd.underlying23 rfl (by rw [h8]; exact info8)) rfl ⟨?_, HF.out⟩
                rw [HV.out, ← HWS.out]
                rfl
end Go.Proofs.YtemioilfedpohaaDoor

