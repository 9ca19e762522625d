/- The walk of depotref01.Block. -/
import Derived.Test.YtemioilfedpohaaDoorRconstShaBlocks
namespace Go.Proofs.YtemioilfedpohaaDoor
open Go.RowKit

theorem rnd_mod (l : List Nat) (x : Nat) : rnd l (x % 4294967296) = rnd l x := by
  unfold rnd
  split
  · congr 1
    · omega
    · simp only [List.cons.injEq, and_true, true_and]; omega
  · rfl

theorem rstep_lit (A B C D E F G Q x : Nat) (hs : Small [A, B, C, D, E, F, G, Q]) (w : World) :
    Calls Tryd.prog 31 #[.agg #[.int .u32 (A : Int), .int .u32 (B : Int), .int .u32 (C : Int), .int .u32 (D : Int), .int .u32 (E : Int), .int .u32 (F : Int), .int .u32 (G : Int), .int .u32 (Q : Int)], .int .u32 (x : Int)] w fun e w' => e = .returned (.agg (cw .u32 (rnd [A, B, C, D, E, F, G, Q] x))) ∧ Below w.heap.size w w' :=
  rstep_any A B C D E F G Q x hs w

/-- what stands in memory while the document's block is worked out: the words in block g5, the constants in g6, the eight words in g7 -/
structure Held3 (w wr : World) (g5 g6 g7 : Nat) (h ws v : List Nat) : Prop where
  o5 : w.heap.size + 3 ≤ g5
  o6 : g5 < g6
  o7 : g6 < g7
  size : g7 < wr.heap.size
  hh : wr.heap[w.heap.size]? = some (.cells (cw .u32 h) 23 (0, 0))
  hr : wr.heap[w.heap.size + 2]? = some (.cells (cw .u32 [0, 0, 0, 0, 0, 0, 0, 0]) 23 (0, 0))
  h5 : wr.heap[g5]? = some (.cells (cw .u32 ws) 56 (0, 0))
  h6 : wr.heap[g6]? = some (.cells (cw .u32 KT) 56 (0, 0))
  h7 : wr.heap[g7]? = some (.cells (cw .u32 v) 23 (0, 0))
  below : Below w.heap.size w wr
theorem Held3.later {w wr w1 : World} {g5 g6 g7 : Nat} {h ws v : List Nat} (H : Held3 w wr g5 g6 g7 h ws v) (hb : Below wr.heap.size wr w1) : Held3 w w1 g5 g6 g7 h ws v :=
  have h1 := H.o5; have h2 := H.o6; have h3 := H.o7; have h4 := H.size
  ⟨h1, h2, h3, Nat.lt_of_lt_of_le h4 hb.size, (hb.block _ (by omega)).trans H.hh, (hb.block _ (by omega)).trans H.hr, (hb.block _ (by omega)).trans H.h5, (hb.block _ (by omega)).trans H.h6, (hb.block _ (by omega)).trans H.h7, H.below.trans (hb.mono (by omega))⟩
theorem Held3.row {w wr : World} {g5 g6 g7 : Nat} {h ws v : List Nat} (H : Held3 w wr g5 g6 g7 h ws v) (v' : List Nat) : Held3 w (wr.setRow g7 (cw .u32 v')) g5 g6 g7 h ws v' :=
  have h1 := H.o5; have h2 := H.o6; have h3 := H.o7; have h4 := H.size
  ⟨h1, h2, h3, by simpa using h4, (setRow_other _ _ _ _ (by omega)).trans H.hh, (setRow_other _ _ _ _ (by omega)).trans H.hr, (setRow_other _ _ _ _ (by omega)).trans H.h5, (setRow_other _ _ _ _ (by omega)).trans H.h6, setRow_heap _ _ _ _ _ _ H.h7, below_setRow H.below (by omega) _⟩
theorem Held3.store {w wr : World} {g5 g6 g7 : Nat} {h ws v : List Nat} (H : Held3 w wr g5 g6 g7 h ws v) (i x : Nat) : Held3 w (wr.setCell ⟨g7, i, none⟩ (.int .u32 (x : Int))) g5 g6 g7 h ws (v.set i x) :=
  have h1 := H.o5; have h2 := H.o6; have h3 := H.o7; have h4 := H.size
  ⟨h1, h2, h3, by simpa [World.setCell] using h4, row_other H.hh (by omega), row_other H.hr (by omega), row_other H.h5 (by omega), row_other H.h6 (by omega), row_store H.h7 i x, H.below.setCell (by simp; omega) _⟩
theorem Held3.drew1 {w wr : World} {g5 g6 g7 : Nat} {h ws v : List Nat} (H : Held3 w wr g5 g6 g7 h ws v) : Held3 w wr.drew g5 g6 g7 h ws v :=
  ⟨H.o5, H.o6, H.o7, H.size, H.hh, H.hr, H.h5, H.h6, H.h7, ⟨H.below.os, H.below.tape, H.below.output, H.below.size, H.below.block⟩⟩

/-- the last loop -/
def addTo (h v : List Nat) : Nat → List Nat
  | 0 => v
  | k + 1 => (addTo h v k).set k (((addTo h v k).getD k 0 + h.getD k 0) % 4294967296)
theorem addTo_length (h v : List Nat) : ∀ k, (addTo h v k).length = v.length
  | 0 => rfl
  | k + 1 => by simp [addTo, addTo_length h v k]
theorem addTo_eight (h0 h1 h2 h3 h4 h5 h6 h7 A B C D E F G Q : Nat) : addTo [h0, h1, h2, h3, h4, h5, h6, h7] [A, B, C, D, E, F, G, Q] 8 = addL [h0, h1, h2, h3, h4, h5, h6, h7] [A, B, C, D, E, F, G, Q] := by
  simp [addTo, addL, Nat.add_comm]

/-- a new block that is written whole at once -/
structure NewRow (v v' : World) (c : Array Value) (t : TypeId) : Prop where
  size : v'.heap.size = v.heap.size + 1
  new : v'.heap[v.heap.size]? = some (.cells c t (0, 0))
  below : Below v.heap.size v v'
theorem new_row (v : World) (c0 c : Array Value) (t : TypeId) : NewRow v ((v.alloc (.cells c0 t)).setRow v.heap.size c) c t :=
  ⟨by simp, setRow_heap _ _ _ _ _ _ (heap_alloc_new v (.cells c0 t)), below_setRow ((Below.refl _ _).alloc (Nat.le_refl _) _) (Nat.le_refl _) _⟩

theorem info8 : (Tryd.prog.info? 23).map (·.size) = some 8 := by kernel_rfl
theorem info64b : (Tryd.prog.info? 24).map (·.size) = some 64 := by kernel_rfl

set_option maxRecDepth 100000 in
set_option maxHeartbeats 4000000 in
theorem rblock_any (h b : List Nat) (h0 h1 h2 h3 h4 h5 h6 h7 : Nat) (hh : h = [h0, h1, h2, h3, h4, h5, h6, h7]) (hb : b.length = 64) (hs : Small h) (hy : Bytes b) (w : World) :
    Calls Tryd.prog 12 #[.agg (cw .u32 h), .agg (cw .u8 b)] w fun e w' => e = .returned (.agg (cw .u32 (blk KT h b))) ∧ Below w.heap.size w w' := by
  obtain ⟨W, hW⟩ : ∃ W, W = ((w.alloc (.cells (cw .u32 h) 23)).alloc (.cells (cw .u8 b) 24)).alloc (.cells (cw .u32 [0, 0, 0, 0, 0, 0, 0, 0]) 23) := ⟨_, rfl⟩
  have e1 : W.heap = ((w.heap.push (.cells (cw .u32 h) 23)).push (.cells (cw .u8 b) 24)).push (.cells (cw .u32 [0, 0, 0, 0, 0, 0, 0, 0]) 23) := by rw [hW]; rfl
  have k1 : W.heap[w.heap.size]? = some (.cells (cw .u32 h) 23 (0, 0)) := by
    rw [e1]; simp only [Array.getElem?_push, Array.size_push]; rw [if_neg (by omega), if_neg (by omega), if_pos trivial]
  have k2 : W.heap[w.heap.size + 1]? = some (.cells (cw .u8 b) 24 (0, 0)) := by
    rw [e1]; simp only [Array.getElem?_push, Array.size_push]; rw [if_neg (by omega), if_pos trivial]
  have k3 : W.heap[w.heap.size + 2]? = some (.cells (cw .u32 [0, 0, 0, 0, 0, 0, 0, 0]) 23 (0, 0)) := by
    rw [e1]; simp only [Array.getElem?_push, Array.size_push]; rw [if_pos trivial]
  have k4 : W.heap.size = w.heap.size + 3 := by rw [e1]; simp
  have k5 : Below w.heap.size w W := by
    rw [hW]
    exact (((Below.refl _ _).alloc (Nat.le_refl _) _).alloc (by simp) _).alloc (by simp; omega) _
  rw [hW] at k2
  have K1 := Lib.hid k1
  have K3 := Lib.hid k3
  have K4 := Lib.hid k4
  have K5 := Lib.hid k5
  have HW := Lib.hid hW
  have HHH := Lib.hid hh
  clear k1 k3 k4 k5 e1 hW hh
  go_enter Tryd.func12, Tryd.ntmps12
  go_wp2_with (first | (with_reducible refine wpList_load_row rfl 24 _ rfl (w.heap.size + 1) rfl 24 (cw .u8 b) (0, 0) _ ?_ Tryd.underlying24 rfl ?_ ?_))
  · exact k2
  · rw [cw_size, hb]; exact info64b
  · go_wp2_with fail
    refine (words_any b hb hy _).mono ?_
    rintro e w1 ⟨rfl, hb1⟩
    have hbW : Below W.heap.size W w1 := by rw [HW.out]; exact hb1
    have j1 : w1.heap[w.heap.size]? = _ := (hbW.block _ (by have := K4.out; omega)).trans K1.out
    have j2 : w1.heap[w.heap.size + 2]? = _ := (hbW.block _ (by have := K4.out; omega)).trans K3.out
    have j3 : w.heap.size + 3 ≤ w1.heap.size := by have := K4.out; have := hbW.size; omega
    have j4 : Below w.heap.size w w1 := K5.out.trans (hbW.mono (by have := K4.out; omega))
    have J1 := Lib.hid j1
    have J2 := Lib.hid j2
    have J4 := Lib.hid j4
    have hws := sch_length b 48
    clear hb1 hbW j1 j2 j4 k2 K1 K3 K4 K5 HW
    generalize hwe : sch b 48 = ws at *
    have HWS := Lib.hid hwe
    clear hwe
    have l1 : (w1.alloc (.cells (cw .u32 (List.replicate 64 0)) 56)).heap[w1.heap.size]? = some (.cells (cw .u32 (List.replicate 64 0)) 56 (0, 0)) := heap_alloc_new _ _
    have L1 := Lib.hid l1
    clear l1
    go_wp2_with (first | (with_reducible refine wpList_store_row rfl 56 _ _ rfl w1.heap.size _ rfl rfl 56 (cw .u32 (List.replicate 64 0)) ?_ ?_ ?_ ?_ ?_))
    · exact L1.out
    · rw [cw_size, hws]; exact info64
    · rw [cw_size, cw_size, hws]; rfl
    · exact cw_one _ _
    · go_wp2_with fail
      obtain ⟨W2, hW2⟩ : ∃ W2, W2 = (w1.alloc (.cells (cw .u32 (List.replicate 64 0)) 56)).setRow w1.heap.size (cw .u32 ws) := ⟨_, rfl⟩
      have n2 : NewRow w1 W2 (cw .u32 ws) 56 := by rw [hW2]; exact new_row _ _ _ _
      have HW2 := Lib.hid hW2
      have N2 := Lib.hid n2
      clear hW2 n2 L1
      refine (constants_any _).mono ?_
      rintro e w3 ⟨rfl, hb3⟩
      have hb3' : Below W2.heap.size W2 w3 := by rw [HW2.out]; exact hb3
      have B3 := Lib.hid hb3'
      clear hb3 hb3' HW2
      have L3 := Lib.hid (heap_alloc_new w3 (.cells (cw .u32 (List.replicate 64 0)) 56))
      obtain ⟨W4, hW4⟩ : ∃ W4, W4 = (w3.alloc (.cells (cw .u32 (List.replicate 64 0)) 56)).setRow w3.heap.size (cw .u32 KT) := ⟨_, rfl⟩
      have n4 : NewRow w3 W4 (cw .u32 KT) 56 := by rw [hW4]; exact new_row _ _ _ _
      obtain ⟨W5, hW5⟩ : ∃ W5, W5 = (W4.alloc (.cells (cw .u32 [0, 0, 0, 0, 0, 0, 0, 0]) 23)).setRow W4.heap.size (cw .u32 h) := ⟨_, rfl⟩
      have n5 : NewRow W4 W5 (cw .u32 h) 23 := by rw [hW5]; exact new_row _ _ _ _
      have held0 : Held3 w W5 w1.heap.size w3.heap.size W4.heap.size h ws (rnds KT ws h 0) := by
        have s2 := N2.out.size
        have s3 := B3.out.size
        have s4 := n4.size
        have s5 := n5.size
        have up : ∀ i, i < w1.heap.size → W5.heap[i]? = w1.heap[i]? := fun i hi =>
          (n5.below.block i (by omega)).trans ((n4.below.block i (by omega)).trans ((B3.out.block i (by omega)).trans (N2.out.below.block i hi)))
        refine ⟨j3, by omega, by omega, by omega, (up _ (by omega)).trans J1.out, (up _ (by omega)).trans J2.out, ?_, ?_, ?_, ?_⟩
        · exact (n5.below.block _ (by omega)).trans ((n4.below.block _ (by omega)).trans ((B3.out.block _ (by omega)).trans N2.out.new))
        · exact (n5.below.block _ (by omega)).trans n4.new
        · exact n5.new
        · exact J4.out.trans ((N2.out.below.mono (by omega)).trans ((B3.out.mono (by omega)).trans ((n4.below.mono (by omega)).trans (n5.below.mono (by omega)))))
      have l4 : W4.heap[w.heap.size]? = some (.cells (cw .u32 h) 23 (0, 0)) := by
        have s2 := N2.out.size
        have s3 := B3.out.size
        exact (n4.below.block _ (by omega)).trans ((B3.out.block _ (by omega)).trans ((N2.out.below.block _ (by omega)).trans J1.out))
      have l5 := heap_alloc_new W4 (.cells (cw .u32 [0, 0, 0, 0, 0, 0, 0, 0]) 23)
      rw [n4.size] at held0 l5 hW5
      clear n4 n5
      subst hW5
      subst hW4
      have L4 := Lib.hid l4
      have L5 := Lib.hid l5
      have HELD := Lib.hid held0
      clear held0 l4 l5 N2 B3 J1 J2 J4
      have hh8 : (cw .u32 h).size = 8 := by rw [cw_size, HHH.out]; rfl
      go_wp2_with (first | (with_reducible refine wpList_store_row rfl 56 _ _ rfl w3.heap.size _ rfl rfl 56 (cw .u32 (List.replicate 64 0)) ?_ ?_ ?_ ?_ ?_) | (with_reducible refine wpList_load_row rfl 23 _ rfl w.heap.size rfl 23 (cw .u32 h) (0, 0) _ ?_ Tryd.underlying23 rfl ?_ ?_) | (with_reducible refine wpList_store_row rfl 23 _ _ rfl (w3.heap.size + 1) _ rfl rfl 23 (cw .u32 [0, 0, 0, 0, 0, 0, 0, 0]) ?_ ?_ ?_ ?_ ?_))
      · exact L3.out
      · rw [cw_size, KT_length]; exact info64
      · rw [cw_size, cw_size, KT_length]; rfl
      · exact cw_one _ _
      · exact L4.out
      · rw [hh8]; exact info8
      · exact L5.out
      · rw [hh8]; exact info8
      · rw [hh8]; rfl
      · exact cw_one _ _
      · go_loopw [8] (fun ct wx => ∃ j : Nat, j ≤ 64 ∧ ct = .int .i64 j ∧ Held3 w wx w1.heap.size w3.heap.size (w3.heap.size + 1) h ws (rnds KT ws h j)) (fun ct _ => 64 - (intOf ct).toNat)
        case atStart => exact ⟨0, by omega, rfl, HELD.out⟩
        case round =>
          clear HELD L3 L4 L5 hh8 j3
          obtain ⟨j, hj, rfl, hheld⟩ := hrel
          obtain ⟨A, B, C, D, E, F, G, Q, hveq, bA, bB, bC, bD, bE, bF, bG, bQ⟩ := rnds_eight KT ws h (by rw [HHH.out]; rfl) hs j
          by_cases hlt : j < 64
          · have hsm : Small [A, B, C, D, E, F, G, Q] := by
              intro x hx
              simp only [List.mem_cons, List.not_mem_nil, or_false] at hx
              omega
            have hkl := KT_length
            have c0 := row_cell hheld.h7 0 (by rw [hveq]; simp)
            rw [show (rnds KT ws h j).getD 0 0 = A by rw [hveq]; rfl] at c0
            have c1 := row_cell hheld.h7 1 (by rw [hveq]; simp)
            rw [show (rnds KT ws h j).getD 1 0 = B by rw [hveq]; rfl] at c1
            have c2 := row_cell hheld.h7 2 (by rw [hveq]; simp)
            rw [show (rnds KT ws h j).getD 2 0 = C by rw [hveq]; rfl] at c2
            have c3 := row_cell hheld.h7 3 (by rw [hveq]; simp)
            rw [show (rnds KT ws h j).getD 3 0 = D by rw [hveq]; rfl] at c3
            have c4 := row_cell hheld.h7 4 (by rw [hveq]; simp)
            rw [show (rnds KT ws h j).getD 4 0 = E by rw [hveq]; rfl] at c4
            have c5 := row_cell hheld.h7 5 (by rw [hveq]; simp)
            rw [show (rnds KT ws h j).getD 5 0 = F by rw [hveq]; rfl] at c5
            have c6 := row_cell hheld.h7 6 (by rw [hveq]; simp)
            rw [show (rnds KT ws h j).getD 6 0 = G by rw [hveq]; rfl] at c6
            have c7 := row_cell hheld.h7 7 (by rw [hveq]; simp)
            rw [show (rnds KT ws h j).getD 7 0 = Q by rw [hveq]; rfl] at c7
            have cK := row_cell hheld.h6 j (by rw [KT_length]; omega)
            have cW := row_cell hheld.h5 j (by omega)
            obtain ⟨x, hx⟩ : ∃ x, x = (KT.getD j 0 + ws.getD j 0) % 4294967296 := ⟨_, rfl⟩
            have hxI : ((KT.getD j 0 : Nat) + (ws.getD j 0 : Nat) : Int) % 4294967296 = (x : Int) := by rw [hx]; omega
            have hxW : IntKind.u32.wrap ((KT.getD j 0 : Nat) + (ws.getD j 0 : Nat) : Int) = (x : Int) := by rw [IntKind.wrap_u32']; exact hxI
            have hnx : rnd [A, B, C, D, E, F, G, Q] x = rnds KT ws h (j + 1) := by rw [hx, rnd_mod, rnds, hveq]
            have hbig : (rnds KT ws h (j + 1)).length = 8 := by rw [← hnx]; rfl
            have HNX := Lib.hid hnx
            have HVE := Lib.hid hveq
            have HHE := Lib.hid hheld
            have HBG := Lib.hid hbig
            clear hnx hveq hheld hx bA bB bC bD bE bF bG bQ hbig hkl
            generalize KT.getD j 0 = kj at *
            generalize ws.getD j 0 = wj at *
            have j0 : (0 : Int) ≤ j := by omega
            have j1 : (j : Int) < 64 := by omega
            go_wp2_with fail
            go_still_tail 8, (by kernel_rfl)
            change wpList _ _ _ _ _ wr.drew
            clear c0 c1 c2 c3 c4 c5 c6 c7 cK cW
            go_wp2_with fail
            refine (rstep_lit A B C D E F G Q x hsm _).mono ?_
            rintro e w4 ⟨rfl, hb4⟩
            have held4 : Held3 w w4 w1.heap.size w3.heap.size (w3.heap.size + 1) h ws (rnds KT ws h j) := HHE.out.drew1.later hb4
            have hc7 := held4.h7
            have hb8 : (cw .u32 (rnds KT ws h j)).size = 8 := by rw [cw_size, HVE.out]; rfl
            have held5 := held4.row (rnd [A, B, C, D, E, F, G, Q] x)
            have C7 := Lib.hid hc7
            have B8 := Lib.hid hb8
            have H5 := Lib.hid held5
            have hn8 : (cw .u32 (rnd [A, B, C, D, E, F, G, Q] x)).size = 8 := rfl
            clear hc7 hb8 held4 held5 hb4 hxI hxW hsm
            go_wp2_with (first | (with_reducible refine wpList_store_row rfl 23 _ _ rfl (w3.heap.size + 1) _ rfl rfl 23 (cw .u32 (rnds KT ws h j)) ?_ ?_ ?_ ?_ ?_))
            · exact C7.out
            · rw [hn8]; exact info8
            · rw [hn8]; exact B8.out
            · exact cw_one _ _
            · go_wp2_with fail
              go_roundw
              case rel => exact ⟨j + 1, by omega, by go_num, by rw [← HNX.out]; exact H5.out⟩
              case measure => simp [intOf]; omega
          · obtain rfl : j = 64 := by omega
            rw [show ((64 : Nat) : Int) = 64 from rfl]
            have HHE := Lib.hid hheld
            have HVE := Lib.hid hveq
            have hvl : (rnds KT ws h 64).length = 8 := by rw [hveq]; rfl
            have hv8 := Small.get (xs := rnds KT ws h 64) (by rw [hveq]; intro x hx; simp only [List.mem_cons, List.not_mem_nil, or_false] at hx; omega)
            clear hheld hveq hlt hj bA bB bC bD bE bF bG bQ
            go_wp2_with fail
            go_loopw [9] (fun ct wx => ∃ k : Nat, k ≤ 8 ∧ ct = .int .i64 k ∧ Held3 w wx w1.heap.size w3.heap.size (w3.heap.size + 1) h ws (addTo h (rnds KT ws h 64) k)) (fun ct _ => 8 - (intOf ct).toNat)
            case atStart => exact ⟨0, by omega, rfl, HHE.out⟩
            case round =>
              clear HHE
              obtain ⟨k, hk, rfl, hheld⟩ := hrel
              have hal := addTo_length h (rnds KT ws h 64) k
              by_cases hlt : k < 8
              · have c0 := row_cell hheld.h7 k (by omega)
                have c1 := row_cell hheld.hh k (by rw [HHH.out]; exact hlt)
                have f0 := row_free hheld.h7 k
                obtain ⟨y, hy'⟩ : ∃ y, y = ((addTo h (rnds KT ws h 64) k).getD k 0 + h.getD k 0) % 4294967296 := ⟨_, rfl⟩
                have hyI : (((addTo h (rnds KT ws h 64) k).getD k 0 : Nat) + (h.getD k 0 : Nat) : Int) % 4294967296 = (y : Int) := by rw [hy']; omega
                have hyW : IntKind.u32.wrap (((addTo h (rnds KT ws h 64) k).getD k 0 : Nat) + (h.getD k 0 : Nat) : Int) = (y : Int) := by rw [IntKind.wrap_u32']; exact hyI
                have eA : (addTo h (rnds KT ws h 64) k).set k y = addTo h (rnds KT ws h 64) (k + 1) := by rw [hy']; rfl
                have hst := hheld.store k y
                rw [eA] at hst
                have HST := Lib.hid hst
                clear hst eA hy' hheld hal
                generalize (addTo h (rnds KT ws h 64) k).getD k 0 = p at *
                generalize h.getD k 0 = q at *
                have k0 : (0 : Int) ≤ k := by omega
                have k1 : (k : Int) < 8 := by omega
                go_wp2_with fail
                go_still_tail 8, (by kernel_rfl)
                change wpList _ _ _ _ _ wr.drew
                clear c1
                go_wp2_with fail
                go_roundw
                case rel => exact ⟨k + 1, by omega, by go_num, HST.out.drew1⟩
                case measure => simp [intOf]; omega
              · obtain rfl : k = 8 := by omega
                rw [show ((8 : Nat) : Int) = 8 from rfl]
                have hc7 := hheld.h7
                have hcr := hheld.hr
                have hfin : Below w.heap.size w (wr.setRow (w.heap.size + 2) (cw .u32 (addTo h (rnds KT ws h 64) 8))) := below_setRow hheld.below (by omega) _
                have hrow := setRow_heap wr (w.heap.size + 2) (cw .u32 [0, 0, 0, 0, 0, 0, 0, 0]) (cw .u32 (addTo h (rnds KT ws h 64) 8)) 23 (0, 0) hcr
                have h8 : (cw .u32 (addTo h (rnds KT ws h 64) 8)).size = 8 := by rw [cw_size, hal, hvl]
                have hval : addTo h (rnds KT ws h 64) 8 = addL h (rnds KT ws h 64) := by rw [HVE.out, HHH.out]; exact addTo_eight _ _ _ _ _ _ _ _ _ _ _ _ _ _ _ _
                have C7 := Lib.hid hc7
                have CR := Lib.hid hcr
                have HF := Lib.hid hfin
                have HW := Lib.hid hrow
                have HV := Lib.hid hval
                clear hc7 hcr hfin hrow hval hheld hal hvl hlt hk
                go_wp2_with (first | (with_reducible refine wpList_load_row rfl 23 _ rfl (w3.heap.size + 1) rfl 23 (cw .u32 (addTo h (rnds KT ws h 64) 8)) (0, 0) _ ?_ Tryd.underlying23 rfl ?_ ?_) | (with_reducible refine wpList_store_row rfl 23 _ _ rfl (w.heap.size + 2) _ rfl rfl 23 (cw .u32 [0, 0, 0, 0, 0, 0, 0, 0]) ?_ ?_ ?_ ?_ ?_))
                · exact C7.out
                · rw [h8]; exact info8
                · exact CR.out
                · rw [h8]; exact info8
                · rw [h8]; rfl
                · exact cw_one _ _
                · go_wp2_with fail
                  refine bodyPost_ret (results_cell_row rfl _ _ (w.heap.size + 2) 23 _ (0, 0) _ rfl HW.out Tryd.underlying23 rfl (by rw [h8]; exact info8)) rfl ⟨?_, HF.out⟩
                  rw [HV.out, ← HWS.out]
                  rfl
end Go.Proofs.YtemioilfedpohaaDoor
