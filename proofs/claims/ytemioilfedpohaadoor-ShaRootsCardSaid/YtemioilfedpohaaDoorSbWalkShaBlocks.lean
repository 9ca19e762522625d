/- The walk of the law ShaBlocks: it returns true. -/
import Derived.Test.YtemioilfedpohaaDoorRblkShaBlocks
import Derived.Deep.RegionHeld3
import Derived.Test.YtemioilfedpohaaDoorEqr
namespace Go.Proofs.YtemioilfedpohaaDoor
open Go.RowKit

/-- the two arguments, boxed -/
structure HoldB (w wr : World) (h b : List Nat) : Prop where
  size : w.heap.size + 2 ≤ wr.heap.size
  hh : wr.heap[w.heap.size]? = some (.cells (cw .u32 h) 23 (0, 0))
  hb : wr.heap[w.heap.size + 1]? = some (.cells (cw .u8 b) 24 (0, 0))
  below : Below w.heap.size w wr
theorem HoldB.later {w wr w1 : World} {h b : List Nat} (H : HoldB w wr h b) (hb : Below wr.heap.size wr w1) : HoldB w w1 h b :=
  have h1 := H.size
  ⟨Nat.le_trans h1 hb.size, (hb.block _ (by omega)).trans H.hh, (hb.block _ (by omega)).trans H.hb, H.below.trans (hb.mono (by omega))⟩
theorem HoldB.drew1 {w wr : World} {h b : List Nat} (H : HoldB w wr h b) : HoldB w wr.drew h b :=
  ⟨H.size, H.hh, H.hb, ⟨H.below.os, H.below.tape, H.below.output, H.below.size, H.below.block⟩⟩

theorem HoldB.range1 {w wr : World} {h b : List Nat} (H : HoldB w wr h b) : wr.rangeAt w.heap.size 0 (cw .u32 h).toList := by
  intro j v hv
  rw [Nat.zero_add, cell_of_row wr _ j _ _ _ H.hh]
  simpa using hv
theorem HoldB.range2 {w wr : World} {h b : List Nat} (H : HoldB w wr h b) : wr.rangeAt (w.heap.size + 1) 0 (cw .u8 b).toList := by
  intro j v hv
  rw [Nat.zero_add, cell_of_row wr _ j _ _ _ H.hb]
  simpa using hv

theorem block_lit {TK : TypeId} (K b h : List Nat) (h0 h1 h2 h3 h4 h5 h6 h7 : Nat) (hh : h = [h0, h1, h2, h3, h4, h5, h6, h7]) (hb : b.length = 64) (hs : Small h) (hy : Bytes b) (hKl : K.length = 64) (w : World)
    (hK : w.heap[0]? = some (.cells (cw .u32 K) TK (0, 0))) :
    Calls Tryd.prog 11 #[.agg (cw .u32 h).toList.toArray, .agg (cw .u8 b).toList.toArray] w
      fun e w' => e = .returned (.agg (cw .u32 (blk K h b))) ∧ Below w.heap.size w w' := by
  rw [Array.toArray_toList, Array.toArray_toList]
  exact block_any K h b h0 h1 h2 h3 h4 h5 h6 h7 hh hb hs hy hKl w hK
theorem rblock_lit (b h : List Nat) (h0 h1 h2 h3 h4 h5 h6 h7 : Nat) (hh : h = [h0, h1, h2, h3, h4, h5, h6, h7]) (hb : b.length = 64) (hs : Small h) (hy : Bytes b) (w : World) :
    Calls Tryd.prog 12 #[.agg (cw .u32 h).toList.toArray, .agg (cw .u8 b).toList.toArray] w
      fun e w' => e = .returned (.agg (cw .u32 (blk KT h b))) ∧ Below w.heap.size w w' := by
  rw [Array.toArray_toList, Array.toArray_toList]
  exact rblock_any h b h0 h1 h2 h3 h4 h5 h6 h7 hh hb hs hy w

theorem yieldsIf_bin {P : Program} {ops : Array Oper} {S : World → Prop} {op : Oper} {a : Act} (hw : Region.wanted op (yielded ops a.tmps) = true) (b : BinOp) (t : TypeId) (x y : Operand) (ty : TypeId) (ho : op.op = .binOp b t x y ty)
    (u v r : Value) (hx : a.eval x = u) (hy : a.eval y = v) (hg : ∀ w, (eqGuard b t x y u v).run P w = .ok () w) (h : ∀ w, (binOp b t u v).run P w = .ok r w) : YieldsIf P ops S op r a :=
  .inl ⟨hw, fun w _ => by
    unfold execOp
    simp only [ho, hx, hy, Sem.run_bind, h, hg, Result.andThen_ok, Sem.run_pure]⟩

theorem blk_length (K h b : List Nat) (hh : h.length = 8) (hs : Small h) : (blk K h b).length = 8 := by
  obtain ⟨a, b', c, d, e, f, g, k, hr, _⟩ := rnds_eight K (sch b 48) h hh hs 64
  unfold blk addL
  rw [hr, List.length_zipWith, hh]
  rfl
theorem eq_row (h b : List Nat) (hh : h.length = 8) (hs : Small h) (w : World) :
    (binOp .eql 23 (.agg (cw .u32 (blk KT h b))) (.agg (cw .u32 (blk KT h b)))).run Tryd.prog w = .ok (.bool true) w := by
  have hl : (blk KT h b).length = 8 := blk_length KT h b hh hs
  obtain ⟨inf, hinf⟩ := Option.isSome_iff_exists.1 (show (Tryd.prog.info? 22).isSome = true by kernel_rfl)
  have := eqr_eql (P := Tryd.prog) (k := .u32) (t := 23) (e := 22) (n := 8) (inf := inf) Tryd.underlying23 Tryd.underlying22 hinf (by kernel_rfl) (blk KT h b) (blk KT h b) hl hl w
  rw [decide_eq_true rfl] at this
  exact this

set_option linter.unusedSimpArgs false
set_option maxRecDepth 100000 in
set_option maxHeartbeats 4000000 in
theorem sb_walk {TK : TypeId} (h b : List Nat) (h0 h1 h2 h3 h4 h5 h6 h7 : Nat) (hh : h = [h0, h1, h2, h3, h4, h5, h6, h7]) (hb : b.length = 64) (hs : Small h) (hy : Bytes b) (w : World)
    (hK : w.heap[0]? = some (.cells (cw .u32 KT) TK (0, 0))) :
    Calls Tryd.prog 3 #[.agg (cw .u32 h), .agg (cw .u8 b)] w fun e w' => e = .returned (.bool true) ∧ Below w.heap.size w w' := by
  have hst : HoldB w ((w.alloc (.cells (cw .u32 h) 23)).alloc (.cells (cw .u8 b) 24)) h b := by
    have e1 : ((w.alloc (.cells (cw .u32 h) 23)).alloc (.cells (cw .u8 b) 24)).heap = (w.heap.push (.cells (cw .u32 h) 23)).push (.cells (cw .u8 b) 24) := rfl
    refine ⟨by rw [e1]; simp, ?_, ?_, ((Below.refl _ _).alloc (Nat.le_refl _) _).alloc (by simp) _⟩
    all_goals rw [e1]; simp only [Array.getElem?_push, Array.size_push]
    · rw [if_neg (by omega), if_pos trivial]
    · rw [if_pos trivial]
  have hw0 : 0 < w.heap.size := by
    rcases Nat.eq_zero_or_pos w.heap.size with h | h
    · rw [Array.getElem?_eq_none (by omega)] at hK; cases hK
    · exact h
  have HK := Lib.hid hK
  have HST := Lib.hid hst
  have hi2 : (Tryd.prog.info? 24).map (·.size) = some (cw .u8 b).toList.length := by rw [Array.length_toList, cw_size, hb]; exact info64b
  have hi1 : (Tryd.prog.info? 23).map (·.size) = some (cw .u32 h).toList.length := by rw [Array.length_toList, cw_size, hh]; exact info8
  have HH := Lib.hid hh
  clear hK hst hh
  go_enter Tryd.func3, Tryd.ntmps3
  go_wp2_with fail
  refine wp_region_noPanic ?_
  refine wp_region_held_drew (S := fun w' => HoldB w w' h b) (by kernel_rfl) HST.out.drew1 (fun hHeld => ?_)
  refine wpAnyH_take (i := 0) (oi := _) (v := _) rfl (by kernel_rfl) (by kernel_rfl) (by kernel_rfl) (fun _ _ _ h => h) (yieldsIf_load_mid (by rfl) _ _ rfl w.heap.size 0 rfl (cw .u32 h).toList _ (fun _ H => H.range1) Tryd.underlying23 rfl hi1) hHeld ?_
  try simp only [Act.put, List.getElem_toArray, List.getElem_cons_succ, List.getElem_cons_zero, List.setIfInBounds_toArray, List.set_cons_zero, List.set_cons_succ]
  refine wpAnyH_take (i := 1) (oi := _) (v := _) rfl (by kernel_rfl) (by kernel_rfl) (by kernel_rfl) (fun _ _ _ h => h) (yieldsIf_load_mid (by rfl) _ _ rfl (w.heap.size + 1) 0 rfl (cw .u8 b).toList _ (fun _ H => H.range2) Tryd.underlying24 rfl hi2) hHeld ?_
  try simp only [Act.put, List.getElem_toArray, List.getElem_cons_succ, List.getElem_cons_zero, List.setIfInBounds_toArray, List.set_cons_zero, List.set_cons_succ]
  refine wpAnyH_take (i := 3) (oi := _) (v := _) rfl (by kernel_rfl) (by kernel_rfl) (by kernel_rfl) (fun _ _ _ h => h) (yieldsIf_load_mid (by rfl) _ _ rfl w.heap.size 0 rfl (cw .u32 h).toList _ (fun _ H => H.range1) Tryd.underlying23 rfl hi1) hHeld ?_
  try simp only [Act.put, List.getElem_toArray, List.getElem_cons_succ, List.getElem_cons_zero, List.setIfInBounds_toArray, List.set_cons_zero, List.set_cons_succ]
  refine wpAnyH_take (i := 4) (oi := _) (v := _) rfl (by kernel_rfl) (by kernel_rfl) (by kernel_rfl) (fun _ _ _ h => h) (yieldsIf_load_mid (by rfl) _ _ rfl (w.heap.size + 1) 0 rfl (cw .u8 b).toList _ (fun _ H => H.range2) Tryd.underlying24 rfl hi2) hHeld ?_
  try simp only [Act.put, List.getElem_toArray, List.getElem_cons_succ, List.getElem_cons_zero, List.setIfInBounds_toArray, List.set_cons_zero, List.set_cons_succ]
  refine wpAnyH_ready (rs := [2]) (by kernel_rfl) (by simp) ?_
  refine AllReadyH.cons (o := _) rfl (fun K hK => ?_) AllReadyH.nil
  rw [if_pos (by rfl)]
  go_simp
  go_at_call 11
  refine (block_lit KT b h h0 h1 h2 h3 h4 h5 h6 h7 HH.out hb hs hy KT_length _ ((hHeld.below.block 0 hw0).trans HK.out)).mono ?_
  rintro e w1 ⟨rfl, hbel⟩
  refine hK.out _ _ (hHeld.later hbel) (fun hHeld1 => ?_)
  clear hK K hHeld
  try dsimp only
  try simp only [Act.put, List.getElem_toArray, List.getElem_cons_succ, List.getElem_cons_zero, List.setIfInBounds_toArray, List.set_cons_zero, List.set_cons_succ]
  refine wpAnyH_ready (rs := [5]) (by kernel_rfl) (by simp) ?_
  refine AllReadyH.cons (o := _) rfl (fun K hK => ?_) AllReadyH.nil
  rw [if_pos (by rfl)]
  go_simp
  go_at_call 12
  refine (rblock_lit b h h0 h1 h2 h3 h4 h5 h6 h7 HH.out hb hs hy _).mono ?_
  rintro e w2 ⟨rfl, hbel2⟩
  refine hK.out _ _ (hHeld1.later hbel2) (fun hHeld2 => ?_)
  clear hK K hHeld1 hbel hbel2
  try simp only [Act.put, List.getElem_toArray, List.getElem_cons_succ, List.getElem_cons_zero, List.setIfInBounds_toArray, List.set_cons_zero, List.set_cons_succ]
  refine wpAnyH_take (i := 6) (oi := _) (v := .bool true) rfl (by kernel_rfl) (by kernel_rfl) (by kernel_rfl) (fun _ _ _ h => h) (yieldsIf_bin (by rfl) _ _ _ _ _ rfl _ _ _ rfl rfl (fun w => run_eqGuard_agg _ _ _ _ _ _ _ (by kernel_rfl)) (eq_row h b (by rw [HH.out]; rfl) hs)) hHeld2 ?_
  try simp only [Act.put, List.getElem_toArray, List.getElem_cons_succ, List.getElem_cons_zero, List.setIfInBounds_toArray, List.set_cons_zero, List.set_cons_succ]
  refine wpAnyH_take (i := 7) (oi := _) (v := .bool true) rfl (by kernel_rfl) (by kernel_rfl) (by kernel_rfl) (fun _ _ _ h => h) (Or.inl ⟨by rfl, fun w' _ => by go_simp⟩) hHeld2 ?_
  try simp only [Act.put, List.getElem_toArray, List.getElem_cons_succ, List.getElem_cons_zero, List.setIfInBounds_toArray, List.set_cons_zero, List.set_cons_succ]
  refine wpAnyH_done (by kernel_rfl) ?_ _
  refine NoPanic.normal ?_
  go_wp2_with fail
  go_ret
  exact ⟨rfl, hHeld2.below⟩
end Go.Proofs.YtemioilfedpohaaDoor
