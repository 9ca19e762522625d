/- The walk of (*sha.State).took. -/
import Derived.Test.YtemioilfedpohaaDoorStm
import Derived.Test.YtemioilfedpohaaDoorBlk1ShaBlocks
import Derived.Deep.RegionHeld3
namespace Go.Proofs.YtemioilfedpohaaDoor
set_option linter.unusedVariables false
set_option linter.unusedSimpArgs false
open Go.RowKit

theorem only_setG {a w : World} {g : Nat} (h : a.grownBy w (some g)) (i : Nat) (u : Value) : a.grownBy (w.setCell ⟨g, i, none⟩ u) (some g) := only_setCell (p := ⟨g, i, none⟩) h (.inl rfl) u

/-- what took leaves: the fields, and all else as it was -/
def StOut (w : World) (g n : Nat) (h buf : List Nat) (used : Nat) (e : Ending) (w' : World) : Prop := e = .returned (.tuple #[]) ∧ IsSt w' g n h buf used ∧ w.grownBy w' (some g)

set_option maxRecDepth 100000 in
set_option maxHeartbeats 1000000 in
theorem took_part (g n m used : Nat) (h buf : List Nat) (w : World) (hst : IsSt w g n h buf used) (hn : n + m < 9223372036854775807) (hlt : used + m < 64) :
    Calls Tryd.prog 35 #[.pointer (some ⟨g, 0, none⟩), .int .i64 (m : Int)] w (StOut w g (n + m) h buf (used + m)) := by
  have s1 := hst.set0 (n + m)
  have s2 := s1.set73 (used + m)
  have c0 := hst.cell0
  have f0 := hst.free 0
  have c1 := s1.cell73
  have f1 := s1.free 73
  have ho : w.grownBy ((w.setCell ⟨g, 0, none⟩ (.int .i64 ((n + m : Nat) : Int))).setCell ⟨g, 73, none⟩ (.int .i64 ((used + m : Nat) : Int))) (some g) :=
    only_setG (only_setG (World.grownBy.refl w _) _ _) _ _
  have S2 := Lib.hid s2
  have HO := Lib.hid ho
  have hne : (((used : Int) + m) == 64) = false := by rw [beq_eq_false_iff_ne]; omega
  simp only [Int.natCast_add] at c1 f1
  clear s1 s2 ho hst
  go_enter Tryd.func35, Tryd.ntmps35
  go_wp2_with fail
  go_end0
  exact ⟨rfl, S2.out, HO.out⟩

theorem block_row (h b : List Nat) (hl : h.length = 8) (hb : b.length = 64) (hs : Small h) (hy : Bytes b) (w : World) (hT : Tab w) :
    Calls Tryd.prog 11 #[.agg (cl .u32 h).toArray, .agg (cl .u8 b).toArray] w fun e w' => e = .returned (.agg (cl .u32 (blk KT h b)).toArray) ∧ Below w.heap.size w w' := by
  obtain ⟨a0, a1, a2, a3, a4, a5, a6, a7, hh⟩ : ∃ a0 a1 a2 a3 a4 a5 a6 a7, h = [a0, a1, a2, a3, a4, a5, a6, a7] := by
    match h, hl with
    | [a0, a1, a2, a3, a4, a5, a6, a7], _ => exact ⟨a0, a1, a2, a3, a4, a5, a6, a7, rfl⟩
  obtain ⟨TK, hK⟩ := hT.k
  exact block_any KT h b a0 a1 a2 a3 a4 a5 a6 a7 hh hb hs hy KT_length w hK

theorem info8s : (Tryd.prog.info? 23).map (·.size) = some 8 := by kernel_rfl
theorem info64s : (Tryd.prog.info? 24).map (·.size) = some 64 := by kernel_rfl

/-- what stands while the block is worked out -/
structure TkH (w0 : World) (g n : Nat) (h buf : List Nat) (used : Nat) (w' : World) : Prop where
  st : IsSt w' g n h buf used
  tab : Tab w'
  ot : w0.grownBy w' (some g)

set_option maxRecDepth 100000 in
set_option maxHeartbeats 2000000 in
theorem took_full (g n m used : Nat) (h buf : List Nat) (w : World) (hst : IsSt w g n h buf used) (hs : Small h) (hy : Bytes buf) (hT : Tab w) (hg : 2 ≤ g) (hn : n + m < 9223372036854775807) (heq : used + m = 64) :
    Calls Tryd.prog 35 #[.pointer (some ⟨g, 0, none⟩), .int .i64 (m : Int)] w (StOut w g (n + m) (blk KT h buf) buf 0) := by
  have h8 := hst.h8
  have b64 := hst.b64
  have s1 := hst.set0 (n + m)
  have s2 := s1.set73 (used + m)
  have c0 := hst.cell0
  have f0 := hst.free 0
  have c1 := s1.cell73
  have f1 := s1.free 73
  have ho : w.grownBy ((w.setCell ⟨g, 0, none⟩ (.int .i64 ((n + m : Nat) : Int))).setCell ⟨g, 73, none⟩ (.int .i64 ((used + m : Nat) : Int))) (some g) :=
    only_setG (only_setG (World.grownBy.refl w _) _ _) _ _
  have S2 : Hid (TkH w g (n + m) h buf (used + m) ((w.setCell ⟨g, 0, none⟩ (.int .i64 ((n + m : Nat) : Int))).setCell ⟨g, 73, none⟩ (.int .i64 ((used + m : Nat) : Int)))) := Lib.hid ⟨s2, hT.only hg ho, ho⟩
  have heI : (((used : Int) + m) == 64) = true := by rw [beq_iff_eq]; omega
  have i8 : (Tryd.prog.info? 23).map (·.size) = some (cl .u32 h).length := by rw [cl_length, h8]; exact info8s
  have i64 : (Tryd.prog.info? 24).map (·.size) = some (cl .u8 buf).length := by rw [cl_length, b64]; exact info64s
  have hbl := blk_len h buf h8 hs
  have hu1 : used + m ≤ 64 := by omega
  simp only [Int.natCast_add] at c1 f1 S2
  clear s1 s2 ho hst heq
  go_enter Tryd.func35, Tryd.ntmps35
  go_wp2_with fail
  have hd := S2.out
  generalize (w.setCell ⟨g, 0, none⟩ (.int .i64 ((n : Int) + m))).setCell ⟨g, 73, none⟩ (.int .i64 ((used : Int) + m)) = W at *
  clear S2 c0 f0 c1 f1
  have hd2 : TkH w g (n + m) h buf (used + m) W.drew := ⟨⟨hd.st.row, h8, b64⟩, ⟨hd.tab.k, hd.tab.s⟩, only_drew hd.ot⟩
  clear hd
  refine wp_region_any (by kernel_rfl) ?_
  change wpAny _ _ _ _ _ _ _ (World.drew _)
  generalize W.drew = W2 at *
  refine wpAny_take (i := 0) (oi := _) (v := (.pointer (some ⟨g, 0, none⟩))) rfl (by kernel_rfl) (by kernel_rfl) (by kernel_rfl) (fun _ _ _ h => h) (Or.inl ⟨by rfl, fun w' => by go_simp⟩) ?_
  try simp only [Act.put, List.getElem_toArray, List.getElem_cons_succ, List.getElem_cons_zero, List.setIfInBounds_toArray, List.set_cons_zero, List.set_cons_succ]
  refine wpAny_take (i := 1) (oi := _) (v := (.pointer (some ⟨g, 0, none⟩))) rfl (by kernel_rfl) (by kernel_rfl) (by kernel_rfl) (fun _ _ _ h => h) (Or.inl ⟨by rfl, fun w' => by go_simp⟩) ?_
  try simp only [Act.put, List.getElem_toArray, List.getElem_cons_succ, List.getElem_cons_zero, List.setIfInBounds_toArray, List.set_cons_zero, List.set_cons_succ]
  refine wpAny_take (i := 2) (oi := _) (v := (.pointer (some ⟨g, 0, none⟩))) rfl (by kernel_rfl) (by kernel_rfl) (by kernel_rfl) (fun _ _ _ h => h) (Or.inl ⟨by rfl, fun w' => by go_simp⟩) ?_
  try simp only [Act.put, List.getElem_toArray, List.getElem_cons_succ, List.getElem_cons_zero, List.setIfInBounds_toArray, List.set_cons_zero, List.set_cons_succ]
  refine wpAny_take (i := 3) (oi := _) (v := (.pointer (some ⟨g, 1, none⟩))) rfl (by kernel_rfl) (by kernel_rfl) (by kernel_rfl) (fun _ _ _ h => h) (Or.inl ⟨by rfl, fun w' => by go_simp⟩) ?_
  try simp only [Act.put, List.getElem_toArray, List.getElem_cons_succ, List.getElem_cons_zero, List.setIfInBounds_toArray, List.set_cons_zero, List.set_cons_succ]
  refine wpAny_take (i := 5) (oi := _) (v := (.pointer (some ⟨g, 0, none⟩))) rfl (by kernel_rfl) (by kernel_rfl) (by kernel_rfl) (fun _ _ _ h => h) (Or.inl ⟨by rfl, fun w' => by go_simp⟩) ?_
  try simp only [Act.put, List.getElem_toArray, List.getElem_cons_succ, List.getElem_cons_zero, List.setIfInBounds_toArray, List.set_cons_zero, List.set_cons_succ]
  refine wpAny_take (i := 6) (oi := _) (v := (.pointer (some ⟨g, 0, none⟩))) rfl (by kernel_rfl) (by kernel_rfl) (by kernel_rfl) (fun _ _ _ h => h) (Or.inl ⟨by rfl, fun w' => by go_simp⟩) ?_
  try simp only [Act.put, List.getElem_toArray, List.getElem_cons_succ, List.getElem_cons_zero, List.setIfInBounds_toArray, List.set_cons_zero, List.set_cons_succ]
  refine wpAny_take (i := 7) (oi := _) (v := (.pointer (some ⟨g, 9, none⟩))) rfl (by kernel_rfl) (by kernel_rfl) (by kernel_rfl) (fun _ _ _ h => h) (Or.inl ⟨by rfl, fun w' => by go_simp⟩) ?_
  try simp only [Act.put, List.getElem_toArray, List.getElem_cons_succ, List.getElem_cons_zero, List.setIfInBounds_toArray, List.set_cons_zero, List.set_cons_succ]
  refine wpAny_ready (rs := [4, 8]) (by kernel_rfl) (by simp) ?_
  refine AllReady.cons (o := _) rfl (fun K hK => ?_) (AllReady.cons (o := _) rfl (fun K hK => ?_) AllReady.nil)
  all_goals rw [if_pos (by rfl)]
  · refine wp_load_mid _ _ rfl g 1 rfl (cl .u32 h) _ hd2.st.rangeH Tryd.underlying23 rfl i8 ?_
    refine hK _ _ ?_
    clear hK K
    try simp only [Act.put, List.getElem_toArray, List.getElem_cons_succ, List.getElem_cons_zero, List.setIfInBounds_toArray, List.set_cons_zero, List.set_cons_succ]
    refine wpAny_ready (rs := [8]) (by kernel_rfl) (by simp) ?_
    refine AllReady.cons (o := _) rfl (fun K hK => ?_) AllReady.nil
    rw [if_pos (by rfl)]
    refine wp_load_mid _ _ rfl g 9 rfl (cl .u8 buf) _ hd2.st.rangeB Tryd.underlying24 rfl i64 ?_
    refine hK _ _ ?_
    clear hK K
    try simp only [Act.put, List.getElem_toArray, List.getElem_cons_succ, List.getElem_cons_zero, List.setIfInBounds_toArray, List.set_cons_zero, List.set_cons_succ]
    refine wpAny_ready (rs := [9]) (by kernel_rfl) (by simp) ?_
    refine AllReady.cons (o := _) rfl (fun K hK => ?_) AllReady.nil
    rw [if_pos (by rfl)]
    go_simp
    go_at_call 11
    refine (block_row h buf h8 b64 hs hy _ hd2.tab).mono ?_
    rintro e w1 ⟨rfl, hbel⟩
    refine hK _ _ ?_
    clear hK K
    try dsimp only
    try simp only [Act.put, List.getElem_toArray, List.getElem_cons_succ, List.getElem_cons_zero, List.setIfInBounds_toArray, List.set_cons_zero, List.set_cons_succ]
    have hd3 : TkH w g (n + m) h buf (used + m) w1 := ⟨hd2.st.below hbel hd2.st.lt, hd2.tab.below hbel hd2.tab.two, only_below hd2.ot hbel⟩
    clear hd2 hbel W2
    refine wpAny_take (i := 10) (oi := _) (v := (.pointer (some ⟨g, 0, none⟩))) rfl (by kernel_rfl) (by kernel_rfl) (by kernel_rfl) (fun _ _ _ h => h) (Or.inl ⟨by rfl, fun w' => by go_simp⟩) ?_
    try simp only [Act.put, List.getElem_toArray, List.getElem_cons_succ, List.getElem_cons_zero, List.setIfInBounds_toArray, List.set_cons_zero, List.set_cons_succ]
    refine wpAny_take (i := 11) (oi := _) (v := (.pointer (some ⟨g, 1, none⟩))) rfl (by kernel_rfl) (by kernel_rfl) (by kernel_rfl) (fun _ _ _ h => h) (Or.inl ⟨by rfl, fun w' => by go_simp⟩) ?_
    try simp only [Act.put, List.getElem_toArray, List.getElem_cons_succ, List.getElem_cons_zero, List.setIfInBounds_toArray, List.set_cons_zero, List.set_cons_succ]
    refine wpAny_ready (rs := [12]) (by kernel_rfl) (by simp) ?_
    refine AllReady.cons (o := _) rfl (fun K hK => ?_) AllReady.nil
    rw [if_pos (by rfl)]
    refine wp_store_mid _ _ _ rfl g 1 (cl .u32 (blk KT h buf)).toArray rfl rfl (hd3.st.there 1 _ (by simp [cl, hbl])) (by rw [List.size_toArray, cl_length, hbl]; exact info8s) (all_oneCell_toArray (cl_one _ _)) ?_
    refine hK _ _ ?_
    clear hK K
    try simp only [Act.put, List.getElem_toArray, List.getElem_cons_succ, List.getElem_cons_zero, List.setIfInBounds_toArray, List.set_cons_zero, List.set_cons_succ]
    refine wpAny_done (by kernel_rfl) ?_ _
    have st4 : IsSt (w1.setCells g 1 (cl .u32 (blk KT h buf))) g (n + m) (blk KT h buf) buf (used + m) := hd3.st.setH _ hbl
    have ot4 : w.grownBy (w1.setCells g 1 (cl .u32 (blk KT h buf))) (some g) := only_setCells _ _ _ hd3.ot
    clear hd3
    try simp only [List.toList_toArray]
    generalize w1.setCells g 1 (cl .u32 (blk KT h buf)) = W4 at *
    have c73 := st4.cell73
    have f73 := st4.free 73
    have st5 := st4.set73 0
    have ot5 := only_setG ot4 73 (.int .i64 ((0 : Nat) : Int))
    have S5 := Lib.hid st5
    have O5 := Lib.hid ot5
    clear st4 ot4 st5 ot5
    go_wp2_with fail
    go_end0
    exact ⟨rfl, S5.out, O5.out⟩
  · refine wp_load_mid _ _ rfl g 9 rfl (cl .u8 buf) _ hd2.st.rangeB Tryd.underlying24 rfl i64 ?_
    refine hK _ _ ?_
    clear hK K
    try simp only [Act.put, List.getElem_toArray, List.getElem_cons_succ, List.getElem_cons_zero, List.setIfInBounds_toArray, List.set_cons_zero, List.set_cons_succ]
    refine wpAny_ready (rs := [4]) (by kernel_rfl) (by simp) ?_
    refine AllReady.cons (o := _) rfl (fun K hK => ?_) AllReady.nil
    rw [if_pos (by rfl)]
    refine wp_load_mid _ _ rfl g 1 rfl (cl .u32 h) _ hd2.st.rangeH Tryd.underlying23 rfl i8 ?_
    refine hK _ _ ?_
    clear hK K
    try simp only [Act.put, List.getElem_toArray, List.getElem_cons_succ, List.getElem_cons_zero, List.setIfInBounds_toArray, List.set_cons_zero, List.set_cons_succ]
    refine wpAny_ready (rs := [9]) (by kernel_rfl) (by simp) ?_
    refine AllReady.cons (o := _) rfl (fun K hK => ?_) AllReady.nil
    rw [if_pos (by rfl)]
    go_simp
    go_at_call 11
    refine (block_row h buf h8 b64 hs hy _ hd2.tab).mono ?_
    rintro e w1 ⟨rfl, hbel⟩
    refine hK _ _ ?_
    clear hK K
    try dsimp only
    try simp only [Act.put, List.getElem_toArray, List.getElem_cons_succ, List.getElem_cons_zero, List.setIfInBounds_toArray, List.set_cons_zero, List.set_cons_succ]
    have hd3 : TkH w g (n + m) h buf (used + m) w1 := ⟨hd2.st.below hbel hd2.st.lt, hd2.tab.below hbel hd2.tab.two, only_below hd2.ot hbel⟩
    clear hd2 hbel W2
    refine wpAny_take (i := 10) (oi := _) (v := (.pointer (some ⟨g, 0, none⟩))) rfl (by kernel_rfl) (by kernel_rfl) (by kernel_rfl) (fun _ _ _ h => h) (Or.inl ⟨by rfl, fun w' => by go_simp⟩) ?_
    try simp only [Act.put, List.getElem_toArray, List.getElem_cons_succ, List.getElem_cons_zero, List.setIfInBounds_toArray, List.set_cons_zero, List.set_cons_succ]
    refine wpAny_take (i := 11) (oi := _) (v := (.pointer (some ⟨g, 1, none⟩))) rfl (by kernel_rfl) (by kernel_rfl) (by kernel_rfl) (fun _ _ _ h => h) (Or.inl ⟨by rfl, fun w' => by go_simp⟩) ?_
    try simp only [Act.put, List.getElem_toArray, List.getElem_cons_succ, List.getElem_cons_zero, List.setIfInBounds_toArray, List.set_cons_zero, List.set_cons_succ]
    refine wpAny_ready (rs := [12]) (by kernel_rfl) (by simp) ?_
    refine AllReady.cons (o := _) rfl (fun K hK => ?_) AllReady.nil
    rw [if_pos (by rfl)]
    refine wp_store_mid _ _ _ rfl g 1 (cl .u32 (blk KT h buf)).toArray rfl rfl (hd3.st.there 1 _ (by simp [cl, hbl])) (by rw [List.size_toArray, cl_length, hbl]; exact info8s) (all_oneCell_toArray (cl_one _ _)) ?_
    refine hK _ _ ?_
    clear hK K
    try simp only [Act.put, List.getElem_toArray, List.getElem_cons_succ, List.getElem_cons_zero, List.setIfInBounds_toArray, List.set_cons_zero, List.set_cons_succ]
    refine wpAny_done (by kernel_rfl) ?_ _
    have st4 : IsSt (w1.setCells g 1 (cl .u32 (blk KT h buf))) g (n + m) (blk KT h buf) buf (used + m) := hd3.st.setH _ hbl
    have ot4 : w.grownBy (w1.setCells g 1 (cl .u32 (blk KT h buf))) (some g) := only_setCells _ _ _ hd3.ot
    clear hd3
    try simp only [List.toList_toArray]
    generalize w1.setCells g 1 (cl .u32 (blk KT h buf)) = W4 at *
    have c73 := st4.cell73
    have f73 := st4.free 73
    have st5 := st4.set73 0
    have ot5 := only_setG ot4 73 (.int .i64 ((0 : Nat) : Int))
    have S5 := Lib.hid st5
    have O5 := Lib.hid ot5
    clear st4 ot4 st5 ot5
    go_wp2_with fail
    go_end0
    exact ⟨rfl, S5.out, O5.out⟩
end Go.Proofs.YtemioilfedpohaaDoor

