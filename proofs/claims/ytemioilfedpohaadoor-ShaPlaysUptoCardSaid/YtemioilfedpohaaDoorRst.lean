/- The walks of (*sha.State).Reset, sha.New, (*sha.State).Fork and (*sha.count).Size. -/
import Derived.Test.YtemioilfedpohaaDoorWrt
import Derived.Test.YtemioilfedpohaaDoorRblkShaBlocks
import Derived.Deep.WholeRow
namespace Go.Proofs.YtemioilfedpohaaDoor
set_option linter.unusedVariables false
set_option linter.unusedSimpArgs false
open Go.RowKit

theorem info74 : (Tryd.prog.info? 43).map (·.size) = some 74 := by kernel_rfl
theorem under74 : ∃ d, Tryd.prog.underlying 43 = some d ∧ d.isRow = true := ⟨_, Tryd.underlying43, rfl⟩
theorem stc_one (n : Nat) (h buf : List Nat) (used : Nat) : ∀ v ∈ stc n h buf used, v.oneCell' = true := by
  intro v hv
  simp only [stc, List.mem_cons, List.mem_append, List.not_mem_nil, or_false] at hv
  rcases hv with rfl | h | h | rfl
  · rfl
  · exact cl_one _ _ _ h
  · exact cl_one _ _ _ h
  · rfl
theorem only_row {w w' : World} {g : Nat} {cs : Array Value} (h : w.grownBy w' (some g)) : w.grownBy (w'.setRow g cs) (some g) :=
  ⟨h.os, h.tape, h.output, by simpa using h.size, fun i hi hne => (setRow_other w' g i cs (by simpa using fun e => hne (by rw [e]))).trans (h.block i hi hne)⟩

set_option maxRecDepth 100000 in
set_option maxHeartbeats 1000000 in
theorem reset_any (g : Nat) (old : Array Value) (w : World) (hrow : w.heap[g]? = some (.cells old 43 (0, 0))) (hold : old.size = 74) (hT : Tab w) :
    Calls Tryd.prog 24 #[.pointer (some ⟨g, 0, none⟩)] w (WtOut w g []) := by
  obtain ⟨TS, hS⟩ := hT.s
  have hout : WtOut w g [] (.returned (.tuple #[])) (w.setRow g (stc 0 ST (List.replicate 64 0) 0).toArray) :=
    ⟨rfl, ⟨_, _, _, _, ⟨setRow_heap _ _ _ _ _ _ hrow, rfl, by simp⟩, Stt.start⟩, only_row (World.grownBy.refl w _)⟩
  have HO := Lib.hid hout
  clear hout
  go_enter Tryd.func24, Tryd.ntmps24
  go_wp2_with (first | (with_reducible refine wpList_load_row rfl 23 _ rfl 1 rfl TS (cw .u32 ST) (0, 0) _ hS Tryd.underlying23 rfl (by kernel_rfl) ?_) | (refine wpList_build_to rfl 43 _ rfl (stc 0 ST (List.replicate 64 0) 0).toArray (by kernel_rfl) ?_) | (with_reducible refine wpList_store_row rfl 43 _ _ rfl g _ rfl rfl 43 old hrow ?_ ?_ ?_ ?_))
  · kernel_rfl
  · exact hold
  · exact all_oneCell_toArray (stc_one _ _ _ _)
  · go_wp2_with fail
    go_end0
    exact HO.out

/-- a new State is handed back -/
def NewOut (w : World) (T : List Nat) (e : Ending) (w' : World) : Prop := ∃ g, w.heap.size ≤ g ∧ e = .returned (.pointer (some ⟨g, 0, none⟩)) ∧ StAt w' g T ∧ Below w.heap.size w w'

set_option maxRecDepth 100000 in
set_option maxHeartbeats 1000000 in
theorem new_any (w : World) (hT : Tab w) : Calls Tryd.prog 21 #[] w (NewOut w []) := by
  have h1 : (w.alloc (.cells (stc 0 (List.replicate 8 0) (List.replicate 64 0) 0).toArray 43)).heap[w.heap.size]? = some (.cells (stc 0 (List.replicate 8 0) (List.replicate 64 0) 0).toArray 43 (0, 0)) := heap_alloc_new _ _
  have hb : Below w.heap.size w (w.alloc (.cells (stc 0 (List.replicate 8 0) (List.replicate 64 0) 0).toArray 43)) := (Below.refl _ _).alloc (Nat.le_refl _) _
  have hT2 := hT.below hb hT.two
  have H1 := Lib.hid h1
  have HB := Lib.hid hb
  have HT := Lib.hid hT2
  clear h1 hb hT2 hT
  go_enter Tryd.func21, Tryd.ntmps21
  go_wp2_with (first | (refine wpList_build_to rfl 43 _ rfl (stc 0 (List.replicate 8 0) (List.replicate 64 0) 0).toArray (by kernel_rfl) ?_))
  refine (reset_any w.heap.size _ _ H1.out (by rw [List.size_toArray, stc_length rfl (by simp)]) HT.out).mono ?_
  rintro e w' ⟨rfl, hs, ho⟩
  have hout : NewOut w [] (.returned (.pointer (some ⟨w.heap.size, 0, none⟩))) w' := ⟨_, Nat.le_refl _, rfl, hs, only_new HB.out ho (by simp) (Nat.le_refl _)⟩
  have HO := Lib.hid hout
  clear hs ho H1 HB HT hout
  go_wp2_with fail
  go_ret
  exact HO.out

set_option maxRecDepth 100000 in
set_option maxHeartbeats 1000000 in
theorem fork_any (g : Nat) (T : List Nat) (w : World) (hst : StAt w g T) : Calls Tryd.prog 23 #[.pointer (some ⟨g, 0, none⟩)] w (NewOut w T) := by
  obtain ⟨n, h, buf, used, hs, hS⟩ := hst
  have hrow := hs.row
  have hl : (stc n h buf used).length = 74 := stc_length hs.h8 hs.b64
  have i74 : (Tryd.prog.info? 43).map (·.size) = some (stc n h buf used).toArray.size := by rw [List.size_toArray, hl]; exact info74
  obtain ⟨W, hW⟩ : ∃ W, W = (w.alloc (.cells (stc 0 (List.replicate 8 0) (List.replicate 64 0) 0).toArray 43)).setRow w.heap.size (stc n h buf used).toArray := ⟨_, rfl⟩
  have hnew : NewRow w W (stc n h buf used).toArray 43 := by rw [hW]; exact new_row _ _ _ _
  have hz := (zero_of_info (P := Tryd.prog) (t := 43) (v := .agg (stc 0 (List.replicate 8 0) (List.replicate 64 0) 0).toArray) (n := 74) (by kernel_rfl)).1
  have hout : NewOut w T (.returned (.pointer (some ⟨w.heap.size, 0, none⟩))) W := ⟨_, Nat.le_refl _, rfl, ⟨n, h, buf, used, ⟨hnew.new, hs.h8, hs.b64⟩, hS⟩, hnew.below⟩
  rw [hW] at hout
  have hnr := heap_alloc_new w (.cells (stc 0 (List.replicate 8 0) (List.replicate 64 0) 0).toArray 43)
  have HO := Lib.hid hout
  have HR := Lib.hid hrow
  have HN := Lib.hid hnr
  have I74 := Lib.hid i74
  have HL := Lib.hid hl
  clear hs hS hrow hl hW hnew hout hnr i74 W
  go_enter Tryd.func23, Tryd.ntmps23
  go_wp2_with (first | (with_reducible refine wpList_load_row rfl 43 _ rfl g rfl 43 (stc n h buf used).toArray (0, 0) _ ?_ Tryd.underlying43 rfl ?_ ?_) | (with_reducible refine wpList_store_row rfl 43 _ _ rfl w.heap.size _ rfl rfl 43 (stc 0 (List.replicate 8 0) (List.replicate 64 0) 0).toArray ?_ ?_ ?_ ?_ ?_))
  · exact HR.out
  · exact I74.out
  · exact HN.out
  · exact I74.out
  · rw [List.size_toArray, List.size_toArray, stc_length rfl (by simp), HL.out]
  · exact all_oneCell_toArray (stc_one _ _ _ _)
  · go_wp2_with fail
    go_ret
    exact HO.out

theorem size_any (g : Nat) (T : List Nat) (w : World) (hst : StAt w g T) : Calls Tryd.prog 26 #[.pointer (some ⟨g, 0, none⟩)] w fun e w' => e = .returned (.int .i64 (T.length : Int)) ∧ w = w' := by
  obtain ⟨n, h, buf, used, hs, hS⟩ := hst
  have c0 := hs.cell0
  have he := hS.n_eq
  subst he
  clear hs hS
  go_enter Tryd.func26, Tryd.ntmps26
  go_wp2_with fail
  go_ret
  exact ⟨rfl, rfl⟩
end Go.Proofs.YtemioilfedpohaaDoor

