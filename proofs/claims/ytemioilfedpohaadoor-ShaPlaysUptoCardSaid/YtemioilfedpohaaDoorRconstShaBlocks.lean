/- The walk of depotref01.constants. -/
import Derived.Test.YtemioilfedpohaaDoorRwordsShaBlocks
namespace Go.Proofs.YtemioilfedpohaaDoor
open Go.RowKit

theorem wpList_build_to {P : Program} {ops : Array Oper} {rest : List Oper} {o : Oper} {a : Act} {w : World} {Q : Exit → Act → World → Prop} (hg : o.guard = none) (t : TypeId) (parts : Array (Nat × Operand)) (ho : o.op = .build t parts)
    (cells : Array Value) (hf : P.built t (parts.map fun (i, x) => (i, a.eval x)).toList = some cells)
    (h : wpList P ops Q rest (a.put o.dst (.agg cells)) w) : wpList P ops Q (o :: rest) a w :=
  wpList_build hg t parts ho (by rw [hf]; rfl) (by rw [hf]; exact h)

set_option maxRecDepth 100000 in
set_option maxHeartbeats 1000000 in
theorem constants_any (w : World) : Calls Tryd.prog 30 #[] w fun e w' => e = .returned (.agg (cw .u32 KT)) ∧ Below w.heap.size w w' := by
  have hr : (w.alloc (.cells (cw .u32 (List.replicate 64 0)) 56)).heap[w.heap.size]? = some (.cells (cw .u32 (List.replicate 64 0)) 56 (0, 0)) := heap_alloc_new _ _
  have HR := Lib.hid hr
  have HB : Hid (Below w.heap.size w ((w.alloc (.cells (cw .u32 (List.replicate 64 0)) 56)).setRow w.heap.size (cw .u32 KT))) := Lib.hid (below_setRow ((Below.refl _ _).alloc (Nat.le_refl _) _) (Nat.le_refl _) _)
  clear hr
  go_enter Tryd.func30, Tryd.ntmps30
  go_wp2_with (first | (refine wpList_build_to rfl 56 _ rfl (cw .u32 KT) (by kernel_rfl) ?_) | (with_reducible refine wpList_store_row rfl 56 _ _ rfl w.heap.size _ rfl rfl 56 (cw .u32 (List.replicate 64 0)) ?_ ?_ ?_ ?_ ?_))
  · exact HR.out
  · rw [cw_size, KT_length]; exact info64
  · rw [cw_size, cw_size, KT_length]; rfl
  · exact cw_one _ _
  · go_wp2_with fail
    exact bodyPost_ret (results_cell_row rfl _ _ w.heap.size 56 (cw .u32 KT) (0, 0) _ rfl (setRow_heap _ _ _ _ _ _ HR.out) Tryd.underlying56 rfl (by rw [cw_size, KT_length]; exact info64)) rfl ⟨rfl, HB.out⟩
end Go.Proofs.YtemioilfedpohaaDoor
