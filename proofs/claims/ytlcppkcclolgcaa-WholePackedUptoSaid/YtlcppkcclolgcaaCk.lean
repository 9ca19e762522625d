/- The walks of tree.walk (it defers a closure that recovers) and tree.Check. UNDER WAY. -/
import Derived.Test.YtlcppkcclolgcaaWe
import Derived.Defers
import Derived.Recover
import Derived.RegionTactic
import Derived.BigRegion
import Derived.Deep.RegionHeld3
namespace Go.Proofs.Ytlcppkcclolgcaa
set_option linter.unusedVariables false
set_option linter.unusedSimpArgs false
open Go.RowKit

theorem row_past {w : World} {i : Nat} {o : Obj} (h : w.heap[i]? = some o) (o' : Obj) : (w.alloc o').heap[i]? = some o :=
  ((((Below.refl w.heap.size w).alloc (Nat.le_refl _) o')).block i (by rcases Nat.lt_or_ge i w.heap.size with h' | h'; exact h'; rw [Array.getElem?_eq_none_iff.2 h'] at h; cases h)).trans h
theorem ta_nil (w : World) : (Instr.typeAssert .nilIface 20 135 true).run Try.prog w = .ok (.tuple #[.agg #[.string ⟨#[]⟩, .int .i64 0], .bool false]) w := by
  simp [Instr.typeAssert]
theorem ta_hit (v : Value) (w : World) : (Instr.typeAssert (.iface 135 v) 20 135 true).run Try.prog w = .ok (.tuple #[v, .bool true]) w := by
  simp [Instr.typeAssert]
set_option maxRecDepth 100000 in
set_option maxHeartbeats 1000000 in
theorem catch_idle (p c b : Addr) (w : World) :
    CallsD Try.prog 61 #[.pointer (some p), .pointer (some c), .pointer (some b)] .returning w fun e u' w' => e = .returned (.tuple #[]) ∧ u' = .returning ∧ Below w.heap.size w w' := by
  refine callsD_of_wpS Try.func61 rfl fun c₀ cs hu => ?_
  apply wpS_seq
  apply wpS_region
  generalize hQ : (Exit.thenS _ _) = Q
  have ht := ta_nil
  simp (maxSteps := 20000) [wpOpsS, go_sem, recoverD, hu, Try.ntmps61, ht]
  subst hQ
  simp only [Exit.thenS]
  refine wpS_of_wp ?_
  generalize hR : bodyPostS _ _ _ _ _ = R
  go_wp2_with fail
  subst hR
  cases c₀
  simp_all [bodyPostS, results, Try.results61]
  exact (Below.refl _ _).alloc (Nat.le_refl _) _
theorem opsS_recover {P : Program} {ops : Array Oper} {Q : Exit → Act → List Frame → World → Prop} {i : Nat} {rest : List Nat} {o : Oper} {a : Act} {cs cs' : List Frame} {w : World} {v : Value} (h1 : ops[i]? = some o)
    (h2 : Region.wanted o (yielded ops a.tmps) = true) (h3 : (execOp a.eval o).run P w = .ok .recover w) (h4 : recoverD cs = some (v, cs')) (h : wpOpsS P ops Q rest (a.put o.dst v) cs' w) : wpOpsS P ops Q (i :: rest) a cs w := by
  simp only [wpOpsS, h1, h2, h3, h4, if_true]
  exact h
set_option maxRecDepth 100000 in
set_option maxHeartbeats 4000000 in
theorem catch_pan (k : Nat) (path s0 : ByteArray) (code c0 b0 : Int) (w : World) (B : Nat) (hB : B ≤ k) (h0 : w.heap[k]? = some (.cells #[.string s0] 9 (0, 0))) (h1 : w.heap[k + 1]? = some (.cells #[.int .i64 c0] 28 (0, 0))) (h2 : w.heap[k + 2]? = some (.cells #[.int .i64 b0] 3 (0, 0))) :
    CallsD Try.prog 61 #[.pointer (some ⟨k, 0, none⟩), .pointer (some ⟨k + 1, 0, none⟩), .pointer (some ⟨k + 2, 0, none⟩)] (.panicking [{ v := offV path code, recovered := false }]) w
      fun e u' w' => e = .returned (.tuple #[]) ∧ u' = .panicking [{ v := offV path code, recovered := true }] ∧ w'.heap[k]? = some (.cells #[.string path] 9 (0, 0)) ∧ w'.heap[k + 1]? = some (.cells #[.int .i64 code] 28 (0, 0)) ∧ w'.heap[k + 2]? = some (.cells #[.int .i64 0] 3 (0, 0)) ∧ Below B w w' := by
  unfold offV
  refine callsD_of_wpS Try.func61 rfl fun c₀ cs hu => ?_
  have c0' := cell_of_row w k 0 _ _ _ h0
  have c1' := cell_of_row w (k + 1) 0 _ _ _ h1
  have c2' := cell_of_row w (k + 2) 0 _ _ _ h2
  have f0 := frozen_of_row w k 0 _ _ h0
  have f1 := frozen_of_row w (k + 1) 0 _ _ h1
  have f2 := frozen_of_row w (k + 2) 0 _ _ h2
  apply wpS_seq
  apply wpS_region
  generalize hQ : (Exit.thenS _ _) = Q
  have ht := ta_hit (.agg #[.string path, .int .i64 code])
  have h4 : recoverD (c₀ :: cs) = some (.iface 135 (.agg #[.string path, .int .i64 code]), { c₀ with mode := .panicking [{ v := .iface 135 (.agg #[.string path, .int .i64 code]), recovered := true }] } :: cs) := by
    unfold recoverD
    simp only [hu]
  generalize hC : ({ c₀ with mode := .panicking [{ v := .iface 135 (.agg #[.string path, .int .i64 code]), recovered := true }] } : Frame) = c₁ at *
  refine opsS_recover (i := 0) (rest := [1, 2, 3, 4, 5, 6, 7]) rfl rfl rfl h4 ?_
  clear h4
  simp (maxSteps := 20000) [wpOpsS, go_sem, Try.ntmps61, ht]
  subst hQ
  simp only [Exit.thenS]
  generalize hR : bodyPostS _ _ _ _ _ = R
  have p0 : ∀ o, (w.alloc o).cell? ⟨k, 0, none⟩ = some (.string s0) := fun o => cell_past c0' o
  have p1 : ∀ o, (w.alloc o).cell? ⟨k + 1, 0, none⟩ = some (.int .i64 c0) := fun o => cell_past c1' o
  have p2 : ∀ o, (w.alloc o).cell? ⟨k + 2, 0, none⟩ = some (.int .i64 b0) := fun o => cell_past c2' o
  apply wpS_seq
  apply wpS_region
  generalize hQ : (Exit.thenS _ _) = Q
  simp (maxSteps := 20000) [wpOpsS, go_sem]
  subst hQ
  simp only [Exit.thenS]
  refine wpS_cond (t := true) (by simp [Act.eval]) ?_
  simp only [if_true]
  refine wpS_of_wp ?_
  have hT : ∀ (X : Array Value) (post : Exit → Act → World → Prop) (cd : Code) (wq : World), X = #[.pointer (some ⟨k, 0, none⟩), .pointer (some ⟨k + 1, 0, none⟩), .pointer (some ⟨k + 2, 0, none⟩), .pointer (some ⟨w.heap.size, 0, none⟩), .bool true, .tuple #[.agg #[.string path, .int .i64 code], .bool true], .iface 135 (.agg #[.string path, .int .i64 code]), .tuple #[.agg #[.string path, .int .i64 code], .bool true], .agg #[.string path, .int .i64 code], .bool true, .bool true, undef, undef, undef, undef] →
      Code.wp Try.prog cd post { tmps := #[.pointer (some ⟨k, 0, none⟩), .pointer (some ⟨k + 1, 0, none⟩), .pointer (some ⟨k + 2, 0, none⟩), .pointer (some ⟨w.heap.size, 0, none⟩), .bool true, .tuple #[.agg #[.string path, .int .i64 code], .bool true], .iface 135 (.agg #[.string path, .int .i64 code]), .tuple #[.agg #[.string path, .int .i64 code], .bool true], .agg #[.string path, .int .i64 code], .bool true, .bool true, undef, undef, undef, undef], defers := [] } wq → Code.wp Try.prog cd post { tmps := X, defers := [] } wq := by
    intro X post cd wq e h
    subst e
    exact h
  refine hT _ _ _ _ (by kernel_rfl) ?_
  clear hT
  have n0 : k ≠ w.heap.size := fun e => by have := lt_of_row h0; omega
  have n1 : k + 1 ≠ w.heap.size := fun e => by have := lt_of_row h1; omega
  have n2 : k + 2 ≠ w.heap.size := fun e => by have := lt_of_row h2; omega
  have HR := Lib.hid hR
  have HU := Lib.hid hC
  have a0 := heap_alloc_new w (.cells #[Value.string path, Value.int .i64 code] 135)
  have h0A := row_past h0 (.cells #[Value.string path, Value.int .i64 code] 135)
  have h1A := row_past h1 (.cells #[Value.string path, Value.int .i64 code] 135)
  have h2A := row_past h2 (.cells #[Value.string path, Value.int .i64 code] 135)
  have HB : Below B w (w.alloc (.cells #[Value.string path, Value.int .i64 code] 135)) := (Below.refl _ _).alloc (by have := lt_of_row h0; omega) _
  clear hR hu ht hC h0 h1 h2 p0 p1 p2 c0' c1' c2' f0 f1 f2
  have HB := Lib.hid HB
  generalize w.alloc (.cells #[Value.string path, Value.int .i64 code] 135) = wA at *
  generalize w.heap.size = m at *
  have m0 : wA.cell? ⟨m, 0, none⟩ = some (.string path) := cell_of_row wA m 0 _ _ _ a0
  have m1 : wA.cell? ⟨m, 1, none⟩ = some (.int .i64 code) := cell_of_row wA m 1 _ _ _ a0
  have k0 : wA.cell? ⟨k, 0, none⟩ = some (.string s0) := cell_of_row wA k 0 _ _ _ h0A
  have k1 : wA.cell? ⟨k + 1, 0, none⟩ = some (.int .i64 c0) := cell_of_row wA (k + 1) 0 _ _ _ h1A
  have k2 : wA.cell? ⟨k + 2, 0, none⟩ = some (.int .i64 b0) := cell_of_row wA (k + 2) 0 _ _ _ h2A
  have f0 := frozen_of_row wA k 0 _ _ h0A
  have f1 := frozen_of_row wA (k + 1) 0 _ _ h1A
  have f2 := frozen_of_row wA (k + 2) 0 _ _ h2A
  have H0 := Lib.hid h0A
  have H1 := Lib.hid h1A
  have H2 := Lib.hid h2A
  clear h0A h1A h2A a0
  refine wp_region_noPanic ?_
  go_region_held (fun w' => w'.cell? ⟨m, 0, none⟩ = some (.string path) ∧ w'.cell? ⟨m, 1, none⟩ = some (.int .i64 code)) (go_keep) (fail)
  unfold NoPanic
  simp only
  have hR := HR.out
  subst hR
  have hC := HU.out
  subst hC
  simp only [bodyPostS]
  have g0 : (wA.setCell ⟨k, 0, none⟩ (Value.string path)).heap[k]? = some (.cells #[Value.string path] 9 (0, 0)) := (heap_setCell_same wA k 0 _ _ _ H0.out).trans rfl
  have g1 : ((wA.setCell ⟨k, 0, none⟩ (Value.string path)).setCell ⟨k + 1, 0, none⟩ (Value.int .i64 code)).heap[k + 1]? = some (.cells #[Value.int .i64 code] 28 (0, 0)) := (heap_setCell_same _ (k + 1) 0 _ _ _ ((Below.heap_setCell _ _ _ _ (by simp)).trans H1.out)).trans rfl
  have g2 : (((wA.setCell ⟨k, 0, none⟩ (Value.string path)).setCell ⟨k + 1, 0, none⟩ (Value.int .i64 code)).setCell ⟨k + 2, 0, none⟩ (Value.int .i64 0)).heap[k + 2]? = some (.cells #[Value.int .i64 0] 3 (0, 0)) := (heap_setCell_same _ (k + 2) 0 _ _ _ ((Below.heap_setCell _ _ _ _ (by simp)).trans ((Below.heap_setCell _ _ _ _ (by simp)).trans H2.out))).trans rfl
  refine ⟨trivial, _, rfl, .tuple #[], by simp [results, Try.results61], rfl, rfl, ?_, ?_, g2, ?_⟩
  · exact (Below.heap_setCell _ _ _ _ (by simp)).trans ((Below.heap_setCell _ _ _ _ (by simp)).trans g0)
  · exact (Below.heap_setCell _ _ _ _ (by simp)).trans g1
  · exact (((HB.out.setCell hB _).setCell (by simpa using Nat.le_succ_of_le hB) _).setCell (by simpa using Nat.le_succ_of_le (Nat.le_succ_of_le hB)) _).drew
end Go.Proofs.Ytlcppkcclolgcaa

