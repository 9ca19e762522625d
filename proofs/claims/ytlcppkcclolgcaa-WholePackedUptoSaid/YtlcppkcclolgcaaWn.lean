/- The walk of tree's walker over a node. UNDER WAY. -/
import Derived.Test.YtlcppkcclolgcaaWk
namespace Go.Proofs.Ytlcppkcclolgcaa
set_option linter.unusedVariables false
set_option linter.unusedSimpArgs false
open Go.RowKit

theorem box_later {w w1 : World} {cs : Array Value} {t : TypeId} (h : Below (w.alloc (.cells cs t)).heap.size (w.alloc (.cells cs t)) w1) : w1.heap[w.heap.size]? = some (.cells cs t (0, 0)) :=
  (h.block _ (lt_of_row (heap_alloc_new w _))).trans (heap_alloc_new w _)
theorem ws_file (t : ByteArray) (ht : t.size ≤ 1048576) : ∀ s ∈ [wOpen, wType, wRegular, wContents, t, wClose], s.size ≤ 1048576 := by
  intro s hs
  simp only [List.mem_cons, List.not_mem_nil, or_false] at hs
  rcases hs with rfl | rfl | rfl | rfl | rfl | rfl
  all_goals first | exact ht | decide
theorem ws_exec : ∀ s ∈ [wExec, wEmpty], s.size ≤ 1048576 := by
  intro s hs
  simp only [List.mem_cons, List.not_mem_nil, or_false] at hs
  rcases hs with rfl | rfl
  all_goals first | decide
theorem ws_link (t : ByteArray) (ht : t.size ≤ 1048576) : ∀ s ∈ [wOpen, wType, wSymlink, wTarget, t, wClose], s.size ≤ 1048576 := by
  intro s hs
  simp only [List.mem_cons, List.not_mem_nil, or_false] at hs
  rcases hs with rfl | rfl | rfl | rfl | rfl | rfl
  all_goals first | exact ht | decide
theorem ws_dir : ∀ s ∈ [wOpen, wType, wDirectory, wClose], s.size ≤ 1048576 := by
  intro s hs
  simp only [List.mem_cons, List.not_mem_nil, or_false] at hs
  rcases hs with rfl | rfl | rfl | rfl
  all_goals first | decide
theorem ws_entry (t : ByteArray) (ht : t.size ≤ 1048576) : ∀ s ∈ [wEntry, wOpen, wName, t, wNode, wClose], s.size ≤ 1048576 := by
  intro s hs
  simp only [List.mem_cons, List.not_mem_nil, or_false] at hs
  rcases hs with rfl | rfl | rfl | rfl | rfl | rfl
  all_goals first | exact ht | decide
theorem cell_past {w : World} {p : Addr} {v : Value} (h : w.cell? p = some v) (o : Obj) : (w.alloc o).cell? p = some v :=
  (((Below.refl w.heap.size w).alloc (Nat.le_refl _) o).cell (block_lt_of_cell h)).trans h
theorem alloc_new2 (w : World) (o : Obj) (cs : Array Value) (t : TypeId) : ((w.alloc o).alloc (.cells cs t)).heap[w.heap.size + 1]? = some (.cells cs t (0, 0)) := by
  have h := heap_alloc_new (w.alloc o) (.cells cs t)
  rwa [show (w.alloc o).heap.size = w.heap.size + 1 by simp] at h
theorem q_exec : frSum [wExec, wEmpty] = 32 := by decide +kernel
theorem q_le (ss : List ByteArray) (h : ∀ s ∈ ss, s.size ≤ 1048576) (n m : Nat) (hn : ss.length = n) (hm : n * 1048592 ≤ m) : frSum ss ≤ m := by
  have h1 := frSum_le ss h
  rw [hn] at h1
  exact Nat.le_trans h1 hm
set_option maxRecDepth 100000 in
set_option maxHeartbeats 4000000 in
theorem node_file (w0 : World) (B g b d : Nat) (path t : ByteArray) (x : Bool) (a : Option Addr) (c cap : Nat) (w : World) (H : WkS w0 B g b w) (hb : b ≤ 1048576) (hd : d ≤ 32) (ht : t.size ≤ 1048576) (CF : ∀ w, Calls Try.prog 69 #[.agg #[.int .i64 1, .bool x, .string t, .slice a c cap]] w fun e w' => e = .returned (.int .i64 0) ∧ Below w.heap.size w w') :
    Calls Try.prog 62 #[.pointer (some ⟨g, 0, none⟩), .string path, .agg #[.int .i64 1, .bool x, .string t, .slice a c cap], .int .i64 (d : Int)] w
      fun e w' => WkPost w0 B g w (addC b (frSum [wOpen, wType, wRegular, wContents, t, wClose] + if x then frSum [wExec, wEmpty] else 0)) e w' := by
  have HF := Lib.hid CF
  have HK := Lib.hid H
  have hdI : ¬ 32 < (d : Int) := by omega
  have hq1 := q_le [wOpen, wType, wRegular, wContents, t, wClose] (ws_file t ht) 6 6291552 rfl (by omega)
  have hq2 := q_exec
  have C1 : ∀ k cp w, w.heap[k]? = some (.cells (strs [wOpen, wType, wRegular, wContents, t, wClose]) 9 (0, 0)) → Calls Try.prog 60 #[.slice (some ⟨k, 0, none⟩) 6 cp] w fun e w' => e = .returned (.int .i64 ((frSum [wOpen, wType, wRegular, wContents, t, wClose] : Nat) : Int)) ∧ w = w' :=
    fun k cp w hr => framed_any _ k 6 cp _ w hr (ws_file t ht) (by simp) rfl
  have C2 : ∀ k cp w, w.heap[k]? = some (.cells (strs [wExec, wEmpty]) 9 (0, 0)) → Calls Try.prog 60 #[.slice (some ⟨k, 0, none⟩) 2 cp] w fun e w' => e = .returned (.int .i64 32) ∧ w = w' :=
    fun k cp w hr => (framed_any [wExec, wEmpty] k 2 cp _ w hr ws_exec (by simp) rfl).mono fun e w' h => by rw [hq2] at h; exact h
  rw [hq2]
  generalize hN : frSum [wOpen, wType, wRegular, wContents, t, wClose] = N at *
  have hN1 : N ≤ 6291552 := hq1
  have hN0 : (0 : Int) ≤ N := by omega
  have hN2 : (N : Int) ≤ 6291552 := by omega
  have K1 := Lib.hid C1
  have K2 := Lib.hid C2
  clear CF H hq1 hq2 hN C1 C2
  cases x
  · have CA := Lib.hid (fun w H => addP_any w0 B g b N path w H hb (by omega))
    go_enter Try.func62, Try.ntmps62
    go_upto_region 8 with (go_at_call 69; refine (HF.out _).mono ?_; rintro e w1 ⟨rfl, h1⟩; have hx := box_later h1; have b0 := cell_of_row w1 _ 0 _ _ _ hx; have b1 := cell_of_row w1 _ 1 _ _ _ hx; have b2 := cell_of_row w1 _ 2 _ _ _ hx; have d1 := fun o => cell_past b1 o; have HB1 : Hid (Below w.heap.size w w1) := Lib.hid (((Below.refl _ _).alloc (Nat.le_refl _) _).trans (h1.mono (by simp))); have HK1 := Lib.hid (HK.out.later HB1.out); clear h1 hx)
    go_upto_region 11 with (go_at_call 60; refine (K1.out _ _ _ (heap_alloc_new _ _)).mono ?_; rintro e w' ⟨rfl, rfl⟩)
    go_wp2_with (go_at_call 70; refine (CA.out _ (HK1.out.later ((Below.refl _ _).alloc (Nat.le_refl _) _))).mono ?_; rintro e w3 ⟨hg3, ⟨b', h1, h2, rfl, h3⟩ | ⟨c, p, b', h1, rfl, h3⟩⟩)
    · go_end0
      exact ⟨only_later (HB1.out.alloc HB1.out.size _) hg3, .inl ⟨b', by first | exact h1 | rfl, h2, rfl, h3⟩⟩
    · exact ⟨rfl, only_later (HB1.out.alloc HB1.out.size _) hg3, .inr ⟨_, p, b', by first | exact h1 | rfl, rfl, h3⟩⟩
  · have CA : Hid (∀ w, WkS w0 B g b w → Calls Try.prog 70 #[.pointer (some ⟨g, 0, none⟩), .string path, .int .i64 ((N : Int) + 32)] w fun e w' => WkPost w0 B g w (addC b (N + 32)) e w') :=
      fun w H => addP_any w0 B g b (N + 32) path w H hb (by omega)
    have hq : (if true = true then 32 else 0) = 32 := rfl
    rw [hq]
    go_enter Try.func62, Try.ntmps62
    go_upto_region 8 with (go_at_call 69; refine (HF.out _).mono ?_; rintro e w1 ⟨rfl, h1⟩; have hx := box_later h1; have b0 := cell_of_row w1 _ 0 _ _ _ hx; have b1 := cell_of_row w1 _ 1 _ _ _ hx; have b2 := cell_of_row w1 _ 2 _ _ _ hx; have d1 := fun o => cell_past b1 o; have HB1 : Hid (Below w.heap.size w w1) := Lib.hid (((Below.refl _ _).alloc (Nat.le_refl _) _).trans (h1.mono (by simp))); have HK1 := Lib.hid (HK.out.later HB1.out); clear h1 hx)
    go_upto_region 10 with (go_at_call 60; refine (K1.out _ _ _ (heap_alloc_new _ _)).mono ?_; rintro e w' ⟨rfl, rfl⟩)
    go_upto_region 11 with (go_at_call 60; refine (K2.out _ _ _ (alloc_new2 w1 _ _ _)).mono ?_; rintro e w' ⟨rfl, rfl⟩)
    go_wp2_with (go_at_call 70; refine (CA.out _ (HK1.out.later (((Below.refl _ _).alloc (Nat.le_refl _) _).alloc (by simp) _))).mono ?_; rintro e w3 ⟨hg3, ⟨b', h1, h2, rfl, h3⟩ | ⟨c, p, b', h1, rfl, h3⟩⟩)
    · go_end0
      exact ⟨only_later ((HB1.out.alloc HB1.out.size _).alloc (by have := HB1.out.size; simp; omega) _) hg3, .inl ⟨b', by first | exact h1 | rfl, h2, rfl, h3⟩⟩
    · exact ⟨rfl, only_later ((HB1.out.alloc HB1.out.size _).alloc (by have := HB1.out.size; simp; omega) _) hg3, .inr ⟨_, p, b', by first | exact h1 | rfl, rfl, h3⟩⟩
set_option maxRecDepth 100000 in
set_option maxHeartbeats 4000000 in
theorem node_link (w0 : World) (B g b d : Nat) (path t : ByteArray) (x : Bool) (a : Option Addr) (c cap : Nat) (w : World) (H : WkS w0 B g b w) (hb : b ≤ 1048576) (hd : d ≤ 32) (ht : t.size ≤ 1048576) (CF : ∀ w, Calls Try.prog 69 #[.agg #[.int .i64 2, .bool x, .string t, .slice a c cap]] w fun e w' => e = .returned (.int .i64 0) ∧ Below w.heap.size w w') :
    Calls Try.prog 62 #[.pointer (some ⟨g, 0, none⟩), .string path, .agg #[.int .i64 2, .bool x, .string t, .slice a c cap], .int .i64 (d : Int)] w
      fun e w' => WkPost w0 B g w (addC b (frSum [wOpen, wType, wSymlink, wTarget, t, wClose])) e w' := by
  have HF := Lib.hid CF
  have HK := Lib.hid H
  have hdI : ¬ 32 < (d : Int) := by omega
  have hq1 := q_le [wOpen, wType, wSymlink, wTarget, t, wClose] (ws_link t ht) 6 6291552 rfl (by omega)
  have C1 : ∀ k cp w, w.heap[k]? = some (.cells (strs [wOpen, wType, wSymlink, wTarget, t, wClose]) 9 (0, 0)) → Calls Try.prog 60 #[.slice (some ⟨k, 0, none⟩) 6 cp] w fun e w' => e = .returned (.int .i64 ((frSum [wOpen, wType, wSymlink, wTarget, t, wClose] : Nat) : Int)) ∧ w = w' :=
    fun k cp w hr => framed_any _ k 6 cp _ w hr (ws_link t ht) (by simp) rfl
  generalize hN : frSum [wOpen, wType, wSymlink, wTarget, t, wClose] = N at *
  have hN1 : N ≤ 6291552 := hq1
  have hN0 : (0 : Int) ≤ N := by omega
  have hN2 : (N : Int) ≤ 6291552 := by omega
  have K1 := Lib.hid C1
  have CA := Lib.hid (fun w H => addP_any w0 B g b N path w H hb (by omega))
  clear CF H hq1 hN C1
  go_enter Try.func62, Try.ntmps62
  go_upto_region 13 with (go_at_call 69; refine (HF.out _).mono ?_; rintro e w1 ⟨rfl, h1⟩; have hx := box_later h1; have b0 := cell_of_row w1 _ 0 _ _ _ hx; have b1 := cell_of_row w1 _ 1 _ _ _ hx; have b2 := cell_of_row w1 _ 2 _ _ _ hx; have d1 := fun o => cell_past b1 o; have HB1 : Hid (Below w.heap.size w w1) := Lib.hid (((Below.refl _ _).alloc (Nat.le_refl _) _).trans (h1.mono (by simp))); have HK1 := Lib.hid (HK.out.later HB1.out); clear h1 hx)
  go_wp2_with (first | (go_at_call 60; refine (K1.out _ _ _ (heap_alloc_new _ _)).mono ?_; rintro e w' ⟨rfl, rfl⟩) | (go_at_call 70; refine (CA.out _ (HK1.out.later ((Below.refl _ _).alloc (Nat.le_refl _) _))).mono ?_; rintro e w3 ⟨hg3, ⟨b', h1, h2, rfl, h3⟩ | ⟨c, p, b', h1, rfl, h3⟩⟩))
  · go_end0
    exact ⟨only_later (HB1.out.alloc HB1.out.size _) hg3, .inl ⟨b', by first | exact h1 | rfl, h2, rfl, h3⟩⟩
  · exact ⟨rfl, only_later (HB1.out.alloc HB1.out.size _) hg3, .inr ⟨_, p, b', by first | exact h1 | rfl, rfl, h3⟩⟩
set_option maxRecDepth 100000 in
set_option maxHeartbeats 4000000 in
theorem node_deep (w0 : World) (B g b d : Nat) (path : ByteArray) (n : ND) (a : Option Addr) (cap : Nat) (w : World) (H : WkS w0 B g b w) (hd : 32 < d) :
    Calls Try.prog 62 #[.pointer (some ⟨g, 0, none⟩), .string path, n.val a cap, .int .i64 (d : Int)] w
      fun e w' => WkPost w0 B g w (.error 61) e w' := by
  have HK := Lib.hid H
  have hdI : 32 < (d : Int) := by omega
  clear H
  unfold ND.val
  go_enter Try.func62, Try.ntmps62
  go_wp2_with fail
  exact ⟨rfl, only_of ((Below.refl _ _).alloc (Nat.le_refl _) _), .inr ⟨_, _, b, rfl, rfl, HK.out.later ((Below.refl _ _).alloc (Nat.le_refl _) _)⟩⟩
set_option maxRecDepth 100000 in
set_option maxHeartbeats 4000000 in
theorem node_bad (w0 : World) (B g b d : Nat) (path : ByteArray) (n : ND) (a : Option Addr) (cap : Nat) (w : World) (H : WkS w0 B g b w) (hd : d ≤ 32) (hf : n.fldE ≠ 0) :
    Calls Try.prog 62 #[.pointer (some ⟨g, 0, none⟩), .string path, n.val a cap, .int .i64 (d : Int)] w
      fun e w' => WkPost w0 B g w (.error n.fldE) e w' := by
  have HF := Lib.hid (fun w => fields_any n a cap w)
  have HK := Lib.hid H
  have hdI : ¬ 32 < (d : Int) := by omega
  have hne : (n.fldE != 0) = true := by simpa using hf
  clear H
  generalize n.fldE = q at *
  unfold ND.val at *
  go_enter Try.func62, Try.ntmps62
  go_wp2_with (go_at_call 69; refine (HF.out _).mono ?_; rintro e w1 ⟨rfl, h1⟩; have HB1 : Hid (Below w.heap.size w w1) := Lib.hid (((Below.refl _ _).alloc (Nat.le_refl _) _).trans (h1.mono (by simp))); have HK1 := Lib.hid (HK.out.later HB1.out); clear h1)
  exact ⟨rfl, only_of HB1.out, .inr ⟨_, _, b, rfl, rfl, HK1.out⟩⟩
end Go.Proofs.Ytlcppkcclolgcaa

