/- The walk of nar's writer over a node. -/
import Derived.Test.YtlcppkcclolgcaaBw
namespace Go.Proofs.Ytlcppkcclolgcaa
set_option linter.unusedVariables false
set_option linter.unusedSimpArgs false
open Go.RowKit

/-- the writer on its way: since w0 nothing below B has changed; since w1 nothing but what is the writer's -/
structure Wst (w0 w1 : World) (B g : Nat) (r1 : Option Nat) (xs : List Nat) (wx : World) : Prop where
  bel : Below B w0 wx
  size : B ≤ wx.heap.size
  st : ∃ rx, Bld wx B g xs rx ∧ Kp w1 wx g r1 rx
section
variable {w0 w1 wx : World} {B g : Nat} {r1 : Option Nat} {xs : List Nat}
theorem Wst.row (S : Wst w0 w1 B g r1 xs wx) {k : Nat} {o : Obj} (h : w1.heap[k]? = some o) (hg : k ≠ g) (hr : some k ≠ r1) : wx.heap[k]? = some o := by
  obtain ⟨rx, hb, hk⟩ := S.st
  refine (hk.block k ?_ hg hr).trans h
  rcases Nat.lt_or_ge k w1.heap.size with h' | h'
  · exact h'
  · rw [Array.getElem?_eq_none_iff.2 h'] at h; cases h
theorem Wst.later {w' : World} (S : Wst w0 w1 B g r1 xs wx) (h : Below wx.heap.size wx w') : Wst w0 w1 B g r1 xs w' := by
  obtain ⟨rx, hb, hk⟩ := S.st
  exact ⟨S.bel.trans (h.mono S.size), Nat.le_trans S.size h.size, rx, hb.later h, hk.trans (Kp.below h)⟩
/-- a new start -/
theorem Wst.start (S : Wst w0 w1 B g r1 xs wx) : ∃ rx, Wst w0 wx B g rx xs wx ∧ g < wx.heap.size ∧ (∀ k, rx = some k → k < wx.heap.size) ∧ ∀ xs' w', Wst w0 wx B g rx xs' w' → Wst w0 w1 B g r1 xs' w' := by
  obtain ⟨rx, hb, hk⟩ := S.st
  refine ⟨rx, ⟨S.bel, S.size, rx, hb, Kp.refl _ _ _⟩, hb.lt, fun k h => (hb.low k h).2, fun xs' w' S' => ?_⟩
  obtain ⟨ry, hb', hk'⟩ := S'.st
  exact ⟨S'.bel, S'.size, ry, hb', hk.trans hk'⟩
theorem words_st (ss : List ByteArray) (S : Wst w0 w1 B g r1 xs wx) (hx : xs.length ≤ 100000000) (hs : ∀ s ∈ ss, s.size ≤ 1048576) (hl : ss.length ≤ 10) (cap k : Nat) (hkk : k = wx.heap.size) :
    Calls Try.prog 30 #[.pointer (some ⟨g, 0, none⟩), .slice (some ⟨k, 0, none⟩) ss.length cap] (wx.alloc (.cells (strs ss) 9)) fun e w' => e = .returned (.tuple #[]) ∧ Wst w0 w1 B g r1 (xs ++ frames ss) w' := by
  subst hkk
  have hba : Below wx.heap.size wx (wx.alloc (.cells (strs ss) 9)) := (Below.refl _ _).alloc (Nat.le_refl _) _
  have S2 := S.later hba
  obtain ⟨rx, hb, hk⟩ := S2.st
  have hb0 := S.st
  obtain ⟨r0, hb0, hk0⟩ := hb0
  have hlt := hb0.lt
  have e : rx = r0 := by
    obtain ⟨p, v, _, h1, _, h3⟩ := hb0.at_
    obtain ⟨p', v', _, h1', _, h3'⟩ := hb.at_
    rw [hba.block g hlt, h1] at h1'
    injection h1' with h1'
    injection h1' with h1'
    have : v = v' := by
      have h4 := congrArg (fun a : Array Value => a[1]?) h1'
      simpa using h4
    rw [← h3, ← h3', this]
  subst e
  refine (words_any ss B g wx.heap.size ss.length cap xs rx 9 _ hb S2.size (heap_alloc_new _ _) (by omega) (fun h => ?_) hs hl rfl hx).mono ?_
  · have := (hb0.low _ h.symm).2; omega
  · rintro e w' ⟨h1, r', hb', hk'⟩
    exact ⟨h1, hk'.above hb S2.bel S2.size, Nat.le_trans S2.size hk'.size, r', hb', hk.trans hk'⟩
end
theorem sz_list {ss : List ByteArray} (h : ss.all (fun s => decide (s.size ≤ 1048576)) = true) : ∀ s ∈ ss, s.size ≤ 1048576 := by
  intro s hs
  have := List.all_eq_true.1 h s hs
  simpa using this
theorem sz_snoc {ss : List ByteArray} {t : ByteArray} (h : ss.all (fun s => decide (s.size ≤ 1048576)) = true) (ht : t.size ≤ 1048576) : ∀ s ∈ ss ++ [t], s.size ≤ 1048576 := by
  intro s hs
  rcases List.mem_append.1 hs with h' | h'
  · exact sz_list h s h'
  · rw [List.mem_singleton.1 h']; exact ht
theorem fl_le {ss : List ByteArray} (h : ∀ s ∈ ss, s.size ≤ 1048576) (hl : ss.length ≤ 10) : (frames ss).length ≤ 10485920 := by
  rw [frames_length]
  exact Nat.le_trans (frSum_le ss h) (Nat.mul_le_mul_right _ hl)
theorem Wst.boxed {w0 w1 w : World} {B g : Nat} {r1 r0 : Option Nat} {xs : List Nat} (H : Wst w0 w1 B g r1 xs w) (S0 : Wst w0 w B g r0 xs w) (hf : ∀ xs' w', Wst w0 w B g r0 xs' w' → Wst w0 w1 B g r1 xs' w') (o : Obj) :
    Wst w0 (w.alloc o) B g r0 xs (w.alloc o) ∧ ∀ xs' w', Wst w0 (w.alloc o) B g r0 xs' w' → Wst w0 w1 B g r1 xs' w' := by
  have hba : Below w.heap.size w (w.alloc o) := (Below.refl _ _).alloc (Nat.le_refl _) o
  obtain ⟨rx, hb, hk⟩ := S0.st
  have e : rx = r0 := by
    rcases hk.row with h | ⟨k, h, hk2⟩
    · exact h
    · have := (hb.low k h).2; omega
  subst e
  refine ⟨⟨S0.bel.trans (hba.mono S0.size), Nat.le_trans S0.size hba.size, rx, hb.later hba, Kp.refl _ _ _⟩, fun xs' w' S' => hf xs' w' ?_⟩
  obtain ⟨ry, hb', hk'⟩ := S'.st
  exact ⟨S'.bel, S'.size, ry, hb', (Kp.below hba).trans hk'⟩
set_option maxRecDepth 100000 in
set_option maxHeartbeats 4000000 in
theorem wr_file (w0 w1 : World) (B g : Nat) (r1 : Option Nat) (xs : List Nat) (t : ByteArray) (x : Bool) (a : Option Addr) (len cap : Nat) (w : World) (H : Wst w0 w1 B g r1 xs w) (ht : t.size ≤ 1048576) (hx : xs.length ≤ 2000000) :
    Calls Try.prog 31 #[.pointer (some ⟨g, 0, none⟩), .agg #[.int .i64 1, .bool x, .string t, .slice a len cap]] w
      fun e w' => e = .returned (.tuple #[]) ∧ Wst w0 w1 B g r1 (xs ++ frames ([wOpen, wType] ++ ([wRegular] ++ (if x then [wExec, wEmpty] else []) ++ [wContents, t]) ++ [wClose])) w' := by
  obtain ⟨r0, S0, hg0, hr0, hf0⟩ := H.start
  have SB : Wst w0 (w.alloc (.cells #[.int .i64 1, .bool x, .string t, .slice a len cap] 26)) B g r0 xs (w.alloc (.cells #[.int .i64 1, .bool x, .string t, .slice a len cap] 26)) ∧ ∀ xs' w', Wst w0 (w.alloc (.cells #[.int .i64 1, .bool x, .string t, .slice a len cap] 26)) B g r0 xs' w' → Wst w0 w1 B g r1 xs' w' := Wst.boxed H S0 hf0 _
  obtain ⟨SB, hfB⟩ := SB
  have hX := heap_alloc_new w (.cells #[.int .i64 1, .bool x, .string t, .slice a len cap] 26)
  have HS0 := Lib.hid SB
  have HF := Lib.hid hfB
  have HX := Lib.hid hX
  have HN1 : Hid (w.heap.size ≠ g) := Lib.hid (by omega)
  have HN2 : Hid (some w.heap.size ≠ r0) := Lib.hid (fun h => by have := hr0 _ h.symm; omega)
  have KW := Lib.hid (fun ss xs w1 r1 wx (S : Wst w0 w1 B g r1 xs wx) hx hs hl cap k hk => words_st ss S hx hs hl cap k hk)
  have l1 := fl_le (ss := [wOpen, wType]) (sz_list (by decide)) (by decide)
  have l2 := fl_le (ss := [wRegular]) (sz_list (by decide)) (by decide)
  have l3 := fl_le (ss := [wExec, wEmpty]) (sz_list (by decide)) (by decide)
  have l4 := fl_le (ss := [wContents, t]) (sz_snoc (ss := [wContents]) (by decide) ht) (by simp)
  have HLS := Lib.hid (And.intro hx (And.intro l1 (And.intro l2 (And.intro l3 l4))))
  have HT := Lib.hid ht
  clear H S0 hg0 hr0 hf0 SB hfB hX l1 l2 l3 l4 hx ht
  cases x
  · go_enter Try.func31, Try.ntmps31
    go_upto_region 2 with (go_at_call 30; refine (KW.out [wOpen, wType] _ _ _ _ HS0.out (by exact Nat.le_trans HLS.out.1 (by decide)) (sz_list (by decide)) (by simp) _ _ (by simp)).mono ?_; rintro e w1 ⟨rfl, hs1⟩; have HS1 := Lib.hid hs1; have hx1 := HS1.out.row HX.out HN1.out HN2.out; have b0 := cell_of_row w1 _ 0 _ _ _ hx1; have b1 := cell_of_row w1 _ 1 _ _ _ hx1; have b2 := cell_of_row w1 _ 2 _ _ _ hx1; have b3 := cell_of_row w1 _ 3 _ _ _ hx1; have b2' := cell_past b2; clear hs1 hx1)
    go_upto_region 13 with (go_at_call 30; refine (KW.out [wRegular] _ _ _ _ HS1.out (by simp only [List.length_append]; have := HLS.out; omega) (sz_list (by decide)) (by simp) _ _ (by simp)).mono ?_; rintro e w2 ⟨rfl, hs2⟩; have HS2 := Lib.hid hs2; have hx2 := HS2.out.row HX.out HN1.out HN2.out; have b0 := cell_of_row w2 _ 0 _ _ _ hx2; have b1 := cell_of_row w2 _ 1 _ _ _ hx2; have b2 := cell_of_row w2 _ 2 _ _ _ hx2; have b3 := cell_of_row w2 _ 3 _ _ _ hx2; have b2' := cell_past b2; clear hs2 hx2; clear b0)
    go_upto_region 18 with (go_at_call 30; refine (KW.out [wContents, t] _ _ _ _ HS2.out (by simp only [List.length_append]; have := HLS.out; omega) (sz_snoc (ss := [wContents]) (by decide) HT.out) (by simp) _ _ (by simp)).mono ?_; rintro e w3 ⟨rfl, hs3⟩; have HS3 := Lib.hid hs3; have hx3 := HS3.out.row HX.out HN1.out HN2.out; have b0 := cell_of_row w3 _ 0 _ _ _ hx3; have b1 := cell_of_row w3 _ 1 _ _ _ hx3; have b2 := cell_of_row w3 _ 2 _ _ _ hx3; have b3 := cell_of_row w3 _ 3 _ _ _ hx3; have b2' := cell_past b2; clear hs3 hx3)
    go_wp2_with (go_at_call 30; refine (KW.out [wClose] _ _ _ _ HS3.out (by simp only [List.length_append]; have := HLS.out; omega) (sz_list (by decide)) (by simp) _ _ (by simp)).mono ?_; rintro e w4 ⟨rfl, hs4⟩)
    go_end0
    refine ⟨rfl, HF.out _ _ ?_⟩
    simpa [frames] using hs4
  · go_enter Try.func31, Try.ntmps31
    go_upto_region 2 with (go_at_call 30; refine (KW.out [wOpen, wType] _ _ _ _ HS0.out (by exact Nat.le_trans HLS.out.1 (by decide)) (sz_list (by decide)) (by simp) _ _ (by simp)).mono ?_; rintro e w1 ⟨rfl, hs1⟩; have HS1 := Lib.hid hs1; have hx1 := HS1.out.row HX.out HN1.out HN2.out; have b0 := cell_of_row w1 _ 0 _ _ _ hx1; have b1 := cell_of_row w1 _ 1 _ _ _ hx1; have b2 := cell_of_row w1 _ 2 _ _ _ hx1; have b3 := cell_of_row w1 _ 3 _ _ _ hx1; have b2' := cell_past b2; clear hs1 hx1)
    go_upto_region 13 with (go_at_call 30; refine (KW.out [wRegular] _ _ _ _ HS1.out (by simp only [List.length_append]; have := HLS.out; omega) (sz_list (by decide)) (by simp) _ _ (by simp)).mono ?_; rintro e w2 ⟨rfl, hs2⟩; have HS2 := Lib.hid hs2; have hx2 := HS2.out.row HX.out HN1.out HN2.out; have b0 := cell_of_row w2 _ 0 _ _ _ hx2; have b1 := cell_of_row w2 _ 1 _ _ _ hx2; have b2 := cell_of_row w2 _ 2 _ _ _ hx2; have b3 := cell_of_row w2 _ 3 _ _ _ hx2; have b2' := cell_past b2; clear hs2 hx2)
    go_upto_region 15 with (go_at_call 30; refine (KW.out [wExec, wEmpty] _ _ _ _ HS2.out (by simp only [List.length_append]; have := HLS.out; omega) (sz_list (by decide)) (by simp) _ _ (by simp)).mono ?_; rintro e w3 ⟨rfl, hs3⟩; have HS3 := Lib.hid hs3; have hx3 := HS3.out.row HX.out HN1.out HN2.out; have b0 := cell_of_row w3 _ 0 _ _ _ hx3; have b1 := cell_of_row w3 _ 1 _ _ _ hx3; have b2 := cell_of_row w3 _ 2 _ _ _ hx3; have b3 := cell_of_row w3 _ 3 _ _ _ hx3; have b2' := cell_past b2; clear hs3 hx3)
    go_upto_region 18 with (go_at_call 30; refine (KW.out [wContents, t] _ _ _ _ HS3.out (by simp only [List.length_append]; have := HLS.out; omega) (sz_snoc (ss := [wContents]) (by decide) HT.out) (by simp) _ _ (by simp)).mono ?_; rintro e w4 ⟨rfl, hs4⟩; have HS4 := Lib.hid hs4; have hx4 := HS4.out.row HX.out HN1.out HN2.out; have b0 := cell_of_row w4 _ 0 _ _ _ hx4; have b1 := cell_of_row w4 _ 1 _ _ _ hx4; have b2 := cell_of_row w4 _ 2 _ _ _ hx4; have b3 := cell_of_row w4 _ 3 _ _ _ hx4; have b2' := cell_past b2; clear hs4 hx4)
    go_wp2_with (go_at_call 30; refine (KW.out [wClose] _ _ _ _ HS4.out (by simp only [List.length_append]; have := HLS.out; omega) (sz_list (by decide)) (by simp) _ _ (by simp)).mono ?_; rintro e w5 ⟨rfl, hs5⟩)
    go_end0
    refine ⟨rfl, HF.out _ _ ?_⟩
    simpa [frames] using hs5
set_option maxRecDepth 100000 in
set_option maxHeartbeats 4000000 in
theorem wr_link (w0 w1 : World) (B g : Nat) (r1 : Option Nat) (xs : List Nat) (t : ByteArray) (x : Bool) (a : Option Addr) (len cap : Nat) (w : World) (H : Wst w0 w1 B g r1 xs w) (ht : t.size ≤ 1048576) (hx : xs.length ≤ 2000000) :
    Calls Try.prog 31 #[.pointer (some ⟨g, 0, none⟩), .agg #[.int .i64 2, .bool x, .string t, .slice a len cap]] w
      fun e w' => e = .returned (.tuple #[]) ∧ Wst w0 w1 B g r1 (xs ++ frames ([wOpen, wType] ++ [wSymlink, wTarget, t] ++ [wClose])) w' := by
  obtain ⟨r0, S0, hg0, hr0, hf0⟩ := H.start
  have SB : Wst w0 (w.alloc (.cells #[.int .i64 2, .bool x, .string t, .slice a len cap] 26)) B g r0 xs (w.alloc (.cells #[.int .i64 2, .bool x, .string t, .slice a len cap] 26)) ∧ ∀ xs' w', Wst w0 (w.alloc (.cells #[.int .i64 2, .bool x, .string t, .slice a len cap] 26)) B g r0 xs' w' → Wst w0 w1 B g r1 xs' w' := Wst.boxed H S0 hf0 _
  obtain ⟨SB, hfB⟩ := SB
  have hX := heap_alloc_new w (.cells #[.int .i64 2, .bool x, .string t, .slice a len cap] 26)
  have HS0 := Lib.hid SB
  have HF := Lib.hid hfB
  have HX := Lib.hid hX
  have HN1 : Hid (w.heap.size ≠ g) := Lib.hid (by omega)
  have HN2 : Hid (some w.heap.size ≠ r0) := Lib.hid (fun h => by have := hr0 _ h.symm; omega)
  have KW := Lib.hid (fun ss xs w1 r1 wx (S : Wst w0 w1 B g r1 xs wx) hx hs hl cap k hk => words_st ss S hx hs hl cap k hk)
  have l1 := fl_le (ss := [wOpen, wType]) (sz_list (by decide)) (by decide)
  have l4 := fl_le (ss := [wSymlink, wTarget, t]) (sz_snoc (ss := [wSymlink, wTarget]) (by decide) ht) (by simp)
  have HLS := Lib.hid (And.intro hx (And.intro l1 l4))
  have HT := Lib.hid ht
  clear H S0 hg0 hr0 hf0 SB hfB hX l1 l4 hx ht
  go_enter Try.func31, Try.ntmps31
  go_upto_region 2 with (go_at_call 30; refine (KW.out [wOpen, wType] _ _ _ _ HS0.out (by exact Nat.le_trans HLS.out.1 (by decide)) (sz_list (by decide)) (by simp) _ _ (by simp)).mono ?_; rintro e w1 ⟨rfl, hs1⟩; have HS1 := Lib.hid hs1; have hx1 := HS1.out.row HX.out HN1.out HN2.out; have b0 := cell_of_row w1 _ 0 _ _ _ hx1; have b1 := cell_of_row w1 _ 1 _ _ _ hx1; have b2 := cell_of_row w1 _ 2 _ _ _ hx1; have b3 := cell_of_row w1 _ 3 _ _ _ hx1; have b2' := cell_past b2; clear hs1 hx1)
  go_upto_region 18 with (go_at_call 30; refine (KW.out [wSymlink, wTarget, t] _ _ _ _ HS1.out (by simp only [List.length_append]; have := HLS.out; omega) (sz_snoc (ss := [wSymlink, wTarget]) (by decide) HT.out) (by simp) _ _ (by simp)).mono ?_; rintro e w2 ⟨rfl, hs2⟩; have HS2 := Lib.hid hs2; have hx2 := HS2.out.row HX.out HN1.out HN2.out; have b0 := cell_of_row w2 _ 0 _ _ _ hx2; have b1 := cell_of_row w2 _ 1 _ _ _ hx2; have b2 := cell_of_row w2 _ 2 _ _ _ hx2; have b3 := cell_of_row w2 _ 3 _ _ _ hx2; have b2' := cell_past b2; clear hs2 hx2)
  go_wp2_with (go_at_call 30; refine (KW.out [wClose] _ _ _ _ HS2.out (by simp only [List.length_append]; have := HLS.out; omega) (sz_list (by decide)) (by simp) _ _ (by simp)).mono ?_; rintro e w3 ⟨rfl, hs3⟩)
  go_end0
  refine ⟨rfl, HF.out _ _ ?_⟩
  simpa [frames] using hs3
theorem ws_five (t : ByteArray) (ht : t.size ≤ 1048576) : ∀ s ∈ [wEntry, wOpen, wName, t, wNode], s.size ≤ 1048576 := by
  intro s hs
  simp only [List.mem_cons, List.not_mem_nil, or_false] at hs
  rcases hs with rfl | rfl | rfl | rfl | rfl
  all_goals first | exact ht | decide
theorem ND.kwords_pre : ∀ (n : ND) (i : Nat), i ≤ n.cnt → ∃ rest, n.kwords = (n.pre i).kwords ++ rest := by
  intro n
  induction n with
  | leaf => intro i _; exact ⟨[], by simp [ND.pre, ND.kwords]⟩
  | add p s c ih _ =>
    intro i h
    unfold ND.pre
    split
    · rename_i h2
      obtain ⟨rest, e⟩ := ih i h2
      exact ⟨rest ++ [wEntry, wOpen, wName, s, wNode] ++ c.wordsOf c.kwords ++ [wClose], by simp only [ND.kwords]; rw [e]; simp only [List.append_assoc]⟩
    · exact ⟨[], by simp⟩
theorem ND.pre_zero (n : ND) : (n.pre 0).kwords = [] := by
  induction n with
  | leaf => rfl
  | add p s c ih _ => unfold ND.pre; rw [if_pos (Nat.zero_le _)]; exact ih
/-- what is claimed of a node -/
def NodeW (w0 : World) (B g : Nat) (c : ND) : Prop :=
  ∀ (w1 : World) (r1 : Option Nat) (xs : List Nat) (a : Option Addr) (cap : Nat) (w : World), Wst w0 w1 B g r1 xs w → c.In B w0 a → c.small 1048576 → xs.length + frSum c.words ≤ 2000000 →
    Calls Try.prog 31 #[.pointer (some ⟨g, 0, none⟩), c.val a cap] w fun e w' => e = .returned (.tuple #[]) ∧ Wst w0 w1 B g r1 (xs ++ frames c.words) w'
theorem len_le {xs : List Nat} {a : List ByteArray} {n m : Nat} (h : xs.length + frSum a ≤ n) (hm : n ≤ m) : (xs ++ frames a).length ≤ m := by
  rw [List.length_append, frames_length]; omega
set_option maxRecDepth 100000 in
set_option maxHeartbeats 8000000 in
theorem wr_dir (w0 w1 : World) (B g : Nat) (r1 : Option Nat) (xs : List Nat) (kd : Int) (t : ByteArray) (x : Bool) (a : Option Addr) (len cap : Nat) (n : ND) (w : World) (H : Wst w0 w1 B g r1 xs w) (hk1 : kd ≠ 1) (hk2 : kd ≠ 2) (hlen : len = n.cnt) (hsm : n.small 1048576) (hin : n.In B w0 a) (hcn : n.cnt ≤ 1048576)
    (hx : xs.length + frSum ([wOpen, wType] ++ ([wDirectory] ++ n.kwords) ++ [wClose]) ≤ 2000000) (ih : ∀ c : ND, c.sz < n.sz → NodeW w0 B g c) :
    Calls Try.prog 31 #[.pointer (some ⟨g, 0, none⟩), .agg #[.int .i64 kd, .bool x, .string t, .slice a len cap]] w
      fun e w' => e = .returned (.tuple #[]) ∧ Wst w0 w1 B g r1 (xs ++ frames ([wOpen, wType] ++ ([wDirectory] ++ n.kwords) ++ [wClose])) w' := by
  obtain ⟨r0, S0, hg0, hr0, hf0⟩ := H.start
  have SB : Wst w0 (w.alloc (.cells #[.int .i64 kd, .bool x, .string t, .slice a len cap] 26)) B g r0 xs (w.alloc (.cells #[.int .i64 kd, .bool x, .string t, .slice a len cap] 26)) ∧ ∀ xs' w', Wst w0 (w.alloc (.cells #[.int .i64 kd, .bool x, .string t, .slice a len cap] 26)) B g r0 xs' w' → Wst w0 w1 B g r1 xs' w' := Wst.boxed H S0 hf0 _
  obtain ⟨SB, hfB⟩ := SB
  have hX := heap_alloc_new w (.cells #[.int .i64 kd, .bool x, .string t, .slice a len cap] 26)
  have HS0 := Lib.hid SB
  have HF := Lib.hid hfB
  have HX := Lib.hid hX
  have HN1 : Hid (w.heap.size ≠ g) := Lib.hid (by omega)
  have HN2 : Hid (some w.heap.size ≠ r0) := Lib.hid (fun h => by have := hr0 _ h.symm; omega)
  have KW := Lib.hid (fun ss xs w1 r1 wx (S : Wst w0 w1 B g r1 xs wx) hx hs hl cap k hk => words_st ss S hx hs hl cap k hk)
  have kb1 : (kd == 1) = false := by simpa using hk1
  have kb2 : (kd == 2) = false := by simpa using hk2
  have HX0 := Lib.hid hx
  have HL := Lib.hid hlen
  have HIN := Lib.hid hin
  have HSM := Lib.hid hsm
  have HI := Lib.hid ih
  have l1 := fl_le (ss := [wOpen, wType]) (sz_list (by decide)) (by decide)
  have hx2 : xs.length ≤ 2000000 := by omega
  have HLS := Lib.hid (And.intro hx2 l1)
  have hlm : (len : Int) ≤ 1048576 := by omega
  clear H S0 hg0 hr0 hf0 SB hfB hX hx hx2 hlen hin hsm ih l1 hk1 hk2 hcn
  go_enter Try.func31, Try.ntmps31
  go_upto_region 2 with (go_at_call 30; refine (KW.out [wOpen, wType] _ _ _ _ HS0.out (by exact Nat.le_trans HLS.out.1 (by decide)) (sz_list (by decide)) (by simp) _ _ (by simp)).mono ?_; rintro e w1 ⟨rfl, hs1⟩; have HS1 := Lib.hid hs1; have hx1 := HS1.out.row HX.out HN1.out HN2.out; have b0 := cell_of_row w1 _ 0 _ _ _ hx1; have b1 := cell_of_row w1 _ 1 _ _ _ hx1; have b2 := cell_of_row w1 _ 2 _ _ _ hx1; have b3 := cell_of_row w1 _ 3 _ _ _ hx1; have b2' := cell_past b2; clear hs1 hx1)
  go_upto_region 4 with (go_at_call 30; refine (KW.out [wDirectory] _ _ _ _ HS1.out (by simp only [List.length_append]; have := HLS.out; omega) (sz_list (by decide)) (by simp) _ _ (by simp)).mono ?_; rintro e w2 ⟨rfl, hs2⟩; have HS2 := Lib.hid hs2; have hx2 := HS2.out.row HX.out HN1.out HN2.out; have b0 := cell_of_row w2 _ 0 _ _ _ hx2; have b1 := cell_of_row w2 _ 1 _ _ _ hx2; have b2 := cell_of_row w2 _ 2 _ _ _ hx2; have b3 := cell_of_row w2 _ 3 _ _ _ hx2; have b2' := cell_past b2; clear hs2 hx2)
  clear b0 b1 b2 b2'
  go_wp2_with fail
  go_loopw [17] (fun x17 wr => ∃ i : Nat, x17 = .int .i64 (i : Int) ∧ i ≤ len ∧ Wst w0 (w.alloc (.cells #[.int .i64 kd, .bool x, .string t, .slice a len cap] 26)) B g r0 (xs ++ frames ([wOpen, wType, wDirectory] ++ (n.pre i).kwords)) wr) (fun x17 _ => len - (intOf x17).toNat)
  case atStart =>
    refine ⟨0, rfl, Nat.zero_le _, ?_⟩
    rw [ND.pre_zero]
    simpa [frames] using HS2.out
  case round =>
    obtain ⟨i, rfl, hi, hst⟩ := hrel
    clear b3
    have HST := Lib.hid hst
    have hi0 : (0 : Int) ≤ i := by omega
    by_cases hlt : i < len
    · have hltI : (i : Int) < len := by omega
      obtain ⟨y, rfl, hat⟩ : ∃ y, a = some y ∧ n.At B w0 y := by
        rcases HIN.out with h | h
        · have := HL.out; omega
        · exact h
      obtain ⟨s, c, e1, e2, e3, e4, ka, kcap, c0, c1, c2, c3, c4, hc⟩ := hat.kid (i := i) (by have := HL.out; omega)
      have hkk : ∀ q : Addr, q.block = y.block → wr.cell? q = w0.cell? q := fun q e => hst.bel.cell (by rw [e]; exact e4)
      replace c0 := (hkk (y.add (i * 5)) (block_add _ _)).trans c0
      replace c1 := (hkk ⟨(y.add (i * 5)).block, (y.add (i * 5)).off + 1, none⟩ (block_add _ _)).trans c1
      replace c2 := (hkk ⟨(y.add (i * 5)).block, (y.add (i * 5)).off + 2, none⟩ (block_add _ _)).trans c2
      replace c3 := (hkk ⟨(y.add (i * 5)).block, (y.add (i * 5)).off + 3, none⟩ (block_add _ _)).trans c3
      replace c4 := (hkk ⟨(y.add (i * 5)).block, (y.add (i * 5)).off + 4, none⟩ (block_add _ _)).trans c4
      obtain ⟨rest, hrest⟩ := n.kwords_pre (i + 1) (by have := HL.out; omega)
      rw [e1] at hrest
      simp only [ND.kwords] at hrest
      have hsum : xs.length + (frSum ([wOpen, wType, wDirectory] ++ (n.pre i).kwords) + frSum [wEntry, wOpen, wName, s, wNode] + frSum c.words) ≤ 2000000 := by
        have h := HX0.out
        rw [hrest] at h
        simp only [frSum_append] at h ⊢
        have e9 : frSum [wOpen, wType, wDirectory] = frSum [wOpen, wType] + frSum [wDirectory] := by rw [← frSum_append]; rfl
        rw [e9]
        unfold ND.words
        omega
      have hss := (e3 _ HSM.out).1
      have hsc := (e3 _ HSM.out).2
      obtain ⟨r2, S2, hg2, hr2, hf2⟩ := hst.start
      obtain ⟨SE, hfE⟩ := Wst.boxed hst S2 hf2 (.cells #[.string s, .int .i64 c.kind, .bool c.exec, .string c.text, .slice ka c.cnt kcap] 79)
      have hE := heap_alloc_new wr (.cells #[.string s, .int .i64 c.kind, .bool c.exec, .string c.text, .slice ka c.cnt kcap] 79)
      have HE := Lib.hid hE
      have HSE := Lib.hid SE
      have HFE := Lib.hid hfE
      have HM1 : Hid (wr.heap.size ≠ g) := Lib.hid (by omega)
      have HM2 : Hid (some wr.heap.size ≠ r2) := Lib.hid (fun h => by have := hr2 _ h.symm; omega)
      have HSUM := Lib.hid hsum
      have HSS := Lib.hid hss
      have HE1 := Lib.hid e1
      have CR : Hid (∀ w1 r1 xs w, Wst w0 w1 B g r1 xs w → xs.length + frSum c.words ≤ 2000000 → Calls Try.prog 31 #[.pointer (some ⟨g, 0, none⟩), .agg #[.int .i64 c.kind, .bool c.exec, .string c.text, .slice ka c.cnt kcap]] w fun e w' => e = .returned (.tuple #[]) ∧ Wst w0 w1 B g r1 (xs ++ frames c.words) w') :=
        Lib.hid fun w1 r1 xs w S hx => HI.out c e2 w1 r1 xs ka kcap w S hc hsc hx
      clear hst hat hkk e1 e2 e3 e4 hc hrest hsum hss hsc S2 hg2 hr2 hf2 SE hfE hE
      go_upto_region 7 with (fail)
      go_upto_region 8 with (go_at_call 30; refine (KW.out [wEntry, wOpen, wName, s, wNode] _ _ _ _ HSE.out (by have h := HSUM.out; rw [List.length_append, frames_length]; omega) (ws_five s HSS.out) (by simp) _ _ (by simp)).mono ?_; rintro e w7 ⟨rfl, hs7⟩; have hx7 := hs7.row HE.out HM1.out HM2.out; have q1 := cell_of_row w7 _ 1 _ _ _ hx7; have q2 := cell_of_row w7 _ 2 _ _ _ hx7; have q3 := cell_of_row w7 _ 3 _ _ _ hx7; have q4 := cell_of_row w7 _ 4 _ _ _ hx7; have H7 := Lib.hid hs7; clear hs7 hx7)
      go_upto_region 9 with (go_at_call 31; refine (CR.out _ _ _ _ H7.out (by have h := HSUM.out; rw [List.length_append, List.length_append, frames_length, frames_length]; omega)).mono ?_; rintro e w8 ⟨rfl, hs8⟩; have H8 := Lib.hid hs8; clear hs8)
      go_wp2_with (go_at_call 30; refine (KW.out [wClose] _ _ _ _ H8.out (by have h := HSUM.out; simp only [List.length_append, frames_length]; omega) (sz_list (by decide)) (by simp) _ _ (by simp)).mono ?_; rintro e w9 ⟨rfl, hs9⟩)
      go_roundw
      case rel =>
        refine ⟨i + 1, by go_num, by omega, ?_⟩
        rw [HE1.out]
        have h := HFE.out _ _ hs9
        simpa [frames, ND.kwords, ND.words] using h
      case measure => simp [intOf]; omega
    · have hltI : ¬ (i : Int) < len := by omega
      have hpre : n.pre i = n := by rw [show i = n.cnt from by have := HL.out; omega]; exact n.pre_all
      rw [hpre] at HST
      have hq : (xs ++ frames ([wOpen, wType, wDirectory] ++ n.kwords)).length ≤ 100000000 := by
        have h := HX0.out
        simp only [frSum_append] at h
        have e9 : frSum [wOpen, wType, wDirectory] = frSum [wOpen, wType] + frSum [wDirectory] := by rw [← frSum_append]; rfl
        rw [List.length_append, frames_length, frSum_append, e9]
        omega
      have HQ := Lib.hid hq
      clear hq
      go_wp2_with (go_at_call 30; refine (KW.out [wClose] _ _ _ _ HST.out HQ.out (sz_list (by decide)) (by simp) _ _ (by simp)).mono ?_; rintro e w9 ⟨rfl, hs9⟩)
      go_end0
      refine ⟨rfl, HF.out _ _ ?_⟩
      simpa [frames] using hs9
theorem wr_any (w0 : World) (B g : Nat) : ∀ (k : Nat) (n : ND), n.sz ≤ k → NodeW w0 B g n := by
  intro k
  induction k with
  | zero => intro n h; cases n <;> simp [ND.sz] at h
  | succ k ih =>
    intro n hk w1 r1 xs a cap w H hin hsm hx
    have htx : n.text.size ≤ 1048576 := small_text (m := 1048576) hsm
    have hct : n.cnt ≤ 1048576 := small_cnt (m := 1048576) hsm
    unfold ND.words ND.wordsOf at hx ⊢
    by_cases h1 : n.kind = 1
    · have ev : n.val a cap = .agg #[.int .i64 1, .bool n.exec, .string n.text, .slice a n.cnt cap] := by unfold ND.val; rw [h1]
      rw [if_pos h1] at hx ⊢
      rw [ev]
      exact wr_file w0 w1 B g r1 xs n.text n.exec a n.cnt cap w H htx (by omega)
    · by_cases h2 : n.kind = 2
      · have ev : n.val a cap = .agg #[.int .i64 2, .bool n.exec, .string n.text, .slice a n.cnt cap] := by unfold ND.val; rw [h2]
        rw [if_neg h1, if_pos h2] at hx ⊢
        rw [ev]
        exact wr_link w0 w1 B g r1 xs n.text n.exec a n.cnt cap w H htx (by omega)
      · rw [if_neg h1, if_neg h2] at hx ⊢
        exact wr_dir w0 w1 B g r1 xs n.kind n.text n.exec a n.cnt cap n w H h1 h2 rfl hsm hin hct hx (fun c hc => ih c (by omega))
end Go.Proofs.Ytlcppkcclolgcaa

