/- The walk of the parser's choose. -/
import Derived.Test.YtlcppkcclolgcaaPv
namespace Go.Proofs.Ytlcppkcclolgcaa
set_option linter.unusedVariables false
set_option linter.unusedSimpArgs false
open Go.RowKit

set_option maxRecDepth 100000 in
set_option maxHeartbeats 4000000 in
theorem ch_reg (w0 : World) (S : Nat → Prop) (B gp : Nat) (fl : Nat → Nat) (p : PS) (gf : Nat) (sv rv : Value) (s : ByteArray) (w : World) (H : PaW w0 S w B gp fl p gf sv rv) (hn : p.x.next = 3) (l : Lv) (r : List Lv) (hs : p.x.stack = l :: r) (hr : r.length ≤ 32) (hcn : ∀ m ∈ r, m.node.cnt ≤ 1048576) (heq : s = wRegular) :
    Calls Try.prog 45 #[.pointer (some ⟨gp, 0, none⟩), .string s] w fun e w' => WordR w0 S B gp p gf (.ok (p.x.put 4 (kindSet 1))) e w' := by
  obtain ⟨gs, cap, kv, ks, T⟩ := H.top hs
  have CT := Lib.hid ((ptop_any w0 S B gp fl p gf sv rv w H gs r.length cap T.sv (by omega)).mono fun e w' h => (show e = .returned (.pointer (some ⟨gs, r.length * 5, none⟩)) ∧ Below w.heap.size w w' from ⟨h.1, by obtain ⟨k, rfl⟩ := h.2; exact below_drw w k⟩))
  have HH := Lib.hid H
  have HT := Lib.hid T
  have hgg : gp ≠ gs := fun e => by have h1 := H.lab; have h2 := T.lab; rw [e] at h1; omega
  have hgg2 : gs ≠ gp := fun e => hgg e.symm
  have he : (s.toList == [114, 101, 103, 117, 108, 97, 114]) = true := by rw [heq]; exact str_eq rfl
  clear heq
  clear H T
  go_enter Try.func45, Try.ntmps45
  go_upto_region 3 with (go_at_call 46; refine CT.out.mono ?_; rintro e w1 ⟨rfl, h1⟩; have HX := Lib.hid (HH.out.later h1); have TX := Lib.hid (HT.out.later h1); clear h1)
  have c7 := HX.out.c7
  rw [hn] at c7
  replace c7 : w1.cell? ⟨gp, 7, none⟩ = some (.int .i64 3) := c7
  have f7 := HX.out.free 7
  have c1 := HX.out.c1
  have d0 : w1.cell? ⟨gs, r.length * 5, none⟩ = some (.int .i64 l.node.kind) := TX.out.cell 0 (by omega)
  have f0 := TX.out.free (r.length * 5)
  have hk : PaW w0 S (w1.setCell ⟨gs, r.length * 5, none⟩ (.int .i64 1)) B gp fl { p with x := { p.x with stack := (kindSet 1) l :: r } } gf sv rv := HX.out.topSet hs TX.out.sv (l' := (kindSet 1) l) 0 (by omega) (.int .i64 1) (fun kv => by simp only [lvCells, kindSet, (own_kind _ _ _ _).1, (own_kind _ _ _ _).2.1, (own_kind _ _ _ _).2.2]; rfl) (own_cnt _ _ _ _) (fun _ _ _ h => ND.KC.own_ _ _ _ h)
  have hq := hk.put (p' := { p with x := { p.x with stack := (kindSet 1) l :: r, next := 4 } }) 7 (.int .i64 (4 : Nat)) rfl rfl rfl
  have hx : p.x.put 4 (kindSet 1) = { p.x with stack := (kindSet 1) l :: r, next := 4 } := by unfold WS.put; rw [hs]; rfl
  have HX2 := Lib.hid hx
  clear hx
  have HQ := Lib.hid hq
  clear hk hq
  go_wp2_with fail
  go_ret
  rw [HX2.out]
  exact ⟨rfl, _, _, _, HQ.out⟩
set_option maxRecDepth 100000 in
set_option maxHeartbeats 4000000 in
theorem ch_sym (w0 : World) (S : Nat → Prop) (B gp : Nat) (fl : Nat → Nat) (p : PS) (gf : Nat) (sv rv : Value) (s : ByteArray) (w : World) (H : PaW w0 S w B gp fl p gf sv rv) (hn : p.x.next = 3) (l : Lv) (r : List Lv) (hs : p.x.stack = l :: r) (hr : r.length ≤ 32) (hcn : ∀ m ∈ r, m.node.cnt ≤ 1048576) (hne0 : s ≠ wRegular) (heq : s = wSymlink) :
    Calls Try.prog 45 #[.pointer (some ⟨gp, 0, none⟩), .string s] w fun e w' => WordR w0 S B gp p gf (.ok (p.x.put 8 (kindSet 2))) e w' := by
  obtain ⟨gs, cap, kv, ks, T⟩ := H.top hs
  have CT := Lib.hid ((ptop_any w0 S B gp fl p gf sv rv w H gs r.length cap T.sv (by omega)).mono fun e w' h => (show e = .returned (.pointer (some ⟨gs, r.length * 5, none⟩)) ∧ Below w.heap.size w w' from ⟨h.1, by obtain ⟨k, rfl⟩ := h.2; exact below_drw w k⟩))
  have HH := Lib.hid H
  have HT := Lib.hid T
  have hgg : gp ≠ gs := fun e => by have h1 := H.lab; have h2 := T.lab; rw [e] at h1; omega
  have hgg2 : gs ≠ gp := fun e => hgg e.symm
  have n0 := str_ne (t := wRegular) (l := [114, 101, 103, 117, 108, 97, 114]) rfl hne0
  have he : (s.toList == [115, 121, 109, 108, 105, 110, 107]) = true := by rw [heq]; exact str_eq rfl
  clear heq
  clear hne0
  clear H T
  go_enter Try.func45, Try.ntmps45
  go_upto_region 3 with (go_at_call 46; refine CT.out.mono ?_; rintro e w1 ⟨rfl, h1⟩; have HX := Lib.hid (HH.out.later h1); have TX := Lib.hid (HT.out.later h1); clear h1)
  have c7 := HX.out.c7
  rw [hn] at c7
  replace c7 : w1.cell? ⟨gp, 7, none⟩ = some (.int .i64 3) := c7
  have f7 := HX.out.free 7
  have c1 := HX.out.c1
  have d0 : w1.cell? ⟨gs, r.length * 5, none⟩ = some (.int .i64 l.node.kind) := TX.out.cell 0 (by omega)
  have f0 := TX.out.free (r.length * 5)
  have hk : PaW w0 S (w1.setCell ⟨gs, r.length * 5, none⟩ (.int .i64 2)) B gp fl { p with x := { p.x with stack := (kindSet 2) l :: r } } gf sv rv := HX.out.topSet hs TX.out.sv (l' := (kindSet 2) l) 0 (by omega) (.int .i64 2) (fun kv => by simp only [lvCells, kindSet, (own_kind _ _ _ _).1, (own_kind _ _ _ _).2.1, (own_kind _ _ _ _).2.2]; rfl) (own_cnt _ _ _ _) (fun _ _ _ h => ND.KC.own_ _ _ _ h)
  have hq := hk.put (p' := { p with x := { p.x with stack := (kindSet 2) l :: r, next := 8 } }) 7 (.int .i64 (8 : Nat)) rfl rfl rfl
  have hx : p.x.put 8 (kindSet 2) = { p.x with stack := (kindSet 2) l :: r, next := 8 } := by unfold WS.put; rw [hs]; rfl
  have HX2 := Lib.hid hx
  clear hx
  have HQ := Lib.hid hq
  clear hk hq
  go_wp2_with fail
  go_ret
  rw [HX2.out]
  exact ⟨rfl, _, _, _, HQ.out⟩
set_option maxRecDepth 100000 in
set_option maxHeartbeats 4000000 in
theorem ch_dir (w0 : World) (S : Nat → Prop) (B gp : Nat) (fl : Nat → Nat) (p : PS) (gf : Nat) (sv rv : Value) (s : ByteArray) (w : World) (H : PaW w0 S w B gp fl p gf sv rv) (hn : p.x.next = 3) (l : Lv) (r : List Lv) (hs : p.x.stack = l :: r) (hr : r.length ≤ 32) (hcn : ∀ m ∈ r, m.node.cnt ≤ 1048576) (hne0 : s ≠ wRegular) (hne1 : s ≠ wSymlink) (heq : s = wDirectory) :
    Calls Try.prog 45 #[.pointer (some ⟨gp, 0, none⟩), .string s] w fun e w' => WordR w0 S B gp p gf (.ok (p.x.put 11 (kindSet 3))) e w' := by
  obtain ⟨gs, cap, kv, ks, T⟩ := H.top hs
  have CT := Lib.hid ((ptop_any w0 S B gp fl p gf sv rv w H gs r.length cap T.sv (by omega)).mono fun e w' h => (show e = .returned (.pointer (some ⟨gs, r.length * 5, none⟩)) ∧ Below w.heap.size w w' from ⟨h.1, by obtain ⟨k, rfl⟩ := h.2; exact below_drw w k⟩))
  have HH := Lib.hid H
  have HT := Lib.hid T
  have hgg : gp ≠ gs := fun e => by have h1 := H.lab; have h2 := T.lab; rw [e] at h1; omega
  have hgg2 : gs ≠ gp := fun e => hgg e.symm
  have n0 := str_ne (t := wRegular) (l := [114, 101, 103, 117, 108, 97, 114]) rfl hne0
  have n1 := str_ne (t := wSymlink) (l := [115, 121, 109, 108, 105, 110, 107]) rfl hne1
  have he : (s.toList == [100, 105, 114, 101, 99, 116, 111, 114, 121]) = true := by rw [heq]; exact str_eq rfl
  clear heq
  clear hne0
  clear hne1
  clear H T
  go_enter Try.func45, Try.ntmps45
  go_upto_region 3 with (go_at_call 46; refine CT.out.mono ?_; rintro e w1 ⟨rfl, h1⟩; have HX := Lib.hid (HH.out.later h1); have TX := Lib.hid (HT.out.later h1); clear h1)
  have c7 := HX.out.c7
  rw [hn] at c7
  replace c7 : w1.cell? ⟨gp, 7, none⟩ = some (.int .i64 3) := c7
  have f7 := HX.out.free 7
  have c1 := HX.out.c1
  have d0 : w1.cell? ⟨gs, r.length * 5, none⟩ = some (.int .i64 l.node.kind) := TX.out.cell 0 (by omega)
  have f0 := TX.out.free (r.length * 5)
  have hk : PaW w0 S (w1.setCell ⟨gs, r.length * 5, none⟩ (.int .i64 3)) B gp fl { p with x := { p.x with stack := (kindSet 3) l :: r } } gf sv rv := HX.out.topSet hs TX.out.sv (l' := (kindSet 3) l) 0 (by omega) (.int .i64 3) (fun kv => by simp only [lvCells, kindSet, (own_kind _ _ _ _).1, (own_kind _ _ _ _).2.1, (own_kind _ _ _ _).2.2]; rfl) (own_cnt _ _ _ _) (fun _ _ _ h => ND.KC.own_ _ _ _ h)
  have hq := hk.put (p' := { p with x := { p.x with stack := (kindSet 3) l :: r, next := 11 } }) 7 (.int .i64 (11 : Nat)) rfl rfl rfl
  have hx : p.x.put 11 (kindSet 3) = { p.x with stack := (kindSet 3) l :: r, next := 11 } := by unfold WS.put; rw [hs]; rfl
  have HX2 := Lib.hid hx
  clear hx
  have HQ := Lib.hid hq
  clear hk hq
  go_wp2_with fail
  go_ret
  rw [HX2.out]
  exact ⟨rfl, _, _, _, HQ.out⟩
set_option maxRecDepth 100000 in
set_option maxHeartbeats 4000000 in
theorem ch_bad3 (w0 : World) (S : Nat → Prop) (B gp : Nat) (fl : Nat → Nat) (p : PS) (gf : Nat) (sv rv : Value) (s : ByteArray) (w : World) (H : PaW w0 S w B gp fl p gf sv rv) (hn : p.x.next = 3) (l : Lv) (r : List Lv) (hs : p.x.stack = l :: r) (hr : r.length ≤ 32) (hcn : ∀ m ∈ r, m.node.cnt ≤ 1048576) (hne0 : s ≠ wRegular) (hne1 : s ≠ wSymlink) (hne2 : s ≠ wDirectory) :
    Calls Try.prog 45 #[.pointer (some ⟨gp, 0, none⟩), .string s] w fun e w' => WordR w0 S B gp p gf (.error 70) e w' := by
  obtain ⟨gs, cap, kv, ks, T⟩ := H.top hs
  have CT := Lib.hid ((ptop_any w0 S B gp fl p gf sv rv w H gs r.length cap T.sv (by omega)).mono fun e w' h => (show e = .returned (.pointer (some ⟨gs, r.length * 5, none⟩)) ∧ Below w.heap.size w w' from ⟨h.1, by obtain ⟨k, rfl⟩ := h.2; exact below_drw w k⟩))
  have HH := Lib.hid H
  have HT := Lib.hid T
  have hgg : gp ≠ gs := fun e => by have h1 := H.lab; have h2 := T.lab; rw [e] at h1; omega
  have hgg2 : gs ≠ gp := fun e => hgg e.symm
  have n0 := str_ne (t := wRegular) (l := [114, 101, 103, 117, 108, 97, 114]) rfl hne0
  have n1 := str_ne (t := wSymlink) (l := [115, 121, 109, 108, 105, 110, 107]) rfl hne1
  have n2 := str_ne (t := wDirectory) (l := [100, 105, 114, 101, 99, 116, 111, 114, 121]) rfl hne2
  clear hne0
  clear hne1
  clear hne2
  clear H T
  go_enter Try.func45, Try.ntmps45
  go_upto_region 3 with (go_at_call 46; refine CT.out.mono ?_; rintro e w1 ⟨rfl, h1⟩; have HX := Lib.hid (HH.out.later h1); have TX := Lib.hid (HT.out.later h1); clear h1)
  have c7 := HX.out.c7
  rw [hn] at c7
  replace c7 : w1.cell? ⟨gp, 7, none⟩ = some (.int .i64 3) := c7
  have f7 := HX.out.free 7
  have c1 := HX.out.c1
  go_wp2_with (go_at_call 24; refine (pfail_any w0 S B gp fl p gf sv rv 70 p.start _ HX.out).mono ?_; rintro e w6 ⟨rfl, hf⟩; have HF := Lib.hid hf; clear hf)
  go_ret
  exact ⟨rfl, _, _, _, HF.out⟩
set_option maxRecDepth 100000 in
set_option maxHeartbeats 4000000 in
theorem ch_exec (w0 : World) (S : Nat → Prop) (B gp : Nat) (fl : Nat → Nat) (p : PS) (gf : Nat) (sv rv : Value) (s : ByteArray) (w : World) (H : PaW w0 S w B gp fl p gf sv rv) (hn : p.x.next = 4) (l : Lv) (r : List Lv) (hs : p.x.stack = l :: r) (hr : r.length ≤ 32) (hcn : ∀ m ∈ r, m.node.cnt ≤ 1048576) (heq : s = wExec) :
    Calls Try.prog 45 #[.pointer (some ⟨gp, 0, none⟩), .string s] w fun e w' => WordR w0 S B gp p gf (.ok (p.x.put 5 execSet)) e w' := by
  obtain ⟨gs, cap, kv, ks, T⟩ := H.top hs
  have CT := Lib.hid ((ptop_any w0 S B gp fl p gf sv rv w H gs r.length cap T.sv (by omega)).mono fun e w' h => (show e = .returned (.pointer (some ⟨gs, r.length * 5, none⟩)) ∧ Below w.heap.size w w' from ⟨h.1, by obtain ⟨k, rfl⟩ := h.2; exact below_drw w k⟩))
  have HH := Lib.hid H
  have HT := Lib.hid T
  have hgg : gp ≠ gs := fun e => by have h1 := H.lab; have h2 := T.lab; rw [e] at h1; omega
  have hgg2 : gs ≠ gp := fun e => hgg e.symm
  have he : (s.toList == [101, 120, 101, 99, 117, 116, 97, 98, 108, 101]) = true := by rw [heq]; exact str_eq rfl
  clear heq
  clear H T
  go_enter Try.func45, Try.ntmps45
  go_upto_region 3 with (go_at_call 46; refine CT.out.mono ?_; rintro e w1 ⟨rfl, h1⟩; have HX := Lib.hid (HH.out.later h1); have TX := Lib.hid (HT.out.later h1); clear h1)
  have c7 := HX.out.c7
  rw [hn] at c7
  replace c7 : w1.cell? ⟨gp, 7, none⟩ = some (.int .i64 4) := c7
  have f7 := HX.out.free 7
  have c1 := HX.out.c1
  have d0 : w1.cell? ⟨gs, r.length * 5 + 1, none⟩ = some (.bool l.node.exec) := TX.out.cell 1 (by omega)
  have f0 := TX.out.free (r.length * 5 + 1)
  have hk : PaW w0 S (w1.setCell ⟨gs, r.length * 5 + 1, none⟩ (.bool true)) B gp fl { p with x := { p.x with stack := execSet l :: r } } gf sv rv := HX.out.topSet hs TX.out.sv (l' := execSet l) 1 (by omega) (.bool true) (fun kv => by simp only [lvCells, execSet, (own_kind _ _ _ _).1, (own_kind _ _ _ _).2.1, (own_kind _ _ _ _).2.2]; rfl) (own_cnt _ _ _ _) (fun _ _ _ h => ND.KC.own_ _ _ _ h)
  have hq := hk.put (p' := { p with x := { p.x with stack := execSet l :: r, next := 5 } }) 7 (.int .i64 (5 : Nat)) rfl rfl rfl
  have hx : p.x.put 5 execSet = { p.x with stack := execSet l :: r, next := 5 } := by unfold WS.put; rw [hs]; rfl
  have HX2 := Lib.hid hx
  clear hx
  have HQ := Lib.hid hq
  clear hk hq
  go_wp2_with fail
  go_ret
  rw [HX2.out]
  exact ⟨rfl, _, _, _, HQ.out⟩
set_option maxRecDepth 100000 in
set_option maxHeartbeats 4000000 in
theorem ch_cont (w0 : World) (S : Nat → Prop) (B gp : Nat) (fl : Nat → Nat) (p : PS) (gf : Nat) (sv rv : Value) (s : ByteArray) (w : World) (H : PaW w0 S w B gp fl p gf sv rv) (hn : p.x.next = 4) (l : Lv) (r : List Lv) (hs : p.x.stack = l :: r) (hr : r.length ≤ 32) (hcn : ∀ m ∈ r, m.node.cnt ≤ 1048576) (hne0 : s ≠ wExec) (heq : s = wContents) :
    Calls Try.prog 45 #[.pointer (some ⟨gp, 0, none⟩), .string s] w fun e w' => WordR w0 S B gp p gf (.ok { p.x with next := 7 }) e w' := by
  obtain ⟨gs, cap, kv, ks, T⟩ := H.top hs
  have CT := Lib.hid ((ptop_any w0 S B gp fl p gf sv rv w H gs r.length cap T.sv (by omega)).mono fun e w' h => (show e = .returned (.pointer (some ⟨gs, r.length * 5, none⟩)) ∧ Below w.heap.size w w' from ⟨h.1, by obtain ⟨k, rfl⟩ := h.2; exact below_drw w k⟩))
  have HH := Lib.hid H
  have HT := Lib.hid T
  have hgg : gp ≠ gs := fun e => by have h1 := H.lab; have h2 := T.lab; rw [e] at h1; omega
  have hgg2 : gs ≠ gp := fun e => hgg e.symm
  have n0 := str_ne (t := wExec) (l := [101, 120, 101, 99, 117, 116, 97, 98, 108, 101]) rfl hne0
  have he : (s.toList == [99, 111, 110, 116, 101, 110, 116, 115]) = true := by rw [heq]; exact str_eq rfl
  clear heq
  clear hne0
  clear H T
  go_enter Try.func45, Try.ntmps45
  go_upto_region 3 with (go_at_call 46; refine CT.out.mono ?_; rintro e w1 ⟨rfl, h1⟩; have HX := Lib.hid (HH.out.later h1); have TX := Lib.hid (HT.out.later h1); clear h1)
  have c7 := HX.out.c7
  rw [hn] at c7
  replace c7 : w1.cell? ⟨gp, 7, none⟩ = some (.int .i64 4) := c7
  have f7 := HX.out.free 7
  have c1 := HX.out.c1
  have hq := HX.out.put (p' := { p with x := { p.x with stack := l :: r, next := 7 } }) 7 (.int .i64 (7 : Nat)) rfl hs.symm rfl
  have HQ := Lib.hid hq
  clear hq
  go_wp2_with fail
  go_ret
  exact ⟨rfl, _, _, _, HQ.out⟩
set_option maxRecDepth 100000 in
set_option maxHeartbeats 4000000 in
theorem ch_bad4 (w0 : World) (S : Nat → Prop) (B gp : Nat) (fl : Nat → Nat) (p : PS) (gf : Nat) (sv rv : Value) (s : ByteArray) (w : World) (H : PaW w0 S w B gp fl p gf sv rv) (hn : p.x.next = 4) (l : Lv) (r : List Lv) (hs : p.x.stack = l :: r) (hr : r.length ≤ 32) (hcn : ∀ m ∈ r, m.node.cnt ≤ 1048576) (hne0 : s ≠ wExec) (hne1 : s ≠ wContents) :
    Calls Try.prog 45 #[.pointer (some ⟨gp, 0, none⟩), .string s] w fun e w' => WordR w0 S B gp p gf (.error 70) e w' := by
  obtain ⟨gs, cap, kv, ks, T⟩ := H.top hs
  have CT := Lib.hid ((ptop_any w0 S B gp fl p gf sv rv w H gs r.length cap T.sv (by omega)).mono fun e w' h => (show e = .returned (.pointer (some ⟨gs, r.length * 5, none⟩)) ∧ Below w.heap.size w w' from ⟨h.1, by obtain ⟨k, rfl⟩ := h.2; exact below_drw w k⟩))
  have HH := Lib.hid H
  have HT := Lib.hid T
  have hgg : gp ≠ gs := fun e => by have h1 := H.lab; have h2 := T.lab; rw [e] at h1; omega
  have hgg2 : gs ≠ gp := fun e => hgg e.symm
  have n0 := str_ne (t := wExec) (l := [101, 120, 101, 99, 117, 116, 97, 98, 108, 101]) rfl hne0
  have n1 := str_ne (t := wContents) (l := [99, 111, 110, 116, 101, 110, 116, 115]) rfl hne1
  clear hne0
  clear hne1
  clear H T
  go_enter Try.func45, Try.ntmps45
  go_upto_region 3 with (go_at_call 46; refine CT.out.mono ?_; rintro e w1 ⟨rfl, h1⟩; have HX := Lib.hid (HH.out.later h1); have TX := Lib.hid (HT.out.later h1); clear h1)
  have c7 := HX.out.c7
  rw [hn] at c7
  replace c7 : w1.cell? ⟨gp, 7, none⟩ = some (.int .i64 4) := c7
  have f7 := HX.out.free 7
  have c1 := HX.out.c1
  go_wp2_with (go_at_call 24; refine (pfail_any w0 S B gp fl p gf sv rv 70 p.start _ HX.out).mono ?_; rintro e w6 ⟨rfl, hf⟩; have HF := Lib.hid hf; clear hf)
  go_ret
  exact ⟨rfl, _, _, _, HF.out⟩
set_option maxRecDepth 100000 in
set_option maxHeartbeats 4000000 in
theorem ch_entry (w0 : World) (S : Nat → Prop) (B gp : Nat) (fl : Nat → Nat) (p : PS) (gf : Nat) (sv rv : Value) (s : ByteArray) (w : World) (H : PaW w0 S w B gp fl p gf sv rv) (hn : p.x.next = 11) (l : Lv) (r : List Lv) (hs : p.x.stack = l :: r) (hr : r.length ≤ 32) (hcn : ∀ m ∈ r, m.node.cnt ≤ 1048576) (heq : s = wEntry) :
    Calls Try.prog 45 #[.pointer (some ⟨gp, 0, none⟩), .string s] w fun e w' => WordR w0 S B gp p gf (.ok { p.x with next := 12 }) e w' := by
  obtain ⟨gs, cap, kv, ks, T⟩ := H.top hs
  have CT := Lib.hid ((ptop_any w0 S B gp fl p gf sv rv w H gs r.length cap T.sv (by omega)).mono fun e w' h => (show e = .returned (.pointer (some ⟨gs, r.length * 5, none⟩)) ∧ Below w.heap.size w w' from ⟨h.1, by obtain ⟨k, rfl⟩ := h.2; exact below_drw w k⟩))
  have HH := Lib.hid H
  have HT := Lib.hid T
  have hgg : gp ≠ gs := fun e => by have h1 := H.lab; have h2 := T.lab; rw [e] at h1; omega
  have hgg2 : gs ≠ gp := fun e => hgg e.symm
  have he : (s.toList == [101, 110, 116, 114, 121]) = true := by rw [heq]; exact str_eq rfl
  clear heq
  clear H T
  go_enter Try.func45, Try.ntmps45
  go_upto_region 3 with (go_at_call 46; refine CT.out.mono ?_; rintro e w1 ⟨rfl, h1⟩; have HX := Lib.hid (HH.out.later h1); have TX := Lib.hid (HT.out.later h1); clear h1)
  have c7 := HX.out.c7
  rw [hn] at c7
  replace c7 : w1.cell? ⟨gp, 7, none⟩ = some (.int .i64 11) := c7
  have f7 := HX.out.free 7
  have c1 := HX.out.c1
  have hq := HX.out.put (p' := { p with x := { p.x with stack := l :: r, next := 12 } }) 7 (.int .i64 (12 : Nat)) rfl hs.symm rfl
  have HQ := Lib.hid hq
  clear hq
  go_wp2_with fail
  go_ret
  exact ⟨rfl, _, _, _, HQ.out⟩
set_option maxRecDepth 100000 in
set_option maxHeartbeats 4000000 in
theorem ch_close (w0 : World) (S : Nat → Prop) (B gp : Nat) (fl : Nat → Nat) (p : PS) (gf : Nat) (sv rv : Value) (s : ByteArray) (w : World) (H : PaW w0 S w B gp fl p gf sv rv) (hn : p.x.next = 11) (l : Lv) (r : List Lv) (hs : p.x.stack = l :: r) (hr : r.length ≤ 32) (hcn : ∀ m ∈ r, m.node.cnt ≤ 1048576) (hne0 : s ≠ wEntry) (heq : s = wClose) :
    Calls Try.prog 45 #[.pointer (some ⟨gp, 0, none⟩), .string s] w fun e w' => WordR w0 S B gp p gf (.ok p.x.close) e w' := by
  obtain ⟨gs, cap, kv, ks, T⟩ := H.top hs
  have CT := Lib.hid ((ptop_any w0 S B gp fl p gf sv rv w H gs r.length cap T.sv (by omega)).mono fun e w' h => (show e = .returned (.pointer (some ⟨gs, r.length * 5, none⟩)) ∧ Below w.heap.size w w' from ⟨h.1, by obtain ⟨k, rfl⟩ := h.2; exact below_drw w k⟩))
  have HH := Lib.hid H
  have HT := Lib.hid T
  have hgg : gp ≠ gs := fun e => by have h1 := H.lab; have h2 := T.lab; rw [e] at h1; omega
  have hgg2 : gs ≠ gp := fun e => hgg e.symm
  have n0 := str_ne (t := wEntry) (l := [101, 110, 116, 114, 121]) rfl hne0
  have he : (s.toList == [41]) = true := by rw [heq]; exact str_eq rfl
  clear heq
  clear hne0
  clear H T
  go_enter Try.func45, Try.ntmps45
  go_upto_region 3 with (go_at_call 46; refine CT.out.mono ?_; rintro e w1 ⟨rfl, h1⟩; have HX := Lib.hid (HH.out.later h1); have TX := Lib.hid (HT.out.later h1); clear h1)
  have c7 := HX.out.c7
  rw [hn] at c7
  replace c7 : w1.cell? ⟨gp, 7, none⟩ = some (.int .i64 11) := c7
  have f7 := HX.out.free 7
  have c1 := HX.out.c1
  have CC := Lib.hid (pclose_any w0 S B gp fl p gf sv rv w1 HX.out l r hs hr hcn)
  go_wp2_with (go_at_call 49; refine CC.out.mono ?_; rintro e w6 ⟨rfl, hf⟩; have HF := Lib.hid hf; clear hf)
  go_ret
  exact ⟨rfl, HF.out⟩
set_option maxRecDepth 100000 in
set_option maxHeartbeats 4000000 in
theorem ch_bad11 (w0 : World) (S : Nat → Prop) (B gp : Nat) (fl : Nat → Nat) (p : PS) (gf : Nat) (sv rv : Value) (s : ByteArray) (w : World) (H : PaW w0 S w B gp fl p gf sv rv) (hn : p.x.next = 11) (l : Lv) (r : List Lv) (hs : p.x.stack = l :: r) (hr : r.length ≤ 32) (hcn : ∀ m ∈ r, m.node.cnt ≤ 1048576) (hne0 : s ≠ wEntry) (hne1 : s ≠ wClose) :
    Calls Try.prog 45 #[.pointer (some ⟨gp, 0, none⟩), .string s] w fun e w' => WordR w0 S B gp p gf (.error 70) e w' := by
  obtain ⟨gs, cap, kv, ks, T⟩ := H.top hs
  have CT := Lib.hid ((ptop_any w0 S B gp fl p gf sv rv w H gs r.length cap T.sv (by omega)).mono fun e w' h => (show e = .returned (.pointer (some ⟨gs, r.length * 5, none⟩)) ∧ Below w.heap.size w w' from ⟨h.1, by obtain ⟨k, rfl⟩ := h.2; exact below_drw w k⟩))
  have HH := Lib.hid H
  have HT := Lib.hid T
  have hgg : gp ≠ gs := fun e => by have h1 := H.lab; have h2 := T.lab; rw [e] at h1; omega
  have hgg2 : gs ≠ gp := fun e => hgg e.symm
  have n0 := str_ne (t := wEntry) (l := [101, 110, 116, 114, 121]) rfl hne0
  have n1 := str_ne (t := wClose) (l := [41]) rfl hne1
  clear hne0
  clear hne1
  clear H T
  go_enter Try.func45, Try.ntmps45
  go_upto_region 3 with (go_at_call 46; refine CT.out.mono ?_; rintro e w1 ⟨rfl, h1⟩; have HX := Lib.hid (HH.out.later h1); have TX := Lib.hid (HT.out.later h1); clear h1)
  have c7 := HX.out.c7
  rw [hn] at c7
  replace c7 : w1.cell? ⟨gp, 7, none⟩ = some (.int .i64 11) := c7
  have f7 := HX.out.free 7
  have c1 := HX.out.c1
  go_wp2_with (go_at_call 24; refine (pfail_any w0 S B gp fl p gf sv rv 70 p.start _ HX.out).mono ?_; rintro e w6 ⟨rfl, hf⟩; have HF := Lib.hid hf; clear hf)
  go_ret
  exact ⟨rfl, _, _, _, HF.out⟩
theorem choose_any (w0 : World) (S : Nat → Prop) (B gp : Nat) (fl : Nat → Nat) (p : PS) (gf : Nat) (sv rv : Value) (s : ByteArray) (w : World) (H : PaW w0 S w B gp fl p gf sv rv) (hn : p.x.next = 3 ∨ p.x.next = 4 ∨ p.x.next = 11) (l : Lv) (r : List Lv) (hs : p.x.stack = l :: r) (hr : r.length ≤ 32) (hcn : ∀ m ∈ r, m.node.cnt ≤ 1048576) :
    Calls Try.prog 45 #[.pointer (some ⟨gp, 0, none⟩), .string s] w fun e w' => WordR w0 S B gp p gf (p.x.word s) e w' := by
  rcases hn with hn | hn | hn
  · have hw : p.x.word s = if s = wRegular then .ok (p.x.put 4 (kindSet 1)) else if s = wSymlink then .ok (p.x.put 8 (kindSet 2)) else if s = wDirectory then .ok (p.x.put 11 (kindSet 3)) else .error 70 := by
      unfold WS.word
      rw [hn]
      rfl
    rw [hw]
    by_cases h1 : s = wRegular
    · rw [if_pos h1]; exact ch_reg w0 S B gp fl p gf sv rv s w H hn l r hs hr hcn h1
    · rw [if_neg h1]
      by_cases h2 : s = wSymlink
      · rw [if_pos h2]; exact ch_sym w0 S B gp fl p gf sv rv s w H hn l r hs hr hcn h1 h2
      · rw [if_neg h2]
        by_cases h3 : s = wDirectory
        · rw [if_pos h3]; exact ch_dir w0 S B gp fl p gf sv rv s w H hn l r hs hr hcn h1 h2 h3
        · rw [if_neg h3]; exact ch_bad3 w0 S B gp fl p gf sv rv s w H hn l r hs hr hcn h1 h2 h3
  · have hw : p.x.word s = if s = wExec then .ok (p.x.put 5 execSet) else if s = wContents then .ok { p.x with next := 7 } else .error 70 := by
      unfold WS.word
      rw [hn]
      rfl
    rw [hw]
    by_cases h1 : s = wExec
    · rw [if_pos h1]; exact ch_exec w0 S B gp fl p gf sv rv s w H hn l r hs hr hcn h1
    · rw [if_neg h1]
      by_cases h2 : s = wContents
      · rw [if_pos h2]; exact ch_cont w0 S B gp fl p gf sv rv s w H hn l r hs hr hcn h1 h2
      · rw [if_neg h2]; exact ch_bad4 w0 S B gp fl p gf sv rv s w H hn l r hs hr hcn h1 h2
  · have hw : p.x.word s = if s = wEntry then .ok { p.x with next := 12 } else if s = wClose then .ok p.x.close else .error 70 := by
      unfold WS.word
      rw [hn]
      rfl
    rw [hw]
    by_cases h1 : s = wEntry
    · rw [if_pos h1]; exact ch_entry w0 S B gp fl p gf sv rv s w H hn l r hs hr hcn h1
    · rw [if_neg h1]
      by_cases h2 : s = wClose
      · rw [if_pos h2]; exact ch_close w0 S B gp fl p gf sv rv s w H hn l r hs hr hcn h1 h2
      · rw [if_neg h2]; exact ch_bad11 w0 S B gp fl p gf sv rv s w H hn l r hs hr hcn h1 h2
end Go.Proofs.Ytlcppkcclolgcaa

