/- The walk of the parser's word: texts, targets, closing; every word. -/
import Derived.Test.YtlcppkcclolgcaaPy
namespace Go.Proofs.Ytlcppkcclolgcaa
set_option linter.unusedVariables false
set_option linter.unusedSimpArgs false
open Go.RowKit

theorem text_put {w0 w : World} {S : Nat → Prop} {B gp : Nat} {fl : Nat → Nat} {p : PS} {gf : Nat} {sv rv : Value} (H : PaW w0 S w B gp fl p gf sv rv) {l : Lv} {r : List Lv} (hs : p.x.stack = l :: r) {gs cap : Nat} (hsv : sv = .slice (some ⟨gs, 0, none⟩) (r.length + 1) cap) (s : ByteArray) :
    PaW w0 S ((w.setCell ⟨gs, r.length * 5 + 2, none⟩ (.string s)).setCell ⟨gp, 7, none⟩ (.int .i64 10)) B gp fl { p with x := p.x.put 10 (textSet s) } gf sv rv := by
  have hk : PaW w0 S (w.setCell ⟨gs, r.length * 5 + 2, none⟩ (.string s)) B gp fl { p with x := { p.x with stack := textSet s l :: r } } gf sv rv := H.topSet hs hsv (l' := textSet s l) 2 (by omega) (.string s) (fun kv => by simp only [lvCells, textSet, (own_kind _ _ _ _).1, (own_kind _ _ _ _).2.1, (own_kind _ _ _ _).2.2]; rfl) (own_cnt _ _ _ _) (fun _ _ _ h => ND.KC.own_ _ _ _ h)
  have hq := hk.put (p' := { p with x := { p.x with stack := textSet s l :: r, next := 10 } }) 7 (.int .i64 (10 : Nat)) rfl rfl rfl
  have hx : p.x.put 10 (textSet s) = { p.x with stack := textSet s l :: r, next := 10 } := by unfold WS.put; rw [hs]; rfl
  rw [hx]
  exact hq
set_option maxRecDepth 100000 in
set_option maxHeartbeats 4000000 in
theorem wd_text (w0 : World) (S : Nat → Prop) (B gp : Nat) (fl : Nat → Nat) (p : PS) (gf : Nat) (sv rv : Value) (s : ByteArray) (w : World) (H : PaW w0 S w B gp fl p gf sv rv) (hk : p.x.next = 7) (l : Lv) (r : List Lv) (hs : p.x.stack = l :: r) (hr : r.length ≤ 32) :
    Calls Try.prog 27 #[.pointer (some ⟨gp, 0, none⟩), .string s] w fun e w' => WordR w0 S B gp p gf (.ok (p.x.put 10 (textSet s))) e w' := by
  obtain ⟨gs, cap, kv, ks, T⟩ := H.top hs
  have CT := Lib.hid ((ptop_any w0 S B gp fl p gf sv rv w H gs r.length cap T.sv (by omega)).mono fun e w' h => (show e = .returned (.pointer (some ⟨gs, r.length * 5, none⟩)) ∧ Below w.heap.size w w' from ⟨h.1, by obtain ⟨k, rfl⟩ := h.2; exact below_drw w k⟩))
  have CP : Hid (∀ w, Calls Try.prog 43 #[.int .i64 7] w fun e w' => e = .returned (.tuple #[.string ⟨#[]⟩, .int .i64 0, .bool false]) ∧ w = w') := Lib.hid fun w => plain_any 7 w
  have HH := Lib.hid H
  have HT := Lib.hid T
  have hgg : gp ≠ gs := fun e => by have h1 := H.lab; have h2 := T.lab; rw [e] at h1; omega
  have hgg2 : gs ≠ gp := fun e => hgg e.symm
  have c7 := H.c7
  rw [hk] at c7
  replace c7 : w.cell? ⟨gp, 7, none⟩ = some (.int .i64 7) := c7
  clear H T
  go_enter Try.func27, Try.ntmps27
  go_wp2_with (first | (go_at_call 43; refine (CP.out _).mono ?_; rintro e w' ⟨rfl, rfl⟩) | (go_at_call 46; refine CT.out.mono ?_; rintro e w1 ⟨rfl, h1⟩; have HX := Lib.hid (HH.out.later h1); have TX := Lib.hid (HT.out.later h1); have d2 : w1.cell? ⟨gs, r.length * 5 + 2, none⟩ = some (.string l.node.text) := TX.out.cell 2 (by omega); have f2 := TX.out.free (r.length * 5 + 2); have c7' : w1.cell? ⟨gp, 7, none⟩ = some (.int .i64 (p.x.next : Nat)) := HX.out.c7; have f7' := HX.out.free 7; have HQ := Lib.hid (text_put HX.out hs TX.out.sv s); clear h1))
  go_ret
  exact ⟨rfl, _, _, _, HQ.out⟩
set_option maxRecDepth 100000 in
set_option maxHeartbeats 4000000 in
theorem wd_target (w0 : World) (S : Nat → Prop) (B gp : Nat) (fl : Nat → Nat) (p : PS) (gf : Nat) (sv rv : Value) (s : ByteArray) (w : World) (H : PaW w0 S w B gp fl p gf sv rv) (hk : p.x.next = 9) (l : Lv) (r : List Lv) (hs : p.x.stack = l :: r) (hr : r.length ≤ 32) :
    Calls Try.prog 27 #[.pointer (some ⟨gp, 0, none⟩), .string s] w fun e w' => WordR w0 S B gp p gf (if tgE s ≠ 0 then .error (tgE s) else .ok (p.x.put 10 (textSet s))) e w' := by
  obtain ⟨gs, cap, kv, ks, T⟩ := H.top hs
  have CT := Lib.hid ((ptop_any w0 S B gp fl p gf sv rv w H gs r.length cap T.sv (by omega)).mono fun e w' h => (show e = .returned (.pointer (some ⟨gs, r.length * 5, none⟩)) ∧ Below w.heap.size w w' from ⟨h.1, by obtain ⟨k, rfl⟩ := h.2; exact below_drw w k⟩))
  have CP : Hid (∀ w, Calls Try.prog 43 #[.int .i64 9] w fun e w' => e = .returned (.tuple #[.string ⟨#[]⟩, .int .i64 0, .bool false]) ∧ w = w') := Lib.hid fun w => plain_any 9 w
  have CG := Lib.hid (fun w => target_any s w)
  have HH := Lib.hid H
  have HT := Lib.hid T
  have hgg : gp ≠ gs := fun e => by have h1 := H.lab; have h2 := T.lab; rw [e] at h1; omega
  have hgg2 : gs ≠ gp := fun e => hgg e.symm
  have c7 := H.c7
  have c1 := H.c1
  rw [hk] at c7
  replace c7 : w.cell? ⟨gp, 7, none⟩ = some (.int .i64 9) := c7
  clear H T
  by_cases h1 : tgE s = 0
  · rw [if_neg (by simpa using h1)]
    have h1I : (tgE s != 0) = false := by simpa using h1
    clear h1
    go_enter Try.func27, Try.ntmps27
    go_wp2_with (first | (go_at_call 43; refine (CP.out _).mono ?_; rintro e w' ⟨rfl, rfl⟩) | (go_at_call 47; refine (CG.out _).mono ?_; rintro e w' ⟨rfl, rfl⟩) | (go_at_call 46; refine CT.out.mono ?_; rintro e w1 ⟨rfl, h1⟩; have HX := Lib.hid (HH.out.later h1); have TX := Lib.hid (HT.out.later h1); have d2 : w1.cell? ⟨gs, r.length * 5 + 2, none⟩ = some (.string l.node.text) := TX.out.cell 2 (by omega); have f2 := TX.out.free (r.length * 5 + 2); have c7' : w1.cell? ⟨gp, 7, none⟩ = some (.int .i64 (p.x.next : Nat)) := HX.out.c7; have f7' := HX.out.free 7; have HQ := Lib.hid (text_put HX.out hs TX.out.sv s); clear h1))
    go_ret
    exact ⟨rfl, _, _, _, HQ.out⟩
  · rw [if_pos h1]
    have h1I : (tgE s != 0) = true := by simpa using h1
    clear h1
    go_enter Try.func27, Try.ntmps27
    go_wp2_with (first | (go_at_call 43; refine (CP.out _).mono ?_; rintro e w' ⟨rfl, rfl⟩) | (go_at_call 47; refine (CG.out _).mono ?_; rintro e w' ⟨rfl, rfl⟩) | (go_at_call 24; refine (pfail_any w0 S B gp fl p gf sv rv (tgE s) p.start _ HH.out).mono ?_; rintro e w6 ⟨rfl, hf⟩; have HF := Lib.hid hf; clear hf))
    go_ret
    exact ⟨rfl, _, _, _, HF.out⟩
set_option maxRecDepth 100000 in
set_option maxHeartbeats 4000000 in
theorem wd_close (w0 : World) (S : Nat → Prop) (B gp : Nat) (fl : Nat → Nat) (p : PS) (gf : Nat) (sv rv : Value) (s : ByteArray) (w : World) (H : PaW w0 S w B gp fl p gf sv rv) (hk : p.x.next = 10) (l : Lv) (r : List Lv) (hs : p.x.stack = l :: r) (hr : r.length ≤ 32) (hcn : ∀ m ∈ r, m.node.cnt ≤ 1048576) :
    Calls Try.prog 27 #[.pointer (some ⟨gp, 0, none⟩), .string s] w fun e w' => WordR w0 S B gp p gf (if s ≠ wClose then .error 70 else .ok p.x.close) e w' := by
  have CC := Lib.hid (pclose_any w0 S B gp fl p gf sv rv w H l r hs hr hcn)
  have CP : Hid (∀ w, Calls Try.prog 43 #[.int .i64 10] w fun e w' => e = .returned (.tuple #[.string ⟨#[]⟩, .int .i64 0, .bool false]) ∧ w = w') := Lib.hid fun w => plain_any 10 w
  have HH := Lib.hid H
  have c7 := H.c7
  have c1 := H.c1
  rw [hk] at c7
  replace c7 : w.cell? ⟨gp, 7, none⟩ = some (.int .i64 10) := c7
  clear H hcn hs
  by_cases h1 : s = wClose
  · rw [if_neg (by simpa using h1)]
    have he : (s.toList == [41]) = true := by rw [h1]; exact str_eq rfl
    clear h1
    go_enter Try.func27, Try.ntmps27
    go_wp2_with (first | (go_at_call 43; refine (CP.out _).mono ?_; rintro e w' ⟨rfl, rfl⟩) | (go_at_call 49; refine CC.out.mono ?_; rintro e w6 ⟨rfl, hf⟩; have HF := Lib.hid hf; clear hf))
    go_ret
    exact ⟨rfl, HF.out⟩
  · rw [if_pos h1]
    have he := str_ne (t := wClose) (l := [41]) rfl h1
    clear h1
    go_enter Try.func27, Try.ntmps27
    go_wp2_with (first | (go_at_call 43; refine (CP.out _).mono ?_; rintro e w' ⟨rfl, rfl⟩) | (go_at_call 24; refine (pfail_any w0 S B gp fl p gf sv rv 70 p.start _ HH.out).mono ?_; rintro e w6 ⟨rfl, hf⟩; have HF := Lib.hid hf; clear hf))
    go_ret
    exact ⟨rfl, _, _, _, HF.out⟩
/-- which word may come, and is there a node that is open -/
theorem Inv.place {x : WS} {ws : List ByteArray} (h : Inv x ws) (hw : x.whole = false) : x.next = 0 ∨ x.next = 1 ∨ (2 ≤ x.next ∧ x.next ≤ 16 ∧ ∃ l r, x.stack = l :: r) := by
  cases h with
  | done => cases hw
  | magic => exact .inl rfl
  | open_ => exact .inr (.inl rfl)
  | top k l r n t h1 h2 h3 =>
    refine .inr (.inr ⟨?_, ?_, l, r, rfl⟩) <;> (show _ ≤ _) <;> cases h3 <;> simp
theorem word_any (w0 : World) (S : Nat → Prop) (B gp : Nat) (fl : Nat → Nat) (p : PS) (gf : Nat) (sv rv : Value) (s : ByteArray) (w : World) (H : PaW w0 S w B gp fl p gf sv rv) (hsz : s.size ≤ 1048576) (hl : p.x.stack.length ≤ 32) (hcn : ∀ m ∈ p.x.stack, m.node.cnt ≤ 1048576)
    (hk : p.x.next = 0 ∨ p.x.next = 1 ∨ (2 ≤ p.x.next ∧ p.x.next ≤ 16 ∧ ∃ l r, p.x.stack = l :: r)) :
    Calls Try.prog 27 #[.pointer (some ⟨gp, 0, none⟩), .string s] w fun e w' => WordR w0 S B gp p gf (p.x.word s) e w' := by
  cases hp : plainW p.x.next with
  | some q =>
    obtain ⟨want, t⟩ := q
    have hw : p.x.word s = if s = want then .ok { p.x with next := t } else .error 70 := by
      unfold WS.word
      rw [hp]
    rw [hw]
    exact wd_plain w0 S B gp fl p gf sv rv s w H want t hp
  | none =>
    rcases hk with hk | hk | ⟨h2, h16, l, r, hs⟩
    · rw [hk] at hp; cases hp
    · exact wd_call w0 S B gp fl p gf sv rv s w H hsz hl hcn (.inl hk)
    · have hlr : r.length ≤ 32 := by rw [hs] at hl; simp only [List.length_cons] at hl; omega
      have hcr : ∀ m ∈ r, m.node.cnt ≤ 1048576 := fun m hm => hcn m (by rw [hs]; exact List.mem_cons_of_mem _ hm)
      have hn : ∀ k, p.x.next = k → plainW k = none := fun k e => by rw [← e]; exact hp
      have h9 : p.x.next = 3 ∨ p.x.next = 4 ∨ p.x.next = 11 ∨ p.x.next = 14 ∨ p.x.next = 7 ∨ p.x.next = 9 ∨ p.x.next = 10 := by
        unfold plainW at hp
        by_cases h : p.x.next = 3 ∨ p.x.next = 4 ∨ p.x.next = 11 ∨ p.x.next = 14 ∨ p.x.next = 7 ∨ p.x.next = 9 ∨ p.x.next = 10
        · exact h
        · exfalso
          have h5 : p.x.next = 2 ∨ p.x.next = 5 ∨ p.x.next = 6 ∨ p.x.next = 8 ∨ p.x.next = 12 ∨ p.x.next = 13 ∨ p.x.next = 15 ∨ p.x.next = 16 := by omega
          rcases h5 with h5 | h5 | h5 | h5 | h5 | h5 | h5 | h5 <;> (rw [h5] at hp; cases hp)
      rcases h9 with h9 | h9 | h9 | h9 | h9 | h9 | h9
      · exact wd_call w0 S B gp fl p gf sv rv s w H hsz hl hcn (.inr ⟨.inl h9, l, r, hs⟩)
      · exact wd_call w0 S B gp fl p gf sv rv s w H hsz hl hcn (.inr ⟨.inr (.inl h9), l, r, hs⟩)
      · exact wd_call w0 S B gp fl p gf sv rv s w H hsz hl hcn (.inr ⟨.inr (.inr (.inl h9)), l, r, hs⟩)
      · exact wd_call w0 S B gp fl p gf sv rv s w H hsz hl hcn (.inr ⟨.inr (.inr (.inr h9)), l, r, hs⟩)
      · have hw : p.x.word s = .ok (p.x.put 10 (textSet s)) := by unfold WS.word; rw [h9]; rfl
        rw [hw]
        exact wd_text w0 S B gp fl p gf sv rv s w H h9 l r hs hlr
      · have hw : p.x.word s = if tgE s ≠ 0 then .error (tgE s) else .ok (p.x.put 10 (textSet s)) := by unfold WS.word; rw [h9]; rfl
        rw [hw]
        exact wd_target w0 S B gp fl p gf sv rv s w H h9 l r hs hlr
      · have hw : p.x.word s = if s ≠ wClose then .error 70 else .ok p.x.close := by unfold WS.word; rw [h9]; rfl
        rw [hw]
        exact wd_close w0 S B gp fl p gf sv rv s w H h9 l r hs hlr hcr
end Go.Proofs.Ytlcppkcclolgcaa

