/- The walks of the parser's Close; small trees. -/
import Derived.Test.YtlcppkcclolgcaaQd
import Derived.Test.YtlcppkcclolgcaaWLast
namespace Go.Proofs.Ytlcppkcclolgcaa
set_option linter.unusedVariables false
set_option linter.unusedSimpArgs false
open Go.RowKit
open Go.Proofs.YtlcppkcclolgcaaW.PrintLast

theorem cnt_frSum : ∀ n : ND, n.cnt ≤ frSum n.kwords := by
  intro n
  induction n with
  | leaf => simp [ND.cnt]
  | add p s c ih _ =>
    have e9 : frSum (ND.add p s c).kwords = frSum p.kwords + frSum [wEntry, wOpen, wName, s, wNode, wClose] + frSum c.words := by
      simp [ND.kwords, ND.words, frSum]
      omega
    have h1 : 1 ≤ frSum [wEntry, wOpen, wName, s, wNode, wClose] := by
      simp only [frSum, List.map_cons, List.sum_cons, fr]
      omega
    rw [e9]
    simp only [ND.cnt]
    omega
theorem ok_text {n : ND} {d m : Nat} (h : n.Ok d) (hw : frSum n.words ≤ m) : n.text.size ≤ m ∧ frSum n.kwords ≤ m := by
  obtain ⟨_, hf, _⟩ := h
  unfold ND.words ND.wordsOf at hw
  rcases fld_kind hf with k | k | k
  · rw [if_pos k] at hw
    have hc := fld_leaf hf (.inl k)
    have e : n.kwords = [] := by rw [leaf_of hc]; rfl
    refine ⟨?_, by rw [e]; simp [frSum]⟩
    simp only [frSum_append] at hw
    have h1 : n.text.size ≤ frSum [wContents, n.text] := by simp only [frSum, List.map_cons, List.map_nil, List.sum_cons, List.sum_nil, fr]; omega
    omega
  · rw [if_neg (by omega), if_pos k] at hw
    have hc := fld_leaf hf (.inr k)
    have e : n.kwords = [] := by rw [leaf_of hc]; rfl
    refine ⟨?_, by rw [e]; simp [frSum]⟩
    simp only [frSum_append] at hw
    have h1 : n.text.size ≤ frSum [wSymlink, wTarget, n.text] := by simp only [frSum, List.map_cons, List.map_nil, List.sum_cons, List.sum_nil, fr]; omega
    omega
  · rw [if_neg (by omega), if_neg (by omega)] at hw
    rw [(fld_dir hf k).2]
    simp only [frSum_append] at hw
    exact ⟨Nat.zero_le _, by omega⟩
theorem small_of (m : Nat) : ∀ (n : ND) (d : Nat), n.kOk d → n.text.size ≤ m → frSum n.kwords ≤ m → n.small m := by
  intro n
  induction n with
  | leaf k x t => exact fun _ _ h _ => h
  | add p s c ihp ihc =>
    intro d h ht hw
    obtain ⟨h1, h2, h3, h4⟩ := h
    have hc := cnt_frSum (ND.add p s c)
    have e9 : frSum (ND.add p s c).kwords = frSum p.kwords + frSum [wEntry, wOpen, wName, s, wNode, wClose] + frSum c.words := by
      simp [ND.kwords, ND.words, frSum]
      omega
    have hs : s.size ≤ frSum [wEntry, wOpen, wName, s, wNode, wClose] := by
      simp only [frSum, List.map_cons, List.map_nil, List.sum_cons, List.sum_nil, fr]
      omega
    obtain ⟨t1, t2⟩ := ok_text h4 (m := m) (by omega)
    exact ⟨ihp d h1 ht (by omega), by omega, ihc (d + 1) h4.2.2 t1 t2, by simp only [ND.cnt] at hc; omega⟩
theorem serE_small {n : ND} (h : serE n = 0) : n.small 1048576 := by
  obtain ⟨hok, hl⟩ := serE_ok.1 h
  have hl2 := (serE_len h).2
  obtain ⟨t1, t2⟩ := ok_text hok (m := 1048576) (by omega)
  exact small_of 1048576 n 1 hok.2.2 t1 t2
/-! ### Close -/
def clN (p : PS) : ND := if p.close.code = 0 then p.x.root else .leaf 0 false emp
def clC (p : PS) : Int := p.close.code
def clA (p : PS) : Nat := if p.close.code = 0 then 0 else p.close.fat
theorem close_x (p : PS) : p.close.x = p.x := by unfold PS.close; split <;> rfl
def CloseP (w0 : World) (S : Nat → Prop) (B gp : Nat) (p : PS) (e : Ending) (w' : World) : Prop :=
  ∃ a c, e = .returned (.tuple #[(clN p).val a c, .agg #[.int .i64 (clC p), .int .i64 (clA p : Nat)]]) ∧ (clN p).InS (fun b => B ≤ b) w' a ∧ ∃ fl gf sv rv, PaW w0 S w' B gp fl p.close gf sv rv
section
variable {w0 w w1 : World} {S : Nat → Prop} {B gp : Nat} {fl : Nat → Nat} {p : PS} {gf : Nat} {sv rv : Value}
/-- a new block beside the parser's, to be written later -/
theorem PaW.box (H : PaW w0 S w B gp fl p gf sv rv) (hb : Below w.heap.size w w1) {b : Nat} (h1 : w.heap.size ≤ b) (h2 : b < w1.heap.size) : PaW w0 S w1 B gp (upd fl b 2) p gf sv rv := by
  have hB := (H.hB gp (by rw [H.lab]; omega)).1
  have hlt := H.lt
  have hsz := H.away.size
  refine H.kept ((hb.block gp hlt).trans H.row) (H.away.later hb) (fun k hk _ _ => ⟨upd_ne _ _ _ _ (by omega), fun _ => hb.block k hk⟩) (fun k hk => ?_) (fun k hk hl => ?_) rfl rfl
  · by_cases e : k = b
    · subst e; omega
    · rw [upd_ne _ _ _ _ e] at hk
      exact ⟨(H.hB k hk).1, Nat.lt_of_lt_of_le (H.hB k hk).2 hb.size⟩
  · by_cases e : k = b
    · omega
    · rw [upd_ne _ _ _ _ e] at hk
      exact H.sl k hk hl
theorem PaW.box2 (H : PaW w0 S w B gp fl p gf sv rv) (o1 o2 : Obj) : PaW w0 S ((w.alloc o1).alloc o2) B gp (upd (upd fl w.heap.size 2) (w.heap.size + 1) 2) p gf sv rv := by
  have h1 := H.box (w1 := w.alloc o1) ((Below.refl _ _).alloc (Nat.le_refl _) _) (b := w.heap.size) (Nat.le_refl _) (by simp)
  exact h1.box (w1 := (w.alloc o1).alloc o2) ((Below.refl _ _).alloc (Nat.le_refl _) _) (b := w.heap.size + 1) (by simp) (by simp)
theorem PaW.set2 (H : PaW w0 S w B gp fl p gf sv rv) {b : Nat} (hf : fl b = 2) (i : Nat) (x : Value) : PaW w0 S (w.setCell ⟨b, i, none⟩ x) B gp fl p gf sv rv := by
  have hne : ∀ k, fl k ≠ 2 → k ≠ b := fun k hk e => hk (by rw [e]; exact hf)
  exact H.kept ((Below.heap_setCell _ _ _ _ (hne gp (by rw [H.lab]; omega))).trans H.row) (H.away.set b i x (H.sl b (by omega))) (fun k hk h2 _ => ⟨rfl, fun _ => Below.heap_setCell _ _ _ _ (hne k h2)⟩) (fun k hk => ⟨(H.hB k hk).1, by simpa [World.setCell] using (H.hB k hk).2⟩) H.sl rfl rfl
end
theorem CloseP.fault {w0 w : World} {S : Nat → Prop} {B gp : Nat} {fl : Nat → Nat} {p q : PS} {gf : Nat} {sv rv : Value} (hc : q.code ≠ 0) (h : p.close = q) (H : PaW w0 S w B gp fl q gf sv rv) :
    CloseP w0 S B gp p (.returned (.tuple #[.agg #[.int .i64 0, .bool false, .string ⟨#[]⟩, .slice none 0 0], .agg #[.int .i64 q.code, .int .i64 (q.fat : Int)]])) w := by
  subst h
  refine ⟨none, 0, ?_, ?_, fl, gf, sv, rv, H⟩
  · simp only [clN, clC, clA, if_neg hc]
    rfl
  · simp only [clN, if_neg hc]
    exact .inl rfl
set_option maxRecDepth 100000 in
theorem pfail_eq (w0 : World) (S : Nat → Prop) (B gp : Nat) (fl : Nat → Nat) (p : PS) (gf : Nat) (sv rv : Value) (q : Int) (a : Nat) (w : World) (H : PaW w0 S w B gp fl p gf sv rv) :
    Calls Try.prog 24 #[.pointer (some ⟨gp, 0, none⟩), .int .i64 q, .int .i64 (a : Int)] w fun e w' => e = .returned (.bool false) ∧ w' = (w.setCell ⟨gp, 2, none⟩ (.int .i64 q)).setCell ⟨gp, 3, none⟩ (.int .i64 (a : Int)) := by
  have c2 := H.c2
  have c3 := H.c3
  have f2 := H.free 2
  have f3 := H.free 3
  clear H
  go_enter Try.func24, Try.ntmps24
  go_wp2_with fail
  go_ret
  exact ⟨rfl, rfl⟩
set_option maxRecDepth 100000 in
set_option maxHeartbeats 4000000 in
/-- Close over a fault -/
theorem pclose_fault (w0 : World) (S : Nat → Prop) (B gp : Nat) (fl : Nat → Nat) (p : PS) (gf : Nat) (sv rv : Value) (w : World) (H : PaW w0 S w B gp fl p gf sv rv) (hs : p.shut = false) (hc : p.code ≠ 0) :
    Calls Try.prog 11 #[.pointer (some ⟨gp, 0, none⟩)] w fun e w' => CloseP w0 S B gp p e w' := by
  have hp : p.close = { p with shut := true } := by unfold PS.close; rw [if_neg (fun h => hc h.2.2)]
  have hr1 := row_past (heap_alloc_new w (.cells #[.int .i64 0, .bool false, .string ⟨#[]⟩, .slice none 0 0] 26)) (.cells #[.int .i64 0, .int .i64 0] 30)
  have hr2 := alloc_new2 w (.cells #[.int .i64 0, .bool false, .string ⟨#[]⟩, .slice none 0 0] 26) #[.int .i64 0, .int .i64 0] 30
  have h2 := H.box2 (.cells #[.int .i64 0, .bool false, .string ⟨#[]⟩, .slice none 0 0] 26) (.cells #[.int .i64 0, .int .i64 0] 30)
  have hl1 : upd (upd fl w.heap.size 2) (w.heap.size + 1) 2 w.heap.size = 2 := by rw [upd_ne _ _ _ _ (by omega)]; exact upd_same _ _ _
  have hl2 : upd (upd fl w.heap.size 2) (w.heap.size + 1) 2 (w.heap.size + 1) = 2 := upd_same _ _ _
  have hlt := H.lt
  generalize upd (upd fl w.heap.size 2) (w.heap.size + 1) 2 = fl2 at *
  have HX := Lib.hid h2
  have HR1 := Lib.hid hr1
  have HR2 := Lib.hid hr2
  have HL1 := Lib.hid hl1
  have HL2 := Lib.hid hl2
  have HCL := Lib.hid hp
  have HS := Lib.hid hs
  have hcI : (p.code != 0) = true := by simpa using hc
  have hcJ : (p.code == 0) = false := by simpa using hc
  clear h2 hr1 hr2 hl1 hl2 hp hs H
  go_enter Try.func11, Try.ntmps11
  go_upto_region 1 with fail
  generalize hm : w.heap.size = m at *
  generalize (w.alloc (.cells #[.int .i64 0, .bool false, .string ⟨#[]⟩, .slice none 0 0] 26)).alloc (.cells #[.int .i64 0, .int .i64 0] 30) = w1 at *
  have HM := Lib.hid hm
  clear hm
  have c4 := HX.out.c4
  rw [HS.out] at c4
  have c6 := HX.out.c6
  have c2 := HX.out.c2
  have f4 := HX.out.free 4
  generalize hwh : p.x.whole = wh at c6
  have h3 := HX.out.put (p' := { p with shut := true }) (gf' := gf) 4 (.bool true) rfl rfl rfl
  have HX3 := Lib.hid h3
  clear h3
  have hmg : m ≠ gp := by omega
  have hmg2 : m + 1 ≠ gp := by omega
  have HR13 := Lib.hid ((Below.heap_setCell w1 ⟨gp, 4, none⟩ (.bool true) m hmg).trans HR1.out)
  have HR23 := Lib.hid ((Below.heap_setCell w1 ⟨gp, 4, none⟩ (.bool true) (m + 1) hmg2).trans HR2.out)
  clear hwh
  cases wh
  all_goals
    go_upto_region 4 with fail
    generalize w1.setCell ⟨gp, 4, none⟩ (.bool true) = w2 at *
    clear c4 c6 c2 f4 HX HR1 HR2
    have c2 := HX3.out.c2
    have c3 := HX3.out.c3
    have p0 := cell_of_row w2 m 0 _ _ _ HR13.out
    have p1 := cell_of_row w2 m 1 _ _ _ HR13.out
    have p2 := cell_of_row w2 m 2 _ _ _ HR13.out
    have p3 := cell_of_row w2 m 3 _ _ _ HR13.out
    have q0 := cell_of_row w2 (m + 1) 0 _ _ _ HR23.out
    have q1 := cell_of_row w2 (m + 1) 1 _ _ _ HR23.out
    have f0 := frozen_of_row w2 m 0 _ _ HR13.out
    have f1 := frozen_of_row w2 m 1 _ _ HR13.out
    have f2 := frozen_of_row w2 m 2 _ _ HR13.out
    have f3 := frozen_of_row w2 m 3 _ _ HR13.out
    have g0 := frozen_of_row w2 (m + 1) 0 _ _ HR23.out
    have g1 := frozen_of_row w2 (m + 1) 1 _ _ HR23.out
    go_upto_region 5 with fail
    have d2 : (w2.drew).cell? ⟨gp, 2, none⟩ = some (.int .i64 p.code) := c2
    refine wp_region_noPanic ?_
    refine wp_region_last_drew (S := fun w' => w'.cell? ⟨gp, 2, none⟩ = some (.int .i64 p.code) ∧ w'.cell? ⟨gp, 3, none⟩ = some (.int .i64 (p.fat : Int))) (ds := [7]) (by kernel_rfl) ⟨c2, c3⟩ (fun hHeld => ?_)
    refine last_pure8 (i := 0) (oi := _) (v := (.agg #[.int .i64 0, .bool false, .string ⟨#[]⟩, .slice none 0 0])) rfl (by kernel_rfl) (by kernel_rfl) (by kernel_rfl) (fun _ _ _ h => h) (Or.inl ⟨by rfl, fun w' => by go_simp⟩) ?_
    try simp only [Act.put, List.getElem_toArray, List.getElem_cons_succ, List.getElem_cons_zero, List.setIfInBounds_toArray, List.set_cons_zero, List.set_cons_succ]
    refine wpAnyLast_take (i := 1) (oi := _) (v := (.pointer (some ⟨gp, 0, none⟩))) rfl (by kernel_rfl) (by kernel_rfl) (by kernel_rfl) (by kernel_rfl) (by kernel_rfl) (fun _ _ _ h => h) (Or.inl ⟨by rfl, fun w' _ => by go_simp⟩) hHeld ?_
    try simp only [Act.put, List.getElem_toArray, List.getElem_cons_succ, List.getElem_cons_zero, List.setIfInBounds_toArray, List.set_cons_zero, List.set_cons_succ]
    refine wpAnyLast_take (i := 2) (oi := _) (v := (.pointer (some ⟨gp, 0, none⟩))) rfl (by kernel_rfl) (by kernel_rfl) (by kernel_rfl) (by kernel_rfl) (by kernel_rfl) (fun _ _ _ h => h) (Or.inl ⟨by rfl, fun w' _ => by go_simp⟩) hHeld ?_
    try simp only [Act.put, List.getElem_toArray, List.getElem_cons_succ, List.getElem_cons_zero, List.setIfInBounds_toArray, List.set_cons_zero, List.set_cons_succ]
    refine wpAnyLast_take (i := 3) (oi := _) (v := (.pointer (some ⟨gp, 0, none⟩))) rfl (by kernel_rfl) (by kernel_rfl) (by kernel_rfl) (by kernel_rfl) (by kernel_rfl) (fun _ _ _ h => h) (Or.inl ⟨by rfl, fun w' _ => by go_simp⟩) hHeld ?_
    try simp only [Act.put, List.getElem_toArray, List.getElem_cons_succ, List.getElem_cons_zero, List.setIfInBounds_toArray, List.set_cons_zero, List.set_cons_succ]
    refine wpAnyLast_take (i := 4) (oi := _) (v := (.pointer (some ⟨gp, 2, none⟩))) rfl (by kernel_rfl) (by kernel_rfl) (by kernel_rfl) (by kernel_rfl) (by kernel_rfl) (fun _ _ _ h => h) (Or.inl ⟨by rfl, fun w' _ => by go_simp⟩) hHeld ?_
    try simp only [Act.put, List.getElem_toArray, List.getElem_cons_succ, List.getElem_cons_zero, List.setIfInBounds_toArray, List.set_cons_zero, List.set_cons_succ]
    refine wpAnyLast_take (i := 5) (oi := _) (v := (.agg #[.int .i64 p.code, .int .i64 (p.fat : Int)])) rfl (by kernel_rfl) (by kernel_rfl) (by kernel_rfl) (by kernel_rfl) (by kernel_rfl) (fun _ _ _ h => h) (Or.inl ⟨by rfl, fun w' hSw => by have h1 := hSw.1; have h2 := hSw.2; go_simp⟩) hHeld ?_
    try simp only [Act.put, List.getElem_toArray, List.getElem_cons_succ, List.getElem_cons_zero, List.setIfInBounds_toArray, List.set_cons_zero, List.set_cons_succ]
    refine wpAnyLast_ready (rs := [6]) (by kernel_rfl) (by simp) ?_
    refine AllReadyL.cons (o := _) rfl (by decide) (fun K hK => ?_) AllReadyL.nil
    rw [if_pos (by rfl)]
    go_simp
    have hx4 := (((HX3.out.set2 HL1.out 0 (.int .i64 0)).set2 HL1.out 1 (.bool false)).set2 HL1.out 2 (.string ⟨#[]⟩)).set2 HL1.out 3 (.slice none 0 0)
    have hx4d := hx4.later (Below.refl _ _).drew
    have HX4 := Lib.hid hx4
    refine hK.out _ ((((w2.setCell ⟨m, 0, none⟩ (.int .i64 0)).setCell ⟨m, 1, none⟩ (.bool false)).setCell ⟨m, 2, none⟩ (.string ⟨#[]⟩)).setCell ⟨m, 3, none⟩ (.slice none 0 0)).drew ⟨hx4d.c2, hx4d.c3⟩ (fun hHeld => ?_)
    clear hK K hx4 hx4d
    try dsimp only
    try simp only [Act.put, List.getElem_toArray, List.getElem_cons_succ, List.getElem_cons_zero, List.setIfInBounds_toArray, List.set_cons_zero, List.set_cons_succ]
    refine wpAnyLast_ready (rs := [7]) (by kernel_rfl) (by simp) ?_
    refine AllReadyL.cons_last (o := _) rfl (by decide) (fun K hK => ?_) AllReadyL.nil
    rw [if_pos (by rfl)]
    go_simp
    have hx5 := ((HX4.out.set2 HL2.out 0 (.int .i64 p.code)).set2 HL2.out 1 (.int .i64 (p.fat : Int))).later (Below.refl _ _).drew
    have HX5 := Lib.hid hx5
    clear hx5
    have HSZ := HX5.out.lt
    refine hK.out _ ((((((w2.setCell ⟨m, 0, none⟩ (.int .i64 0)).setCell ⟨m, 1, none⟩ (.bool false)).setCell ⟨m, 2, none⟩ (.string ⟨#[]⟩)).setCell ⟨m, 3, none⟩ (.slice none 0 0)).setCell ⟨m + 1, 0, none⟩ (.int .i64 p.code)).setCell ⟨m + 1, 1, none⟩ (.int .i64 (p.fat : Int))).drew ?_
    clear hK K HX4 HX3
    try dsimp only
    try simp only [Act.put, List.getElem_toArray, List.getElem_cons_succ, List.getElem_cons_zero, List.setIfInBounds_toArray, List.set_cons_zero, List.set_cons_succ]
    refine wpAnyLast_done (by kernel_rfl) ?_ _
    refine NoPanic.normal ?_
    go_wp2_with fail
    exact bodyPost_ret (v := .tuple #[.agg #[.int .i64 0, .bool false, .string ⟨#[]⟩, .slice none 0 0], .agg #[.int .i64 p.code, .int .i64 (p.fat : Int)]]) (by simp [results, Try.results11, go_sem, p0, p1, p2, p3, q0, q1, f0, f1, f2, f3, g0, g1]) rfl (CloseP.fault (q := { p with shut := true }) hc HCL.out HX5.out)
set_option maxRecDepth 100000 in
set_option maxHeartbeats 4000000 in
/-- Close ahead of the end -/
theorem pclose_short (w0 : World) (S : Nat → Prop) (B gp : Nat) (fl : Nat → Nat) (p : PS) (gf : Nat) (sv rv : Value) (w : World) (H : PaW w0 S w B gp fl p gf sv rv) (hs : p.shut = false) (hc0 : p.code = 0) (hwh0 : p.x.whole = false) :
    Calls Try.prog 11 #[.pointer (some ⟨gp, 0, none⟩)] w fun e w' => CloseP w0 S B gp p e w' := by
  have hp : p.close = { p.bad 4 p.at_ with shut := true } := by unfold PS.close; rw [if_pos ⟨by simp [hs], by simp [hwh0], hc0⟩]; rfl
  have hr1 := row_past (heap_alloc_new w (.cells #[.int .i64 0, .bool false, .string ⟨#[]⟩, .slice none 0 0] 26)) (.cells #[.int .i64 0, .int .i64 0] 30)
  have hr2 := alloc_new2 w (.cells #[.int .i64 0, .bool false, .string ⟨#[]⟩, .slice none 0 0] 26) #[.int .i64 0, .int .i64 0] 30
  have h2 := H.box2 (.cells #[.int .i64 0, .bool false, .string ⟨#[]⟩, .slice none 0 0] 26) (.cells #[.int .i64 0, .int .i64 0] 30)
  have hl1 : upd (upd fl w.heap.size 2) (w.heap.size + 1) 2 w.heap.size = 2 := by rw [upd_ne _ _ _ _ (by omega)]; exact upd_same _ _ _
  have hl2 : upd (upd fl w.heap.size 2) (w.heap.size + 1) 2 (w.heap.size + 1) = 2 := upd_same _ _ _
  have hlt := H.lt
  generalize upd (upd fl w.heap.size 2) (w.heap.size + 1) 2 = fl2 at *
  have HX := Lib.hid h2
  have HR1 := Lib.hid hr1
  have HR2 := Lib.hid hr2
  have HL1 := Lib.hid hl1
  have HL2 := Lib.hid hl2
  have HCL := Lib.hid hp
  have HS := Lib.hid hs
  clear h2 hr1 hr2 hl1 hl2 hp hs H
  go_enter Try.func11, Try.ntmps11
  go_upto_region 1 with fail
  generalize hm : w.heap.size = m at *
  generalize (w.alloc (.cells #[.int .i64 0, .bool false, .string ⟨#[]⟩, .slice none 0 0] 26)).alloc (.cells #[.int .i64 0, .int .i64 0] 30) = w1 at *
  have HM := Lib.hid hm
  clear hm
  have c4 := HX.out.c4
  rw [HS.out] at c4
  have c6 := HX.out.c6
  rw [hwh0] at c6
  have c2 := HX.out.c2
  rw [hc0] at c2
  have c0 := HX.out.c0
  have hmg : m ≠ gp := by omega
  have hmg2 : m + 1 ≠ gp := by omega
  have CF := pfail_eq w0 S B gp fl2 p gf sv rv 4 p.at_ w1 HX.out
  go_upto_region 3 with (go_at_call 24; refine CF.mono ?_; rintro e w4 ⟨rfl, hf⟩; have HF := Lib.hid hf; clear hf)
  have hx4 : PaW w0 S w4 B gp fl2 (p.bad 4 p.at_) gf sv rv := by
    rw [HF.out]
    exact (HX.out.put (p' := { p with code := 4 }) 2 (.int .i64 (4 : Int)) rfl rfl rfl).put 3 _ rfl rfl rfl
  have hr4 : w4.heap[m]? = some (.cells #[.int .i64 0, .bool false, .string ⟨#[]⟩, .slice none 0 0] 26 (0, 0)) := by
    rw [HF.out]
    exact (Below.heap_setCell _ ⟨gp, 3, none⟩ _ m hmg).trans ((Below.heap_setCell _ ⟨gp, 2, none⟩ _ m hmg).trans HR1.out)
  have hr5 : w4.heap[m + 1]? = some (.cells #[.int .i64 0, .int .i64 0] 30 (0, 0)) := by
    rw [HF.out]
    exact (Below.heap_setCell _ ⟨gp, 3, none⟩ _ (m + 1) hmg2).trans ((Below.heap_setCell _ ⟨gp, 2, none⟩ _ (m + 1) hmg2).trans HR2.out)
  clear HX HR1 HR2 HF c2 c6 c0 CF
  have HX := Lib.hid hx4
  have HR1 := Lib.hid hr4
  have HR2 := Lib.hid hr5
  clear hx4 hr4 hr5
  have c4 := HX.out.c4
  replace c4 : w4.cell? ⟨gp, 4, none⟩ = some (.bool p.shut) := c4
  rw [HS.out] at c4
  have c2 := HX.out.c2
  have f4 := HX.out.free 4
  have h3 := HX.out.put (p' := { p.bad 4 p.at_ with shut := true }) (gf' := gf) 4 (.bool true) rfl rfl rfl
  have HX3 := Lib.hid h3
  clear h3
  have HR13 := Lib.hid ((Below.heap_setCell w4 ⟨gp, 4, none⟩ (.bool true) m hmg).trans HR1.out)
  have HR23 := Lib.hid ((Below.heap_setCell w4 ⟨gp, 4, none⟩ (.bool true) (m + 1) hmg2).trans HR2.out)
  have c6 := True.intro
  go_upto_region 4 with fail
  generalize w4.setCell ⟨gp, 4, none⟩ (.bool true) = w2 at *
  clear c4 c6 c2 f4 HX HR1 HR2
  have c2 := HX3.out.c2
  have c3 := HX3.out.c3
  have p0 := cell_of_row w2 m 0 _ _ _ HR13.out
  have p1 := cell_of_row w2 m 1 _ _ _ HR13.out
  have p2 := cell_of_row w2 m 2 _ _ _ HR13.out
  have p3 := cell_of_row w2 m 3 _ _ _ HR13.out
  have q0 := cell_of_row w2 (m + 1) 0 _ _ _ HR23.out
  have q1 := cell_of_row w2 (m + 1) 1 _ _ _ HR23.out
  have f0 := frozen_of_row w2 m 0 _ _ HR13.out
  have f1 := frozen_of_row w2 m 1 _ _ HR13.out
  have f2 := frozen_of_row w2 m 2 _ _ HR13.out
  have f3 := frozen_of_row w2 m 3 _ _ HR13.out
  have g0 := frozen_of_row w2 (m + 1) 0 _ _ HR23.out
  have g1 := frozen_of_row w2 (m + 1) 1 _ _ HR23.out
  go_upto_region 5 with fail
  have d2 : (w2.drew).cell? ⟨gp, 2, none⟩ = some (.int .i64 4) := c2
  refine wp_region_noPanic ?_
  refine wp_region_last_drew (S := fun w' => w'.cell? ⟨gp, 2, none⟩ = some (.int .i64 4) ∧ w'.cell? ⟨gp, 3, none⟩ = some (.int .i64 (p.at_ : Int))) (ds := [7]) (by kernel_rfl) ⟨c2, c3⟩ (fun hHeld => ?_)
  refine last_pure8 (i := 0) (oi := _) (v := (.agg #[.int .i64 0, .bool false, .string ⟨#[]⟩, .slice none 0 0])) rfl (by kernel_rfl) (by kernel_rfl) (by kernel_rfl) (fun _ _ _ h => h) (Or.inl ⟨by rfl, fun w' => by go_simp⟩) ?_
  try simp only [Act.put, List.getElem_toArray, List.getElem_cons_succ, List.getElem_cons_zero, List.setIfInBounds_toArray, List.set_cons_zero, List.set_cons_succ]
  refine wpAnyLast_take (i := 1) (oi := _) (v := (.pointer (some ⟨gp, 0, none⟩))) rfl (by kernel_rfl) (by kernel_rfl) (by kernel_rfl) (by kernel_rfl) (by kernel_rfl) (fun _ _ _ h => h) (Or.inl ⟨by rfl, fun w' _ => by go_simp⟩) hHeld ?_
  try simp only [Act.put, List.getElem_toArray, List.getElem_cons_succ, List.getElem_cons_zero, List.setIfInBounds_toArray, List.set_cons_zero, List.set_cons_succ]
  refine wpAnyLast_take (i := 2) (oi := _) (v := (.pointer (some ⟨gp, 0, none⟩))) rfl (by kernel_rfl) (by kernel_rfl) (by kernel_rfl) (by kernel_rfl) (by kernel_rfl) (fun _ _ _ h => h) (Or.inl ⟨by rfl, fun w' _ => by go_simp⟩) hHeld ?_
  try simp only [Act.put, List.getElem_toArray, List.getElem_cons_succ, List.getElem_cons_zero, List.setIfInBounds_toArray, List.set_cons_zero, List.set_cons_succ]
  refine wpAnyLast_take (i := 3) (oi := _) (v := (.pointer (some ⟨gp, 0, none⟩))) rfl (by kernel_rfl) (by kernel_rfl) (by kernel_rfl) (by kernel_rfl) (by kernel_rfl) (fun _ _ _ h => h) (Or.inl ⟨by rfl, fun w' _ => by go_simp⟩) hHeld ?_
  try simp only [Act.put, List.getElem_toArray, List.getElem_cons_succ, List.getElem_cons_zero, List.setIfInBounds_toArray, List.set_cons_zero, List.set_cons_succ]
  refine wpAnyLast_take (i := 4) (oi := _) (v := (.pointer (some ⟨gp, 2, none⟩))) rfl (by kernel_rfl) (by kernel_rfl) (by kernel_rfl) (by kernel_rfl) (by kernel_rfl) (fun _ _ _ h => h) (Or.inl ⟨by rfl, fun w' _ => by go_simp⟩) hHeld ?_
  try simp only [Act.put, List.getElem_toArray, List.getElem_cons_succ, List.getElem_cons_zero, List.setIfInBounds_toArray, List.set_cons_zero, List.set_cons_succ]
  refine wpAnyLast_take (i := 5) (oi := _) (v := (.agg #[.int .i64 4, .int .i64 (p.at_ : Int)])) rfl (by kernel_rfl) (by kernel_rfl) (by kernel_rfl) (by kernel_rfl) (by kernel_rfl) (fun _ _ _ h => h) (Or.inl ⟨by rfl, fun w' hSw => by have h1 := hSw.1; have h2 := hSw.2; go_simp⟩) hHeld ?_
  try simp only [Act.put, List.getElem_toArray, List.getElem_cons_succ, List.getElem_cons_zero, List.setIfInBounds_toArray, List.set_cons_zero, List.set_cons_succ]
  refine wpAnyLast_ready (rs := [6]) (by kernel_rfl) (by simp) ?_
  refine AllReadyL.cons (o := _) rfl (by decide) (fun K hK => ?_) AllReadyL.nil
  rw [if_pos (by rfl)]
  go_simp
  have hx4 := (((HX3.out.set2 HL1.out 0 (.int .i64 0)).set2 HL1.out 1 (.bool false)).set2 HL1.out 2 (.string ⟨#[]⟩)).set2 HL1.out 3 (.slice none 0 0)
  have hx4d := hx4.later (Below.refl _ _).drew
  have HX4 := Lib.hid hx4
  refine hK.out _ ((((w2.setCell ⟨m, 0, none⟩ (.int .i64 0)).setCell ⟨m, 1, none⟩ (.bool false)).setCell ⟨m, 2, none⟩ (.string ⟨#[]⟩)).setCell ⟨m, 3, none⟩ (.slice none 0 0)).drew ⟨hx4d.c2, hx4d.c3⟩ (fun hHeld => ?_)
  clear hK K hx4 hx4d
  try dsimp only
  try simp only [Act.put, List.getElem_toArray, List.getElem_cons_succ, List.getElem_cons_zero, List.setIfInBounds_toArray, List.set_cons_zero, List.set_cons_succ]
  refine wpAnyLast_ready (rs := [7]) (by kernel_rfl) (by simp) ?_
  refine AllReadyL.cons_last (o := _) rfl (by decide) (fun K hK => ?_) AllReadyL.nil
  rw [if_pos (by rfl)]
  go_simp
  have hx5 := ((HX4.out.set2 HL2.out 0 (.int .i64 4)).set2 HL2.out 1 (.int .i64 (p.at_ : Int))).later (Below.refl _ _).drew
  have HX5 := Lib.hid hx5
  clear hx5
  have HSZ := HX5.out.lt
  refine hK.out _ ((((((w2.setCell ⟨m, 0, none⟩ (.int .i64 0)).setCell ⟨m, 1, none⟩ (.bool false)).setCell ⟨m, 2, none⟩ (.string ⟨#[]⟩)).setCell ⟨m, 3, none⟩ (.slice none 0 0)).setCell ⟨m + 1, 0, none⟩ (.int .i64 4)).setCell ⟨m + 1, 1, none⟩ (.int .i64 (p.at_ : Int))).drew ?_
  clear hK K HX4 HX3
  try dsimp only
  try simp only [Act.put, List.getElem_toArray, List.getElem_cons_succ, List.getElem_cons_zero, List.setIfInBounds_toArray, List.set_cons_zero, List.set_cons_succ]
  refine wpAnyLast_done (by kernel_rfl) ?_ _
  refine NoPanic.normal ?_
  go_wp2_with fail
  exact bodyPost_ret (v := .tuple #[.agg #[.int .i64 0, .bool false, .string ⟨#[]⟩, .slice none 0 0], .agg #[.int .i64 4, .int .i64 (p.at_ : Int)]]) (by simp [results, Try.results11, go_sem, p0, p1, p2, p3, q0, q1, f0, f1, f2, f3, g0, g1]) rfl (CloseP.fault (q := { p.bad 4 p.at_ with shut := true }) (by show (4 : Int) ≠ 0; decide) HCL.out HX5.out)
end Go.Proofs.Ytlcppkcclolgcaa

