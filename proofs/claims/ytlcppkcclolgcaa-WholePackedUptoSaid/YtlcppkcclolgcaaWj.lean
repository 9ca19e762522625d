/- The walks of tree.walk and tree.Check. -/
import Derived.Test.YtlcppkcclolgcaaCk
namespace Go.Proofs.Ytlcppkcclolgcaa
set_option linter.unusedVariables false
set_option linter.unusedSimpArgs false
open Go.RowKit

def errC : Except Int Nat → Int
  | .ok _ => 0
  | .error c => c
def okC : Except Int Nat → Nat
  | .ok b => b
  | .error _ => 0
/-- what a walk over a tree answers -/
def ND.walkC (nm : ByteArray → Int) (n : ND) : Except Int Nat := n.nodeC (fun b => n.kidsC nm 1 b) 1 24
theorem ND.At.mono {B B' : Nat} {w : World} (hB : B ≤ B') : ∀ {n : ND} {x : Addr}, n.At B w x → n.At B' w x := by
  intro n
  induction n with
  | leaf => intro x _; trivial
  | add p nm c ih1 ih2 =>
    intro x h
    obtain ⟨h1, h2, a, cap, c0, c1, c2, c3, c4, h3⟩ := h
    refine ⟨ih1 h1, by omega, a, cap, c0, c1, c2, c3, c4, ?_⟩
    rcases h3 with h3 | ⟨y, e, h3⟩
    · exact .inl h3
    · exact .inr ⟨y, e, ih2 h3⟩
theorem ND.In.mono {B B' : Nat} {w : World} (hB : B ≤ B') {n : ND} {a : Option Addr} (h : n.In B w a) : n.In B' w a := by
  rcases h with h | ⟨y, e, h⟩
  · exact .inl h
  · exact .inr ⟨y, e, h.mono hB⟩
theorem ND.In.up {w w' : World} (hb : Below w.heap.size w w') {n : ND} {a : Option Addr} (h : n.In w.heap.size w a) : n.In w'.heap.size w' a :=
  (h.below hb (Nat.le_refl _)).mono hb.size
theorem four_rows (w : World) (c0 c1 c2 c3 : Array Value) (t0 t1 t2 t3 : TypeId) :
    ((((w.alloc (.cells c0 t0)).alloc (.cells c1 t1)).alloc (.cells c2 t2)).alloc (.cells c3 t3)).heap.size = w.heap.size + 1 + 1 + 1 + 1 ∧
    ((((w.alloc (.cells c0 t0)).alloc (.cells c1 t1)).alloc (.cells c2 t2)).alloc (.cells c3 t3)).heap[w.heap.size]? = some (.cells c0 t0 (0, 0)) ∧
    ((((w.alloc (.cells c0 t0)).alloc (.cells c1 t1)).alloc (.cells c2 t2)).alloc (.cells c3 t3)).heap[w.heap.size + 1]? = some (.cells c1 t1 (0, 0)) ∧
    ((((w.alloc (.cells c0 t0)).alloc (.cells c1 t1)).alloc (.cells c2 t2)).alloc (.cells c3 t3)).heap[w.heap.size + 1 + 1]? = some (.cells c2 t2 (0, 0)) ∧
    ((((w.alloc (.cells c0 t0)).alloc (.cells c1 t1)).alloc (.cells c2 t2)).alloc (.cells c3 t3)).heap[w.heap.size + 1 + 1 + 1]? = some (.cells c3 t3 (0, 0)) ∧
    Below w.heap.size w ((((w.alloc (.cells c0 t0)).alloc (.cells c1 t1)).alloc (.cells c2 t2)).alloc (.cells c3 t3)) := by
  have h1 : (w.alloc (.cells c0 t0)).heap.size = w.heap.size + 1 := by simp
  have h2 : ((w.alloc (.cells c0 t0)).alloc (.cells c1 t1)).heap.size = w.heap.size + 1 + 1 := by simp
  have h3 : (((w.alloc (.cells c0 t0)).alloc (.cells c1 t1)).alloc (.cells c2 t2)).heap.size = w.heap.size + 1 + 1 + 1 := by simp
  refine ⟨by simp, row_past (row_past (row_past (heap_alloc_new w _) _) _) _, row_past (row_past (alloc_new2 w _ _ _) _) _, ?_, ?_, ?_⟩
  · have h := heap_alloc_new ((w.alloc (.cells c0 t0)).alloc (.cells c1 t1)) (.cells c2 t2)
    rw [h2] at h
    exact row_past h _
  · have h := heap_alloc_new (((w.alloc (.cells c0 t0)).alloc (.cells c1 t1)).alloc (.cells c2 t2)) (.cells c3 t3)
    rw [h3] at h
    exact h
  · exact ((((Below.refl _ _).alloc (Nat.le_refl _) _).alloc (by omega) _).alloc (by omega) _).alloc (by omega) _
set_option maxRecDepth 100000 in
set_option maxHeartbeats 4000000 in
theorem walk_any (nm : ByteArray → Int) (n : ND) (a : Option Addr) (cap : Nat) (w : World) (hsm : n.small 1048576) (hin : n.In w.heap.size w a)
    (CN : ∀ s w, s.size ≤ 1048576 → Calls Try.prog 58 #[.string s] w fun e w' => e = .returned (.int .i64 (nm s)) ∧ Below w.heap.size w w') :
    Calls Try.prog 50 #[n.val a cap] w fun e w' => ∃ p : ByteArray, e = .returned (.tuple #[.string p, .int .i64 (errC (n.walkC nm)), .int .i64 (okC (n.walkC nm))]) ∧ Below w.heap.size w w' := by
  have hmf : ∀ (fn : Fn) (first cap : Array Value) (w : World), (Instr.makeFunc fn first cap).run Try.prog w = .ok (.func fn first cap) w := fun _ _ _ _ => rfl
  have C1 : ∀ k cp w, w.heap[k]? = some (.cells (strs [wMagic]) 9 (0, 0)) → Calls Try.prog 60 #[.slice (some ⟨k, 0, none⟩) 1 cp] w fun e w' => e = .returned (.int .i64 24) ∧ w = w' :=
    fun k cp w hr => (framed_any [wMagic] k 1 cp _ w hr (by intro s hs; simp only [List.mem_cons, List.not_mem_nil, or_false] at hs; subst hs; decide) (by simp) rfl).mono fun e w' h => by
      have hq : frSum [wMagic] = 24 := by decide +kernel
      rw [hq] at h; exact h
  have CW : ∀ g wr, w.heap.size ≤ g → WkS w w.heap.size g 24 wr → Calls Try.prog 62 #[.pointer (some ⟨g, 0, none⟩), .string ⟨#[]⟩, n.val a cap, .int .i64 1] wr fun e w' => WkPost w w.heap.size g wr (n.walkC nm) e w' := by
    intro g wr hg H
    exact node_any nm w w.heap.size g CN n.sz n (Nat.le_refl _) 1 24 ⟨#[]⟩ a cap wr H (by omega) hin hsm (by omega) (by omega) (by decide)
  unfold ND.val at CW ⊢
  generalize hR : n.walkC nm = R at *
  generalize n.kind = kd at *
  generalize n.exec = ex at *
  generalize n.text = tx at *
  generalize n.cnt = ct at *
  have K1 := Lib.hid C1
  have KW := Lib.hid CW
  clear C1 CW hsm hin CN hR
  go_enter_defers Try.func50, Try.ntmps50
  go_upto_region 1 with (fail)
  obtain ⟨hsz, q0, q1, q2, q3, qb⟩ := four_rows w #[Value.int .i64 kd, Value.bool ex, Value.string tx, Value.slice a ct cap] #[Value.string ⟨#[]⟩] #[Value.int .i64 0] #[Value.int .i64 0] 26 9 28 3
  generalize ((((w.alloc (.cells #[Value.int .i64 kd, Value.bool ex, Value.string tx, Value.slice a ct cap] 26)).alloc (.cells #[Value.string ⟨#[]⟩] 9)).alloc (.cells #[Value.int .i64 0] 28)).alloc (.cells #[Value.int .i64 0] 3)) = wB at *
  have e0 : ∀ o o', ((wB.alloc o).alloc o').cell? ⟨w.heap.size, 0, none⟩ = some (.int .i64 kd) := fun o o' => cell_of_row _ _ 0 _ _ _ (row_past (row_past q0 o) o')
  have e1 : ∀ o o', ((wB.alloc o).alloc o').cell? ⟨w.heap.size, 1, none⟩ = some (.bool ex) := fun o o' => cell_of_row _ _ 1 _ _ _ (row_past (row_past q0 o) o')
  have e2 : ∀ o o', ((wB.alloc o).alloc o').cell? ⟨w.heap.size, 2, none⟩ = some (.string tx) := fun o o' => cell_of_row _ _ 2 _ _ _ (row_past (row_past q0 o) o')
  have e3 : ∀ o o', ((wB.alloc o).alloc o').cell? ⟨w.heap.size, 3, none⟩ = some (.slice a ct cap) := fun o o' => cell_of_row _ _ 3 _ _ _ (row_past (row_past q0 o) o')
  have Q1 := Lib.hid q1
  have Q2 := Lib.hid q2
  have Q3 := Lib.hid q3
  have QB := Lib.hid qb
  have QS := Lib.hid hsz
  clear q0 q1 q2 q3 qb hsz
  go_upto_region 3 with (go_at_call 60; refine (K1.out _ _ _ (heap_alloc_new _ _)).mono ?_; rintro e w' ⟨rfl, rfl⟩)
  have QC : Below w.heap.size w ((wB.alloc (.cells (strs [wMagic]) 9)).alloc (.cells #[Value.int .i64 24] 133)) := (QB.out.alloc (by have := QS.out; omega) _).alloc (by have := QS.out; simp; omega) _
  have QW : WkS w w.heap.size (wB.heap.size + 1) 24 ((wB.alloc (.cells (strs [wMagic]) 9)).alloc (.cells #[Value.int .i64 24] 133)) := ⟨alloc_new2 _ _ _ _, QC, by have := QS.out; omega⟩
  have r1 := row_past (row_past Q1.out (.cells (strs [wMagic]) 9)) (.cells #[Value.int .i64 24] 133)
  have r2 := row_past (row_past Q2.out (.cells (strs [wMagic]) 9)) (.cells #[Value.int .i64 24] 133)
  have r3 := row_past (row_past Q3.out (.cells (strs [wMagic]) 9)) (.cells #[Value.int .i64 24] 133)
  have e0' := e0 (.cells (strs [wMagic]) 9) (.cells #[Value.int .i64 24] 133)
  have e1' := e1 (.cells (strs [wMagic]) 9) (.cells #[Value.int .i64 24] 133)
  have e2' := e2 (.cells (strs [wMagic]) 9) (.cells #[Value.int .i64 24] 133)
  have e3' := e3 (.cells (strs [wMagic]) 9) (.cells #[Value.int .i64 24] 133)
  have hg : w.heap.size + 1 + 1 + 1 < wB.heap.size + 1 := by have := QS.out; omega
  clear e0 e1 e2 e3
  generalize (wB.alloc (.cells (strs [wMagic]) 9)).alloc (.cells #[Value.int .i64 24] 133) = wC at *
  generalize wB.heap.size + 1 = g at *
  have R1 := Lib.hid r1
  have R2 := Lib.hid r2
  have R3 := Lib.hid r3
  have RW := Lib.hid QW
  have RG := Lib.hid hg
  clear r1 r2 r3 QW QC hg Q1 Q2 Q3 QB QS
  go_upto_region 4 with (go_at_call 62; refine (KW.out g _ (by have := RG.out; omega) RW.out).mono ?_; rintro e w3 ⟨hg3, ⟨b', h1, h2, rfl, h3⟩ | ⟨c, p, b', h1, rfl, h3⟩⟩)
  · subst h1
    have hlt : w.heap.size + 1 + 1 + 1 < wC.heap.size := lt_of_row R3.out
    have r1 := (hg3.block (w.heap.size + 1) (by omega) (by simp; have := RG.out; omega)).trans R1.out
    have r2 := (hg3.block (w.heap.size + 1 + 1) (by omega) (by simp; have := RG.out; omega)).trans R2.out
    have r3 := (hg3.block (w.heap.size + 1 + 1 + 1) (by omega) (by simp; have := RG.out; omega)).trans R3.out
    have k1 := cell_of_row w3 _ 0 _ _ _ r1
    have k2 := cell_of_row w3 _ 0 _ _ _ r2
    have k3 := cell_of_row w3 _ 0 _ _ _ r3
    have f1 := frozen_of_row w3 _ 0 _ _ r1
    have f2 := frozen_of_row w3 _ 0 _ _ r2
    have f3 := frozen_of_row w3 _ 0 _ _ r3
    have cg := h3.cell
    have hbel := Lib.hid h3.bel
    have Z1 := Lib.hid r1
    have Z2 := Lib.hid r2
    have Z3 := Lib.hid r3
    have hgr := RG.out
    have n1 : w.heap.size + 1 ≠ g := by omega
    have n2 : w.heap.size + 1 + 1 ≠ g := by omega
    have n3 : w.heap.size + 1 + 1 + 1 ≠ g := by omega
    clear r1 r2 r3 hlt hgr hg3 h3 R1 R2 R3 RW KW K1 e0' e1' e2' e3'
    generalize hk : w.heap.size + 1 = k at *
    have HK := Lib.hid hk
    clear hk
    refine wp_region_noPanic ?_
    go_region_held (fun w' => w'.cell? ⟨g, 0, none⟩ = some (.int .i64 (b' : Int))) (go_keep) (fail)
    unfold NoPanic
    simp only [Exit.then]
    have g0 : (w3.setCell ⟨k, 0, none⟩ (Value.string ⟨#[]⟩)).heap[k]? = some (.cells #[Value.string ⟨#[]⟩] 9 (0, 0)) := (heap_setCell_same w3 k 0 _ _ _ Z1.out).trans rfl
    have g1 : ((w3.setCell ⟨k, 0, none⟩ (Value.string ⟨#[]⟩)).setCell ⟨k + 1, 0, none⟩ (Value.int .i64 0)).heap[k + 1]? = some (.cells #[Value.int .i64 0] 28 (0, 0)) := (heap_setCell_same _ (k + 1) 0 _ _ _ ((Below.heap_setCell _ _ _ _ (by first | (simp; done) | (simp; omega))).trans Z2.out)).trans rfl
    have g2 : (((w3.setCell ⟨k, 0, none⟩ (Value.string ⟨#[]⟩)).setCell ⟨k + 1, 0, none⟩ (Value.int .i64 0)).setCell ⟨k + 1 + 1, 0, none⟩ (Value.int .i64 (b' : Int))).heap[k + 1 + 1]? = some (.cells #[Value.int .i64 (b' : Int)] 3 (0, 0)) := (heap_setCell_same _ (k + 1 + 1) 0 _ _ _ ((Below.heap_setCell _ _ _ _ (by first | (simp; done) | (simp; omega))).trans ((Below.heap_setCell _ _ _ _ (by first | (simp; done) | (simp; omega))).trans Z3.out))).trans rfl
    have gg1 : (((w3.setCell ⟨k, 0, none⟩ (Value.string ⟨#[]⟩)).setCell ⟨k + 1, 0, none⟩ (Value.int .i64 0)).setCell ⟨k + 1 + 1, 0, none⟩ (Value.int .i64 (b' : Int))).heap[k + 1]? = some (.cells #[Value.int .i64 0] 28 (0, 0)) := (Below.heap_setCell _ _ _ _ (by first | (simp; done) | (simp; omega))).trans g1
    have gg0 : (((w3.setCell ⟨k, 0, none⟩ (Value.string ⟨#[]⟩)).setCell ⟨k + 1, 0, none⟩ (Value.int .i64 0)).setCell ⟨k + 1 + 1, 0, none⟩ (Value.int .i64 (b' : Int))).heap[k]? = some (.cells #[Value.string ⟨#[]⟩] 9 (0, 0)) := (Below.heap_setCell _ _ _ _ (by first | (simp; done) | (simp; omega))).trans ((Below.heap_setCell _ _ _ _ (by first | (simp; done) | (simp; omega))).trans g0)
    have gb : Below w.heap.size w (((w3.setCell ⟨k, 0, none⟩ (Value.string ⟨#[]⟩)).setCell ⟨k + 1, 0, none⟩ (Value.int .i64 0)).setCell ⟨k + 1 + 1, 0, none⟩ (Value.int .i64 (b' : Int))) := by
      have hk := HK.out
      exact ((hbel.out.setCell (by simp; omega) _).setCell (by simp; omega) _).setCell (by simp; omega) _
    clear g0 g1
    have X0 := Lib.hid gg0
    have X1 := Lib.hid gg1
    have X2 := Lib.hid g2
    have XB := Lib.hid gb
    clear gg0 gg1 g2 gb
    generalize ((w3.setCell ⟨k, 0, none⟩ (Value.string ⟨#[]⟩)).setCell ⟨k + 1, 0, none⟩ (Value.int .i64 0)).setCell ⟨k + 1 + 1, 0, none⟩ (Value.int .i64 (b' : Int)) = w4 at *
    clear k1 k2 k3 f1 f2 f3 cg Z1 Z2 Z3 hbel n1 n2 n3
    go_wp2_with fail
    refine leaves_cons (f := 61) (args := #[.pointer (some ⟨k, 0, none⟩), .pointer (some ⟨k + 1, 0, none⟩), .pointer (some ⟨k + 1 + 1, 0, none⟩)]) (by simp) (by simp [go_sem]) ?_
    refine (catch_idle ⟨k, 0, none⟩ ⟨k + 1, 0, none⟩ ⟨k + 1 + 1, 0, none⟩ _).mono ?_
    rintro e u' w5 ⟨rfl, rfl, hb⟩
    have hb2 : Below w4.heap.size w4 w5 := ⟨hb.os, hb.tape, hb.output, hb.size, hb.block⟩
    have c0 := cell_of_row w5 _ 0 _ _ _ ((hb2.block _ (lt_of_row X0.out)).trans X0.out)
    have c1 := cell_of_row w5 _ 0 _ _ _ ((hb2.block _ (lt_of_row X1.out)).trans X1.out)
    have c2 := cell_of_row w5 _ 0 _ _ _ ((hb2.block _ (lt_of_row X2.out)).trans X2.out)
    have hbel := XB.out.trans (hb2.mono XB.out.size)
    clear X0 X1 X2 hb hb2
    refine ⟨.tuple #[.string ⟨#[]⟩, .int .i64 0, .int .i64 (b' : Int)], ?_, ⟨#[]⟩, rfl, hbel⟩
    simp [results, Try.results50, c0, c1, c2, asAddr, loadVar, go_sem]
  · subst h1
    have hlt : w.heap.size + 1 + 1 + 1 < wC.heap.size := lt_of_row R3.out
    have r1 := (hg3.block (w.heap.size + 1) (by omega) (by simp; have := RG.out; omega)).trans R1.out
    have r2 := (hg3.block (w.heap.size + 1 + 1) (by omega) (by simp; have := RG.out; omega)).trans R2.out
    have r3 := (hg3.block (w.heap.size + 1 + 1 + 1) (by omega) (by simp; have := RG.out; omega)).trans R3.out
    refine leaves_cons (f := 61) (args := #[.pointer (some ⟨w.heap.size + 1, 0, none⟩), .pointer (some ⟨w.heap.size + 2, 0, none⟩), .pointer (some ⟨w.heap.size + 3, 0, none⟩)]) (by simp) (by simp [go_sem]) ?_
    refine (catch_pan (w.heap.size + 1) p ⟨#[]⟩ c 0 0 w3 w.heap.size (by omega) r1 r2 r3).mono ?_
    rintro e u' w4 ⟨rfl, rfl, g0, g1, g2, hb⟩
    have c0 := cell_of_row w4 _ 0 _ _ _ g0
    have c1 := cell_of_row w4 _ 0 _ _ _ g1
    have c2 := cell_of_row w4 _ 0 _ _ _ g2
    have hbel := h3.bel.trans hb
    clear g0 g1 g2 hb h3 hg3 r1 r2 r3 RG RW R1 R2 R3 KW K1 e0' e1' e2' e3'
    refine ⟨.tuple #[.string p, .int .i64 c, .int .i64 0], ?_, p, rfl, hbel⟩
    simp [results, Try.results50, c0, c1, c2, asAddr, loadVar, go_sem]

set_option maxRecDepth 100000 in
set_option maxHeartbeats 4000000 in
theorem Check_any (nm : ByteArray → Int) (n : ND) (a : Option Addr) (cap : Nat) (w : World) (hsm : n.small 1048576) (hin : n.In w.heap.size w a)
    (CN : ∀ s w, s.size ≤ 1048576 → Calls Try.prog 58 #[.string s] w fun e w' => e = .returned (.int .i64 (nm s)) ∧ Below w.heap.size w w') :
    Calls Try.prog 29 #[n.val a cap] w fun e w' => ∃ p : ByteArray, e = .returned (.tuple #[.string p, .int .i64 (errC (n.walkC nm))]) ∧ Below w.heap.size w w' := by
  have CW : ∀ wr, Below w.heap.size w wr → Calls Try.prog 50 #[n.val a cap] wr fun e w' => ∃ p : ByteArray, e = .returned (.tuple #[.string p, .int .i64 (errC (n.walkC nm)), .int .i64 (okC (n.walkC nm))]) ∧ Below w.heap.size w w' :=
    fun wr h => (walk_any nm n a cap wr hsm (hin.up h) CN).mono fun e w' ⟨p, h1, h2⟩ => ⟨p, h1, h.trans (h2.mono h.size)⟩
  unfold ND.val at CW ⊢
  generalize n.walkC nm = R at *
  generalize n.kind = kd at *
  generalize n.exec = ex at *
  generalize n.text = tx at *
  generalize n.cnt = ct at *
  have KW := Lib.hid CW
  clear CW hsm hin CN
  have b0 := fun (o : Value) => heap_alloc_new w (.cells #[Value.int .i64 kd, Value.bool ex, Value.string tx, Value.slice a ct cap] 26)
  go_enter Try.func29, Try.ntmps29
  go_wp2_with (go_at_call 50; refine (KW.out _ ((Below.refl _ _).alloc (Nat.le_refl _) _)).mono ?_; rintro e w3 ⟨p, rfl, h3⟩)
  go_ret2
  exact ⟨p, rfl, h3⟩
end Go.Proofs.Ytlcppkcclolgcaa

