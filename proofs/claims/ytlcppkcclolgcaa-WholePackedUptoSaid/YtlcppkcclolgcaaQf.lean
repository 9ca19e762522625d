/- The walk of the parser's Close over a whole archive; Close in all. -/
import Derived.Test.YtlcppkcclolgcaaQe
namespace Go.Proofs.Ytlcppkcclolgcaa
set_option linter.unusedVariables false
set_option linter.unusedSimpArgs false
open Go.RowKit
theorem CloseP.good {w0 w : World} {S : Nat → Prop} {B gp : Nat} {fl : Nat → Nat} {p q : PS} {gf : Nat} {sv rv : Value} {a : Option Addr} {c : Nat} (hc : q.code = 0) (h : p.close = q) (hx : q.x = p.x) (H : PaW w0 S w B gp fl q gf sv rv) (hi : p.x.root.InS (fun b => B ≤ b) w a) :
    CloseP w0 S B gp p (.returned (.tuple #[.agg #[.int .i64 p.x.root.kind, .bool p.x.root.exec, .string p.x.root.text, .slice a p.x.root.cnt c], .agg #[.int .i64 0, .int .i64 0]])) w := by
  subst h
  refine ⟨a, c, ?_, ?_, fl, gf, sv, rv, H⟩
  · simp only [clN, clC, clA, if_pos hc, hc]
    rfl
  · simp only [clN, if_pos hc]
    exact hi
theorem InS.up6 {n : ND} {a : Option Addr} {B N m : Nat} {w : World} (h : n.InS (fun b => N ≤ b) w a) (hBN : B ≤ N) (h1 : m < N) (h2 : m + 1 < N) (x0 x1 x2 x3 y0 y1 : Value) :
    n.InS (fun b => B ≤ b) ((((((w.setCell ⟨m, 0, none⟩ x0).setCell ⟨m, 1, none⟩ x1).setCell ⟨m, 2, none⟩ x2).setCell ⟨m, 3, none⟩ x3).setCell ⟨m + 1, 0, none⟩ y0).setCell ⟨m + 1, 1, none⟩ y1) a := by
  refine h.kept (fun b hb hN => ⟨?_, Nat.le_trans hBN hN⟩)
  have e1 : b ≠ m := by omega
  have e2 : b ≠ m + 1 := by omega
  rw [Below.heap_setCell _ ⟨m + 1, 1, none⟩ y1 b e2, Below.heap_setCell _ ⟨m + 1, 0, none⟩ y0 b e2, Below.heap_setCell _ ⟨m, 3, none⟩ x3 b e1, Below.heap_setCell _ ⟨m, 2, none⟩ x2 b e1, Below.heap_setCell _ ⟨m, 1, none⟩ x1 b e1, Below.heap_setCell _ ⟨m, 0, none⟩ x0 b e1]
set_option maxRecDepth 100000 in
set_option maxHeartbeats 4000000 in
/-- Close over a whole archive -/
theorem pclose_whole (w0 : World) (S : Nat → Prop) (B gp : Nat) (fl : Nat → Nat) (p : PS) (gf : Nat) (sv rv : Value) (w : World) (H : PaW w0 S w B gp fl p gf sv rv) (hs : p.shut = false) (hc : p.code = 0) (hwh : p.x.whole = true) (hsm : p.x.root.small 1048576) :
    Calls Try.prog 11 #[.pointer (some ⟨gp, 0, none⟩)] w fun e w' => CloseP w0 S B gp p e w' := by
  have hp : p.close = { p with shut := true } := by unfold PS.close; rw [if_neg (fun h => by rw [hwh] at h; exact absurd h.2.1 (by decide))]
  have hr1 := row_past (heap_alloc_new w (.cells #[.int .i64 0, .bool false, .string ⟨#[]⟩, .slice none 0 0] 26)) (.cells #[.int .i64 0, .int .i64 0] 30)
  have hr2 := alloc_new2 w (.cells #[.int .i64 0, .bool false, .string ⟨#[]⟩, .slice none 0 0] 26) #[.int .i64 0, .int .i64 0] 30
  have h2 := H.box2 (.cells #[.int .i64 0, .bool false, .string ⟨#[]⟩, .slice none 0 0] 26) (.cells #[.int .i64 0, .int .i64 0] 30)
  have hl1 : upd (upd fl w.heap.size 2) (w.heap.size + 1) 2 w.heap.size = 2 := by rw [upd_ne _ _ _ _ (by omega)]; exact upd_same _ _ _
  have hl2 : upd (upd fl w.heap.size 2) (w.heap.size + 1) 2 (w.heap.size + 1) = 2 := upd_same _ _ _
  have hlt := H.lt
  generalize upd (upd fl w.heap.size 2) (w.heap.size + 1) 2 = fl2 at *
  have HX := Lib.hid h2
  have HR1 := Lib.hid hr1
  have HR2 := Lib.hid hr2
  have HL1 := Lib.hid hl1
  have HL2 := Lib.hid hl2
  have HCL := Lib.hid hp
  have HS := Lib.hid hs
  have HC := Lib.hid hc
  clear h2 hr1 hr2 hl1 hl2 hp hs H
  go_enter Try.func11, Try.ntmps11
  go_upto_region 1 with fail
  generalize hm : w.heap.size = m at *
  generalize (w.alloc (.cells #[.int .i64 0, .bool false, .string ⟨#[]⟩, .slice none 0 0] 26)).alloc (.cells #[.int .i64 0, .int .i64 0] 30) = w1 at *
  have HM := Lib.hid hm
  clear hm
  have c4 := HX.out.c4
  rw [HS.out] at c4
  have c6 := HX.out.c6
  rw [hwh] at c6
  have f4 := HX.out.free 4
  have h3 := HX.out.put (p' := { p with shut := true }) (gf' := gf) 4 (.bool true) rfl rfl rfl
  have HX3 := Lib.hid h3
  clear h3 hwh hc
  have hmg : m ≠ gp := by omega
  have hmg2 : m + 1 ≠ gp := by omega
  have HR13 := Lib.hid ((Below.heap_setCell w1 ⟨gp, 4, none⟩ (.bool true) m hmg).trans HR1.out)
  have HR23 := Lib.hid ((Below.heap_setCell w1 ⟨gp, 4, none⟩ (.bool true) (m + 1) hmg2).trans HR2.out)
  go_upto_region 4 with fail
  generalize w1.setCell ⟨gp, 4, none⟩ (.bool true) = w2 at *
  clear c4 c6 f4 HX HR1 HR2
  have c2 := HX3.out.c2
  replace c2 : w2.cell? ⟨gp, 2, none⟩ = some (.int .i64 p.code) := c2
  rw [HC.out] at c2
  obtain ⟨a, cap, hrv, hin⟩ := HX3.out.root
  subst hrv
  replace hin := hin.in_
  have c10 : w2.cell? ⟨gp, 10, none⟩ = some (.int .i64 p.x.root.kind) := HX3.out.cell 10
  have c11 : w2.cell? ⟨gp, 11, none⟩ = some (.bool p.x.root.exec) := HX3.out.cell 11
  have c12 : w2.cell? ⟨gp, 12, none⟩ = some (.string p.x.root.text) := HX3.out.cell 12
  have c13 : w2.cell? ⟨gp, 13, none⟩ = some (.slice a p.x.root.cnt cap) := HX3.out.cell 13
  have hcc : Calls Try.prog 28 #[.agg #[.int .i64 p.x.root.kind, .bool p.x.root.exec, .string p.x.root.text, .slice a p.x.root.cnt cap]] w2 fun e w' => ∃ a' cap', e = .returned (.agg #[.int .i64 p.x.root.kind, .bool p.x.root.exec, .string p.x.root.text, .slice a' p.x.root.cnt cap']) ∧ p.x.root.InS (fun b => w2.heap.size ≤ b) w' a' ∧ Below w2.heap.size w2 w' := copy_any p.x.root.sz p.x.root (Nat.le_refl _) a cap w2 hin hsm
  have CC := Lib.hid hcc
  have hl1 := lt_of_row HR13.out
  have hBN : B ≤ w2.heap.size := Nat.le_trans (HX3.out.hB gp (by rw [HX3.out.lab]; decide)).1 (Nat.le_of_lt HX3.out.lt)
  have hl2 := lt_of_row HR23.out
  clear hin hsm hcc
  go_upto_region 6 with fail
  go_wp2_with (go_at_call 28; refine CC.out.mono ?_; rintro e w3 ⟨a', cap', rfl, hi3, hb3⟩; have hr5 := (hb3.block m hl1).trans HR13.out; have hr6 := (hb3.block (m + 1) hl2).trans HR23.out; have p0 := cell_of_row w3 m 0 _ _ _ hr5; have p1 := cell_of_row w3 m 1 _ _ _ hr5; have p2 := cell_of_row w3 m 2 _ _ _ hr5; have p3 := cell_of_row w3 m 3 _ _ _ hr5; have q0 := cell_of_row w3 (m + 1) 0 _ _ _ hr6; have q1 := cell_of_row w3 (m + 1) 1 _ _ _ hr6; have f0 := frozen_of_row w3 m 0 _ _ hr5; have f1 := frozen_of_row w3 m 1 _ _ hr5; have f2 := frozen_of_row w3 m 2 _ _ hr5; have f3 := frozen_of_row w3 m 3 _ _ hr5; have g0 := frozen_of_row w3 (m + 1) 0 _ _ hr6; have g1 := frozen_of_row w3 (m + 1) 1 _ _ hr6; have HI3 := Lib.hid hi3; have HB3 := Lib.hid hb3; clear hi3 hb3 hr5 hr6)
  have hx4 := ((((HX3.out.later HB3.out).set2 HL1.out 0 (.int .i64 p.x.root.kind)).set2 HL1.out 1 (.bool p.x.root.exec)).set2 HL1.out 2 (.string p.x.root.text)).set2 HL1.out 3 (.slice a' p.x.root.cnt cap')
  have hx5 := (hx4.set2 HL2.out 0 (.int .i64 (0 : Int))).set2 HL2.out 1 (.int .i64 (0 : Int))
  have hi5 := InS.up6 HI3.out hBN hl1 hl2 (.int .i64 p.x.root.kind) (.bool p.x.root.exec) (.string p.x.root.text) (.slice a' p.x.root.cnt cap') (.int .i64 0) (.int .i64 0)
  exact bodyPost_ret (v := .tuple #[.agg #[.int .i64 p.x.root.kind, .bool p.x.root.exec, .string p.x.root.text, .slice a' p.x.root.cnt cap'], .agg #[.int .i64 0, .int .i64 0]]) (by simp [results, Try.results11, go_sem, p0, p1, p2, p3, q0, q1, f0, f1, f2, f3, g0, g1]) rfl (CloseP.good (q := { p with shut := true }) HC.out HCL.out rfl hx5 hi5)
theorem pshut_any (w0 : World) (S : Nat → Prop) (B gp : Nat) (fl : Nat → Nat) (p : PS) (gf : Nat) (sv rv : Value) (w : World) (H : PaW w0 S w B gp fl p gf sv rv) (hs : p.shut = false) (hsm : p.code = 0 → p.x.whole = true → p.x.root.small 1048576) :
    Calls Try.prog 11 #[.pointer (some ⟨gp, 0, none⟩)] w fun e w' => CloseP w0 S B gp p e w' := by
  by_cases hc : p.code = 0
  · cases hw : p.x.whole with
    | true => exact pclose_whole w0 S B gp fl p gf sv rv w H hs hc hw (hsm hc hw)
    | false => exact pclose_short w0 S B gp fl p gf sv rv w H hs hc hw
  · exact pclose_fault w0 S B gp fl p gf sv rv w H hs hc
end Go.Proofs.Ytlcppkcclolgcaa

