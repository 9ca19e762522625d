/- The walk of the parser's Close over a whole archive; Close in all. The walk of Parse, and the small questions to a parser. The walk of equal: two trees in memory. The walk of pieces: a text cut. The walk of small; archives read back. -/
import Derived.Test.YtlcppkcclolgcaaDoorDBh
namespace Go.Proofs.YtlcppkcclolgcaaDoor
set_option linter.unusedVariables false
set_option linter.unusedSimpArgs false
open Go.RowKit
theorem CloseP.good {w0 w : World} {S : Nat → Prop} {B gp : Nat} {fl : Nat → Nat} {p q : PS} {gf : Nat} {sv rv : Value} {a : Option Addr} {c : Nat} (hc : q.code = 0) (h : p.close = q) (hx : q.x = p.x) (H : PaW w0 S w B gp fl q gf sv rv) (hi : p.x.root.InS (fun b => B ≤ b) w a) :
    CloseP w0 S B gp p (.returned (.tuple #[.agg #[.int .i64 p.x.root.kind, .bool p.x.root.exec, .string p.x.root.text, .slice a p.x.root.cnt c], .agg #[.int .i64 0, .int .i64 0]])) w := by
  subst h
  refine ⟨a, c, ?_, ?_, fl, gf, sv, rv, H⟩
  · simp only [clN, clC, clA, if_pos hc, hc]
    rfl
  · simp only [clN, if_pos hc]
    exact hi
theorem InS.up6 {n : ND} {a : Option Addr} {B N m : Nat} {w : World} (h : n.InS (fun b => N ≤ b) w a) (hBN : B ≤ N) (h1 : m < N) (h2 : m + 1 < N) (x0 x1 x2 x3 y0 y1 : Value) :
    n.InS (fun b => B ≤ b) ((((((w.setCell ⟨m, 0, none⟩ x0).setCell ⟨m, 1, none⟩ x1).setCell ⟨m, 2, none⟩ x2).setCell ⟨m, 3, none⟩ x3).setCell ⟨m + 1, 0, none⟩ y0).setCell ⟨m + 1, 1, none⟩ y1) a := by
  refine h.kept (fun b hb hN => ⟨?_, Nat.le_trans hBN hN⟩)
  have e1 : b ≠ m := by omega
  have e2 : b ≠ m + 1 := by omega
  rw [Below.heap_setCell _ ⟨m + 1, 1, none⟩ y1 b e2, Below.heap_setCell _ ⟨m + 1, 0, none⟩ y0 b e2, Below.heap_setCell _ ⟨m, 3, none⟩ x3 b e1, Below.heap_setCell _ ⟨m, 2, none⟩ x2 b e1, Below.heap_setCell _ ⟨m, 1, none⟩ x1 b e1, Below.heap_setCell _ ⟨m, 0, none⟩ x0 b e1]
set_option maxRecDepth 100000 in
set_option maxHeartbeats 4000000 in
/-- Close over a whole archive -/
theorem pclose_whole (w0 : World) (S : Nat → Prop) (B gp : Nat) (fl : Nat → Nat) (p : PS) (gf : Nat) (sv rv : Value) (w : World) (H : PaW w0 S w B gp fl p gf sv rv) (hs : p.shut = false) (hc : p.code = 0) (hwh : p.x.whole = true) (hsm : p.x.root.small 1048576) :
    Calls Tryd.prog 13 #[.pointer (some ⟨gp, 0, none⟩)] w fun e w' => CloseP w0 S B gp p e w' := by
  have hp : p.close = { p with shut := true } := by unfold PS.close; rw [if_neg (fun h => by rw [hwh] at h; exact absurd h.2.1 (by decide))]
  have hr1 := row_past (heap_alloc_new w (.cells #[.int .i64 0, .bool false, .string ⟨#[]⟩, .slice none 0 0] 25)) (.cells #[.int .i64 0, .int .i64 0] 42)
  have hr2 := alloc_new2 w (.cells #[.int .i64 0, .bool false, .string ⟨#[]⟩, .slice none 0 0] 25) #[.int .i64 0, .int .i64 0] 42
  have h2 := H.box2 (.cells #[.int .i64 0, .bool false, .string ⟨#[]⟩, .slice none 0 0] 25) (.cells #[.int .i64 0, .int .i64 0] 42)
  have hl1 : upd (upd fl w.heap.size 2) (w.heap.size + 1) 2 w.heap.size = 2 := by rw [upd_ne _ _ _ _ (by omega)]; exact upd_same _ _ _
  have hl2 : upd (upd fl w.heap.size 2) (w.heap.size + 1) 2 (w.heap.size + 1) = 2 := upd_same _ _ _
  have hlt := H.lt
  generalize upd (upd fl w.heap.size 2) (w.heap.size + 1) 2 = fl2 at *
  have HX := Lib.hid h2
  have HR1 := Lib.hid hr1
  have HR2 := Lib.hid hr2
  have HL1 := Lib.hid hl1
  have HL2 := Lib.hid hl2
  have HCL := Lib.hid hp
  have HS := Lib.hid hs
  have HC := Lib.hid hc
  clear h2 hr1 hr2 hl1 hl2 hp hs H
  go_enter Tryd.func13, Tryd.ntmps13
  go_upto_region 1 with fail
  generalize hm : w.heap.size = m at *
  generalize (w.alloc (.cells #[.int .i64 0, .bool false, .string ⟨#[]⟩, .slice none 0 0] 25)).alloc (.cells #[.int .i64 0, .int .i64 0] 42) = w1 at *
  have HM := Lib.hid hm
  clear hm
  have c4 := HX.out.c4
  rw [HS.out] at c4
  have c6 := HX.out.c6
  rw [hwh] at c6
  have f4 := HX.out.free 4
  have h3 := HX.out.put (p' := { p with shut := true }) (gf' := gf) 4 (.bool true) rfl rfl rfl
  have HX3 := Lib.hid h3
  clear h3 hwh hc
  have hmg : m ≠ gp := by omega
  have hmg2 : m + 1 ≠ gp := by omega
  have HR13 := Lib.hid ((Below.heap_setCell w1 ⟨gp, 4, none⟩ (.bool true) m hmg).trans HR1.out)
  have HR23 := Lib.hid ((Below.heap_setCell w1 ⟨gp, 4, none⟩ (.bool true) (m + 1) hmg2).trans HR2.out)
  go_upto_region 4 with fail
  generalize w1.setCell ⟨gp, 4, none⟩ (.bool true) = w2 at *
  clear c4 c6 f4 HX HR1 HR2
  have c2 := HX3.out.c2
  replace c2 : w2.cell? ⟨gp, 2, none⟩ = some (.int .i64 p.code) := c2
  rw [HC.out] at c2
  obtain ⟨a, cap, hrv, hin⟩ := HX3.out.root
  subst hrv
  replace hin := hin.in_
  have c10 : w2.cell? ⟨gp, 10, none⟩ = some (.int .i64 p.x.root.kind) := HX3.out.cell 10
  have c11 : w2.cell? ⟨gp, 11, none⟩ = some (.bool p.x.root.exec) := HX3.out.cell 11
  have c12 : w2.cell? ⟨gp, 12, none⟩ = some (.string p.x.root.text) := HX3.out.cell 12
  have c13 : w2.cell? ⟨gp, 13, none⟩ = some (.slice a p.x.root.cnt cap) := HX3.out.cell 13
  have hcc : Calls Tryd.prog 31 #[.agg #[.int .i64 p.x.root.kind, .bool p.x.root.exec, .string p.x.root.text, .slice a p.x.root.cnt cap]] w2 fun e w' => ∃ a' cap', e = .returned (.agg #[.int .i64 p.x.root.kind, .bool p.x.root.exec, .string p.x.root.text, .slice a' p.x.root.cnt cap']) ∧ p.x.root.InS (fun b => w2.heap.size ≤ b) w' a' ∧ Below w2.heap.size w2 w' := copy_any p.x.root.sz p.x.root (Nat.le_refl _) a cap w2 hin hsm
  have CC := Lib.hid hcc
  have hl1 := lt_of_row HR13.out
  have hBN : B ≤ w2.heap.size := Nat.le_trans (HX3.out.hB gp (by rw [HX3.out.lab]; decide)).1 (Nat.le_of_lt HX3.out.lt)
  have hl2 := lt_of_row HR23.out
  clear hin hsm hcc
  go_upto_region 6 with fail
  go_wp2_with (go_at_call 31; refine CC.out.mono ?_; rintro e w3 ⟨a', cap', rfl, hi3, hb3⟩; have hr5 := (hb3.block m hl1).trans HR13.out; have hr6 := (hb3.block (m + 1) hl2).trans HR23.out; have p0 := cell_of_row w3 m 0 _ _ _ hr5; have p1 := cell_of_row w3 m 1 _ _ _ hr5; have p2 := cell_of_row w3 m 2 _ _ _ hr5; have p3 := cell_of_row w3 m 3 _ _ _ hr5; have q0 := cell_of_row w3 (m + 1) 0 _ _ _ hr6; have q1 := cell_of_row w3 (m + 1) 1 _ _ _ hr6; have f0 := frozen_of_row w3 m 0 _ _ hr5; have f1 := frozen_of_row w3 m 1 _ _ hr5; have f2 := frozen_of_row w3 m 2 _ _ hr5; have f3 := frozen_of_row w3 m 3 _ _ hr5; have g0 := frozen_of_row w3 (m + 1) 0 _ _ hr6; have g1 := frozen_of_row w3 (m + 1) 1 _ _ hr6; have HI3 := Lib.hid hi3; have HB3 := Lib.hid hb3; clear hi3 hb3 hr5 hr6)
  have hx4 := ((((HX3.out.later HB3.out).set2 HL1.out 0 (.int .i64 p.x.root.kind)).set2 HL1.out 1 (.bool p.x.root.exec)).set2 HL1.out 2 (.string p.x.root.text)).set2 HL1.out 3 (.slice a' p.x.root.cnt cap')
  have hx5 := (hx4.set2 HL2.out 0 (.int .i64 (0 : Int))).set2 HL2.out 1 (.int .i64 (0 : Int))
  have hi5 := InS.up6 HI3.out hBN hl1 hl2 (.int .i64 p.x.root.kind) (.bool p.x.root.exec) (.string p.x.root.text) (.slice a' p.x.root.cnt cap') (.int .i64 0) (.int .i64 0)
  exact bodyPost_ret (v := .tuple #[.agg #[.int .i64 p.x.root.kind, .bool p.x.root.exec, .string p.x.root.text, .slice a' p.x.root.cnt cap'], .agg #[.int .i64 0, .int .i64 0]]) (by simp [results, Tryd.results13, go_sem, p0, p1, p2, p3, q0, q1, f0, f1, f2, f3, g0, g1]) rfl (CloseP.good (q := { p with shut := true }) HC.out HCL.out rfl hx5 hi5)
theorem pshut_any (w0 : World) (S : Nat → Prop) (B gp : Nat) (fl : Nat → Nat) (p : PS) (gf : Nat) (sv rv : Value) (w : World) (H : PaW w0 S w B gp fl p gf sv rv) (hs : p.shut = false) (hsm : p.code = 0 → p.x.whole = true → p.x.root.small 1048576) :
    Calls Tryd.prog 13 #[.pointer (some ⟨gp, 0, none⟩)] w fun e w' => CloseP w0 S B gp p e w' := by
  by_cases hc : p.code = 0
  · cases hw : p.x.whole with
    | true => exact pclose_whole w0 S B gp fl p gf sv rv w H hs hc hw (hsm hc hw)
    | false => exact pclose_short w0 S B gp fl p gf sv rv w H hs hc hw
  · exact pclose_fault w0 S B gp fl p gf sv rv w H hs hc
end Go.Proofs.YtlcppkcclolgcaaDoor

namespace Go.Proofs.YtlcppkcclolgcaaDoor
set_option linter.unusedVariables false
set_option linter.unusedSimpArgs false
open Go.RowKit
theorem getD_nb (m : ByteArray) (j : Nat) (h : j < m.size) : (nb m).getD j 0 = (m[j]'h).toNat := by
  simp [nb, List.getD_eq_getElem?_getD, h]
  rfl
theorem pfeed_conv (w0 : World) (S : Nat → Prop) (B gp cap : Nat) (s : ByteArray) (p : PS) (bs : List Nat) (w : World) (H : PaX w0 S w B gp p) (hi : PInv p bs) (hl : s.size ≤ 1000000000) (hcap : s.size ≤ cap) :
    Calls Tryd.prog 10 #[.pointer (some ⟨gp, 0, none⟩), .slice (some ⟨w.heap.size, 0, none⟩) s.size cap] (Lib.bytesWorld w 5 s) fun e w' => e = .returned (.int .i64 (((p.feed (nb s)).at_ : Nat) - (p.at_ : Nat) : Int)) ∧ PaX w0 S w' B gp (p.feed (nb s)) := by
  have hb : Below w.heap.size w (Lib.bytesWorld w 5 s) := below_conv w w s (Below.refl _ _) (Nat.le_refl _)
  obtain ⟨fl, gf, sv, rv, H0⟩ := H
  have H1 := H0.later hb
  have hrd : RdB (Lib.bytesWorld w 5 s) (fun k => fl k ≠ 0) w.heap.size (nb s) := by
    refine ⟨by rw [Lib.bytesWorld_size]; omega, fun h => Nat.lt_irrefl _ (H0.paw.hB _ h).2, fun j hj => ?_⟩
    rw [nb_length] at hj
    rw [Lib.bytesWorld_cell w 5 s j hj, getD_nb s j hj]
    congr 3
    simp [List.getD_eq_getElem?_getD, hj]
    rfl
  have hfd := pfeed_any _ _ B gp p bs (nb s) w.heap.size cap _ ⟨fl, gf, sv, rv, H1.rebase⟩ hi (nb_bytes s) hrd (by rw [nb_length]; exact hl) (by rw [nb_length]; exact hcap)
  rw [nb_length] at hfd
  refine hfd.mono ?_
  rintro e w' ⟨he, fl', gf', sv', rv', h⟩
  exact ⟨he, fl', gf', sv', rv', H1.join h⟩
/-- the parser that has been fed a text -/
def prs (s : ByteArray) : PS := PS.new.feed (nb s)
theorem prs_inv (s : ByteArray) : PInv (prs s) (nb s) := new_inv (nb_bytes s)
theorem prs_small (s : ByteArray) : (prs s).code = 0 → (prs s).x.whole = true → (prs s).x.root.small 1048576 := fun h1 h2 => serE_small (parse_sound (nb_bytes s) h1 h2).1
def ParseP (w0 : World) (s : ByteArray) (e : Ending) (w' : World) : Prop :=
  ∃ a c, e = .returned (.tuple #[(clN (prs s)).val a c, .agg #[.int .i64 (clC (prs s)), .int .i64 (clA (prs s) : Nat)]]) ∧ (clN (prs s)).InS (fun b => w0.heap.size ≤ b) w' a ∧ Below w0.heap.size w0 w'
theorem below_trans2 {w0 w1 w2 : World} (h : Below w0.heap.size w0 w1) (h' : Below w1.heap.size w1 w2) : Below w0.heap.size w0 w2 :=
  ⟨h'.os.trans h.os, h'.tape.trans h.tape, h'.output.trans h.output, Nat.le_trans h.size h'.size, fun k hk => (h'.block k (Nat.lt_of_lt_of_le hk h.size)).trans (h.block k hk)⟩
theorem below_up6 {w0 w : World} (h : Below w0.heap.size w0 w) (x0 x1 x2 x3 y0 y1 : Value) :
    Below w0.heap.size w0 ((((((w.setCell ⟨w0.heap.size, 0, none⟩ x0).setCell ⟨w0.heap.size, 1, none⟩ x1).setCell ⟨w0.heap.size, 2, none⟩ x2).setCell ⟨w0.heap.size, 3, none⟩ x3).setCell ⟨w0.heap.size + 1, 0, none⟩ y0).setCell ⟨w0.heap.size + 1, 1, none⟩ y1) :=
  (((((h.setCell (Nat.le_refl _) _).setCell (Nat.le_refl _) _).setCell (Nat.le_refl _) _).setCell (Nat.le_refl _) _).setCell (Nat.le_succ _) _).setCell (Nat.le_succ _) _
/-- the result's boxes, laid ahead of the parser -/
def box2 (w : World) : World := (w.alloc (.cells #[.int .i64 0, .bool false, .string ⟨#[]⟩, .slice none 0 0] 25)).alloc (.cells #[.int .i64 0, .int .i64 0] 42)
theorem box2_size (w : World) : (box2 w).heap.size = w.heap.size + 2 := by simp [box2]
set_option maxRecDepth 100000 in
set_option maxHeartbeats 4000000 in
theorem parse_any (s : ByteArray) (w : World) (hs : s.size ≤ 1000000000) :
    Calls Tryd.prog 19 #[.string s] w fun e w' => ParseP w s e w' := by
  have CN := Lib.hid (newp_any (box2 w))
  have hr1 : (box2 w).heap[w.heap.size]? = _ := row_past (heap_alloc_new w (.cells #[.int .i64 0, .bool false, .string ⟨#[]⟩, .slice none 0 0] 25)) (.cells #[.int .i64 0, .int .i64 0] 42)
  have hr2 : (box2 w).heap[w.heap.size + 1]? = _ := alloc_new2 w (.cells #[.int .i64 0, .bool false, .string ⟨#[]⟩, .slice none 0 0] 25) #[.int .i64 0, .int .i64 0] 42
  have hsz := box2_size w
  have hbx : Below w.heap.size w (box2 w) := ((Below.refl _ _).alloc (Nat.le_refl _) _).alloc (by simp) _
  have hsI : (s.size : Int) ≤ 1000000000 := by omega
  have hs0 : (0 : Int) ≤ s.size := by omega
  have hcv := fun W => Lib.run_convert_string_bytes (P := Tryd.prog) W 9 38 5 s Tryd.underlying9 Tryd.underlying38 Tryd.underlying5
  have HR1 := Lib.hid hr1
  have HR2 := Lib.hid hr2
  have HSZ := Lib.hid hsz
  have HBX := Lib.hid hbx
  clear hr1 hr2 hsz hbx
  go_enter Tryd.func19, Tryd.ntmps19
  go_upto_region 1 with fail
  change Code.wp _ _ _ _ (box2 w)
  generalize box2 w = wA at *
  go_upto_region 2 with (go_at_call 7; refine CN.out.mono ?_; rintro e w1 ⟨gp, rfl, h1⟩; have HP := Lib.hid h1; clear h1)
  have CF := fun cap hc => pfeed_conv wA (fun _ => False) wA.heap.size gp cap s PS.new [] w1 HP.out (new_inv (bs := []) (fun x h => absurd h (List.not_mem_nil))) hs hc
  have hge := grownCap_ge w1 s.size 0 5
  have HGE := Lib.hid hge
  have HCF := Lib.hid CF
  clear CF CN HP hge
  go_upto_region 3 with (go_at_call 10; refine (HCF.out _ HGE.out).mono ?_; rintro e w2 ⟨rfl, h2⟩; have HP2 := Lib.hid h2; clear h2)
  obtain ⟨fl, gf, sv, rv, hps⟩ := HP2.out
  have hcl := pshut_any wA (fun _ => False) wA.heap.size gp fl (prs s) gf sv rv w2 hps.paw (prs_inv s).shut (prs_small s)
  have HCL := Lib.hid hcl
  clear hcl hps HP2 HCF HGE hcv
  go_wp2_with (go_at_call 13; refine HCL.out.mono ?_; rintro e w3 ⟨a, c, he, hi3, fl3, gf3, sv3, rv3, hp3⟩; rw [show (clN (prs s)).val a c = .agg #[.int .i64 (clN (prs s)).kind, .bool (clN (prs s)).exec, .string (clN (prs s)).text, .slice a (clN (prs s)).cnt c] from rfl] at he; subst he; have hr5 := (hp3.away.block w.heap.size (by rw [HSZ.out]; omega) id).trans HR1.out; have hr6 := (hp3.away.block (w.heap.size + 1) (by rw [HSZ.out]; omega) id).trans HR2.out; have p0 := cell_of_row w3 w.heap.size 0 _ _ _ hr5; have p1 := cell_of_row w3 w.heap.size 1 _ _ _ hr5; have p2 := cell_of_row w3 w.heap.size 2 _ _ _ hr5; have p3 := cell_of_row w3 w.heap.size 3 _ _ _ hr5; have q0 := cell_of_row w3 (w.heap.size + 1) 0 _ _ _ hr6; have q1 := cell_of_row w3 (w.heap.size + 1) 1 _ _ _ hr6; have f0 := frozen_of_row w3 w.heap.size 0 _ _ hr5; have f1 := frozen_of_row w3 w.heap.size 1 _ _ hr5; have f2 := frozen_of_row w3 w.heap.size 2 _ _ hr5; have f3 := frozen_of_row w3 w.heap.size 3 _ _ hr5; have g0 := frozen_of_row w3 (w.heap.size + 1) 0 _ _ hr6; have g1 := frozen_of_row w3 (w.heap.size + 1) 1 _ _ hr6; have HI3 := Lib.hid hi3; have HB3 := Lib.hid (hp3.away.below (B := wA.heap.size) (Nat.le_refl _) (fun k h => h.elim)); clear hi3 hp3 hr5 hr6)
  have hiF := InS.up6 (B := w.heap.size) HI3.out (by rw [HSZ.out]; omega) (m := w.heap.size) (by rw [HSZ.out]; omega) (by rw [HSZ.out]; omega) (.int .i64 (clN (prs s)).kind) (.bool (clN (prs s)).exec) (.string (clN (prs s)).text) (.slice a (clN (prs s)).cnt c) (.int .i64 (clC (prs s))) (.int .i64 (clA (prs s) : Nat))
  have hbF := below_up6 (below_trans2 HBX.out HB3.out) (.int .i64 (clN (prs s)).kind) (.bool (clN (prs s)).exec) (.string (clN (prs s)).text) (.slice a (clN (prs s)).cnt c) (.int .i64 (clC (prs s))) (.int .i64 (clA (prs s) : Nat))
  exact bodyPost_ret (v := .tuple #[.agg #[.int .i64 (clN (prs s)).kind, .bool (clN (prs s)).exec, .string (clN (prs s)).text, .slice a (clN (prs s)).cnt c], .agg #[.int .i64 (clC (prs s)), .int .i64 (clA (prs s) : Nat)]]) (by simp [results, Tryd.results19, go_sem, p0, p1, p2, p3, q0, q1, f0, f1, f2, f3, g0, g1]) rfl ⟨a, c, rfl, hiF, hbF⟩
end Go.Proofs.YtlcppkcclolgcaaDoor

namespace Go.Proofs.YtlcppkcclolgcaaDoor
set_option linter.unusedVariables false
set_option linter.unusedSimpArgs false
open Go.RowKit
/-- the counts alone, of all nodes -/
def ND.cnts (m : Nat) : ND → Prop
  | .leaf _ _ _ => True
  | .add p _ c => p.cnts m ∧ c.cnts m ∧ p.cnt + 1 ≤ m
theorem ND.small.cnts {m : Nat} : ∀ {n : ND}, n.small m → n.cnts m := by
  intro n
  induction n with
  | leaf => exact fun _ => trivial
  | add p nm c ih1 ih2 => exact fun h => ⟨ih1 h.1, ih2 h.2.2.1, h.2.2.2⟩
theorem ND.cnts.cnt {m : Nat} {n : ND} (h : n.cnts m) : n.cnt ≤ m := by
  cases n with
  | leaf => exact Nat.zero_le _
  | add p nm c => exact h.2.2
theorem ND.cnts.kid {m : Nat} : ∀ {n : ND}, n.cnts m → ∀ {i : Nat} {nm : ByteArray} {c : ND}, n.pre (i + 1) = .add (n.pre i) nm c → c.cnts m := by
  intro n
  induction n with
  | leaf => intro _ i nm c h; cases h
  | add p s d ih _ =>
    intro h i nm c e
    simp only [ND.pre] at e
    by_cases h1 : i + 1 ≤ p.cnt
    · rw [if_pos h1, if_pos (by omega)] at e
      exact ih h.1 e
    · rw [if_neg h1] at e
      injection e with _ _ e3
      rw [← e3]
      exact h.2.1
theorem toList_bne {s t : ByteArray} (h : s ≠ t) : (s.toList == t.toList) = false := by
  rw [toList_data, toList_data]
  cases hb : (s.data.toList == t.data.toList) with
  | false => rfl
  | true =>
    refine absurd ?_ h
    have h1 : s.data.toList = t.data.toList := by simpa using hb
    cases s
    cases t
    simp only [ByteArray.mk.injEq]
    exact Array.toList_inj.1 h1
theorem toList_beq {s t : ByteArray} (h : s = t) : (s.toList == t.toList) = true := by subst h; simp
theorem ND.ext_pre {a b : ND} (h : a.cnt = b.cnt) (hp : a.pre a.cnt = b.pre a.cnt) : a = b := by
  have h1 := a.pre_all
  have h2 := b.pre_all
  rw [← h] at h2
  rw [← h1, ← h2, hp]
theorem ND.pre_zero2 {a b : ND} (h1 : a.kind = b.kind) (h2 : a.exec = b.exec) (h3 : a.text = b.text) : a.pre 0 = b.pre 0 := by
  have key : ∀ n : ND, n.pre 0 = .leaf n.kind n.exec n.text := by
    intro n
    induction n with
    | leaf => rfl
    | add p s c ih _ =>
      simp only [ND.pre]
      rw [if_pos (Nat.zero_le _), ih]
      rfl
  rw [key, key, h1, h2, h3]
theorem ND.pre_ne {a b : ND} {i : Nat} {s t : ByteArray} {c d : ND} (e1 : a.pre (i + 1) = .add (a.pre i) s c) (e2 : b.pre (i + 1) = .add (b.pre i) t d) (h : s ≠ t ∨ c ≠ d) : a ≠ b := by
  intro e
  subst e
  rw [e1] at e2
  injection e2 with _ h2 h3
  rcases h with h | h
  · exact h h2
  · exact h h3
theorem ND.pre_next {a b : ND} {i : Nat} {s t : ByteArray} {c d : ND} (e1 : a.pre (i + 1) = .add (a.pre i) s c) (e2 : b.pre (i + 1) = .add (b.pre i) t d) (hp : a.pre i = b.pre i) (h1 : s = t) (h2 : c = d) : a.pre (i + 1) = b.pre (i + 1) := by
  rw [e1, e2, hp, h1, h2]
noncomputable def eqN (a b : ND) : Bool := @decide (a = b) (Classical.propDecidable _)
theorem eqN_true {a b : ND} (h : a = b) : eqN a b = true := by unfold eqN; exact @decide_eq_true _ (Classical.propDecidable _) h
theorem eqN_false {a b : ND} (h : a ≠ b) : eqN a b = false := by unfold eqN; exact @decide_eq_false _ (Classical.propDecidable _) h
theorem eqN_iff {a b : ND} : eqN a b = true ↔ a = b := ⟨fun h => Classical.byContradiction fun hn => (by rw [eqN_false hn] at h; exact absurd h (by decide)), eqN_true⟩
def EqP (w : World) (a b : ND) (e : Ending) (w' : World) : Prop := e = .returned (.bool (eqN a b)) ∧ Below w.heap.size w w'
def EqOk (a : ND) : Prop := ∀ (b : ND) (x y : Option Addr) (cx cy : Nat) (w : World), a.In w.heap.size w x → b.In w.heap.size w y → a.cnts 1048576 →
  Calls Tryd.prog 15 #[a.val x cx, b.val y cy] w fun e w' => EqP w a b e w'
set_option maxRecDepth 100000 in
set_option maxHeartbeats 8000000 in
theorem eq_node (a b : ND) (x y : Option Addr) (cx cy : Nat) (w : World) (ha : a.In w.heap.size w x) (hb : b.In w.heap.size w y) (hsm : a.cnts 1048576) (ih : ∀ c : ND, c.sz < a.sz → EqOk c) :
    Calls Tryd.prog 15 #[.agg #[.int .i64 a.kind, .bool a.exec, .string a.text, .slice x a.cnt cx], .agg #[.int .i64 b.kind, .bool b.exec, .string b.text, .slice y b.cnt cy]] w fun e w' => EqP w a b e w' := by
  obtain ⟨W2, hW2⟩ : ∃ W2, W2 = (w.alloc (.cells #[.int .i64 a.kind, .bool a.exec, .string a.text, .slice x a.cnt cx] 25)).alloc (.cells #[.int .i64 b.kind, .bool b.exec, .string b.text, .slice y b.cnt cy] 25) := ⟨_, rfl⟩
  have hz2 : W2.heap.size = w.heap.size + 2 := by rw [hW2]; simp
  have hb2 : Below w.heap.size w W2 := by rw [hW2]; exact ((Below.refl _ _).alloc (Nat.le_refl _) _).alloc (by simp) _
  have hr1 : W2.heap[w.heap.size]? = some (.cells #[.int .i64 a.kind, .bool a.exec, .string a.text, .slice x a.cnt cx] 25 (0, 0)) := by rw [hW2]; exact row_past (heap_alloc_new w _) _
  have hr2 : W2.heap[w.heap.size + 1]? = some (.cells #[.int .i64 b.kind, .bool b.exec, .string b.text, .slice y b.cnt cy] 25 (0, 0)) := by rw [hW2]; exact alloc_new2 w _ _ _
  have hct := hsm.cnt
  have hl0 : (0 : Int) ≤ a.cnt := by omega
  have hl1 : (a.cnt : Int) ≤ 1048576 := by omega
  have hcs0 := Lib.hid hsm
  have HHA := Lib.hid ha
  have HHB := Lib.hid hb
  have HSM := Lib.hid hsm
  have HI := Lib.hid ih
  have HW2 := Lib.hid hW2
  have HZ2 := Lib.hid hz2
  have HB2 := Lib.hid hb2
  have HR1 := Lib.hid hr1
  have HR2 := Lib.hid hr2
  clear ha hb hsm ih hW2 hz2 hb2 hr1 hr2 hct
  go_enter Tryd.func15, Tryd.ntmps15
  go_upto_region 1 with fail
  rw [← HW2.out]
  generalize hm : w.heap.size = m at *
  have HM := Lib.hid hm
  clear hm
  have a0 := cell_of_row W2 m 0 _ _ _ HR1.out
  have a1 := cell_of_row W2 m 1 _ _ _ HR1.out
  have a2 := cell_of_row W2 m 2 _ _ _ HR1.out
  have a3 := cell_of_row W2 m 3 _ _ _ HR1.out
  have b0 := cell_of_row W2 (m + 1) 0 _ _ _ HR2.out
  have b1 := cell_of_row W2 (m + 1) 1 _ _ _ HR2.out
  have b2 := cell_of_row W2 (m + 1) 2 _ _ _ HR2.out
  have b3 := cell_of_row W2 (m + 1) 3 _ _ _ HR2.out
  by_cases hk : a.kind = b.kind
  · by_cases hx : a.exec = b.exec
    · by_cases ht : a.text = b.text
      · by_cases hc : a.cnt = b.cnt
        · have e1 : (a.kind != b.kind) = false := by simpa using hk
          have e2 : (a.exec != b.exec) = false := by simpa using hx
          have e4 : ((a.cnt : Int) != (b.cnt : Int)) = false := by simp [hc]
          go_upto_region 3 with fail
          have hp0 := ND.pre_zero2 hk hx ht
          have HC := Lib.hid hc
          clear hk hx ht hc e1 e2 e4 a0 a1 a2 b0 b1 b2
          have HP0 := Lib.hid hp0
          clear hp0
          go_wp2_with fail
          go_loopw [37] (fun x37 wr => ∃ i : Nat, x37 = .int .i64 (i : Int) ∧ i ≤ a.cnt ∧ Below W2.heap.size W2 wr ∧ a.pre i = b.pre i) (fun x37 _ => a.cnt - (intOf x37).toNat)
          case atStart => exact ⟨0, rfl, Nat.zero_le _, Below.refl _ _, HP0.out⟩
          case round =>
            obtain ⟨i, rfl, hi, hW, hpi⟩ := hrel
            have hi0 : (0 : Int) ≤ i := by omega
            have r1 := (hW.block m (by rw [HZ2.out]; omega)).trans HR1.out
            have r2 := (hW.block (m + 1) (by rw [HZ2.out]; omega)).trans HR2.out
            have hbw : Below w.heap.size w wr := by rw [HM.out]; exact HB2.out.trans (hW.mono (by rw [HZ2.out]; omega))
            clear a3 b3
            by_cases hlt : i < a.cnt
            · have hltI : (i : Int) < b.cnt := by have := HC.out; omega
              have hltJ : (i : Int) < a.cnt := by omega
              obtain ⟨X, rfl, hatA⟩ : ∃ X, x = some X ∧ a.At m w X := by
                rcases HHA.out with h | h
                · omega
                · exact h
              obtain ⟨Y, rfl, hatB⟩ : ∃ Y, y = some Y ∧ b.At m w Y := by
                rcases HHB.out with h | h
                · have := HC.out; omega
                · exact h
              obtain ⟨s, c, e1, e2, -, e4, ka, kc, c0, c1, c2, c3, c4, hc⟩ := hatA.kid hlt
              obtain ⟨t, d, f1, -, -, f4, la, lc, d0, d1, d2, d3, d4, hd⟩ := hatB.kid (i := i) (by have := HC.out; omega)
              have hcs := hcs0.out.kid e1
              have hkk : ∀ q : Addr, q.block < m → wr.cell? q = w.cell? q := fun q e => hbw.cell (by rw [HM.out]; exact e)
              replace c0 := (hkk (X.add (i * 5)) (by rw [block_add]; exact e4)).trans c0
              replace c1 := (hkk ⟨(X.add (i * 5)).block, (X.add (i * 5)).off + 1, none⟩ (by rw [block_add]; exact e4)).trans c1
              replace c2 := (hkk ⟨(X.add (i * 5)).block, (X.add (i * 5)).off + 2, none⟩ (by rw [block_add]; exact e4)).trans c2
              replace c3 := (hkk ⟨(X.add (i * 5)).block, (X.add (i * 5)).off + 3, none⟩ (by rw [block_add]; exact e4)).trans c3
              replace c4 := (hkk ⟨(X.add (i * 5)).block, (X.add (i * 5)).off + 4, none⟩ (by rw [block_add]; exact e4)).trans c4
              replace d0 := (hkk (Y.add (i * 5)) (by rw [block_add]; exact f4)).trans d0
              replace d1 := (hkk ⟨(Y.add (i * 5)).block, (Y.add (i * 5)).off + 1, none⟩ (by rw [block_add]; exact f4)).trans d1
              replace d2 := (hkk ⟨(Y.add (i * 5)).block, (Y.add (i * 5)).off + 2, none⟩ (by rw [block_add]; exact f4)).trans d2
              replace d3 := (hkk ⟨(Y.add (i * 5)).block, (Y.add (i * 5)).off + 3, none⟩ (by rw [block_add]; exact f4)).trans d3
              replace d4 := (hkk ⟨(Y.add (i * 5)).block, (Y.add (i * 5)).off + 4, none⟩ (by rw [block_add]; exact f4)).trans d4
              have a3 := cell_of_row wr m 3 _ _ _ r1
              have b3 := cell_of_row wr (m + 1) 3 _ _ _ r2
              have hmr : m + 1 < wr.heap.size := lt_of_row r2
              have hM : ∀ w' : World, (∀ k, k < wr.heap.size → w'.heap[k]? = wr.heap[k]?) → w'.cell? ⟨m, 3, none⟩ = some (.slice (some X) a.cnt cx) ∧ w'.cell? ⟨m + 1, 3, none⟩ = some (.slice (some Y) b.cnt cy) :=
                fun w' h => ⟨(World.cell?_of_block (a := ⟨m, 3, none⟩) (h m (by omega))).trans a3, (World.cell?_of_block (a := ⟨m + 1, 3, none⟩) (h (m + 1) hmr)).trans b3⟩
              have hA : ∀ w' : World, (∀ k, k < wr.heap.size → w'.heap[k]? = wr.heap[k]?) → w'.cell? (X.add (i * 5)) = some (.string s) ∧ w'.cell? ⟨(X.add (i * 5)).block, (X.add (i * 5)).off + 1, none⟩ = some (.int .i64 c.kind) ∧ w'.cell? ⟨(X.add (i * 5)).block, (X.add (i * 5)).off + 2, none⟩ = some (.bool c.exec) ∧ w'.cell? ⟨(X.add (i * 5)).block, (X.add (i * 5)).off + 3, none⟩ = some (.string c.text) ∧ w'.cell? ⟨(X.add (i * 5)).block, (X.add (i * 5)).off + 4, none⟩ = some (.slice ka c.cnt kc) :=
                fun w' h => by
                  have hx := h X.block (by omega)
                  exact ⟨(World.cell?_of_block (by rw [block_add]; exact hx)).trans c0, (World.cell?_of_block (by rw [block_add]; exact hx)).trans c1, (World.cell?_of_block (by rw [block_add]; exact hx)).trans c2, (World.cell?_of_block (by rw [block_add]; exact hx)).trans c3, (World.cell?_of_block (by rw [block_add]; exact hx)).trans c4⟩
              have hB : ∀ w' : World, (∀ k, k < wr.heap.size → w'.heap[k]? = wr.heap[k]?) → w'.cell? (Y.add (i * 5)) = some (.string t) ∧ w'.cell? ⟨(Y.add (i * 5)).block, (Y.add (i * 5)).off + 1, none⟩ = some (.int .i64 d.kind) ∧ w'.cell? ⟨(Y.add (i * 5)).block, (Y.add (i * 5)).off + 2, none⟩ = some (.bool d.exec) ∧ w'.cell? ⟨(Y.add (i * 5)).block, (Y.add (i * 5)).off + 3, none⟩ = some (.string d.text) ∧ w'.cell? ⟨(Y.add (i * 5)).block, (Y.add (i * 5)).off + 4, none⟩ = some (.slice la d.cnt lc) :=
                fun w' h => by
                  have hx := h Y.block (by omega)
                  exact ⟨(World.cell?_of_block (by rw [block_add]; exact hx)).trans d0, (World.cell?_of_block (by rw [block_add]; exact hx)).trans d1, (World.cell?_of_block (by rw [block_add]; exact hx)).trans d2, (World.cell?_of_block (by rw [block_add]; exact hx)).trans d3, (World.cell?_of_block (by rw [block_add]; exact hx)).trans d4⟩
              have hHI := HI.out c e2 d ka la kc lc
              have HIN := Lib.hid (show c.In w.heap.size w ka ∧ d.In w.heap.size w la from ⟨by rw [HM.out]; exact hc, by rw [HM.out]; exact hd⟩)
              have HCALL := Lib.hid hHI
              have HCS := Lib.hid hcs
              have HBW := Lib.hid hbw
              have HMM := Lib.hid hM
              have HAA := Lib.hid hA
              have HBB := Lib.hid hB
              have HE := Lib.hid e1
              have HF := Lib.hid f1
              have HPI := Lib.hid hpi
              have HWW := Lib.hid hW
              clear hkk hc hd hHI hcs hbw hM hA hB e1 f1 hpi hW c0 c1 c2 c3 c4 d0 d1 d2 d3 d4 a3 b3 r1 r2 e2 hatA hatB
              go_upto_region 6 with fail
              refine wp_region_noPanic ?_
              refine wp_region_held_drew (S := fun w' => ∀ k, k < wr.heap.size → w'.heap[k]? = wr.heap[k]?) (by kernel_rfl) (fun k _ => rfl) (fun hHeld => ?_)
              refine wpAnyH_take (i := 0) (oi := _) (v := (.pointer (some ⟨m, 3, none⟩))) rfl (by kernel_rfl) (by kernel_rfl) (by kernel_rfl) (fun _ _ _ h => h) (Or.inl ⟨by rfl, fun w' _ => by go_simp⟩) hHeld ?_
              try simp only [Act.put, List.getElem_toArray, List.getElem_cons_succ, List.getElem_cons_zero, List.setIfInBounds_toArray, List.set_cons_zero, List.set_cons_succ]
              refine wpAnyH_take (i := 1) (oi := _) (v := (.slice (some X) a.cnt cx)) rfl (by kernel_rfl) (by kernel_rfl) (by kernel_rfl) (fun _ _ _ h => h) (Or.inl ⟨by rfl, fun w' hSw => by have h1 := (HMM.out w' hSw).1; go_simp⟩) hHeld ?_
              try simp only [Act.put, List.getElem_toArray, List.getElem_cons_succ, List.getElem_cons_zero, List.setIfInBounds_toArray, List.set_cons_zero, List.set_cons_succ]
              refine wpAnyH_take (i := 2) (oi := _) (v := (.int .i64 (i : Int))) rfl (by kernel_rfl) (by kernel_rfl) (by kernel_rfl) (fun _ _ _ h => h) (Or.inl ⟨by rfl, fun w' _ => by go_simp⟩) hHeld ?_
              try simp only [Act.put, List.getElem_toArray, List.getElem_cons_succ, List.getElem_cons_zero, List.setIfInBounds_toArray, List.set_cons_zero, List.set_cons_succ]
              refine wpAnyH_take (i := 3) (oi := _) (v := (.pointer (some (X.add (i * 5))))) rfl (by kernel_rfl) (by kernel_rfl) (by kernel_rfl) (fun _ _ _ h => h) (Or.inl ⟨by rfl, fun w' _ => by go_simp⟩) hHeld ?_
              try simp only [Act.put, List.getElem_toArray, List.getElem_cons_succ, List.getElem_cons_zero, List.setIfInBounds_toArray, List.set_cons_zero, List.set_cons_succ]
              refine wpAnyH_take (i := 4) (oi := _) (v := (.pointer (some (X.add (i * 5))))) rfl (by kernel_rfl) (by kernel_rfl) (by kernel_rfl) (fun _ _ _ h => h) (Or.inl ⟨by rfl, fun w' _ => by go_simp⟩) hHeld ?_
              try simp only [Act.put, List.getElem_toArray, List.getElem_cons_succ, List.getElem_cons_zero, List.setIfInBounds_toArray, List.set_cons_zero, List.set_cons_succ]
              refine wpAnyH_take (i := 5) (oi := _) (v := (.string s)) rfl (by kernel_rfl) (by kernel_rfl) (by kernel_rfl) (fun _ _ _ h => h) (Or.inl ⟨by rfl, fun w' hSw => by have h1 := (HAA.out w' hSw).1; go_simp⟩) hHeld ?_
              try simp only [Act.put, List.getElem_toArray, List.getElem_cons_succ, List.getElem_cons_zero, List.setIfInBounds_toArray, List.set_cons_zero, List.set_cons_succ]
              refine wpAnyH_take (i := 6) (oi := _) (v := (.pointer (some ⟨m + 1, 3, none⟩))) rfl (by kernel_rfl) (by kernel_rfl) (by kernel_rfl) (fun _ _ _ h => h) (Or.inl ⟨by rfl, fun w' _ => by go_simp⟩) hHeld ?_
              try simp only [Act.put, List.getElem_toArray, List.getElem_cons_succ, List.getElem_cons_zero, List.setIfInBounds_toArray, List.set_cons_zero, List.set_cons_succ]
              refine wpAnyH_take (i := 7) (oi := _) (v := (.slice (some Y) b.cnt cy)) rfl (by kernel_rfl) (by kernel_rfl) (by kernel_rfl) (fun _ _ _ h => h) (Or.inl ⟨by rfl, fun w' hSw => by have h1 := (HMM.out w' hSw).2; go_simp⟩) hHeld ?_
              try simp only [Act.put, List.getElem_toArray, List.getElem_cons_succ, List.getElem_cons_zero, List.setIfInBounds_toArray, List.set_cons_zero, List.set_cons_succ]
              refine wpAnyH_take (i := 8) (oi := _) (v := (.int .i64 (i : Int))) rfl (by kernel_rfl) (by kernel_rfl) (by kernel_rfl) (fun _ _ _ h => h) (Or.inl ⟨by rfl, fun w' _ => by go_simp⟩) hHeld ?_
              try simp only [Act.put, List.getElem_toArray, List.getElem_cons_succ, List.getElem_cons_zero, List.setIfInBounds_toArray, List.set_cons_zero, List.set_cons_succ]
              refine wpAnyH_take (i := 9) (oi := _) (v := (.pointer (some (Y.add (i * 5))))) rfl (by kernel_rfl) (by kernel_rfl) (by kernel_rfl) (fun _ _ _ h => h) (Or.inl ⟨by rfl, fun w' _ => by go_simp⟩) hHeld ?_
              try simp only [Act.put, List.getElem_toArray, List.getElem_cons_succ, List.getElem_cons_zero, List.setIfInBounds_toArray, List.set_cons_zero, List.set_cons_succ]
              refine wpAnyH_take (i := 10) (oi := _) (v := (.pointer (some (Y.add (i * 5))))) rfl (by kernel_rfl) (by kernel_rfl) (by kernel_rfl) (fun _ _ _ h => h) (Or.inl ⟨by rfl, fun w' _ => by go_simp⟩) hHeld ?_
              try simp only [Act.put, List.getElem_toArray, List.getElem_cons_succ, List.getElem_cons_zero, List.setIfInBounds_toArray, List.set_cons_zero, List.set_cons_succ]
              refine wpAnyH_take (i := 11) (oi := _) (v := (.string t)) rfl (by kernel_rfl) (by kernel_rfl) (by kernel_rfl) (fun _ _ _ h => h) (Or.inl ⟨by rfl, fun w' hSw => by have h1 := (HBB.out w' hSw).1; go_simp⟩) hHeld ?_
              try simp only [Act.put, List.getElem_toArray, List.getElem_cons_succ, List.getElem_cons_zero, List.setIfInBounds_toArray, List.set_cons_zero, List.set_cons_succ]
              by_cases hst : s = t
              · have hs1 := toList_beq hst
                refine wpAnyH_take (i := 12) (oi := _) (v := (.bool false)) rfl (by kernel_rfl) (by kernel_rfl) (by kernel_rfl) (fun _ _ _ h => h) (Or.inl ⟨by rfl, fun w' _ => by go_simp⟩) hHeld ?_
                try simp only [Act.put, List.getElem_toArray, List.getElem_cons_succ, List.getElem_cons_zero, List.setIfInBounds_toArray, List.set_cons_zero, List.set_cons_succ]
                refine wpAnyH_take (i := 13) (oi := _) (v := (.bool false)) rfl (by kernel_rfl) (by kernel_rfl) (by kernel_rfl) (fun _ _ _ h => h) (Or.inl ⟨by rfl, fun w' _ => by go_simp⟩) hHeld ?_
                try simp only [Act.put, List.getElem_toArray, List.getElem_cons_succ, List.getElem_cons_zero, List.setIfInBounds_toArray, List.set_cons_zero, List.set_cons_succ]
                refine wpAnyH_take (i := 14) (oi := _) (v := (.pointer (some ⟨m, 3, none⟩))) rfl (by kernel_rfl) (by kernel_rfl) (by kernel_rfl) (fun _ _ _ h => h) (Or.inl ⟨by rfl, fun w' _ => by go_simp⟩) hHeld ?_
                try simp only [Act.put, List.getElem_toArray, List.getElem_cons_succ, List.getElem_cons_zero, List.setIfInBounds_toArray, List.set_cons_zero, List.set_cons_succ]
                refine wpAnyH_take (i := 15) (oi := _) (v := (.slice (some X) a.cnt cx)) rfl (by kernel_rfl) (by kernel_rfl) (by kernel_rfl) (fun _ _ _ h => h) (Or.inl ⟨by rfl, fun w' hSw => by have h1 := (HMM.out w' hSw).1; go_simp⟩) hHeld ?_
                try simp only [Act.put, List.getElem_toArray, List.getElem_cons_succ, List.getElem_cons_zero, List.setIfInBounds_toArray, List.set_cons_zero, List.set_cons_succ]
                refine wpAnyH_take (i := 16) (oi := _) (v := (.int .i64 (i : Int))) rfl (by kernel_rfl) (by kernel_rfl) (by kernel_rfl) (fun _ _ _ h => h) (Or.inl ⟨by rfl, fun w' _ => by go_simp⟩) hHeld ?_
                try simp only [Act.put, List.getElem_toArray, List.getElem_cons_succ, List.getElem_cons_zero, List.setIfInBounds_toArray, List.set_cons_zero, List.set_cons_succ]
                refine wpAnyH_take (i := 17) (oi := _) (v := (.pointer (some (X.add (i * 5))))) rfl (by kernel_rfl) (by kernel_rfl) (by kernel_rfl) (fun _ _ _ h => h) (Or.inl ⟨by rfl, fun w' _ => by go_simp⟩) hHeld ?_
                try simp only [Act.put, List.getElem_toArray, List.getElem_cons_succ, List.getElem_cons_zero, List.setIfInBounds_toArray, List.set_cons_zero, List.set_cons_succ]
                refine wpAnyH_take (i := 18) (oi := _) (v := (.pointer (some ⟨(X.add (i * 5)).block, (X.add (i * 5)).off + 1, none⟩))) rfl (by kernel_rfl) (by kernel_rfl) (by kernel_rfl) (fun _ _ _ h => h) (Or.inl ⟨by rfl, fun w' _ => by go_simp⟩) hHeld ?_
                try simp only [Act.put, List.getElem_toArray, List.getElem_cons_succ, List.getElem_cons_zero, List.setIfInBounds_toArray, List.set_cons_zero, List.set_cons_succ]
                refine wpAnyH_take (i := 19) (oi := _) (v := (.agg #[.int .i64 c.kind, .bool c.exec, .string c.text, .slice ka c.cnt kc])) rfl (by kernel_rfl) (by kernel_rfl) (by kernel_rfl) (fun _ _ _ h => h) (Or.inl ⟨by rfl, fun w' hSw => by have h1 := (HAA.out w' hSw).2.1; have h2 := (HAA.out w' hSw).2.2.1; have h3 := (HAA.out w' hSw).2.2.2.1; have h4 := (HAA.out w' hSw).2.2.2.2; go_simp⟩) hHeld ?_
                try simp only [Act.put, List.getElem_toArray, List.getElem_cons_succ, List.getElem_cons_zero, List.setIfInBounds_toArray, List.set_cons_zero, List.set_cons_succ]
                refine wpAnyH_take (i := 20) (oi := _) (v := (.pointer (some ⟨m + 1, 3, none⟩))) rfl (by kernel_rfl) (by kernel_rfl) (by kernel_rfl) (fun _ _ _ h => h) (Or.inl ⟨by rfl, fun w' _ => by go_simp⟩) hHeld ?_
                try simp only [Act.put, List.getElem_toArray, List.getElem_cons_succ, List.getElem_cons_zero, List.setIfInBounds_toArray, List.set_cons_zero, List.set_cons_succ]
                refine wpAnyH_take (i := 21) (oi := _) (v := (.slice (some Y) b.cnt cy)) rfl (by kernel_rfl) (by kernel_rfl) (by kernel_rfl) (fun _ _ _ h => h) (Or.inl ⟨by rfl, fun w' hSw => by have h1 := (HMM.out w' hSw).2; go_simp⟩) hHeld ?_
                try simp only [Act.put, List.getElem_toArray, List.getElem_cons_succ, List.getElem_cons_zero, List.setIfInBounds_toArray, List.set_cons_zero, List.set_cons_succ]
                refine wpAnyH_take (i := 22) (oi := _) (v := (.int .i64 (i : Int))) rfl (by kernel_rfl) (by kernel_rfl) (by kernel_rfl) (fun _ _ _ h => h) (Or.inl ⟨by rfl, fun w' _ => by go_simp⟩) hHeld ?_
                try simp only [Act.put, List.getElem_toArray, List.getElem_cons_succ, List.getElem_cons_zero, List.setIfInBounds_toArray, List.set_cons_zero, List.set_cons_succ]
                refine wpAnyH_take (i := 23) (oi := _) (v := (.pointer (some (Y.add (i * 5))))) rfl (by kernel_rfl) (by kernel_rfl) (by kernel_rfl) (fun _ _ _ h => h) (Or.inl ⟨by rfl, fun w' _ => by go_simp⟩) hHeld ?_
                try simp only [Act.put, List.getElem_toArray, List.getElem_cons_succ, List.getElem_cons_zero, List.setIfInBounds_toArray, List.set_cons_zero, List.set_cons_succ]
                refine wpAnyH_take (i := 24) (oi := _) (v := (.pointer (some ⟨(Y.add (i * 5)).block, (Y.add (i * 5)).off + 1, none⟩))) rfl (by kernel_rfl) (by kernel_rfl) (by kernel_rfl) (fun _ _ _ h => h) (Or.inl ⟨by rfl, fun w' _ => by go_simp⟩) hHeld ?_
                try simp only [Act.put, List.getElem_toArray, List.getElem_cons_succ, List.getElem_cons_zero, List.setIfInBounds_toArray, List.set_cons_zero, List.set_cons_succ]
                refine wpAnyH_take (i := 25) (oi := _) (v := (.agg #[.int .i64 d.kind, .bool d.exec, .string d.text, .slice la d.cnt lc])) rfl (by kernel_rfl) (by kernel_rfl) (by kernel_rfl) (fun _ _ _ h => h) (Or.inl ⟨by rfl, fun w' hSw => by have h1 := (HBB.out w' hSw).2.1; have h2 := (HBB.out w' hSw).2.2.1; have h3 := (HBB.out w' hSw).2.2.2.1; have h4 := (HBB.out w' hSw).2.2.2.2; go_simp⟩) hHeld ?_
                try simp only [Act.put, List.getElem_toArray, List.getElem_cons_succ, List.getElem_cons_zero, List.setIfInBounds_toArray, List.set_cons_zero, List.set_cons_succ]
                refine wpAnyH_ready (rs := [26]) (by kernel_rfl) (by simp) ?_
                refine AllReadyH.cons (o := _) rfl (fun K hK => ?_) AllReadyH.nil
                rw [if_pos (by rfl)]
                go_simp
                go_at_call 15
                refine (HCALL.out wr.drew (HIN.out.1.below HBW.out.drew (Nat.le_refl _) |>.mono HBW.out.size) (HIN.out.2.below HBW.out.drew (Nat.le_refl _) |>.mono HBW.out.size) HCS.out).mono ?_
                rintro e w5 ⟨rfl, hb5⟩
                refine hK.out _ _ (fun k hk => hb5.block k hk) (fun hHeld => ?_)
                clear hK K
                try dsimp only
                try simp only [Act.put, List.getElem_toArray, List.getElem_cons_succ, List.getElem_cons_zero, List.setIfInBounds_toArray, List.set_cons_zero, List.set_cons_succ]
                have HB5 := Lib.hid hb5
                clear hb5
                by_cases hcd : c = d
                · have hq := eqN_true hcd
                  rw [hq]
                  refine wpAnyH_take (i := 27) (oi := _) (v := (.bool false)) rfl (by kernel_rfl) (by kernel_rfl) (by kernel_rfl) (fun _ _ _ h => h) (Or.inl ⟨by rfl, fun w' _ => by go_simp⟩) hHeld ?_
                  try simp only [Act.put, List.getElem_toArray, List.getElem_cons_succ, List.getElem_cons_zero, List.setIfInBounds_toArray, List.set_cons_zero, List.set_cons_succ]
                  refine wpAnyH_take (i := 28) (oi := _) (v := (.bool false)) rfl (by kernel_rfl) (by kernel_rfl) (by kernel_rfl) (fun _ _ _ h => h) (Or.inl ⟨by rfl, fun w' _ => by go_simp⟩) hHeld ?_
                  try simp only [Act.put, List.getElem_toArray, List.getElem_cons_succ, List.getElem_cons_zero, List.setIfInBounds_toArray, List.set_cons_zero, List.set_cons_succ]
                  refine wpAnyH_done (by kernel_rfl) ?_ _
                  refine NoPanic.normal ?_
                  have HN := Lib.hid (ND.pre_next HE.out HF.out HPI.out hst hcd)
                  have HW5 := Lib.hid (HWW.out.drew.trans (HB5.out.mono HWW.out.size))
                  clear hst hs1 hcd hq hHeld
                  go_wp2_with fail
                  go_roundw
                  case rel => exact ⟨i + 1, by go_num, by omega, HW5.out, HN.out⟩
                  case measure => simp [intOf]; omega
                · have hq := eqN_false hcd
                  rw [hq]
                  refine wpAnyH_take (i := 27) (oi := _) (v := (.bool true)) rfl (by kernel_rfl) (by kernel_rfl) (by kernel_rfl) (fun _ _ _ h => h) (Or.inl ⟨by rfl, fun w' _ => by go_simp⟩) hHeld ?_
                  try simp only [Act.put, List.getElem_toArray, List.getElem_cons_succ, List.getElem_cons_zero, List.setIfInBounds_toArray, List.set_cons_zero, List.set_cons_succ]
                  refine wpAnyH_take (i := 28) (oi := _) (v := (.bool true)) rfl (by kernel_rfl) (by kernel_rfl) (by kernel_rfl) (fun _ _ _ h => h) (Or.inl ⟨by rfl, fun w' _ => by go_simp⟩) hHeld ?_
                  try simp only [Act.put, List.getElem_toArray, List.getElem_cons_succ, List.getElem_cons_zero, List.setIfInBounds_toArray, List.set_cons_zero, List.set_cons_succ]
                  refine wpAnyH_done (by kernel_rfl) ?_ _
                  refine NoPanic.normal ?_
                  have HNE := Lib.hid (ND.pre_ne HE.out HF.out (.inr hcd))
                  have HB6 := Lib.hid (HBW.out.drew.trans (HB5.out.mono HBW.out.size))
                  clear hst hs1 hcd hq hHeld
                  go_wp2_with fail
                  go_ret
                  exact ⟨by rw [eqN_false HNE.out]; rfl, HB6.out⟩
              · have hs1 := toList_bne hst
                refine wpAnyH_take (i := 12) (oi := _) (v := (.bool true)) rfl (by kernel_rfl) (by kernel_rfl) (by kernel_rfl) (fun _ _ _ h => h) (Or.inl ⟨by rfl, fun w' _ => by go_simp⟩) hHeld ?_
                try simp only [Act.put, List.getElem_toArray, List.getElem_cons_succ, List.getElem_cons_zero, List.setIfInBounds_toArray, List.set_cons_zero, List.set_cons_succ]
                refine wpAnyH_take (i := 13) (oi := _) (v := (.bool true)) rfl (by kernel_rfl) (by kernel_rfl) (by kernel_rfl) (fun _ _ _ h => h) (Or.inl ⟨by rfl, fun w' _ => by go_simp⟩) hHeld ?_
                try simp only [Act.put, List.getElem_toArray, List.getElem_cons_succ, List.getElem_cons_zero, List.setIfInBounds_toArray, List.set_cons_zero, List.set_cons_succ]
                refine wpAnyH_take (i := 14) (oi := _) (v := undef) rfl (by kernel_rfl) (by kernel_rfl) (by kernel_rfl) (fun _ _ _ h => h) (Or.inr ⟨by rfl, rfl⟩) hHeld ?_
                try simp only [Act.put, List.getElem_toArray, List.getElem_cons_succ, List.getElem_cons_zero, List.setIfInBounds_toArray, List.set_cons_zero, List.set_cons_succ]
                refine wpAnyH_take (i := 15) (oi := _) (v := undef) rfl (by kernel_rfl) (by kernel_rfl) (by kernel_rfl) (fun _ _ _ h => h) (Or.inr ⟨by rfl, rfl⟩) hHeld ?_
                try simp only [Act.put, List.getElem_toArray, List.getElem_cons_succ, List.getElem_cons_zero, List.setIfInBounds_toArray, List.set_cons_zero, List.set_cons_succ]
                refine wpAnyH_take (i := 16) (oi := _) (v := undef) rfl (by kernel_rfl) (by kernel_rfl) (by kernel_rfl) (fun _ _ _ h => h) (Or.inr ⟨by rfl, rfl⟩) hHeld ?_
                try simp only [Act.put, List.getElem_toArray, List.getElem_cons_succ, List.getElem_cons_zero, List.setIfInBounds_toArray, List.set_cons_zero, List.set_cons_succ]
                refine wpAnyH_take (i := 17) (oi := _) (v := undef) rfl (by kernel_rfl) (by kernel_rfl) (by kernel_rfl) (fun _ _ _ h => h) (Or.inr ⟨by rfl, rfl⟩) hHeld ?_
                try simp only [Act.put, List.getElem_toArray, List.getElem_cons_succ, List.getElem_cons_zero, List.setIfInBounds_toArray, List.set_cons_zero, List.set_cons_succ]
                refine wpAnyH_take (i := 18) (oi := _) (v := undef) rfl (by kernel_rfl) (by kernel_rfl) (by kernel_rfl) (fun _ _ _ h => h) (Or.inr ⟨by rfl, rfl⟩) hHeld ?_
                try simp only [Act.put, List.getElem_toArray, List.getElem_cons_succ, List.getElem_cons_zero, List.setIfInBounds_toArray, List.set_cons_zero, List.set_cons_succ]
                refine wpAnyH_take (i := 19) (oi := _) (v := undef) rfl (by kernel_rfl) (by kernel_rfl) (by kernel_rfl) (fun _ _ _ h => h) (Or.inr ⟨by rfl, rfl⟩) hHeld ?_
                try simp only [Act.put, List.getElem_toArray, List.getElem_cons_succ, List.getElem_cons_zero, List.setIfInBounds_toArray, List.set_cons_zero, List.set_cons_succ]
                refine wpAnyH_take (i := 20) (oi := _) (v := undef) rfl (by kernel_rfl) (by kernel_rfl) (by kernel_rfl) (fun _ _ _ h => h) (Or.inr ⟨by rfl, rfl⟩) hHeld ?_
                try simp only [Act.put, List.getElem_toArray, List.getElem_cons_succ, List.getElem_cons_zero, List.setIfInBounds_toArray, List.set_cons_zero, List.set_cons_succ]
                refine wpAnyH_take (i := 21) (oi := _) (v := undef) rfl (by kernel_rfl) (by kernel_rfl) (by kernel_rfl) (fun _ _ _ h => h) (Or.inr ⟨by rfl, rfl⟩) hHeld ?_
                try simp only [Act.put, List.getElem_toArray, List.getElem_cons_succ, List.getElem_cons_zero, List.setIfInBounds_toArray, List.set_cons_zero, List.set_cons_succ]
                refine wpAnyH_take (i := 22) (oi := _) (v := undef) rfl (by kernel_rfl) (by kernel_rfl) (by kernel_rfl) (fun _ _ _ h => h) (Or.inr ⟨by rfl, rfl⟩) hHeld ?_
                try simp only [Act.put, List.getElem_toArray, List.getElem_cons_succ, List.getElem_cons_zero, List.setIfInBounds_toArray, List.set_cons_zero, List.set_cons_succ]
                refine wpAnyH_take (i := 23) (oi := _) (v := undef) rfl (by kernel_rfl) (by kernel_rfl) (by kernel_rfl) (fun _ _ _ h => h) (Or.inr ⟨by rfl, rfl⟩) hHeld ?_
                try simp only [Act.put, List.getElem_toArray, List.getElem_cons_succ, List.getElem_cons_zero, List.setIfInBounds_toArray, List.set_cons_zero, List.set_cons_succ]
                refine wpAnyH_take (i := 24) (oi := _) (v := undef) rfl (by kernel_rfl) (by kernel_rfl) (by kernel_rfl) (fun _ _ _ h => h) (Or.inr ⟨by rfl, rfl⟩) hHeld ?_
                try simp only [Act.put, List.getElem_toArray, List.getElem_cons_succ, List.getElem_cons_zero, List.setIfInBounds_toArray, List.set_cons_zero, List.set_cons_succ]
                refine wpAnyH_take (i := 25) (oi := _) (v := undef) rfl (by kernel_rfl) (by kernel_rfl) (by kernel_rfl) (fun _ _ _ h => h) (Or.inr ⟨by rfl, rfl⟩) hHeld ?_
                try simp only [Act.put, List.getElem_toArray, List.getElem_cons_succ, List.getElem_cons_zero, List.setIfInBounds_toArray, List.set_cons_zero, List.set_cons_succ]
                refine wpAnyH_take (i := 26) (oi := _) (v := undef) rfl (by kernel_rfl) (by kernel_rfl) (by kernel_rfl) (fun _ _ _ h => h) (Or.inr ⟨by rfl, rfl⟩) hHeld ?_
                try simp only [Act.put, List.getElem_toArray, List.getElem_cons_succ, List.getElem_cons_zero, List.setIfInBounds_toArray, List.set_cons_zero, List.set_cons_succ]
                refine wpAnyH_take (i := 27) (oi := _) (v := undef) rfl (by kernel_rfl) (by kernel_rfl) (by kernel_rfl) (fun _ _ _ h => h) (Or.inr ⟨by rfl, rfl⟩) hHeld ?_
                try simp only [Act.put, List.getElem_toArray, List.getElem_cons_succ, List.getElem_cons_zero, List.setIfInBounds_toArray, List.set_cons_zero, List.set_cons_succ]
                refine wpAnyH_take (i := 28) (oi := _) (v := (.bool true)) rfl (by kernel_rfl) (by kernel_rfl) (by kernel_rfl) (fun _ _ _ h => h) (Or.inl ⟨by rfl, fun w' _ => by go_simp⟩) hHeld ?_
                try simp only [Act.put, List.getElem_toArray, List.getElem_cons_succ, List.getElem_cons_zero, List.setIfInBounds_toArray, List.set_cons_zero, List.set_cons_succ]
                refine wpAnyH_done (by kernel_rfl) ?_ _
                refine NoPanic.normal ?_
                have HNE := Lib.hid (ND.pre_ne HE.out HF.out (.inl hst))
                clear hst hs1
                go_wp2_with fail
                go_ret
                exact ⟨by rw [eqN_false HNE.out]; rfl, HBW.out.drew⟩
            · have hltI : ¬ (i : Int) < b.cnt := by have := HC.out; omega
              have hltJ : ¬ (i : Int) < a.cnt := by omega
              have hii : i = a.cnt := by omega
              rw [hii] at hpi
              have HEQ := Lib.hid (ND.ext_pre HC.out hpi)
              have HBW := Lib.hid hbw
              clear hpi hbw hW
              go_wp2_with fail
              go_ret
              exact ⟨by rw [eqN_true HEQ.out]; rfl, HBW.out⟩
        · have e1 : (a.kind != b.kind) = false := by simpa using hk
          have e2 : (a.exec != b.exec) = false := by simpa using hx
          have e4 : ((a.cnt : Int) != (b.cnt : Int)) = true := by simp; omega
          go_wp2_with fail
          go_ret
          exact ⟨by rw [eqN_false (fun h => hc (by rw [h]))]; rfl, by rw [HM.out]; exact HB2.out⟩
      · have e1 : (a.kind != b.kind) = false := by simpa using hk
        have e2 : (a.exec != b.exec) = false := by simpa using hx
        have e3 := toList_bne ht
        go_wp2_with fail
        go_ret
        exact ⟨by rw [eqN_false (fun h => ht (by rw [h]))]; rfl, by rw [HM.out]; exact HB2.out⟩
    · have e1 : (a.kind != b.kind) = false := by simpa using hk
      have e2 : (a.exec != b.exec) = true := by simpa using hx
      go_wp2_with fail
      go_ret
      exact ⟨by rw [eqN_false (fun h => hx (by rw [h]))]; rfl, by rw [HM.out]; exact HB2.out⟩
  · have e1 : (a.kind != b.kind) = true := by simpa using hk
    go_wp2_with fail
    go_ret
    exact ⟨by rw [eqN_false (fun h => hk (by rw [h]))]; rfl, by rw [HM.out]; exact HB2.out⟩
theorem equal_any : ∀ (k : Nat) (a : ND), a.sz ≤ k → EqOk a := by
  intro k
  induction k with
  | zero => intro a h; cases a <;> simp [ND.sz] at h
  | succ k ih =>
    intro a hk b x y cx cy w ha hb hsm
    exact eq_node a b x y cx cy w ha hb hsm (fun c hc => ih c (by omega))
end Go.Proofs.YtlcppkcclolgcaaDoor

namespace Go.Proofs.YtlcppkcclolgcaaDoor
set_option linter.unusedVariables false
set_option linter.unusedSimpArgs false
open Go.RowKit
def IsRow (k : IntKind) (w : World) (a : Option Addr) (len cap : Nat) (zs : List Int) : Prop :=
  (a = none ∧ len = 0 ∧ cap = 0 ∧ zs = []) ∨
  ∃ x, a = some x ∧ len ≤ cap ∧ cap ≤ maxLen ∧ zs.length = cap ∧ (∀ i, i < zs.length → w.cell? (x.add i) = some (.int k (zs.getD i 0))) ∧ ∀ n ∈ zs, (Lit.int k n).wf = true
theorem IsRow.at_ {k : IntKind} {w : World} {a : Option Addr} {len cap : Nat} {zs : List Int} (h : IsRow k w a len cap zs) (h0 : 0 < len) :
    ∃ x, a = some x ∧ x.block < w.heap.size ∧ len ≤ zs.length ∧ (∀ i, i < len → w.cell? (x.add i) = some (.int k (zs.getD i 0))) ∧ ∀ n ∈ zs, (Lit.int k n).wf = true := by
  rcases h with ⟨_, rfl, _, _⟩ | ⟨x, rfl, h1, _, h2, h3, h4⟩
  · omega
  · have hc := h3 0 (by omega)
    have hb : (x.add 0).block = x.block := block_add x 0
    exact ⟨x, rfl, by have := block_lt_of_cell hc; rwa [hb] at this, by omega, fun i hi => h3 i (by omega), h4⟩
theorem nb_extract (s : ByteArray) (a b : Nat) (h : b ≤ s.size) : nb (s.extract a b) = ((nb s).drop a).take (b - a) := by
  unfold nb
  rw [ByteArray.data_extract, Array.toList_extract, List.extract_eq_take_drop, List.map_take, List.map_drop]
theorem take_more (T : List Nat) (a m : Nat) : T.take a ++ (T.drop a).take m = T.take (a + m) := by rw [List.take_add]
/-- the pieces so far -/
structure PcS (w0 : World) (w : World) (v : Value) (s : ByteArray) (p : Nat) (pcs : List ByteArray) : Prop where
  own : w.ownsRow w0.heap.size 9 1 v pcs.length (pcs.map Value.string)
  txt : (pcs.map nb).flatten = (nb s).take p
  bel : Below w0.heap.size w0 w
theorem str_one (s : ByteArray) : ∀ u ∈ [Value.string s], u.oneCell' = true := by
  intro u hu
  simp only [List.mem_cons, List.not_mem_nil, or_false] at hu
  rw [hu]; rfl
theorem PcS.next {w0 w w' : World} {v v' : Value} {s e : ByteArray} {p m : Nat} {pcs : List ByteArray} (H : PcS w0 w v s p pcs) (he : s.extract p (p + m) = e) (hm : p + m ≤ s.size)
    (ho : w'.ownsRow w0.heap.size 9 1 v' (pcs.length + 1) (pcs.map Value.string ++ [.string e])) (hb : Below w0.heap.size w w') : PcS w0 w' v' s (p + m) (pcs ++ [e]) := by
  refine ⟨?_, ?_, H.bel.trans hb⟩
  · rw [List.length_append, List.map_append]
    exact ho
  · rw [List.map_append, List.flatten_append, H.txt, ← take_more, ← he]
    simp only [List.map_cons, List.map_nil, List.flatten_cons, List.flatten_nil, List.append_nil]
    rw [nb_extract s p (p + m) hm, show p + m - p = m by omega]
def PcP (w0 : World) (s : ByteArray) (len : Nat) (e : Ending) (w' : World) : Prop := ∃ v pcs, e = .returned v ∧ PcS w0 w' v s s.size pcs ∧ pcs.length = len + 1
set_option maxRecDepth 100000 in
set_option maxHeartbeats 4000000 in
theorem pieces_any (s : ByteArray) (hs : s.size ≤ 140737488351232) (a : Option Addr) (len cap : Nat) (zs : List Int) (w : World) (hrow : IsRow .i64 w a len cap zs) (hlen : len ≤ 1048576) :
    Calls Tryd.prog 9 #[.string s, .slice a len cap] w fun e w' => PcP w s len e w' := by
  have HROW := Lib.hid hrow
  have hlI : (len : Int) ≤ 1048576 := by omega
  have hl0 : (0 : Int) ≤ len := by omega
  clear hrow
  obtain ⟨i0, hi0, hz0, hz1, hz2⟩ := info_parts (show (Tryd.prog.info? 9).map (fun i => (i.zero, i.size, i.bytes)) = some (some (.string ⟨#[]⟩), 1, 16) by kernel_rfl)
  go_enter Tryd.func9, Tryd.ntmps9
  go_wp2_with fail
  go_loopw [5, 6, 11] (fun x5 x6 x11 wr => ∃ (k p : Nat) (pcs : List ByteArray), x6 = .int .i64 (p : Nat) ∧ x11 = .int .i64 (k : Nat) ∧ k ≤ len ∧ p ≤ s.size ∧ pcs.length = k ∧ PcS w wr x5 s p pcs) (fun _ _ x11 _ => len - (intOf x11).toNat)
  case atStart => exact ⟨0, 0, [], rfl, rfl, Nat.zero_le _, Nat.zero_le _, rfl, World.ownsRow_nil _ _ _ _, rfl, Below.refl _ _⟩
  case round =>
    obtain ⟨k, p, pcs, rfl, rfl, hk, hp, hpk, hP⟩ := hrel
    have HP := Lib.hid hP
    clear hP
    have hk0 : (0 : Int) ≤ k := by omega
    have hpI : (p : Int) ≤ s.size := by omega
    have hp0 : (0 : Int) ≤ p := by omega
    have hsI : (s.size : Int) ≤ 140737488351232 := by omega
    by_cases hlt : k < len
    · obtain ⟨x, rfl, hxb, hzl, hcells, hwf⟩ := HROW.out.at_ (by omega)
      have c0 : wr.cell? (x.add k) = some (.int .i64 (zs.getD k 0)) := by
        rw [HP.out.bel.cell (by rw [block_add]; exact hxb)]
        exact hcells k hlt
      have hwz : -9223372036854775808 ≤ zs.getD k 0 ∧ zs.getD k 0 ≤ 9223372036854775807 := by
        have h := hwf (zs.getD k 0) (by rw [List.getD_eq_getElem?_getD, List.getElem?_eq_getElem (by omega)]; exact List.getElem_mem _)
        generalize zs.getD k 0 = c at h
        simp [Lit.wf, IntKind.min, IntKind.max, IntKind.signed, IntKind.bits] at h
        omega
      generalize zs.getD k 0 = c at *
      clear hcells hwf
      have hkI : (k : Int) < len := by omega
      obtain ⟨m, hm, hcase⟩ : ∃ m, p + m ≤ s.size ∧ ((c < 0 ∧ (s.size : Int) - p = m) ∨ (¬ c < 0 ∧ c > (s.size : Int) - p ∧ (s.size : Int) - p = m) ∨ (¬ c < 0 ∧ ¬ c > (s.size : Int) - p ∧ c = m)) := by
        by_cases h1 : c < 0
        · exact ⟨s.size - p, by omega, .inl ⟨h1, by omega⟩⟩
        · by_cases h2 : c > (s.size : Int) - p
          · exact ⟨s.size - p, by omega, .inr (.inl ⟨h1, h2, by omega⟩)⟩
          · exact ⟨c.toNat, by omega, .inr (.inr ⟨h1, h2, by omega⟩)⟩
      obtain ⟨e, he⟩ : ∃ e, s.extract p (p + m) = e := ⟨_, rfl⟩
      have hq1 : (p : Int) + m ≤ s.size := by omega
      have hq2 : (p : Int) ≤ (p : Int) + m := by omega
      have hbA : Below wr.heap.size wr (wr.alloc (.cells #[.string e] 9)) := (Below.refl _ _).alloc (Nat.le_refl _) _
      have hown := owns_kept (w' := wr.alloc (.cells #[.string e] 9)) HP.out.own (fun b hb _ => hbA.block b hb)
      have hnew := news_cells wr [Value.string e] 9
      have hbase : w.heap.size ≤ (wr.alloc (.cells #[.string e] 9)).heap.size := by
        have := HP.out.bel.size
        simp
        omega
      have hm63 : pcs.length + 1 ≤ maxLen := by unfold maxLen; omega
      have hm47 : (pcs.length + 1) * 16 ≤ 140737488355328 := by omega
      have HOWN := Lib.hid hown
      have HNEW := Lib.hid hnew
      have HBB := Lib.hid hbase
      have HBA := Lib.hid hbA
      clear hown hnew hbase hbA
      rcases hcase with ⟨h1, h2⟩ | ⟨h1, h2, h3⟩ | ⟨h1, h2, rfl⟩
      · have d1 : decide (c < 0) = true := by simpa using h1
        go_upto_region 8 with fail
        go_wp2_with (at_builtin; refine wpList_append_own _ rfl (.tmp 29) (.tmp 36) 35 rfl w.heap.size 9 i0 (.string ⟨#[]⟩) 1 16 Tryd.underlying35 hi0 hz0 hz1 hz2 rfl (by decide) u5 pcs.length (pcs.map Value.string) rfl HOWN.out ⟨wr.heap.size, 0, none⟩ 1 1 [.string e] rfl rfl HNEW.out (str_one e) hm63 hm47 HBB.out ?_; intro v5 w5 ho5 hg5 ha5; have HO5 := Lib.hid ho5; have HG5 := Lib.hid hg5; clear ho5 hg5 ha5)
        have HN := Lib.hid (HP.out.next he hm HO5.out ((HBA.out.mono HP.out.bel.size).grown HG5.out HBB.out (fun b hb => (HP.out.own.lt b hb).1)))
        go_roundw
        case rel => exact ⟨k + 1, p + m, _, by go_num, by go_num, by omega, hm, by rw [List.length_append, hpk]; rfl, HN.out⟩
        case measure => simp [intOf]; omega
      · have d1 : decide (c < 0) = false := by simpa using h1
        have d2 : decide ((m : Int) < c) = true := by simp; omega
        go_upto_region 8 with fail
        go_wp2_with (at_builtin; refine wpList_append_own _ rfl (.tmp 29) (.tmp 36) 35 rfl w.heap.size 9 i0 (.string ⟨#[]⟩) 1 16 Tryd.underlying35 hi0 hz0 hz1 hz2 rfl (by decide) u5 pcs.length (pcs.map Value.string) rfl HOWN.out ⟨wr.heap.size, 0, none⟩ 1 1 [.string e] rfl rfl HNEW.out (str_one e) hm63 hm47 HBB.out ?_; intro v5 w5 ho5 hg5 ha5; have HO5 := Lib.hid ho5; have HG5 := Lib.hid hg5; clear ho5 hg5 ha5)
        have HN := Lib.hid (HP.out.next he hm HO5.out ((HBA.out.mono HP.out.bel.size).grown HG5.out HBB.out (fun b hb => (HP.out.own.lt b hb).1)))
        go_roundw
        case rel => exact ⟨k + 1, p + m, _, by go_num, by go_num, by omega, hm, by rw [List.length_append, hpk]; rfl, HN.out⟩
        case measure => simp [intOf]; omega
      · have d1 : decide ((m : Int) < 0) = false := by simp
        have d2 : decide ((s.size : Int) - p < m) = false := by simp; omega
        go_upto_region 8 with fail
        go_wp2_with (at_builtin; refine wpList_append_own _ rfl (.tmp 29) (.tmp 36) 35 rfl w.heap.size 9 i0 (.string ⟨#[]⟩) 1 16 Tryd.underlying35 hi0 hz0 hz1 hz2 rfl (by decide) u5 pcs.length (pcs.map Value.string) rfl HOWN.out ⟨wr.heap.size, 0, none⟩ 1 1 [.string e] rfl rfl HNEW.out (str_one e) hm63 hm47 HBB.out ?_; intro v5 w5 ho5 hg5 ha5; have HO5 := Lib.hid ho5; have HG5 := Lib.hid hg5; clear ho5 hg5 ha5)
        have HN := Lib.hid (HP.out.next he hm HO5.out ((HBA.out.mono HP.out.bel.size).grown HG5.out HBB.out (fun b hb => (HP.out.own.lt b hb).1)))
        go_roundw
        case rel => exact ⟨k + 1, p + m, _, by go_num, by go_num, by omega, hm, by rw [List.length_append, hpk]; rfl, HN.out⟩
        case measure => simp [intOf]; omega
    · have hkI : ¬ (k : Int) < len := by omega
      obtain ⟨e, he⟩ : ∃ e, s.extract p s.size = e := ⟨_, rfl⟩
      have he2 : s.extract p (p + (s.size - p)) = e := by rw [← he]; congr 1; omega
      have hbA : Below wr.heap.size wr (wr.alloc (.cells #[.string e] 9)) := (Below.refl _ _).alloc (Nat.le_refl _) _
      have hown := owns_kept (w' := wr.alloc (.cells #[.string e] 9)) HP.out.own (fun b hb _ => hbA.block b hb)
      have hnew := news_cells wr [Value.string e] 9
      have hbase : w.heap.size ≤ (wr.alloc (.cells #[.string e] 9)).heap.size := by
        have := HP.out.bel.size
        simp
        omega
      have hm63 : pcs.length + 1 ≤ maxLen := by unfold maxLen; omega
      have hm47 : (pcs.length + 1) * 16 ≤ 140737488355328 := by omega
      have HOWN := Lib.hid hown
      have HNEW := Lib.hid hnew
      have HBB := Lib.hid hbase
      have HBA := Lib.hid hbA
      clear hown hnew hbase hbA
      go_wp2_with (at_builtin; refine wpList_append_own _ rfl (.tmp 42) (.tmp 46) 35 rfl w.heap.size 9 i0 (.string ⟨#[]⟩) 1 16 Tryd.underlying35 hi0 hz0 hz1 hz2 rfl (by decide) u5 pcs.length (pcs.map Value.string) rfl HOWN.out ⟨wr.heap.size, 0, none⟩ 1 1 [.string e] rfl rfl HNEW.out (str_one e) hm63 hm47 HBB.out ?_; intro v5 w5 ho5 hg5 ha5; have HO5 := Lib.hid ho5; have HG5 := Lib.hid hg5; clear ho5 hg5 ha5)
      go_ret
      have hn := HP.out.next he2 (by omega) HO5.out ((HBA.out.mono HP.out.bel.size).grown HG5.out HBB.out (fun b hb => (HP.out.own.lt b hb).1))
      rw [show p + (s.size - p) = s.size by omega] at hn
      exact ⟨v5, _, rfl, hn, by rw [List.length_append, hpk]; show k + 1 = len + 1; omega⟩
end Go.Proofs.YtlcppkcclolgcaaDoor

namespace Go.Proofs.YtlcppkcclolgcaaDoor
set_option linter.unusedVariables false
set_option linter.unusedSimpArgs false
open Go.RowKit
theorem arc_bytes (n : ND) : Bytes (arc n) := frames_bytes _
theorem prs_arc {n : ND} (h : serE n = 0) : clN (prs (strOf (arc n))) = n ∧ clC (prs (strOf (arc n))) = 0 ∧ clA (prs (strOf (arc n))) = 0 := by
  obtain ⟨k, hp⟩ := parse_arc h
  have e : prs (strOf (arc n)) = ⟨(arc n).length, (arc n).length, 0, 0, false, [], ⟨k, [], true, n⟩⟩ := by
    unfold prs
    rw [nb_strOf _ (arc_bytes n), hp]
  have hc : (prs (strOf (arc n))).close.code = 0 := by
    rw [e]
    rfl
  refine ⟨?_, hc, ?_⟩
  · unfold clN
    rw [if_pos hc, e]
  · unfold clA
    rw [if_pos hc]
def n0 : ND := .leaf 3 false emp
theorem serE_n0 : serE n0 = 0 := by rfl
theorem len_n0 : (arc n0).length = 96 := by rfl
theorem serT_n0 : serT n0 = strOf (arc n0) := by unfold serT; rw [if_pos serE_n0]
theorem n0_small : n0.small 1048576 := Nat.zero_le _
set_option maxRecDepth 100000 in
set_option maxHeartbeats 4000000 in
theorem small_any (w : World) : Calls Tryd.prog 4 #[] w fun e w' => e = .returned (.bool true) ∧ Below w.heap.size w w' := by
  have hser : Calls Tryd.prog 5 #[.agg #[.int .i64 3, .bool false, .string ⟨#[]⟩, .slice none 0 0]] w fun e w' => e = .returned (.tuple #[.string (strOf (arc n0)), .int .i64 0]) ∧ Below w.heap.size w w' := by
    have h := serial_any n0 none 0 w n0_small (.inl rfl)
    rw [serT_n0, serE_n0] at h
    exact h
  have hsz : (strOf (arc n0)).size = 96 := by rw [strOf_size, len_n0]
  have hpar : ∀ w1 : World, Calls Tryd.prog 19 #[.string (strOf (arc n0))] w1 fun e w' => ∃ a c, e = .returned (.tuple #[.agg #[.int .i64 3, .bool false, .string ⟨#[]⟩, .slice a 0 c], .agg #[.int .i64 0, .int .i64 0]]) ∧ Below w1.heap.size w1 w' := fun w1 => by
    refine (parse_any (strOf (arc n0)) w1 (by rw [hsz]; decide)).mono ?_
    rintro e w' ⟨a, c, he, _, hb⟩
    obtain ⟨h1, h2, h3⟩ := prs_arc serE_n0
    rw [h1, h2, h3] at he
    exact ⟨a, c, he, hb⟩
  have HSER := Lib.hid hser
  have HPAR := Lib.hid hpar
  clear hser hpar
  generalize strOf (arc n0) = T at *
  have hszI : (T.size : Int) = 96 := by omega
  go_enter Tryd.func4, Tryd.ntmps4
  go_upto_region 2 with (go_at_call 5; refine HSER.out.mono ?_; rintro e w1 ⟨rfl, h1⟩; have HB1 := Lib.hid h1; clear h1)
  go_upto_region 3 with (go_at_call 19; refine (HPAR.out w1).mono ?_; rintro e w2 ⟨a, c, rfl, h2⟩; have HB2 := Lib.hid h2; clear h2)
  go_wp2_with fail
  go_ret
  have h := below_trans2 HB1.out HB2.out
  exact ⟨rfl, (h.alloc h.size _).alloc (by have := h.size; simp; omega) _⟩
end Go.Proofs.YtlcppkcclolgcaaDoor
