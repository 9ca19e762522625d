/- The walks of a framed word's reader: done, next. -/
import Derived.Test.YtlcppkcclolgcaaRa
import Derived.Test.YtlcppkcclolgcaaPo
namespace Go.Proofs.Ytlcppkcclolgcaa
set_option linter.unusedVariables false
set_option linter.unusedSimpArgs false
open Go.RowKit

/-- a text is dropped -/
theorem RdS.putNil {w0 w : World} {S : Nat → Prop} {B g : Nat} {v : Value} {c : RC} (H : RdS w0 S w B g v c) : RdS w0 S (w.setCell ⟨g, 11, none⟩ (.slice none 0 0)) B g (.slice none 0 0) { c with text := [] } := by
  refine ⟨?_, OwnB.nil _ _, H.hB, H.away.set g 11 _ H.sg, H.sg, fun k e => by simp [Value.ownBlock] at e⟩
  rw [heap_setCell_same w g 11 _ _ _ H.row]
  rfl
/-- a store into a block that is none of the reader's -/
theorem RdS.other {w0 w : World} {S : Nat → Prop} {B g : Nat} {v : Value} {c : RC} (H : RdS w0 S w B g v c) {b : Nat} (i : Nat) (x : Value) (hb : w0.heap.size ≤ b) (hg : g ≠ b) (hv : v.ownBlock ≠ some b) : RdS w0 S (w.setCell ⟨b, i, none⟩ x) B g v c := by
  have hset : w.grownBy (w.setCell ⟨b, i, none⟩ x) (some b) := only_setG (World.grownBy.refl w _) i _
  exact ⟨(Below.heap_setCell _ _ _ _ hg).trans H.row, H.own.kept hset (.inr hv), H.hB, H.away.set b i x (fun h => by omega), H.sg, H.sv⟩
/-- the blocks of a reader -/
def MineR (g : Nat) (v : Value) (k : Nat) : Prop := k = g ∨ v.ownBlock = some k
theorem RdS.rebase {w0 w : World} {S : Nat → Prop} {B g : Nat} {v : Value} {c : RC} (H : RdS w0 S w B g v c) : RdS w (MineR g v) w B g v c :=
  ⟨H.row, H.own, H.hB, Away.refl _ _, fun _ => .inl rfl, fun k e _ => .inr e⟩
theorem RdS.mine {w0 w : World} {S : Nat → Prop} {B g : Nat} {v : Value} {c : RC} (H : RdS w0 S w B g v c) {k : Nat} (h : MineR g v k) : k < w.heap.size ∧ (k < w0.heap.size → S k) := by
  rcases h with rfl | h
  · exact ⟨H.lt, H.sg⟩
  · exact ⟨(H.own.lt k h).2, H.sv k h⟩
theorem RdS.join {w0 w w' : World} {S : Nat → Prop} {B g : Nat} {v v' : Value} {c c' : RC} (H : RdS w0 S w B g v c) (H' : RdS w (MineR g v) w' B g v' c') : RdS w0 S w' B g v' c' := by
  have hs : ∀ k, MineR g v' k → k < w0.heap.size → S k := fun k hk hl => (H.mine ((H'.mine hk).2 (Nat.lt_of_lt_of_le hl H.away.size))).2 hl
  exact ⟨H'.row, H'.own, H'.hB, H.away.join H'.away (fun k hk hm => (H.mine hm).2 hk), hs g (.inl rfl), fun k e => hs k (.inr e)⟩
def RC.doneR (c : RC) : RC := { c with item := c.item + 1, start := c.taken, state := 0, need := 8, num := 0, text := [] }
set_option maxRecDepth 100000 in
set_option maxHeartbeats 2000000 in
theorem rdone_any (w0 : World) (S : Nat → Prop) (B g : Nat) (v : Value) (c : RC) (s : ByteArray) (w : World) (H : RdS w0 S w B g v c) (hi : c.item ≤ 1000) (hBw : B ≤ w.heap.size) :
    Calls Try.prog 56 #[.pointer (some ⟨g, 0, none⟩), .agg #[.bool false, .int .u64 0, .string s]] w fun e w' => e = .returned (.agg #[.bool false, .int .u64 0, .string s]) ∧ RdS w0 S w' B g (.slice none 0 0) c.doneR := by
  have hlt := H.lt
  have hsz := H.away.size
  have h1 := H.later ((Below.refl _ _).alloc (Nat.le_refl _) (.cells #[.bool false, .int .u64 0, .string s] 76))
  have h2 := h1.later ((Below.refl _ _).alloc (Nat.le_refl _) (.cells #[.bool false, .int .u64 0, .string ⟨#[]⟩] 76))
  have q0 := row_past (heap_alloc_new w (.cells #[.bool false, .int .u64 0, .string s] 76)) (.cells #[.bool false, .int .u64 0, .string ⟨#[]⟩] 76)
  have q1 := alloc_new2 w (.cells #[.bool false, .int .u64 0, .string s] 76) #[.bool false, .int .u64 0, .string ⟨#[]⟩] 76
  have H2 := Lib.hid h2
  have Q0 := Lib.hid q0
  have Q1 := Lib.hid q1
  have hi0 : (0 : Int) ≤ c.item := by omega
  have hi1 : (c.item : Int) ≤ 1000 := by omega
  clear h1 h2 q0 q1 H
  go_enter Try.func56, Try.ntmps56
  go_upto_region 1 with fail
  generalize hm : w.heap.size = m at *
  have HM := Lib.hid hm
  clear hm
  generalize (w.alloc (.cells #[.bool false, .int .u64 0, .string s] 76)).alloc (.cells #[.bool false, .int .u64 0, .string ⟨#[]⟩] 76) = w1 at *
  have c6 := H2.out.c6
  have f6 := H2.out.free 6
  have h3 := H2.out.put 6 (.int .i64 ((c.item + 1 : Nat) : Int)) { c with item := c.item + 1 } rfl rfl
  rw [Int.natCast_add] at h3
  have H3 := Lib.hid h3
  have hne1 : m ≠ g := by omega
  have hne2 : m + 1 ≠ g := by omega
  have Q02 : Hid ((w1.setCell ⟨g, 6, none⟩ (.int .i64 ((c.item : Int) + 1))).heap[m]? = some (.cells #[.bool false, .int .u64 0, .string s] 76 (0, 0))) := Lib.hid ((Below.heap_setCell _ _ _ _ hne1).trans Q0.out)
  have Q12 : Hid ((w1.setCell ⟨g, 6, none⟩ (.int .i64 ((c.item : Int) + 1))).heap[m + 1]? = some (.cells #[.bool false, .int .u64 0, .string ⟨#[]⟩] 76 (0, 0))) := Lib.hid ((Below.heap_setCell _ _ _ _ hne2).trans Q1.out)
  clear h3 Q0 Q1 H2
  go_upto_region 2 with fail
  generalize w1.setCell ⟨g, 6, none⟩ (.int .i64 ((c.item : Int) + 1)) = w2 at *
  have c0 := H3.out.c0
  have c7 := H3.out.c7
  have f7 := H3.out.free 7
  simp only at c0 c7
  have h4 := H3.out.put 7 (.int .i64 (c.taken : Nat)) { c with item := c.item + 1, start := c.taken } rfl rfl
  have H4 := Lib.hid h4
  have Q03 : Hid ((w2.setCell ⟨g, 7, none⟩ (.int .i64 (c.taken : Int))).heap[m]? = some (.cells #[.bool false, .int .u64 0, .string s] 76 (0, 0))) := Lib.hid ((Below.heap_setCell _ _ _ _ hne1).trans Q02.out)
  have Q13 : Hid ((w2.setCell ⟨g, 7, none⟩ (.int .i64 (c.taken : Int))).heap[m + 1]? = some (.cells #[.bool false, .int .u64 0, .string ⟨#[]⟩] 76 (0, 0))) := Lib.hid ((Below.heap_setCell _ _ _ _ hne2).trans Q12.out)
  clear h4 Q02 Q12 H3 c6 f6
  go_upto_region 3 with fail
  generalize w2.setCell ⟨g, 7, none⟩ (.int .i64 (c.taken : Int)) = w3 at *
  clear c0 c7 f7
  have c8 := H4.out.c8
  have c9 := H4.out.c9
  have c10 := H4.out.c10
  have c11 := H4.out.c11
  have f8 := H4.out.free 8
  have f9 := H4.out.free 9
  have f10 := H4.out.free 10
  have f11 := H4.out.free 11
  have hW : ∃ w4, w4 = (((w3.setCell ⟨g, 8, none⟩ (.int .i64 0)).setCell ⟨g, 10, none⟩ (.int .i64 8)).setCell ⟨g, 9, none⟩ (.int .u64 0)).setCell ⟨g, 11, none⟩ (.slice none 0 0) := ⟨_, rfl⟩
  obtain ⟨w4, hW⟩ := hW
  have h5 : RdS w0 S w4 B g (.slice none 0 0) c.doneR := by
    rw [hW]
    exact (((H4.out.put 8 (.int .i64 (0 : Nat)) { c with item := c.item + 1, start := c.taken, state := 0 } rfl rfl).put 10 (.int .i64 (8 : Nat)) { c with item := c.item + 1, start := c.taken, state := 0, need := 8 } rfl rfl).put 9 (.int .u64 (0 : Nat)) { c with item := c.item + 1, start := c.taken, state := 0, need := 8, num := 0 } rfl rfl).putNil
  have a0 : w4.heap[m]? = some (.cells #[.bool false, .int .u64 0, .string s] 76 (0, 0)) := by
    rw [hW]
    exact (Below.heap_setCell _ _ _ _ hne1).trans ((Below.heap_setCell _ _ _ _ hne1).trans ((Below.heap_setCell _ _ _ _ hne1).trans ((Below.heap_setCell _ _ _ _ hne1).trans Q03.out)))
  have a1 : w4.heap[m + 1]? = some (.cells #[.bool false, .int .u64 0, .string ⟨#[]⟩] 76 (0, 0)) := by
    rw [hW]
    exact (Below.heap_setCell _ _ _ _ hne2).trans ((Below.heap_setCell _ _ _ _ hne2).trans ((Below.heap_setCell _ _ _ _ hne2).trans ((Below.heap_setCell _ _ _ _ hne2).trans Q13.out)))
  have HWW := Lib.hid hW
  have H5 := Lib.hid h5
  have A0 := Lib.hid a0
  have A1 := Lib.hid a1
  clear h5 a0 a1 Q03 Q13 H4 hW
  go_upto_region 4 with fail
  rw [← HWW.out]
  clear HWW c8 c9 c10 c11 f8 f9 f10 f11
  have p0 := cell_of_row w4 m 0 _ _ _ A0.out
  have p1 := cell_of_row w4 m 1 _ _ _ A0.out
  have p2 := cell_of_row w4 m 2 _ _ _ A0.out
  have p3 := cell_of_row w4 (m + 1) 0 _ _ _ A1.out
  have p4 := cell_of_row w4 (m + 1) 1 _ _ _ A1.out
  have p5 := cell_of_row w4 (m + 1) 2 _ _ _ A1.out
  have p6 := frozen_of_row w4 (m + 1) 0 _ _ A1.out
  have p7 := frozen_of_row w4 (m + 1) 1 _ _ A1.out
  have p8 := frozen_of_row w4 (m + 1) 2 _ _ A1.out
  go_wp2_with fail
  have hv : (Value.slice none 0 0).ownBlock ≠ some (m + 1) := by simp [Value.ownBlock]
  refine bodyPost_ret (v := .agg #[.bool false, .int .u64 0, .string s]) (by simp [results, Try.results56, go_sem, p3, p4, p5]) rfl ⟨rfl, ?_⟩
  exact ((H5.out.other 0 _ (by omega) (by omega) hv).other 1 _ (by omega) (by omega) hv).other 2 _ (by omega) (by omega) hv
/-- a phase is done -/
def RC.nextR (c : RC) : RC × Option ByteArray :=
  if c.state = 0 ∧ 0 < c.num then ({ c with state := 1, need := c.num }, none)
  else if c.state = 1 ∧ c.num % 8 ≠ 0 then ({ c with state := 2, need := 8 - c.num % 8 }, none)
  else (c.doneR, some (strOf c.text))
def nextV : Option ByteArray → Value
  | none => .tuple #[.agg #[.bool false, .int .u64 0, .string ⟨#[]⟩], .bool false]
  | some s => .tuple #[.agg #[.bool false, .int .u64 0, .string s], .bool true]
def NextP (w0 : World) (S : Nat → Prop) (B g : Nat) (q : RC × Option ByteArray) (e : Ending) (w' : World) : Prop := e = .returned (nextV q.2) ∧ ∃ v', RdS w0 S w' B g v' q.1
set_option maxRecDepth 100000 in
set_option maxHeartbeats 4000000 in
theorem rnext_any (w0 : World) (S : Nat → Prop) (B g : Nat) (v : Value) (c : RC) (w : World) (H : RdS w0 S w B g v c) (hi : c.item = 0) (hs : c.state ≤ 2) (hn : c.num ≤ 1048576) (hb : Bytes c.text) (hBw : B ≤ w.heap.size) :
    Calls Try.prog 42 #[.pointer (some ⟨g, 0, none⟩)] w fun e w' => NextP w0 S B g c.nextR e w' := by
  obtain ⟨r, hr⟩ : ∃ r, c.nextR = r := ⟨_, rfl⟩
  rw [hr]
  have HR := Lib.hid hr
  clear hr
  have hlt := H.lt
  have hsz := H.away.size
  obtain ⟨A8, k8, hv8⟩ := H.own.slice
  obtain ⟨lt, hlt8⟩ : ∃ lt, c.text.length = lt := ⟨_, rfl⟩
  rw [hlt8] at hv8
  have hvm : v.ownBlock ≠ some w.heap.size := fun e => by have := (H.own.lt _ e).2; omega
  have hconv : ∀ (W : World), OwnB W B v c.text → (convert 38 9 (.slice A8 lt k8)).run Try.prog W = .ok (.string (strOf c.text)) W := fun W h => by rw [← hv8]; exact run_conv_own W h hb
  have h1 := H.later ((Below.refl _ _).alloc (Nat.le_refl _) (.cells #[.bool false, .int .u64 0, .string ⟨#[]⟩] 76))
  have q0 := heap_alloc_new w (.cells #[.bool false, .int .u64 0, .string ⟨#[]⟩] 76)
  have hBw1 : B ≤ (w.alloc (.cells #[.bool false, .int .u64 0, .string ⟨#[]⟩] 76)).heap.size := Nat.le_trans hBw (by simp)
  have CD : ∀ wq v, RdS w0 S wq B g v c → B ≤ wq.heap.size → Calls Try.prog 56 #[.pointer (some ⟨g, 0, none⟩), .agg #[.bool false, .int .u64 0, .string (strOf c.text)]] wq fun e w' => e = .returned (.agg #[.bool false, .int .u64 0, .string (strOf c.text)]) ∧ RdS wq (MineR g v) w' B g (.slice none 0 0) c.doneR :=
    fun wq v h hB => rdone_any wq (MineR g v) B g v c (strOf c.text) wq h.rebase (by omega) hB
  have CD := Lib.hid CD
  have HCONV := Lib.hid hconv
  have HV8 := Lib.hid hv8
  have H1 := Lib.hid h1
  have Q0 := Lib.hid q0
  have HVM := Lib.hid hvm
  have HI := Lib.hid hi
  have HB1 := Lib.hid hBw1
  have hn0 : (0 : Int) ≤ c.num := by omega
  have hn1 : (c.num : Int) ≤ 1048576 := by omega
  have k1 : ∀ q, (((((⟨#[116]⟩ : ByteArray)[0]'q).toNat : Int)) == 105) = false := fun _ => rfl
  have k2 : IntKind.i64.wrap (c.num : Int) = c.num := IntWalk.i64_in _ (by omega)
  clear h1 q0 H hconv hv8 hlt8 hvm hi hBw hb hBw1
  go_enter Try.func42, Try.ntmps42
  go_upto_region 1 with fail
  generalize hm : w.heap.size = m at *
  have HM := Lib.hid hm
  clear hm
  generalize w.alloc (.cells #[.bool false, .int .u64 0, .string ⟨#[]⟩] 76) = w1 at *
  have c9 := H1.out.c9
  have c6 := H1.out.c6
  rw [HI.out] at c6
  replace c6 : w1.cell? ⟨g, 6, none⟩ = some (.int .i64 0) := c6
  have c4 := H1.out.c4
  go_upto_region 2 with fail
  go_quiet (fail)
  have hq : Below w1.heap.size w1 (w1.drewN nq) := ⟨rfl, rfl, rfl, Nat.le_refl _, fun _ _ => rfl⟩
  have H2 := Lib.hid (H1.out.later hq)
  have Q2 := Lib.hid ((hq.block m (lt_of_row Q0.out)).trans Q0.out)
  have HB2 : Hid (B ≤ (w1.drewN nq).heap.size) := HB1
  generalize w1.drewN nq = w2 at *
  clear c9 c6 c4 hq H1 Q0 HB1 k1
  have p3 := cell_of_row w2 m 0 _ _ _ Q2.out
  have p4 := cell_of_row w2 m 1 _ _ _ Q2.out
  have p5 := cell_of_row w2 m 2 _ _ _ Q2.out
  have p6 := frozen_of_row w2 m 0 _ _ Q2.out
  have p7 := frozen_of_row w2 m 1 _ _ Q2.out
  have p8 := frozen_of_row w2 m 2 _ _ Q2.out
  have c8 := H2.out.c8
  have f8 := H2.out.free 8
  have c10 := H2.out.c10
  have f10 := H2.out.free 10
  have hmg : m ≠ g := by omega
  have hgm : g ≠ m := by omega
  by_cases h0 : c.state = 0
  · rw [h0] at c8
    replace c8 : w2.cell? ⟨g, 8, none⟩ = some (.int .i64 0) := c8
    by_cases hp : 0 < c.num
    · have hpI : (0 : Int) < c.num := by omega
      obtain rfl : r = ({ c with state := 1, need := c.num }, none) := HR.out.symm.trans (if_pos ⟨h0, hp⟩)
      have h3 := (H2.out.put 8 (.int .i64 (1 : Nat)) { c with state := 1 } rfl rfl).put 10 (.int .i64 ((c.num : Nat) : Int)) { c with state := 1, need := c.num } rfl rfl
      have H3 := Lib.hid h3
      clear h3 HR h0 hp
      go_wp2_with fail
      refine bodyPost_ret (v := .tuple #[.agg #[.bool false, .int .u64 0, .string ⟨#[]⟩], .bool false]) (by simp [results, Try.results42, go_sem, p3, p4, p5]) rfl ⟨rfl, v, ?_⟩
      exact ((H3.out.other 0 _ (by omega) hgm HVM.out).other 1 _ (by omega) hgm HVM.out).other 2 _ (by omega) hgm HVM.out
    · have hpI : ¬ (0 : Int) < c.num := by omega
      have hpD : decide ((0 : Int) < c.num) = false := decide_eq_false hpI
      have c11 := H2.out.c11
      rw [HV8.out] at c11
      have hcv := HCONV.out w2 H2.out.own
      obtain rfl : r = (c.doneR, some (strOf c.text)) := HR.out.symm.trans ((if_neg (fun h => hp h.2)).trans (if_neg (fun h => by have := h.1; omega)))
      have HD : Hid (Calls Try.prog 56 #[.pointer (some ⟨g, 0, none⟩), .agg #[.bool false, .int .u64 0, .string (strOf c.text)]] w2 fun e w' => e = .returned (.agg #[.bool false, .int .u64 0, .string (strOf c.text)]) ∧ RdS w2 (MineR g v) w' B g (.slice none 0 0) c.doneR) := Lib.hid (CD.out _ _ H2.out HB2.out)
      clear HR p3 p4 p5 p6 p7 p8 h0 hp
      go_wp2_with (go_at_call 56; refine HD.out.mono ?_; rintro e w5 ⟨rfl, h5⟩; have hx5 := (h5.away.block m (lt_of_row Q2.out) (by rintro (h | h); exact hmg h; exact HVM.out h)).trans Q2.out; have p3 := cell_of_row w5 m 0 _ _ _ hx5; have p4 := cell_of_row w5 m 1 _ _ _ hx5; have p5 := cell_of_row w5 m 2 _ _ _ hx5; have p6 := frozen_of_row w5 m 0 _ _ hx5; have p7 := frozen_of_row w5 m 1 _ _ hx5; have p8 := frozen_of_row w5 m 2 _ _ hx5; have H5 := Lib.hid h5; clear h5 hx5)
      have hv : (Value.slice none 0 0).ownBlock ≠ some m := by simp [Value.ownBlock]
      have hj := H2.out.join H5.out
      refine bodyPost_ret (v := .tuple #[.agg #[.bool false, .int .u64 0, .string (strOf c.text)], .bool true]) (by simp [results, Try.results42, go_sem, p3, p4, p5]) rfl ⟨rfl, .slice none 0 0, ?_⟩
      exact ((hj.other 0 _ (by omega) hgm hv).other 1 _ (by omega) hgm hv).other 2 _ (by omega) hgm hv
  · by_cases h1 : c.state = 1
    · rw [h1] at c8
      replace c8 : w2.cell? ⟨g, 8, none⟩ = some (.int .i64 1) := c8
      by_cases hp : c.num % 8 ≠ 0
      · have hpI : ((c.num : Int) % 8 != 0) = true := by simp; omega
        obtain rfl : r = ({ c with state := 2, need := 8 - c.num % 8 }, none) := HR.out.symm.trans ((if_neg (fun h => h0 h.1)).trans (if_pos ⟨h1, hp⟩))
        have h3 := (H2.out.put 8 (.int .i64 (2 : Nat)) { c with state := 2 } rfl rfl).put 10 (.int .i64 ((8 - c.num % 8 : Nat) : Int)) { c with state := 2, need := 8 - c.num % 8 } rfl rfl
        rw [show ((8 - c.num % 8 : Nat) : Int) = (8 : Int) - (c.num : Int) % 8 by omega] at h3
        have H3 := Lib.hid h3
        clear h3 HR h0 h1 hp
        go_wp2_with fail
        refine bodyPost_ret (v := .tuple #[.agg #[.bool false, .int .u64 0, .string ⟨#[]⟩], .bool false]) (by simp [results, Try.results42, go_sem, p3, p4, p5]) rfl ⟨rfl, v, ?_⟩
        exact ((H3.out.other 0 _ (by omega) hgm HVM.out).other 1 _ (by omega) hgm HVM.out).other 2 _ (by omega) hgm HVM.out
      · have hpI : ((c.num : Int) % 8 != 0) = false := by simp; omega
        have c11 := H2.out.c11
        rw [HV8.out] at c11
        have hcv := HCONV.out w2 H2.out.own
        obtain rfl : r = (c.doneR, some (strOf c.text)) := HR.out.symm.trans ((if_neg (fun h => h0 h.1)).trans (if_neg (fun h => hp h.2)))
        have HD : Hid (Calls Try.prog 56 #[.pointer (some ⟨g, 0, none⟩), .agg #[.bool false, .int .u64 0, .string (strOf c.text)]] w2 fun e w' => e = .returned (.agg #[.bool false, .int .u64 0, .string (strOf c.text)]) ∧ RdS w2 (MineR g v) w' B g (.slice none 0 0) c.doneR) := Lib.hid (CD.out _ _ H2.out HB2.out)
        clear HR p3 p4 p5 p6 p7 p8 h0 h1 hp
        go_wp2_with (go_at_call 56; refine HD.out.mono ?_; rintro e w5 ⟨rfl, h5⟩; have hx5 := (h5.away.block m (lt_of_row Q2.out) (by rintro (h | h); exact hmg h; exact HVM.out h)).trans Q2.out; have p3 := cell_of_row w5 m 0 _ _ _ hx5; have p4 := cell_of_row w5 m 1 _ _ _ hx5; have p5 := cell_of_row w5 m 2 _ _ _ hx5; have p6 := frozen_of_row w5 m 0 _ _ hx5; have p7 := frozen_of_row w5 m 1 _ _ hx5; have p8 := frozen_of_row w5 m 2 _ _ hx5; have H5 := Lib.hid h5; clear h5 hx5)
        have hv : (Value.slice none 0 0).ownBlock ≠ some m := by simp [Value.ownBlock]
        have hj := H2.out.join H5.out
        refine bodyPost_ret (v := .tuple #[.agg #[.bool false, .int .u64 0, .string (strOf c.text)], .bool true]) (by simp [results, Try.results42, go_sem, p3, p4, p5]) rfl ⟨rfl, .slice none 0 0, ?_⟩
        exact ((hj.other 0 _ (by omega) hgm hv).other 1 _ (by omega) hgm hv).other 2 _ (by omega) hgm hv
    · have h2 : c.state = 2 := by omega
      rw [h2] at c8
      replace c8 : w2.cell? ⟨g, 8, none⟩ = some (.int .i64 2) := c8
      have c11 := H2.out.c11
      rw [HV8.out] at c11
      have hcv := HCONV.out w2 H2.out.own
      obtain rfl : r = (c.doneR, some (strOf c.text)) := HR.out.symm.trans ((if_neg (fun h => h0 h.1)).trans (if_neg (fun h => h1 h.1)))
      have HD : Hid (Calls Try.prog 56 #[.pointer (some ⟨g, 0, none⟩), .agg #[.bool false, .int .u64 0, .string (strOf c.text)]] w2 fun e w' => e = .returned (.agg #[.bool false, .int .u64 0, .string (strOf c.text)]) ∧ RdS w2 (MineR g v) w' B g (.slice none 0 0) c.doneR) := Lib.hid (CD.out _ _ H2.out HB2.out)
      clear HR p3 p4 p5 p6 p7 p8 h0 h1 h2
      go_wp2_with (go_at_call 56; refine HD.out.mono ?_; rintro e w5 ⟨rfl, h5⟩; have hx5 := (h5.away.block m (lt_of_row Q2.out) (by rintro (h | h); exact hmg h; exact HVM.out h)).trans Q2.out; have p3 := cell_of_row w5 m 0 _ _ _ hx5; have p4 := cell_of_row w5 m 1 _ _ _ hx5; have p5 := cell_of_row w5 m 2 _ _ _ hx5; have p6 := frozen_of_row w5 m 0 _ _ hx5; have p7 := frozen_of_row w5 m 1 _ _ hx5; have p8 := frozen_of_row w5 m 2 _ _ hx5; have H5 := Lib.hid h5; clear h5 hx5)
      have hv : (Value.slice none 0 0).ownBlock ≠ some m := by simp [Value.ownBlock]
      have hj := H2.out.join H5.out
      refine bodyPost_ret (v := .tuple #[.agg #[.bool false, .int .u64 0, .string (strOf c.text)], .bool true]) (by simp [results, Try.results42, go_sem, p3, p4, p5]) rfl ⟨rfl, .slice none 0 0, ?_⟩
      exact ((hj.other 0 _ (by omega) hgm hv).other 1 _ (by omega) hgm hv).other 2 _ (by omega) hgm hv
end Go.Proofs.Ytlcppkcclolgcaa

