/- A parser in memory with its reader. The walk of the parser's Feed. The walks of NewParser and of tree.Copy. The walk of tree.Copy. The walks of the parser's Close; small trees. -/
import Derived.Test.YtlcppkcclolgcaaDoorDBg
import Derived.Test.YtlcppkcclolgcaaDoorWLast
namespace Go.Proofs.YtlcppkcclolgcaaDoor
set_option linter.unusedVariables false
set_option linter.unusedSimpArgs false
open Go.RowKit

structure PaS (w0 : World) (S : Nat → Prop) (w : World) (B gp : Nat) (fl : Nat → Nat) (p : PS) (gf : Nat) (sv rv : Value) : Prop where
  paw : PaW w0 S w B gp fl p gf sv rv
  rdr : p.code = 0 → p.x.whole = false → ∃ v, RdS w (MineR gf v) w B gf v (rcOf p.ws) ∧ fl gf = 2 ∧ ∀ k, v.ownBlock = some k → fl k = 3
def PaX (w0 : World) (S : Nat → Prop) (w : World) (B gp : Nat) (p : PS) : Prop := ∃ fl gf sv rv, PaS w0 S w B gp fl p gf sv rv
section
variable {w0 w w' : World} {S : Nat → Prop} {B gp : Nat} {fl : Nat → Nat} {p : PS} {gf : Nat} {sv rv : Value}
theorem PaS.later (H : PaS w0 S w B gp fl p gf sv rv) (hb : Below w.heap.size w w') : PaS w0 S w' B gp fl p gf sv rv :=
  ⟨H.paw.later hb, fun h1 h2 => by
    obtain ⟨v, h, h3, h4⟩ := H.rdr h1 h2
    exact ⟨v, (h.later hb).rebase, h3, h4⟩⟩
/-- a fault, or the end: the reader counts no more -/
theorem PaS.of_bad (H : PaW w0 S w B gp fl p gf sv rv) (h : p.code ≠ 0) : PaS w0 S w B gp fl p gf sv rv := ⟨H, fun h0 => absurd h0 h⟩
/-- the reader has been fed -/
theorem PaS.fed {v v' : Value} {c' : RC} (H : PaW w0 S w B gp fl p gf sv rv) (h2 : fl gf = 2) (h3 : ∀ k, v.ownBlock = some k → fl k = 3) (hR : RdS w (MineR gf v) w' B gf v' c') :
    PaW w0 S w' B gp (lbl fl v' 3) p gf sv rv ∧ lbl fl v' 3 gf = 2 ∧ ∀ k, v'.ownBlock = some k → lbl fl v' 3 k = 3 := by
  have hm : ∀ k, MineR gf v k → fl k = 2 ∨ fl k = 3 := fun k h => by
    rcases h with rfl | h
    · exact .inl h2
    · exact .inr (h3 k h)
  have hv' : ∀ k, k < w.heap.size → v'.ownBlock = some k → fl k = 2 ∨ fl k = 3 := fun k hk h => hm k (hR.sv k h hk)
  have hlab := H.lab
  refine ⟨H.kept ?_ (H.away.join hR.away (fun k hk h => H.sl k (by rcases hm k h with h | h <;> omega) hk)) (fun b hb h2' h3' => ⟨lbl_other (fun e => by rcases hv' b hb e with h | h; exact h2' h; exact h3' h), fun _ => hR.away.block b hb (fun h => by rcases hm b h with h | h; exact h2' h; exact h3' h)⟩) (fun k hk => ?_) (fun k hk hl => ?_) rfl rfl, ?_, fun k h => lbl_own h⟩
  · exact (hR.away.block gp H.lt (fun h => by rcases hm gp h with h | h <;> omega)).trans H.row
  · by_cases hv : v'.ownBlock = some k
    · exact hR.own.lt k hv
    · rw [lbl_other hv] at hk
      exact ⟨(H.hB k hk).1, Nat.lt_of_lt_of_le (H.hB k hk).2 hR.away.size⟩
  · by_cases hv : v'.ownBlock = some k
    · have hlw : k < w.heap.size := Nat.lt_of_lt_of_le hl H.away.size
      exact H.sl k (by rcases hv' k hlw hv with h | h <;> omega) hl
    · rw [lbl_other hv] at hk
      exact H.sl k hk hl
  · rw [lbl_other hR.vg]; exact h2
/-- a new reader -/
theorem PaW.newFrame {w1 : World} {p' : PS} (H : PaW w0 S w B gp fl p gf sv rv) (hr : RdS w (fun _ => False) w1 w.heap.size w.heap.size (.slice none 0 0) (rcOf [])) (hp : p' = { p with ws := [] }) :
    PaS w0 S (w1.setCell ⟨gp, 8, none⟩ (.pointer (some ⟨w.heap.size, 0, none⟩))) B gp (upd fl w.heap.size 2) p' w.heap.size sv rv := by
  subst hp
  have hlt := H.lt
  have hb : Below w.heap.size w w1 := ⟨hr.away.os, hr.away.tape, hr.away.output, hr.away.size, fun k hk => hr.away.block k hk (fun h => h)⟩
  have hne : gp ≠ w.heap.size := by omega
  have hBw : B ≤ w.heap.size := by have := (H.hB gp (by rw [H.lab]; omega)).1; omega
  have hsz : w.heap.size < w1.heap.size := hr.lt
  have h1 : PaW w0 S w1 B gp (upd fl w.heap.size 2) p gf sv rv := by
    refine H.kept ((hb.block gp hlt).trans H.row) (H.away.later hb) (fun b hl _ _ => ⟨upd_ne _ _ _ _ (by omega), fun _ => hb.block b hl⟩) (fun k hk => ?_) (fun k hk hl => ?_) rfl rfl
    · by_cases e : k = w.heap.size
      · subst e; exact ⟨hBw, hsz⟩
      · rw [upd_ne _ _ _ _ e] at hk
        exact ⟨(H.hB k hk).1, Nat.lt_of_lt_of_le (H.hB k hk).2 hb.size⟩
    · by_cases e : k = w.heap.size
      · have := H.away.size; omega
      · rw [upd_ne _ _ _ _ e] at hk
        exact H.sl k hk hl
  refine ⟨h1.put (p' := { p with ws := [] }) (gf' := w.heap.size) 8 _ rfl rfl rfl, fun _ _ => ⟨.slice none 0 0, ⟨(Below.heap_setCell _ _ _ _ (fun e => hne e.symm)).trans hr.row, OwnB.nil _ _, hBw, Away.refl _ _, fun _ => .inl rfl, fun k e _ => .inr e⟩, upd_same _ _ _, fun k h => by simp [Value.ownBlock] at h⟩⟩
/-- another base -/
theorem PaS.rebase (H : PaS w0 S w B gp fl p gf sv rv) : PaS w (fun k => fl k ≠ 0) w B gp fl p gf sv rv :=
  ⟨⟨H.paw.row, H.paw.lab, H.paw.hB, fun k h _ => h, Away.refl _ _, H.paw.stk, H.paw.root⟩, H.rdr⟩
theorem PaS.join {fl' : Nat → Nat} {p' : PS} {gf' : Nat} {sv' rv' : Value} (H : PaS w0 S w B gp fl p gf sv rv) (H' : PaS w (fun k => fl k ≠ 0) w' B gp fl' p' gf' sv' rv') : PaS w0 S w' B gp fl' p' gf' sv' rv' :=
  ⟨⟨H'.paw.row, H'.paw.lab, H'.paw.hB, fun k h hl => H.paw.sl k (H'.paw.sl k h (Nat.lt_of_lt_of_le hl H.paw.away.size)) hl, H.paw.away.join H'.paw.away (fun k hl h => H.paw.sl k h hl), H'.paw.stk, H'.paw.root⟩, H'.rdr⟩
end
/-- bytes that lie in a block that the parser leaves alone -/
structure RdB (w0 : World) (S : Nat → Prop) (gb : Nat) (ps : List Nat) : Prop where
  lt : gb < w0.heap.size
  far : ¬ S gb
  cell : ∀ j, j < ps.length → w0.cell? ⟨gb, j, none⟩ = some (.int .u8 (ps.getD j 0 : Nat))
theorem RdB.at {w0 w : World} {S : Nat → Prop} {gb : Nat} {ps : List Nat} (h : RdB w0 S gb ps) (hf : Away w0 S w) (j : Nat) (hj : j < ps.length) : w.cell? ⟨gb, j, none⟩ = some (.int .u8 (ps.getD j 0 : Nat)) :=
  (World.cell?_of_block (hf.block gb h.lt h.far)).trans (h.cell j hj)
theorem drop_cons8 (ps : List Nat) (k : Nat) (h : k < ps.length) : ps.drop k = ps.getD k 0 :: ps.drop (k + 1) := by
  rw [List.drop_eq_getElem_cons h]
  congr 1
  simp [List.getD_eq_getElem?_getD, h]
theorem take_snoc8 (ps : List Nat) (k : Nat) (h : k < ps.length) : ps.take (k + 1) = ps.take k ++ [ps.getD k 0] := by
  rw [List.take_add_one]
  congr 1
  simp [List.getD_eq_getElem?_getD, h]
end Go.Proofs.YtlcppkcclolgcaaDoor

namespace Go.Proofs.YtlcppkcclolgcaaDoor
set_option linter.unusedVariables false
set_option linter.unusedSimpArgs false
open Go.RowKit

/-- how the loop leaves -/
theorem step_bad {q : PS} {c : Nat} {ps : List Nat} {k : Nat} (hk : k < ps.length) (hc : ps.getD k 0 = c) (h : (q.step c).code ≠ 0) : q.feed (ps.drop k) = q.step c := by
  rw [drop_cons8 ps k hk, feed_cons, hc, feed_stop (.inr h)]
theorem step_go {q : PS} {c : Nat} {ps : List Nat} {k : Nat} (hk : k < ps.length) (hc : ps.getD k 0 = c) : q.feed (ps.drop k) = (q.step c).feed (ps.drop (k + 1)) := by
  rw [drop_cons8 ps k hk, feed_cons, hc]
theorem step_whole {q : PS} {c : Nat} (hs : q.shut = false) (h0 : q.code = 0) (hw : q.x.whole = true) : q.step c = q.bad 5 q.at_ := by
  unfold PS.step
  rw [if_neg (by rintro (h | h); rw [hs] at h; cases h; exact h h0), if_pos hw]
  rfl
theorem step_big {q : PS} {c : Nat} (hs : q.shut = false) (h0 : q.code = 0) (hw : q.x.whole = false) (ha : q.at_ = 1048576) : q.step c = q.bad 2 q.at_ := by
  unfold PS.step
  rw [if_neg (by rintro (h | h); rw [hs] at h; cases h; exact h h0), if_neg (by rw [hw]; simp), if_pos ha]
  rfl
theorem step_fr {q : PS} {c : Nat} (hs : q.shut = false) (h0 : q.code = 0) (hw : q.x.whole = false) (ha : q.at_ ≠ 1048576) : q.step c = q.frR c (frStep q.ws c) := by
  unfold PS.step
  rw [if_neg (by rintro (h | h); rw [hs] at h; cases h; exact h h0), if_neg (by rw [hw]; simp), if_neg ha]
/-- 'b[i:i+1]' -/
theorem slice_one (gb n cap k : Nat) (h : k + 1 ≤ cap) (w : World) : (Instr.slice 38 (.slice (some ⟨gb, 0, none⟩) n cap) (some (.int .i64 (k : Int))) (some (.int .i64 ((k : Int) + 1))) none).run Tryd.prog w = .ok (.slice (some ⟨gb, k, none⟩) 1 (cap - k)) w := by
  have hu : Tryd.prog.underlying 38 = some (.slice (Tryd.prog.elem 38)) := by kernel_rfl
  rw [run_slice_lh w 38 (some ⟨gb, 0, none⟩) n cap hu .i64 .i64 (k : Int) ((k : Int) + 1) (by omega) (by omega) (by omega)]
  have hs : (sizeOf (Tryd.prog.elem 38)).run Tryd.prog w = .ok 1 w := by kernel_rfl
  rw [hs]
  have e1 : ((k : Int) + 1).toNat = k + 1 := by omega
  have e2 : (k : Int).toNat = k := by omega
  have hadd : (⟨gb, 0, none⟩ : Addr).add (k * 1) = ⟨gb, k, none⟩ := by rw [Nat.mul_one]; exact addr_add0 gb k
  simp only [Result.andThen_ok, sliced, e1, e2]
  rw [if_neg (by omega), show k + 1 - k = 1 by omega]
  simp only [Option.map_some, hadd]
theorem rd_moved {w0 w w' : World} {S : Nat → Prop} {B g : Nat} {v : Value} {c : RC} (H : RdS w0 S w B g v c) (hk : ∀ b, MineR g v b → w'.heap[b]? = w.heap[b]?) : RdS w' (MineR g v) w' B g v c := by
  refine ⟨(hk g (.inl rfl)).trans H.row, ?_, H.hB, Away.refl _ _, fun _ => .inl rfl, fun k e _ => .inr e⟩
  rcases H.own with h | ⟨g', cap, cur, fz, rfl, hb, hg, rest⟩
  · exact .inl h
  · exact .inr ⟨g', cap, cur, fz, rfl, hb, (hk g' (.inr rfl)).trans hg, rest⟩
set_option maxRecDepth 100000 in
set_option maxHeartbeats 8000000 in
theorem pfeed_any (w0 : World) (S : Nat → Prop) (B gp : Nat) (p : PS) (bs ps : List Nat) (gb cap : Nat) (w : World) (H : PaX w0 S w B gp p) (hi : PInv p bs) (hb : Bytes ps) (hrd : RdB w0 S gb ps) (hl : ps.length ≤ 1000000000) (hcap : ps.length ≤ cap) :
    Calls Tryd.prog 10 #[.pointer (some ⟨gp, 0, none⟩), .slice (some ⟨gb, 0, none⟩) ps.length cap] w fun e w' => e = .returned (.int .i64 (((p.feed ps).at_ : Nat) - (p.at_ : Nat) : Int)) ∧ PaX w0 S w' B gp (p.feed ps) := by
  obtain ⟨R, hR⟩ : ∃ R, p.feed ps = R := ⟨_, rfl⟩
  have hRi := feed_inv ps hi hb
  rw [hR] at hRi ⊢
  have hR0 : (0 : Int) ≤ R.at_ := by omega
  have hR1 : (R.at_ : Int) ≤ 1048576 := by have := hRi.most; omega
  have hp0 : (0 : Int) ≤ p.at_ := by omega
  have hp1 : (p.at_ : Int) ≤ 1048576 := by have := hi.most; omega
  obtain ⟨n, hn⟩ : ∃ n, ps.length = n := ⟨_, rfl⟩
  rw [hn] at hcap hl ⊢
  have c0 : w.cell? ⟨gp, 0, none⟩ = some (.int .i64 (p.at_ : Nat)) := by obtain ⟨fl, gf, sv, rv, h⟩ := H; exact h.paw.c0
  have hn0 : (0 : Int) ≤ n := by omega
  have hnI : (n : Int) ≤ cap := by omega
  have HR := Lib.hid hR
  have HH := Lib.hid H
  have HI := Lib.hid hi
  have HB := Lib.hid hb
  have HRD := Lib.hid hrd
  have HN := Lib.hid hn
  clear hR hRi H hi hb hrd hn
  go_enter Tryd.func10, Tryd.ntmps10
  go_wp2_with fail
  go_step3
  go_wp2_with fail
  go_step3
  go_wp2_with fail
  go_loopw [16] (fun x wr => ∃ (k : Nat) (q : PS), x = .int .i64 (k : Nat) ∧ PaX w0 S wr B gp q ∧ PInv q (bs ++ ps.take k) ∧ q.feed (ps.drop k) = R ∧ k ≤ n) (fun x _ => n - (intOf x).toNat)
  case atStart => exact ⟨0, p, rfl, HH.out, by simpa using HI.out, by simpa using HR.out, Nat.zero_le _⟩
  case round =>
    clear HH HI HR c0
    obtain ⟨k, q, rfl, ⟨fl, gf, sv, rv, hP⟩, hqi, hfe, hkn⟩ := hrel
    have hk0 : (0 : Int) ≤ k := by omega
    have c0 := hP.paw.c0
    have c1 := hP.paw.c1
    have c2 := hP.paw.c2
    have c4 := hP.paw.c4
    have c5 := hP.paw.c5
    have c6 := hP.paw.c6
    have c8 := hP.paw.c8
    rw [hqi.shut] at c4
    have ha0 : (0 : Int) ≤ q.at_ := by omega
    have ha1 : (q.at_ : Int) ≤ 1048576 := by have := hqi.most; omega
    have hs0 : (0 : Int) ≤ q.start := by omega
    have hs1 : (q.start : Int) ≤ 1048576 := by have := hqi.most; have := hqi.st; omega
    have HP := Lib.hid hP
    have HQI := Lib.hid hqi
    have HFE := Lib.hid hfe
    clear hP hqi hfe
    by_cases hlt : k < n
    · have hltI : (k : Int) < n := by omega
      have hlp : k < ps.length := by rw [HN.out]; exact hlt
      obtain ⟨c, hc⟩ : ∃ c, ps.getD k 0 = c := ⟨_, rfl⟩
      have hcb : c < 256 := by
        rw [← hc, List.getD_eq_getElem?_getD, List.getElem?_eq_getElem hlp]
        exact HB.out _ (List.getElem_mem _)
      have hnext := step_inv HQI.out hcb
      rw [List.append_assoc, ← hc, ← take_snoc8 ps k hlp, hc] at hnext
      have HLP := Lib.hid hlp
      have HC := Lib.hid hc
      have HCB := Lib.hid hcb
      have HNX := Lib.hid hnext
      clear hc hcb hnext hlp
      by_cases h0 : q.code = 0
      · rw [h0] at c2
        by_cases hw : q.x.whole = true
        · rw [hw] at c6
          have hst := step_whole (c := c) HQI.out.shut h0 hw
          obtain rfl : q.bad 5 q.at_ = R := by rw [← hst, ← HFE.out, step_bad HLP.out HC.out (by rw [hst]; show (5 : Int) ≠ 0; decide)]
          have HP2 := Lib.hid HP.out.paw
          clear HFE HNX hst hw h0 HP
          go_wp2_with (go_at_call 26; refine (pfail_any w0 S B gp fl q gf sv rv 5 q.at_ _ HP2.out).mono ?_; rintro e w3 ⟨rfl, hf⟩; have d0 : w3.cell? ⟨gp, 0, none⟩ = some (.int .i64 (q.at_ : Nat)) := hf.c0; have HF := Lib.hid hf; clear hf)
          try rw [Exit.noGoto_ret]
          go_ret
          exact ⟨rfl, _, _, _, _, PaS.of_bad HF.out (by show (5 : Int) ≠ 0; decide)⟩
        · have hw' : q.x.whole = false := by simpa using hw
          rw [hw'] at c6
          by_cases ha : q.at_ = 1048576
          · have haI : ((q.at_ : Int) == 1048576) = true := by simp; omega
            have hst := step_big (c := c) HQI.out.shut h0 hw' ha
            obtain rfl : q.bad 2 q.at_ = R := by rw [← hst, ← HFE.out, step_bad HLP.out HC.out (by rw [hst]; show (2 : Int) ≠ 0; decide)]
            have HP2 := Lib.hid HP.out.paw
            clear HFE HNX hst hw hw' h0 HP ha
            go_wp2_with (go_at_call 26; refine (pfail_any w0 S B gp fl q gf sv rv 2 q.at_ _ HP2.out).mono ?_; rintro e w3 ⟨rfl, hf⟩; have d0 : w3.cell? ⟨gp, 0, none⟩ = some (.int .i64 (q.at_ : Nat)) := hf.c0; have HF := Lib.hid hf; clear hf)
            try rw [Exit.noGoto_ret]
            go_ret
            exact ⟨rfl, _, _, _, _, PaS.of_bad HF.out (by show (2 : Int) ≠ 0; decide)⟩
          · have haI : ((q.at_ : Int) == 1048576) = false := by simp; omega
            have hst := step_fr (c := c) HQI.out.shut h0 hw' ha
            obtain ⟨ws, hinv, -, hpre, -⟩ := HQI.out.good h0
            have hpl := hinv.place hw'
            have hfs := feedB_step hpre HCB.out
            obtain ⟨v, hrd, hf2, hf3⟩ := HP.out.rdr h0 hw'
            have hcell := HRD.out.at HP.out.paw.away k HLP.out
            rw [HC.out] at hcell
            have hdr : Below wr.heap.size wr wr.drew := (Below.refl _ _).drew
            have CF := rfeed_any wr.drew (MineR gf v) B gf c gb k (cap - k) v (rcOf q.ws) wr.drew (hrd.later hdr).rebase HCB.out (rc_fine hpre) hcell
            have HD := Lib.hid (HP.out.later hdr)
            have CF := Lib.hid CF
            have HPL := Lib.hid hpl
            have HPRE := Lib.hid hpre
            have HF2 := Lib.hid hf2
            have HF3 := Lib.hid hf3
            have HST := Lib.hid hst
            have HFS := Lib.hid hfs
            have H0 := Lib.hid h0
            have HW := Lib.hid hw'
            have hlen : ps.length = n := HN.out
            have hkc : k + 1 ≤ cap := by omega
            have hsl := slice_one gb n cap k hkc
            have hwk : IntKind.i64.wrap ((k : Int) + 1) = (k : Int) + 1 := IntWalk.i64_in _ (by omega)
            clear hst hinv hpre hpl hfs hrd hf2 hf3 hcell hdr h0 hw hw' ha HP hlen
            go_upto_region 11 with fail
            go_still_tail 9, (by kernel_rfl)
            change wpList _ _ _ _ _ wr.drew
            generalize wr.drew = w6 at *
            clear c0 c1 c2 c4 c5 c6 c8 hsl hwk
            have hst := HST.out
            have hfs := HFS.out
            cases e : frStep q.ws c with
            | cont =>
              rw [e] at hst hfs
              have hfs : (rcOf q.ws).feedB c = (rcOf (q.ws ++ [c]), true, none) := hfs
              have hcf := CF.out
              rw [hfs] at hcf
              have KF := Lib.hid hcf
              have HSTP : Hid (q.step c = { q with at_ := q.at_ + 1, ws := q.ws ++ [c] }) := Lib.hid hst
              clear hfs hcf hst e CF HFS HST
              go_upto_region 16 with (first | (go_at_call 27; refine KF.out.mono ?_; rintro e w7 ⟨x, rfl, hx, v7, h7⟩; obtain rfl : x = .slice none 0 0 := hx; have hfd := PaS.fed HD.out.paw HF2.out HF3.out h7; have c87 := hfd.1.c8; have r1 : w7.cell? ⟨gf, 1, none⟩ = some (.int .i64 0) := h7.c1; have r2 : w7.cell? ⟨gf, 2, none⟩ = some (.int .i64 0) := h7.c2; have HFD := Lib.hid hfd; have H7 := Lib.hid h7; clear hfd h7) | (go_at_call 28; refine (rfault_any gf _ _ _ r1 r2).mono ?_; rintro e w8 ⟨rfl, hb8⟩; have HB8 := Lib.hid hb8; clear hb8))
              have hp8 := (HFD.out.1.later HB8.out).later ((Below.refl w8.heap.size w8).alloc (Nat.le_refl _) (.cells #[.int .i64 0, .int .i64 0] 42))
              have hr8 := (H7.out.later HB8.out).later ((Below.refl w8.heap.size w8).alloc (Nat.le_refl _) (.cells #[.int .i64 0, .int .i64 0] 42))
              generalize w8.alloc (.cells #[.int .i64 0, .int .i64 0] 42) = w9 at *
              have c0 := hp8.c0
              have f0 := hp8.free 0
              have hput := hp8.put (p' := { q with at_ := q.at_ + 1, ws := q.ws ++ [c] }) 0 (.int .i64 ((q.at_ + 1 : Nat) : Int)) rfl rfl rfl
              rw [Int.natCast_add] at hput
              have hne : ∀ b, MineR gf v7 b → b ≠ gp := fun b hb e => by
                have h1 := HFD.out.1.lab
                rcases hb with rfl | hb
                · have h2 := HFD.out.2.1; rw [e] at h2; omega
                · have h2 := HFD.out.2.2 b hb; rw [e] at h2; omega
              have hrd' := rd_moved (w' := w9.setCell ⟨gp, 0, none⟩ (.int .i64 ((q.at_ : Int) + 1))) hr8 (fun b hb => Below.heap_setCell _ _ _ _ (hne b hb))
              have HPUT : Hid (PaX w0 S (w9.setCell ⟨gp, 0, none⟩ (.int .i64 ((q.at_ : Int) + 1))) B gp { q with at_ := q.at_ + 1, ws := q.ws ++ [c] }) := Lib.hid ⟨_, _, _, _, hput, fun _ _ => ⟨v7, hrd', HFD.out.2.1, HFD.out.2.2⟩⟩
              clear hp8 hr8 hput hrd' hne
              go_wp2_with fail
              go_roundw
              case rel =>
                refine ⟨k + 1, { q with at_ := q.at_ + 1, ws := q.ws ++ [c] }, by go_num, HPUT.out, ?_, ?_, by omega⟩
                · have h := HNX.out; rw [HSTP.out] at h; exact h
                · have h := step_go HLP.out HC.out (q := q); rw [HSTP.out, HFE.out] at h; exact h.symm
              case measure => simp [intOf]; omega
            | bad qc off =>
              have hqc := frStep_bad e
              rw [e] at hst hfs
              obtain ⟨c', hfb, hc1, hc2⟩ : ∃ c', (rcOf q.ws).feedB c = (c', false, none) ∧ c'.code = qc ∧ c'.fat = off := hfs
              have hcf := CF.out
              rw [hfb] at hcf
              have KF := Lib.hid hcf
              have hst : q.step c = q.bad qc (q.start + off) := hst
              have hqn : qc ≠ 0 := by omega
              have hqI : (qc != 0) = true := by simpa using hqn
              obtain rfl : q.bad qc (q.start + off) = R := by rw [← hst, ← HFE.out, step_bad HLP.out HC.out (by rw [hst]; exact hqn)]
              have hol := HPRE.out.len
              have ho1 : (off : Int) ≤ 1048600 := by omega
              have ho0 : (0 : Int) ≤ off := by omega
              have hwo : IntKind.i64.wrap ((q.start : Int) + off) = (q.start : Int) + off := IntWalk.i64_in _ (by omega)
              have HC1 := Lib.hid hc1
              have HC2 := Lib.hid hc2
              have HQN := Lib.hid hqn
              clear hfb hcf hst e CF HFS HST hc1 hc2 hol hqc hqn HFE HNX
              go_upto_region 14 with (first | (go_at_call 27; refine KF.out.mono ?_; rintro e w7 ⟨x, rfl, hx, v7, h7⟩; obtain rfl : x = .slice none 0 0 := hx; have hfd := PaS.fed HD.out.paw HF2.out HF3.out h7; have c87 := hfd.1.c8; have r1 : w7.cell? ⟨gf, 1, none⟩ = some (.int .i64 qc) := h7.c1.trans (by rw [HC1.out]); have r2 : w7.cell? ⟨gf, 2, none⟩ = some (.int .i64 (off : Int)) := h7.c2.trans (by rw [HC2.out]); have HFD := Lib.hid hfd; have H7 := Lib.hid h7; clear hfd h7) | (go_at_call 28; refine (rfault_any gf _ _ _ r1 r2).mono ?_; rintro e w8 ⟨rfl, hb8⟩; have HB8 := Lib.hid hb8; clear hb8))
              have hp8 := (HFD.out.1.later HB8.out).later ((Below.refl w8.heap.size w8).alloc (Nat.le_refl _) (.cells #[.int .i64 qc, .int .i64 (off : Int)] 42))
              have hbx := heap_alloc_new w8 (.cells #[.int .i64 qc, .int .i64 (off : Int)] 42)
              generalize hm : w8.heap.size = m at *
              generalize w8.alloc (.cells #[.int .i64 qc, .int .i64 (off : Int)] 42) = w9 at *
              have c1 := hp8.c1
              have b0 : w9.cell? ⟨m, 0, none⟩ = some (.int .i64 qc) := cell_of_row w9 m 0 _ _ _ hbx
              have b1 : w9.cell? ⟨m, 1, none⟩ = some (.int .i64 (off : Int)) := cell_of_row w9 m 1 _ _ _ hbx
              have HP9 := Lib.hid (hp8.later (Below.refl w9.heap.size w9).drew)
              have hcall := fun wq (h : PaW w0 S wq B gp (lbl fl v7 3) q gf sv rv) => pfail_any w0 S B gp _ q gf sv rv qc (q.start + off) wq h
              simp only [Int.natCast_add] at hcall
              have HCALL := Lib.hid hcall
              clear hp8 hbx hm hcall
              go_still_tail 11, (by kernel_rfl)
              change wpList _ _ _ _ _ w9.drew
              generalize w9.drew = w10 at *
              clear c1 b0 b1 hwo
              go_wp2_with (go_at_call 26; refine (HCALL.out _ HP9.out).mono ?_; rintro e w3 ⟨rfl, hf⟩; have d0 : w3.cell? ⟨gp, 0, none⟩ = some (.int .i64 (q.at_ : Nat)) := hf.c0; have HF := Lib.hid hf; clear hf)
              try rw [Exit.noGoto_ret]
              go_ret
              exact ⟨rfl, _, _, _, _, PaS.of_bad HF.out HQN.out⟩
            | whole s =>
              have hsz := (HPRE.out.whole HCB.out e).2
              rw [e] at hst hfs
              obtain ⟨c', hfb, hc1, hc2⟩ : ∃ c', (rcOf q.ws).feedB c = (c', true, some s) ∧ c'.code = 0 ∧ c'.fat = 0 := hfs
              have hcf := CF.out
              rw [hfb] at hcf
              have KF := Lib.hid hcf
              have hst : q.step c = q.wordR (q.x.word s) := hst
              have KW := Lib.hid (fun wq fl gf sv rv (h : PaW w0 S wq B gp fl q gf sv rv) => word_any w0 S B gp fl q gf sv rv s wq h hsz HQI.out.dep (fun l hl => by have h1 := HQI.out.cnt l hl; have h2 := HQI.out.st; have h3 := HQI.out.most; omega) HPL.out)
              have HC1 := Lib.hid hc1
              have HC2 := Lib.hid hc2
              have HSTP := Lib.hid hst
              clear hfb hcf hst e CF HFS HST hc1 hc2 hsz
              cases hwd : q.x.word s with
              | error qe =>
                have hqe := word_err hwd
                have hst : q.step c = q.bad qe q.start := by rw [HSTP.out, hwd]; rfl
                rw [hwd] at KW
                obtain rfl : q.bad qe q.start = R := by rw [← hst, ← HFE.out, step_bad HLP.out HC.out (by rw [hst]; exact hqe)]
                have HQE := Lib.hid hqe
                clear hwd hst hqe HSTP HFE HNX
                go_upto_region 15 with (first | (go_at_call 27; refine KF.out.mono ?_; rintro e w7 ⟨x, rfl, hx, v7, h7⟩; obtain ⟨ki, kc, hxe, hxb, hxc⟩ : ∃ k cap, x = .slice (some ⟨k, 0, none⟩) 1 cap ∧ B ≤ k ∧ w7.cell? ⟨k, 2, none⟩ = some (.string s) := hx; subst hxe; have hfd := PaS.fed HD.out.paw HF2.out HF3.out h7; have c87 := hfd.1.c8; have r1 : w7.cell? ⟨gf, 1, none⟩ = some (.int .i64 0) := h7.c1.trans (by rw [HC1.out]); have r2 : w7.cell? ⟨gf, 2, none⟩ = some (.int .i64 0) := h7.c2.trans (by rw [HC2.out]; rfl); have HFD := Lib.hid hfd; have H7 := Lib.hid h7; clear hfd h7) | (go_at_call 28; refine (rfault_any gf _ _ _ r1 r2).mono ?_; rintro e w8 ⟨rfl, hb8⟩; have HB8 := Lib.hid hb8; clear hb8))
                have hp8 := (HFD.out.1.later HB8.out).later ((Below.refl w8.heap.size w8).alloc (Nat.le_refl _) (.cells #[.int .i64 0, .int .i64 0] 42))
                have hx8 : w8.cell? ⟨ki, 2, none⟩ = some (.string s) := (HB8.out.cell (p := ⟨ki, 2, none⟩) (block_lt_of_cell hxc)).trans hxc
                have hx9 := cell_past hx8 (.cells #[.int .i64 0, .int .i64 0] 42)
                have hbx := heap_alloc_new w8 (.cells #[.int .i64 0, .int .i64 0] 42)
                generalize hm : w8.heap.size = m at *
                generalize w8.alloc (.cells #[.int .i64 0, .int .i64 0] 42) = w9 at *
                have b0 : w9.cell? ⟨m, 0, none⟩ = some (.int .i64 0) := cell_of_row w9 m 0 _ _ _ hbx
                have HW9 := Lib.hid (KW.out _ _ _ _ _ hp8)
                clear hp8 hx8 hbx hm hxc
                go_wp2_with (go_at_call 29; refine HW9.out.mono ?_; rintro e w3 ⟨rfl, fl', sv', rv', hf⟩; have d0 : w3.cell? ⟨gp, 0, none⟩ = some (.int .i64 (q.at_ : Nat)) := hf.c0; have HF := Lib.hid hf; clear hf)
                try rw [Exit.noGoto_ret]
                go_ret
                exact ⟨rfl, _, _, _, _, PaS.of_bad HF.out HQE.out⟩
              | ok y =>
                have hst : q.step c = { q with at_ := q.at_ + 1, start := q.at_ + 1, ws := [], x := y } := by rw [HSTP.out, hwd]; rfl
                rw [hwd] at KW
                have HST2 := Lib.hid hst
                clear hwd hst HSTP
                go_upto_region 15 with (first | (go_at_call 27; refine KF.out.mono ?_; rintro e w7 ⟨x, rfl, hx, v7, h7⟩; obtain ⟨ki, kc, hxe, hxb, hxc⟩ : ∃ k cap, x = .slice (some ⟨k, 0, none⟩) 1 cap ∧ B ≤ k ∧ w7.cell? ⟨k, 2, none⟩ = some (.string s) := hx; subst hxe; have hfd := PaS.fed HD.out.paw HF2.out HF3.out h7; have c87 := hfd.1.c8; have r1 : w7.cell? ⟨gf, 1, none⟩ = some (.int .i64 0) := h7.c1.trans (by rw [HC1.out]); have r2 : w7.cell? ⟨gf, 2, none⟩ = some (.int .i64 0) := h7.c2.trans (by rw [HC2.out]; rfl); have HFD := Lib.hid hfd; have H7 := Lib.hid h7; clear hfd h7) | (go_at_call 28; refine (rfault_any gf _ _ _ r1 r2).mono ?_; rintro e w8 ⟨rfl, hb8⟩; have HB8 := Lib.hid hb8; clear hb8))
                have hp8 := (HFD.out.1.later HB8.out).later ((Below.refl w8.heap.size w8).alloc (Nat.le_refl _) (.cells #[.int .i64 0, .int .i64 0] 42))
                have hx8 : w8.cell? ⟨ki, 2, none⟩ = some (.string s) := (HB8.out.cell (p := ⟨ki, 2, none⟩) (block_lt_of_cell hxc)).trans hxc
                have hx9 := cell_past hx8 (.cells #[.int .i64 0, .int .i64 0] 42)
                have hbx := heap_alloc_new w8 (.cells #[.int .i64 0, .int .i64 0] 42)
                generalize hm : w8.heap.size = m at *
                generalize w8.alloc (.cells #[.int .i64 0, .int .i64 0] 42) = w9 at *
                have b0 : w9.cell? ⟨m, 0, none⟩ = some (.int .i64 0) := cell_of_row w9 m 0 _ _ _ hbx
                have HW9 := Lib.hid (KW.out _ _ _ _ _ hp8)
                clear hp8 hx8 hbx hm hxc
                go_upto_region 16 with (go_at_call 29; refine HW9.out.mono ?_; rintro e w3 ⟨rfl, fl', sv', rv', hf⟩; have HF := Lib.hid hf; clear hf)
                have d0 : w3.cell? ⟨gp, 0, none⟩ = some (.int .i64 (q.at_ : Nat)) := HF.out.c0
                have g0 := HF.out.free 0
                have hput := HF.out.put (p' := { q with at_ := q.at_ + 1, x := y }) 0 (.int .i64 ((q.at_ + 1 : Nat) : Int)) rfl rfl rfl
                rw [Int.natCast_add] at hput
                have HPUT := Lib.hid hput
                clear hput b0 hx9
                go_upto_region 18 with fail
                generalize w3.setCell ⟨gp, 0, none⟩ (.int .i64 ((q.at_ : Int) + 1)) = w4 at *
                clear d0 g0
                have d0 : w4.cell? ⟨gp, 0, none⟩ = some (.int .i64 ((q.at_ : Int) + 1)) := HPUT.out.c0.trans (by simp only [Int.natCast_add]; rfl)
                have d1 := HPUT.out.c1
                have g1 := HPUT.out.free 1
                have hput := HPUT.out.put (p' := { q with at_ := q.at_ + 1, start := q.at_ + 1, x := y }) 1 (.int .i64 ((q.at_ + 1 : Nat) : Int)) rfl rfl rfl
                rw [Int.natCast_add] at hput
                have HPUT2 := Lib.hid hput
                clear hput
                go_upto_region 19 with fail
                generalize w4.setCell ⟨gp, 1, none⟩ (.int .i64 ((q.at_ : Int) + 1)) = w5 at *
                clear d0 d1 g1
                have HNR := Lib.hid (newr_any w5)
                go_wp2_with (go_at_call 24; refine HNR.out.mono ?_; rintro e w6' ⟨rfl, hr6⟩; have hb6 : Below w5.heap.size w5 w6' := ⟨hr6.away.os, hr6.away.tape, hr6.away.output, hr6.away.size, fun k hk => hr6.away.block k hk (fun h => h)⟩; have d8 : w6'.cell? ⟨gp, 8, none⟩ = some (.pointer (some ⟨gf, 0, none⟩)) := (HPUT2.out.later hb6).c8; have g8 := (HPUT2.out.later hb6).free 8; have HNF := Lib.hid (HPUT2.out.newFrame (p' := { q with at_ := q.at_ + 1, start := q.at_ + 1, ws := [], x := y }) hr6 rfl); clear hr6 hb6)
                go_roundw
                case rel =>
                  refine ⟨k + 1, { q with at_ := q.at_ + 1, start := q.at_ + 1, ws := [], x := y }, by go_num, ⟨_, _, _, _, HNF.out⟩, ?_, ?_, by omega⟩
                  · have h := HNX.out; rw [HST2.out] at h; exact h
                  · have h := step_go HLP.out HC.out (q := q); rw [HST2.out, HFE.out] at h; exact h.symm
                case measure => simp [intOf]; omega
      · have h0I : (q.code != 0) = true := by simpa using h0
        obtain rfl : q = R := by rw [← HFE.out, feed_stop (.inr h0)]
        clear HFE h0
        go_wp2_with fail
        try rw [Exit.noGoto_ret]
        go_ret
        exact ⟨rfl, _, _, _, _, HP.out⟩
    · have hltI : ¬ (k : Int) < n := by omega
      have hkk : ps.drop k = [] := List.drop_eq_nil_of_le (by rw [HN.out]; omega)
      obtain rfl : q = R := by rw [← HFE.out, hkk]; rfl
      clear HFE hkk
      go_wp2_with fail
      try rw [Exit.noGoto_ret]
      go_ret
      exact ⟨rfl, _, _, _, _, HP.out⟩
end Go.Proofs.YtlcppkcclolgcaaDoor

namespace Go.Proofs.YtlcppkcclolgcaaDoor
set_option linter.unusedVariables false
set_option linter.unusedSimpArgs false
open Go.RowKit

set_option maxRecDepth 100000 in
set_option maxHeartbeats 2000000 in
theorem newp_any (w : World) :
    Calls Tryd.prog 7 #[] w fun e w' => ∃ gp, e = .returned (.pointer (some ⟨gp, 0, none⟩)) ∧ PaX w (fun _ => False) w' w.heap.size gp PS.new := by
  have CN := Lib.hid (newr_any w)
  go_enter Tryd.func7, Tryd.ntmps7
  go_wp2_with (go_at_call 24; refine CN.out.mono ?_; rintro e w1 ⟨rfl, h1⟩; have H1 := Lib.hid h1; clear h1)
  go_ret
  have hr := H1.out
  have hb : Below w.heap.size w w1 := ⟨hr.away.os, hr.away.tape, hr.away.output, hr.away.size, fun k hk => hr.away.block k hk (fun h => h)⟩
  have hlt := hr.lt
  have hne : w1.heap.size ≠ w.heap.size := by omega
  have hal : Below w1.heap.size w1 (w1.alloc (.cells (pcells PS.new w.heap.size (.slice none 0 0) (.slice none 0 0)) 57)) := (Below.refl _ _).alloc (Nat.le_refl _) _
  refine ⟨w1.heap.size, rfl, upd (upd (fun _ => 0) w.heap.size 2) w1.heap.size 1, w.heap.size, .slice none 0 0, .slice none 0 0, ⟨heap_alloc_new w1 _, upd_same _ _ _, fun k h => ?_, fun k h hl => ?_, Away.of_below (hb.trans (hal.mono hb.size)), ⟨[], World.ownsRow_nil _ _ _ _, rfl, fun k h => by simp [Value.ownBlock] at h⟩, none, 0, rfl, .inl rfl⟩, fun _ _ => ⟨.slice none 0 0, (hr.later hal).rebase, ?_, fun k h => by simp [Value.ownBlock] at h⟩⟩
  · by_cases e : k = w1.heap.size
    · subst e; exact ⟨hb.size, by simp⟩
    · rw [upd_ne _ _ _ _ e] at h
      by_cases e2 : k = w.heap.size
      · subst e2; exact ⟨Nat.le_refl _, by simp; omega⟩
      · rw [upd_ne _ _ _ _ e2] at h; exact absurd rfl h
  · by_cases e : k = w1.heap.size
    · omega
    · rw [upd_ne _ _ _ _ e] at h
      by_cases e2 : k = w.heap.size
      · omega
      · rw [upd_ne _ _ _ _ e2] at h; exact absurd rfl h
  · rw [upd_ne _ _ _ _ (fun e => hne e.symm)]
    exact upd_same _ _ _
def zcells : Array Value := #[.string ⟨#[]⟩, .int .i64 0, .bool false, .string ⟨#[]⟩, .slice none 0 0]
theorem make_kids (n : Nat) (hn : n ≤ 1048576) (W : World) : (Instr.makeSlice 23 (.int .i64 0) (.int .i64 (n : Int))).run Tryd.prog W = .ok (.slice (some ⟨W.heap.size, 0, none⟩) 0 n) (W.alloc (.cells (madeCells zcells (n * 5)) 95)) := by
  obtain ⟨i0, hi0, hz0, hz1, hz2⟩ := info_parts (show (Tryd.prog.info? 95).map (fun i => (i.zero, i.size, i.bytes)) = some (some (.agg #[.string ⟨#[]⟩, .int .i64 0, .bool false, .string ⟨#[]⟩, .slice none 0 0]), 5, 72) by kernel_rfl)
  have h := run_make (P := Tryd.prog) W 23 95 i0 _ Tryd.underlying23 hi0 hz0 .i64 .i64 0 (n : Int) (by omega) (by omega) (by rw [hz2]; omega) (by omega)
  rw [hz1] at h
  have e : (n : Int).toNat = n := by omega
  rw [e] at h
  exact h
/-- a copy on its way -/
structure CpS (w : World) (wr : World) (v : Value) (n : ND) (T : Nat → Prop) (ks : List Value) : Prop where
  own : wr.ownsRow w.heap.size 95 5 v n.cnt ks
  kc : n.KC T wr ks
  sep : ∀ b, v.ownBlock = some b → ¬ T b
  lt : ∀ b, T b → w.heap.size ≤ b ∧ b < wr.heap.size
  bel : Below w.heap.size w wr
def CopyOk (n : ND) : Prop := ∀ (a : Option Addr) (cap : Nat) (w : World), n.In w.heap.size w a → n.small 1048576 →
  Calls Tryd.prog 31 #[n.val a cap] w fun e w' => ∃ a' cap', e = .returned (n.val a' cap') ∧ n.InS (fun b => w.heap.size ≤ b) w' a' ∧ Below w.heap.size w w'
theorem CpS.done {w wr : World} {v : Value} {n : ND} {T : Nat → Prop} {ks : List Value} (H : CpS w wr v n T ks) : ∃ a c, v = .slice a n.cnt c ∧ n.InS (fun b => w.heap.size ≤ b) wr a :=
  kids_in H.own (H.kc.kept (fun b hb h => ⟨rfl, (H.lt b h).1⟩)) (fun b hb => (H.own.lt b hb).1)
theorem CpS.later {w wr w' : World} {v : Value} {n : ND} {T : Nat → Prop} {ks : List Value} (H : CpS w wr v n T ks) (hb : Below wr.heap.size wr w') : CpS w w' v n T ks :=
  ⟨owns_kept H.own (fun b hl _ => hb.block b hl), H.kc.kept (fun b hl h => ⟨hb.block b hl, h⟩), H.sep, fun b h => ⟨(H.lt b h).1, Nat.lt_of_lt_of_le (H.lt b h).2 hb.size⟩, H.bel.trans (hb.mono H.bel.size)⟩
/-- a kid more: its copy lies in new memory, then it is put behind -/
theorem CpS.add {w wr w1 w2 w3 : World} {v v' : Value} {p c : ND} {s : ByteArray} {T : Nat → Prop} {ks : List Value} {a : Option Addr} {cp : Nat} (H : CpS w wr v p T ks) (hb : Below wr.heap.size wr w1) (hin : c.InS (fun b => wr.heap.size ≤ b) w1 a)
    (hb2 : Below w1.heap.size w1 w2) (ho : w3.ownsRow w.heap.size 95 5 v' (p.cnt + 1) (ks ++ [.string s, .int .i64 c.kind, .bool c.exec, .string c.text, .slice a c.cnt cp])) (hg : w2.grownBy w3 v.ownBlock) (hat : v'.ownBlock = v.ownBlock ∨ v'.ownBlock = some w2.heap.size) :
    CpS w w3 v' (.add p s c) (fun b => T b ∨ (wr.heap.size ≤ b ∧ b < w1.heap.size)) (ks ++ [.string s, .int .i64 c.kind, .bool c.exec, .string c.text, .slice a c.cnt cp]) := by
  have hz := hb.size
  have hz2 := hb2.size
  have hz3 := hg.size
  have hzw := H.bel.size
  have hvl : ∀ b, v.ownBlock = some b → b < wr.heap.size := fun b h => (H.own.lt b h).2
  have hk3 : ∀ b, b < w2.heap.size → v.ownBlock ≠ some b → w3.heap[b]? = w2.heap[b]? := fun b hb' hv => hg.block b hb' (fun e => hv e.symm)
  refine ⟨ho, ⟨ks, a, cp, rfl, ?_, ?_⟩, fun b hv => ?_, fun b h => ?_, ?_⟩
  · exact H.kc.kept (fun b hb' h => ⟨(hk3 b (by omega) (fun e => H.sep b e h)).trans ((hb2.block b (by omega)).trans (hb.block b hb')), .inl h⟩)
  · exact hin.kept (fun b hb' h => ⟨(hk3 b (by omega) (fun e => by have := hvl b e; omega)).trans (hb2.block b hb'), .inr ⟨h, hb'⟩⟩)
  · rintro (h | ⟨h1, h2⟩)
    · rcases hat with h' | h'
      · exact H.sep b (by rw [← h', hv]) h
      · rw [hv] at h'; injection h' with h'; have := (H.lt b h).2; omega
    · rcases hat with h' | h'
      · have := hvl b (by rw [← h', hv]); omega
      · rw [hv] at h'; injection h' with h'; omega
  · rcases h with h | ⟨h1, h2⟩
    · have := H.lt b h; omega
    · omega
  · have hb4 : Below w.heap.size w w2 := (H.bel.trans (hb.mono hzw)).trans (hb2.mono (by omega))
    exact ⟨hg.os.trans hb4.os, hg.tape.trans hb4.tape, hg.output.trans hb4.output, Nat.le_trans hb4.size hz3, fun i hi => (hk3 i (by omega) (fun e => by have := (H.own.lt i e).1; omega)).trans (hb4.block i hi)⟩
end Go.Proofs.YtlcppkcclolgcaaDoor

namespace Go.Proofs.YtlcppkcclolgcaaDoor
set_option linter.unusedVariables false
set_option linter.unusedSimpArgs false
open Go.RowKit

theorem ent_one (s : ByteArray) (k : Int) (x : Bool) (t : ByteArray) (a : Option Addr) (n c : Nat) : ∀ u ∈ [Value.string s, .int .i64 k, .bool x, .string t, .slice a n c], u.oneCell' = true := by
  intro u hu
  simp only [List.mem_cons, List.not_mem_nil, or_false] at hu
  rcases hu with rfl | rfl | rfl | rfl | rfl <;> rfl
def CopyP (w : World) (n : ND) (kd : Int) (ex : Bool) (tx : ByteArray) (e : Ending) (w' : World) : Prop := ∃ a' cap', e = .returned (.agg #[.int .i64 kd, .bool ex, .string tx, .slice a' n.cnt cap']) ∧ n.InS (fun b => w.heap.size ≤ b) w' a' ∧ Below w.heap.size w w'
set_option maxRecDepth 100000 in
set_option maxHeartbeats 8000000 in
theorem copy_node (n : ND) (kd : Int) (ex : Bool) (tx : ByteArray) (a : Option Addr) (len cap : Nat) (w : World) (hlen : len = n.cnt) (hin : n.In w.heap.size w a) (hsm : n.small 1048576) (hct : n.cnt ≤ 1048576) (ih : ∀ c : ND, c.sz < n.sz → CopyOk c) :
    Calls Tryd.prog 31 #[.agg #[.int .i64 kd, .bool ex, .string tx, .slice a len cap]] w fun e w' => CopyP w n kd ex tx e w' := by
  obtain ⟨W2, hW2⟩ : ∃ W2, W2 = (w.alloc (.cells #[.int .i64 kd, .bool ex, .string tx, .slice a len cap] 25)).alloc (.cells #[.int .i64 0, .bool false, .string ⟨#[]⟩, .slice none 0 0] 25) := ⟨_, rfl⟩
  have hz2 : W2.heap.size = w.heap.size + 2 := by rw [hW2]; simp
  have hb2 : Below w.heap.size w W2 := by rw [hW2]; exact ((Below.refl _ _).alloc (Nat.le_refl _) _).alloc (by simp) _
  have hr1 : W2.heap[w.heap.size]? = some (.cells #[.int .i64 kd, .bool ex, .string tx, .slice a len cap] 25 (0, 0)) := by rw [hW2]; exact row_past (heap_alloc_new w _) _
  have hr2 : W2.heap[w.heap.size + 1]? = some (.cells #[.int .i64 0, .bool false, .string ⟨#[]⟩, .slice none 0 0] 25 (0, 0)) := by rw [hW2]; exact alloc_new2 w _ _ _
  have hmk := fun W => make_kids len (by omega) W
  have hl0 : (0 : Int) ≤ len := by omega
  have hl1 : (len : Int) ≤ 1048576 := by omega
  have hpre0 : (n.pre 0).cnt = 0 := n.pre_cnt 0 (by omega)
  have hmade : CpS W2 (W2.alloc (.cells (madeCells zcells (len * 5)) 95)) (.slice (some ⟨W2.heap.size, 0, none⟩) 0 len) (n.pre 0) (fun _ => False) [] := by
    refine ⟨?_, ?_, fun b _ h => h, fun b h => h.elim, (Below.refl _ _).alloc (Nat.le_refl _) _⟩
    · rw [hpre0]
      exact World.ownsRow_made _ _ _ (Nat.le_refl _) (by unfold maxLen; omega) (size_madeCells _ _)
    · have : ∀ m : ND, m.cnt = 0 → m.KC (fun _ => False) (W2.alloc (.cells (madeCells zcells (len * 5)) 95)) [] := fun m h => by rw [leaf_of h]; rfl
      exact this _ hpre0
  have HL := Lib.hid hlen
  have HSM := Lib.hid hsm
  have HIN := Lib.hid hin
  have HI := Lib.hid ih
  have HW2 := Lib.hid hW2
  have HZ2 := Lib.hid hz2
  have HB2 := Lib.hid hb2
  have HR1 := Lib.hid hr1
  have HR2 := Lib.hid hr2
  have HM := Lib.hid hmade
  have HMK := Lib.hid hmk
  have HCT := Lib.hid hct
  clear hlen hsm hin ih hW2 hz2 hb2 hr1 hr2 hmade hmk hpre0 hct
  go_enter Tryd.func31, Tryd.ntmps31
  go_upto_region 1 with fail
  rw [← HW2.out]
  have b3 := cell_of_row W2 w.heap.size 3 _ _ _ HR1.out
  have hmk := HMK.out W2
  generalize hm : w.heap.size = m at *
  have HM0 := Lib.hid hm
  clear hm
  go_upto_region 2 with fail
  generalize hW3 : W2.alloc (.cells (madeCells zcells (len * 5)) 95) = W3 at *
  generalize hq : W2.heap.size = q at *
  have HQ2 := Lib.hid hq
  clear hW3 hmk b3 hq
  have hrow3 := fun (wr : World) (h : Below W2.heap.size W2 wr) => (h.block m (by rw [HQ2.out, HZ2.out]; omega)).trans HR1.out
  have HROW := Lib.hid hrow3
  have b3 := cell_of_row W3 m 3 _ _ _ (hrow3 W3 HM.out.bel)
  clear hrow3
  go_wp2_with fail
  go_loopw [3, 13] (fun x3 x13 wr => ∃ (i : Nat) (T : Nat → Prop) (ks : List Value), x13 = .int .i64 (i : Int) ∧ i ≤ len ∧ CpS W2 wr x3 (n.pre i) T ks) (fun _ x13 _ => len - (intOf x13).toNat)
  case atStart => exact ⟨0, _, _, rfl, Nat.zero_le _, HM.out⟩
  case round =>
    obtain ⟨i, T, ks, rfl, hi, hC⟩ := hrel
    have hi0 : (0 : Int) ≤ i := by omega
    clear b3
    by_cases hlt : i < len
    · have hltI : (i : Int) < len := by omega
      have hcn : i < n.cnt := by rw [← HL.out]; exact hlt
      obtain ⟨y, rfl, hat⟩ : ∃ y, a = some y ∧ n.At m w y := by
        rcases HIN.out with h | h
        · omega
        · exact h
      obtain ⟨s, c, e1, e2, e3, e4, ka, kcap, c0, c1, c2, c3, c4, hc⟩ := hat.kid hcn
      have hbw : Below w.heap.size w wr := by rw [HM0.out]; exact HB2.out.trans (hC.bel.mono (by rw [HQ2.out, HZ2.out]; omega))
      have hkk : ∀ q : Addr, q.block = y.block → wr.cell? q = w.cell? q := fun q e => hbw.cell (by rw [e, HM0.out]; exact e4)
      replace c0 := (hkk (y.add (i * 5)) (block_add _ _)).trans c0
      replace c1 := (hkk ⟨(y.add (i * 5)).block, (y.add (i * 5)).off + 1, none⟩ (block_add _ _)).trans c1
      replace c2 := (hkk ⟨(y.add (i * 5)).block, (y.add (i * 5)).off + 2, none⟩ (block_add _ _)).trans c2
      replace c3 := (hkk ⟨(y.add (i * 5)).block, (y.add (i * 5)).off + 3, none⟩ (block_add _ _)).trans c3
      replace c4 := (hkk ⟨(y.add (i * 5)).block, (y.add (i * 5)).off + 4, none⟩ (block_add _ _)).trans c4
      have hpc : (n.pre i).cnt = i := n.pre_cnt i (by omega)
      have hin0 : c.In w.heap.size w ka := by rw [HM0.out]; exact hc
      have HBW := Lib.hid hbw
      have HC := Lib.hid hC
      have HE1 := Lib.hid e1
      have HPC := Lib.hid hpc
      have HIN0 := Lib.hid hin0
      have HSC := Lib.hid (e3 _ HSM.out).2
      have HIC := Lib.hid (HI.out c e2)
      clear hbw hC e1 e2 e3 hkk hat hc hpc hin0
      go_upto_region 5 with fail
      have hbx := heap_alloc_new wr (.cells #[.string s, .int .i64 c.kind, .bool c.exec, .string c.text, .slice ka c.cnt kcap] 95)
      have hbA : Below wr.heap.size wr (wr.alloc (.cells #[.string s, .int .i64 c.kind, .bool c.exec, .string c.text, .slice ka c.cnt kcap] 95)).drew := ((Below.refl _ _).alloc (Nat.le_refl _) _).drew
      have hul : ∀ b, u3.ownBlock = some b → b < wr.heap.size := fun b h => (HC.out.own.lt b h).2
      have hinA := HIN0.out.up (HBW.out.trans (hbA.mono HBW.out.size))
      have hlA : wr.heap.size < (wr.alloc (.cells #[.string s, .int .i64 c.kind, .bool c.exec, .string c.text, .slice ka c.cnt kcap] 95)).drew.heap.size := by simp
      generalize hmb : wr.heap.size = mb at *
      generalize hwA : wr.alloc (.cells #[.string s, .int .i64 c.kind, .bool c.exec, .string c.text, .slice ka c.cnt kcap] 95) = wA at *
      have HUL := Lib.hid hul
      have HBA := Lib.hid hbA
      have HINA := Lib.hid hinA
      have HLA := Lib.hid hlA
      have HMB := Lib.hid hmb
      obtain ⟨i0, hi0', hz0, hz1, hz2⟩ := info_parts (show (Tryd.prog.info? 95).map (fun i => (i.zero, i.size, i.bytes)) = some (some (.agg #[.string ⟨#[]⟩, .int .i64 0, .bool false, .string ⟨#[]⟩, .slice none 0 0]), 5, 72) by kernel_rfl)
      clear hul hbA hinA hlA hmb hwA c0 c1 c2 c3 c4
      refine wp_region_noPanic ?_
      refine wp_region_held_drew (S := fun w' => w'.heap[mb]? = some (.cells #[.string s, .int .i64 c.kind, .bool c.exec, .string c.text, .slice ka c.cnt kcap] 95 (0, 0))) (by kernel_rfl) hbx (fun hHeld => ?_)
      refine wpAnyH_take (i := 0) (oi := _) (v := u3) rfl (by kernel_rfl) (by kernel_rfl) (by kernel_rfl) (fun _ _ _ h => h) (Or.inl ⟨by rfl, fun w' _ => by go_simp⟩) hHeld ?_
      try simp only [Act.put, List.getElem_toArray, List.getElem_cons_succ, List.getElem_cons_zero, List.setIfInBounds_toArray, List.set_cons_zero, List.set_cons_succ]
      refine wpAnyH_take (i := 1) (oi := _) (v := (.pointer (some ⟨mb, 0, none⟩))) rfl (by kernel_rfl) (by kernel_rfl) (by kernel_rfl) (fun _ _ _ h => h) (Or.inl ⟨by rfl, fun w' _ => by go_simp⟩) hHeld ?_
      try simp only [Act.put, List.getElem_toArray, List.getElem_cons_succ, List.getElem_cons_zero, List.setIfInBounds_toArray, List.set_cons_zero, List.set_cons_succ]
      refine wpAnyH_take (i := 2) (oi := _) (v := (.string s)) rfl (by kernel_rfl) (by kernel_rfl) (by kernel_rfl) (fun _ _ _ h => h) (Or.inl ⟨by rfl, fun w' hSw => by have h1 := cell_of_row w' mb 0 _ _ _ hSw; go_simp⟩) hHeld ?_
      try simp only [Act.put, List.getElem_toArray, List.getElem_cons_succ, List.getElem_cons_zero, List.setIfInBounds_toArray, List.set_cons_zero, List.set_cons_succ]
      refine wpAnyH_take (i := 3) (oi := _) (v := (.pointer (some ⟨mb, 1, none⟩))) rfl (by kernel_rfl) (by kernel_rfl) (by kernel_rfl) (fun _ _ _ h => h) (Or.inl ⟨by rfl, fun w' _ => by go_simp⟩) hHeld ?_
      try simp only [Act.put, List.getElem_toArray, List.getElem_cons_succ, List.getElem_cons_zero, List.setIfInBounds_toArray, List.set_cons_zero, List.set_cons_succ]
      refine wpAnyH_take (i := 4) (oi := _) (v := (.agg #[.int .i64 c.kind, .bool c.exec, .string c.text, .slice ka c.cnt kcap])) rfl (by kernel_rfl) (by kernel_rfl) (by kernel_rfl) (fun _ _ _ h => h) (Or.inl ⟨by rfl, fun w' hSw => by have h1 := cell_of_row w' mb 1 _ _ _ hSw; have h2 := cell_of_row w' mb 2 _ _ _ hSw; have h3 := cell_of_row w' mb 3 _ _ _ hSw; have h4 := cell_of_row w' mb 4 _ _ _ hSw; go_simp⟩) hHeld ?_
      try simp only [Act.put, List.getElem_toArray, List.getElem_cons_succ, List.getElem_cons_zero, List.setIfInBounds_toArray, List.set_cons_zero, List.set_cons_succ]
      refine wpAnyH_ready (rs := [5]) (by kernel_rfl) (by simp) ?_
      refine AllReadyH.cons (o := _) rfl (fun K hK => ?_) AllReadyH.nil
      rw [if_pos (by rfl)]
      go_simp
      go_at_call 31
      refine (HIC.out ka kcap _ HINA.out HSC.out).mono ?_
      rintro e w5 ⟨a5, cp5, rfl, hin5, hb5⟩
      have hz5 : mb < w5.heap.size := Nat.lt_of_lt_of_le HLA.out hb5.size
      refine hK.out _ _ ((hb5.block mb HLA.out).trans hHeld) (fun hHeld => ?_)
      clear hK K
      try dsimp only
      try simp only [Act.put, List.getElem_toArray, List.getElem_cons_succ, List.getElem_cons_zero, List.setIfInBounds_toArray, List.set_cons_zero, List.set_cons_succ]
      unfold ND.val
      have hown := owns_kept HC.out.own (fun b hb _ => (hb5.block b (by have h1 := HLA.out; have h2 := HMB.out; omega)).trans (HBA.out.block b (by rw [← HMB.out]; exact hb)))
      have hown2 := owns_kept (w' := w5.alloc (.cells #[.string s, .int .i64 c.kind, .bool c.exec, .string c.text, .slice a5 c.cnt cp5] 95)) hown (fun b hb _ => ((Below.refl w5.heap.size w5).alloc (Nat.le_refl _) _).block b hb)
      have hnew := news_cells w5 [.string s, .int .i64 c.kind, .bool c.exec, .string c.text, .slice a5 c.cnt cp5] 95
      have hpi := HPC.out
      have hcm := HCT.out
      have hm63 : (n.pre i).cnt + 1 ≤ maxLen := by unfold maxLen; omega
      have hm47 : ((n.pre i).cnt + 1) * 72 ≤ 140737488355328 := by omega
      have hbase : W2.heap.size ≤ (w5.alloc (.cells #[.string s, .int .i64 c.kind, .bool c.exec, .string c.text, .slice a5 c.cnt cp5] 95)).heap.size := by
        have h1 := HC.out.bel.size
        have h2 := HMB.out
        simp
        omega
      have HOWN := Lib.hid hown2
      have HNEW := Lib.hid hnew
      have HBASE := Lib.hid hbase
      have HIN5 := Lib.hid hin5
      have HB5 := Lib.hid hb5
      clear hown hown2 hnew hbase hpi hcm hin5 hb5
      refine wpAnyH_take (i := 6) (oi := _) (v := (.agg #[.string s, .int .i64 c.kind, .bool c.exec, .string c.text, .slice a5 c.cnt cp5])) rfl (by kernel_rfl) (by kernel_rfl) (by kernel_rfl) (fun _ _ _ h => h) (Or.inl ⟨by rfl, fun w' _ => by go_simp⟩) hHeld ?_
      try simp only [Act.put, List.getElem_toArray, List.getElem_cons_succ, List.getElem_cons_zero, List.setIfInBounds_toArray, List.set_cons_zero, List.set_cons_succ]
      refine wpAnyH_ready (rs := [7]) (by kernel_rfl) (by simp) ?_
      refine AllReadyH.cons (o := _) rfl (fun K hK => ?_) AllReadyH.nil
      rw [if_pos (by rfl)]
      go_simp
      refine hK.out _ _ (row_past hHeld _) (fun hHeld => ?_)
      clear hK K
      try dsimp only
      try simp only [Act.put, List.getElem_toArray, List.getElem_cons_succ, List.getElem_cons_zero, List.setIfInBounds_toArray, List.set_cons_zero, List.set_cons_succ]
      refine wpAnyH_ready (rs := [8]) (by kernel_rfl) (by simp) ?_
      refine AllReadyH.cons (o := _) rfl (fun K hK => ?_) AllReadyH.nil
      rw [if_pos (by rfl)]
      refine wp_own_at _ (.tmp 17) (.tmp 24) 23 (by rfl) W2.heap.size 95 i0 (.agg #[.string ⟨#[]⟩, .int .i64 0, .bool false, .string ⟨#[]⟩, .slice none 0 0]) 5 72 Tryd.underlying23 hi0' hz0 hz1 hz2 rfl (by decide) u3 (n.pre i).cnt ks (by rfl) HOWN.out ⟨w5.heap.size, 0, none⟩ 1 1 [.string s, .int .i64 c.kind, .bool c.exec, .string c.text, .slice a5 c.cnt cp5] (by rfl) rfl HNEW.out (ent_one _ _ _ _ _ _ _) hm63 hm47 HBASE.out ?_
      intro v6 w6 ho6 hg6 ha6
      refine hK.out _ _ ((hg6.block mb (by simp; omega) (fun e => by have := HUL.out mb e.symm; omega)).trans hHeld) (fun hHeld => ?_)
      clear hK K
      try dsimp only
      try simp only [Act.put, List.getElem_toArray, List.getElem_cons_succ, List.getElem_cons_zero, List.setIfInBounds_toArray, List.set_cons_zero, List.set_cons_succ]
      refine wpAnyH_take (i := 9) (oi := _) (v := v6) rfl (by kernel_rfl) (by kernel_rfl) (by kernel_rfl) (fun _ _ _ h => h) (Or.inl ⟨by rfl, fun w' _ => by go_simp⟩) hHeld ?_
      try simp only [Act.put, List.getElem_toArray, List.getElem_cons_succ, List.getElem_cons_zero, List.setIfInBounds_toArray, List.set_cons_zero, List.set_cons_succ]
      refine wpAnyH_done (by kernel_rfl) ?_ _
      refine NoPanic.normal ?_
      have hb15 : Below wr.heap.size wr w5 := by
        rw [HMB.out]
        exact HBA.out.trans (HB5.out.mono (by have := HLA.out; omega))
      have hin15 : c.InS (fun b => wr.heap.size ≤ b) w5 a5 := HIN5.out.kept (fun b hb h => ⟨rfl, by have h1 := HLA.out; have h2 := HMB.out; omega⟩)
      have hadd := HC.out.add (s := s) hb15 hin15 ((Below.refl w5.heap.size w5).alloc (Nat.le_refl _) _) ho6 hg6 ha6
      rw [← HE1.out] at hadd
      have HADD := Lib.hid hadd
      clear hadd hb15 hin15 ho6 hg6 ha6 hHeld
      go_wp2_with fail
      go_roundw
      case rel => exact ⟨i + 1, _, _, by go_num, by omega, HADD.out⟩
      case measure => simp [intOf]; omega
    · have hltI : ¬ (i : Int) < len := by omega
      have hii : i = n.cnt := by have := HL.out; omega
      rw [hii, n.pre_all] at hC
      obtain ⟨a5, c5, hv5, hin5⟩ := hC.done
      have r1 := HROW.out wr hC.bel
      have r2 := (hC.bel.block (m + 1) (by rw [HQ2.out, HZ2.out]; omega)).trans HR2.out
      have hbel := HB2.out.trans (hC.bel.mono (by rw [HQ2.out, HZ2.out]; omega))
      rw [hv5] at hC
      have q0 := cell_of_row wr m 0 _ _ _ r1
      have q1 := cell_of_row wr m 1 _ _ _ r1
      have q2 := cell_of_row wr m 2 _ _ _ r1
      have q3 := cell_of_row wr m 3 _ _ _ r1
      have g3 := frozen_of_row wr m 3 _ _ r1
      have p0 := cell_of_row wr (m + 1) 0 _ _ _ r2
      have p1 := cell_of_row wr (m + 1) 1 _ _ _ r2
      have p2 := cell_of_row wr (m + 1) 2 _ _ _ r2
      have p3 := cell_of_row wr (m + 1) 3 _ _ _ r2
      have f0 := frozen_of_row wr (m + 1) 0 _ _ r2
      have f1 := frozen_of_row wr (m + 1) 1 _ _ r2
      have f2 := frozen_of_row wr (m + 1) 2 _ _ r2
      have f3 := frozen_of_row wr (m + 1) 3 _ _ r2
      have HIN5 := Lib.hid hin5
      have HBEL := Lib.hid hbel
      subst hv5
      have hn1 : m ≠ m + 1 := by omega
      have hn2 : m + 1 ≠ m := by omega
      clear hin5 hbel hC r1 r2 hii
      go_wp2_with fail
      refine bodyPost_ret (v := .agg #[.int .i64 kd, .bool ex, .string tx, .slice a5 n.cnt c5]) (by simp [results, Tryd.results31, go_sem, p0, p1, p2, p3]) rfl ⟨a5, c5, rfl, ?_, ?_⟩
      · refine HIN5.out.kept (fun b hb h => ⟨?_, by have h1 := HQ2.out; have h2 := HZ2.out; have h3 := HM0.out; omega⟩)
        have hbm : b ≠ m := by have h1 := HQ2.out; have h2 := HZ2.out; omega
        have hbm1 : b ≠ m + 1 := by have h1 := HQ2.out; have h2 := HZ2.out; omega
        exact (Below.heap_setCell _ _ _ _ hbm1).trans ((Below.heap_setCell _ _ _ _ hbm1).trans ((Below.heap_setCell _ _ _ _ hbm1).trans ((Below.heap_setCell _ _ _ _ hbm1).trans (Below.heap_setCell _ _ _ _ hbm))))
      · rw [HM0.out]
        exact ((((HBEL.out.setCell (by show m ≤ m; omega) _).setCell (by show m ≤ m + 1; omega) _).setCell (by show m ≤ m + 1; omega) _).setCell (by show m ≤ m + 1; omega) _).setCell (by show m ≤ m + 1; omega) _
theorem copy_any : ∀ (k : Nat) (n : ND), n.sz ≤ k → CopyOk n := by
  intro k
  induction k with
  | zero => intro n h; cases n <;> simp [ND.sz] at h
  | succ k ih =>
    intro n hk a cap w hin hsm
    exact copy_node n n.kind n.exec n.text a n.cnt cap w rfl hin hsm (small_cnt (m := 1048576) hsm) (fun c hc => ih c (by omega))
end Go.Proofs.YtlcppkcclolgcaaDoor

namespace Go.Proofs.YtlcppkcclolgcaaDoor
set_option linter.unusedVariables false
set_option linter.unusedSimpArgs false
open Go.RowKit
open Go.Proofs.YtlcppkcclolgcaaDoorW.PrintLast

theorem cnt_frSum : ∀ n : ND, n.cnt ≤ frSum n.kwords := by
  intro n
  induction n with
  | leaf => simp [ND.cnt]
  | add p s c ih _ =>
    have e9 : frSum (ND.add p s c).kwords = frSum p.kwords + frSum [wEntry, wOpen, wName, s, wNode, wClose] + frSum c.words := by
      simp [ND.kwords, ND.words, frSum]
      omega
    have h1 : 1 ≤ frSum [wEntry, wOpen, wName, s, wNode, wClose] := by
      simp only [frSum, List.map_cons, List.sum_cons, fr]
      omega
    rw [e9]
    simp only [ND.cnt]
    omega
theorem ok_text {n : ND} {d m : Nat} (h : n.Ok d) (hw : frSum n.words ≤ m) : n.text.size ≤ m ∧ frSum n.kwords ≤ m := by
  obtain ⟨_, hf, _⟩ := h
  unfold ND.words ND.wordsOf at hw
  rcases fld_kind hf with k | k | k
  · rw [if_pos k] at hw
    have hc := fld_leaf hf (.inl k)
    have e : n.kwords = [] := by rw [leaf_of hc]; rfl
    refine ⟨?_, by rw [e]; simp [frSum]⟩
    simp only [frSum_append] at hw
    have h1 : n.text.size ≤ frSum [wContents, n.text] := by simp only [frSum, List.map_cons, List.map_nil, List.sum_cons, List.sum_nil, fr]; omega
    omega
  · rw [if_neg (by omega), if_pos k] at hw
    have hc := fld_leaf hf (.inr k)
    have e : n.kwords = [] := by rw [leaf_of hc]; rfl
    refine ⟨?_, by rw [e]; simp [frSum]⟩
    simp only [frSum_append] at hw
    have h1 : n.text.size ≤ frSum [wSymlink, wTarget, n.text] := by simp only [frSum, List.map_cons, List.map_nil, List.sum_cons, List.sum_nil, fr]; omega
    omega
  · rw [if_neg (by omega), if_neg (by omega)] at hw
    rw [(fld_dir hf k).2]
    simp only [frSum_append] at hw
    exact ⟨Nat.zero_le _, by omega⟩
theorem small_of (m : Nat) : ∀ (n : ND) (d : Nat), n.kOk d → n.text.size ≤ m → frSum n.kwords ≤ m → n.small m := by
  intro n
  induction n with
  | leaf k x t => exact fun _ _ h _ => h
  | add p s c ihp ihc =>
    intro d h ht hw
    obtain ⟨h1, h2, h3, h4⟩ := h
    have hc := cnt_frSum (ND.add p s c)
    have e9 : frSum (ND.add p s c).kwords = frSum p.kwords + frSum [wEntry, wOpen, wName, s, wNode, wClose] + frSum c.words := by
      simp [ND.kwords, ND.words, frSum]
      omega
    have hs : s.size ≤ frSum [wEntry, wOpen, wName, s, wNode, wClose] := by
      simp only [frSum, List.map_cons, List.map_nil, List.sum_cons, List.sum_nil, fr]
      omega
    obtain ⟨t1, t2⟩ := ok_text h4 (m := m) (by omega)
    exact ⟨ihp d h1 ht (by omega), by omega, ihc (d + 1) h4.2.2 t1 t2, by simp only [ND.cnt] at hc; omega⟩
theorem serE_small {n : ND} (h : serE n = 0) : n.small 1048576 := by
  obtain ⟨hok, hl⟩ := serE_ok.1 h
  have hl2 := (serE_len h).2
  obtain ⟨t1, t2⟩ := ok_text hok (m := 1048576) (by omega)
  exact small_of 1048576 n 1 hok.2.2 t1 t2
/-! ### Close -/
def clN (p : PS) : ND := if p.close.code = 0 then p.x.root else .leaf 0 false emp
def clC (p : PS) : Int := p.close.code
def clA (p : PS) : Nat := if p.close.code = 0 then 0 else p.close.fat
theorem close_x (p : PS) : p.close.x = p.x := by unfold PS.close; split <;> rfl
def CloseP (w0 : World) (S : Nat → Prop) (B gp : Nat) (p : PS) (e : Ending) (w' : World) : Prop :=
  ∃ a c, e = .returned (.tuple #[(clN p).val a c, .agg #[.int .i64 (clC p), .int .i64 (clA p : Nat)]]) ∧ (clN p).InS (fun b => B ≤ b) w' a ∧ ∃ fl gf sv rv, PaW w0 S w' B gp fl p.close gf sv rv
section
variable {w0 w w1 : World} {S : Nat → Prop} {B gp : Nat} {fl : Nat → Nat} {p : PS} {gf : Nat} {sv rv : Value}
/-- a new block beside the parser's, to be written later -/
theorem PaW.box (H : PaW w0 S w B gp fl p gf sv rv) (hb : Below w.heap.size w w1) {b : Nat} (h1 : w.heap.size ≤ b) (h2 : b < w1.heap.size) : PaW w0 S w1 B gp (upd fl b 2) p gf sv rv := by
  have hB := (H.hB gp (by rw [H.lab]; omega)).1
  have hlt := H.lt
  have hsz := H.away.size
  refine H.kept ((hb.block gp hlt).trans H.row) (H.away.later hb) (fun k hk _ _ => ⟨upd_ne _ _ _ _ (by omega), fun _ => hb.block k hk⟩) (fun k hk => ?_) (fun k hk hl => ?_) rfl rfl
  · by_cases e : k = b
    · subst e; omega
    · rw [upd_ne _ _ _ _ e] at hk
      exact ⟨(H.hB k hk).1, Nat.lt_of_lt_of_le (H.hB k hk).2 hb.size⟩
  · by_cases e : k = b
    · omega
    · rw [upd_ne _ _ _ _ e] at hk
      exact H.sl k hk hl
theorem PaW.box2 (H : PaW w0 S w B gp fl p gf sv rv) (o1 o2 : Obj) : PaW w0 S ((w.alloc o1).alloc o2) B gp (upd (upd fl w.heap.size 2) (w.heap.size + 1) 2) p gf sv rv := by
  have h1 := H.box (w1 := w.alloc o1) ((Below.refl _ _).alloc (Nat.le_refl _) _) (b := w.heap.size) (Nat.le_refl _) (by simp)
  exact h1.box (w1 := (w.alloc o1).alloc o2) ((Below.refl _ _).alloc (Nat.le_refl _) _) (b := w.heap.size + 1) (by simp) (by simp)
theorem PaW.set2 (H : PaW w0 S w B gp fl p gf sv rv) {b : Nat} (hf : fl b = 2) (i : Nat) (x : Value) : PaW w0 S (w.setCell ⟨b, i, none⟩ x) B gp fl p gf sv rv := by
  have hne : ∀ k, fl k ≠ 2 → k ≠ b := fun k hk e => hk (by rw [e]; exact hf)
  exact H.kept ((Below.heap_setCell _ _ _ _ (hne gp (by rw [H.lab]; omega))).trans H.row) (H.away.set b i x (H.sl b (by omega))) (fun k hk h2 _ => ⟨rfl, fun _ => Below.heap_setCell _ _ _ _ (hne k h2)⟩) (fun k hk => ⟨(H.hB k hk).1, by simpa [World.setCell] using (H.hB k hk).2⟩) H.sl rfl rfl
end
theorem CloseP.fault {w0 w : World} {S : Nat → Prop} {B gp : Nat} {fl : Nat → Nat} {p q : PS} {gf : Nat} {sv rv : Value} (hc : q.code ≠ 0) (h : p.close = q) (H : PaW w0 S w B gp fl q gf sv rv) :
    CloseP w0 S B gp p (.returned (.tuple #[.agg #[.int .i64 0, .bool false, .string ⟨#[]⟩, .slice none 0 0], .agg #[.int .i64 q.code, .int .i64 (q.fat : Int)]])) w := by
  subst h
  refine ⟨none, 0, ?_, ?_, fl, gf, sv, rv, H⟩
  · simp only [clN, clC, clA, if_neg hc]
    rfl
  · simp only [clN, if_neg hc]
    exact .inl rfl
set_option maxRecDepth 100000 in
theorem pfail_eq (w0 : World) (S : Nat → Prop) (B gp : Nat) (fl : Nat → Nat) (p : PS) (gf : Nat) (sv rv : Value) (q : Int) (a : Nat) (w : World) (H : PaW w0 S w B gp fl p gf sv rv) :
    Calls Tryd.prog 26 #[.pointer (some ⟨gp, 0, none⟩), .int .i64 q, .int .i64 (a : Int)] w fun e w' => e = .returned (.bool false) ∧ w' = (w.setCell ⟨gp, 2, none⟩ (.int .i64 q)).setCell ⟨gp, 3, none⟩ (.int .i64 (a : Int)) := by
  have c2 := H.c2
  have c3 := H.c3
  have f2 := H.free 2
  have f3 := H.free 3
  clear H
  go_enter Tryd.func26, Tryd.ntmps26
  go_wp2_with fail
  go_ret
  exact ⟨rfl, rfl⟩
set_option maxRecDepth 100000 in
set_option maxHeartbeats 4000000 in
/-- Close over a fault -/
theorem pclose_fault (w0 : World) (S : Nat → Prop) (B gp : Nat) (fl : Nat → Nat) (p : PS) (gf : Nat) (sv rv : Value) (w : World) (H : PaW w0 S w B gp fl p gf sv rv) (hs : p.shut = false) (hc : p.code ≠ 0) :
    Calls Tryd.prog 13 #[.pointer (some ⟨gp, 0, none⟩)] w fun e w' => CloseP w0 S B gp p e w' := by
  have hp : p.close = { p with shut := true } := by unfold PS.close; rw [if_neg (fun h => hc h.2.2)]
  have hr1 := row_past (heap_alloc_new w (.cells #[.int .i64 0, .bool false, .string ⟨#[]⟩, .slice none 0 0] 25)) (.cells #[.int .i64 0, .int .i64 0] 42)
  have hr2 := alloc_new2 w (.cells #[.int .i64 0, .bool false, .string ⟨#[]⟩, .slice none 0 0] 25) #[.int .i64 0, .int .i64 0] 42
  have h2 := H.box2 (.cells #[.int .i64 0, .bool false, .string ⟨#[]⟩, .slice none 0 0] 25) (.cells #[.int .i64 0, .int .i64 0] 42)
  have hl1 : upd (upd fl w.heap.size 2) (w.heap.size + 1) 2 w.heap.size = 2 := by rw [upd_ne _ _ _ _ (by omega)]; exact upd_same _ _ _
  have hl2 : upd (upd fl w.heap.size 2) (w.heap.size + 1) 2 (w.heap.size + 1) = 2 := upd_same _ _ _
  have hlt := H.lt
  generalize upd (upd fl w.heap.size 2) (w.heap.size + 1) 2 = fl2 at *
  have HX := Lib.hid h2
  have HR1 := Lib.hid hr1
  have HR2 := Lib.hid hr2
  have HL1 := Lib.hid hl1
  have HL2 := Lib.hid hl2
  have HCL := Lib.hid hp
  have HS := Lib.hid hs
  have hcI : (p.code != 0) = true := by simpa using hc
  have hcJ : (p.code == 0) = false := by simpa using hc
  clear h2 hr1 hr2 hl1 hl2 hp hs H
  go_enter Tryd.func13, Tryd.ntmps13
  go_upto_region 1 with fail
  generalize hm : w.heap.size = m at *
  generalize (w.alloc (.cells #[.int .i64 0, .bool false, .string ⟨#[]⟩, .slice none 0 0] 25)).alloc (.cells #[.int .i64 0, .int .i64 0] 42) = w1 at *
  have HM := Lib.hid hm
  clear hm
  have c4 := HX.out.c4
  rw [HS.out] at c4
  have c6 := HX.out.c6
  have c2 := HX.out.c2
  have f4 := HX.out.free 4
  generalize hwh : p.x.whole = wh at c6
  have h3 := HX.out.put (p' := { p with shut := true }) (gf' := gf) 4 (.bool true) rfl rfl rfl
  have HX3 := Lib.hid h3
  clear h3
  have hmg : m ≠ gp := by omega
  have hmg2 : m + 1 ≠ gp := by omega
  have HR13 := Lib.hid ((Below.heap_setCell w1 ⟨gp, 4, none⟩ (.bool true) m hmg).trans HR1.out)
  have HR23 := Lib.hid ((Below.heap_setCell w1 ⟨gp, 4, none⟩ (.bool true) (m + 1) hmg2).trans HR2.out)
  clear hwh
  cases wh
  all_goals
    go_upto_region 4 with fail
    generalize w1.setCell ⟨gp, 4, none⟩ (.bool true) = w2 at *
    clear c4 c6 c2 f4 HX HR1 HR2
    have c2 := HX3.out.c2
    have c3 := HX3.out.c3
    have p0 := cell_of_row w2 m 0 _ _ _ HR13.out
    have p1 := cell_of_row w2 m 1 _ _ _ HR13.out
    have p2 := cell_of_row w2 m 2 _ _ _ HR13.out
    have p3 := cell_of_row w2 m 3 _ _ _ HR13.out
    have q0 := cell_of_row w2 (m + 1) 0 _ _ _ HR23.out
    have q1 := cell_of_row w2 (m + 1) 1 _ _ _ HR23.out
    have f0 := frozen_of_row w2 m 0 _ _ HR13.out
    have f1 := frozen_of_row w2 m 1 _ _ HR13.out
    have f2 := frozen_of_row w2 m 2 _ _ HR13.out
    have f3 := frozen_of_row w2 m 3 _ _ HR13.out
    have g0 := frozen_of_row w2 (m + 1) 0 _ _ HR23.out
    have g1 := frozen_of_row w2 (m + 1) 1 _ _ HR23.out
    go_upto_region 5 with fail
    have d2 : (w2.drew).cell? ⟨gp, 2, none⟩ = some (.int .i64 p.code) := c2
    refine wp_region_noPanic ?_
    refine wp_region_last_drew (S := fun w' => w'.cell? ⟨gp, 2, none⟩ = some (.int .i64 p.code) ∧ w'.cell? ⟨gp, 3, none⟩ = some (.int .i64 (p.fat : Int))) (ds := [7]) (by kernel_rfl) ⟨c2, c3⟩ (fun hHeld => ?_)
    refine last_pure8 (i := 0) (oi := _) (v := (.agg #[.int .i64 0, .bool false, .string ⟨#[]⟩, .slice none 0 0])) rfl (by kernel_rfl) (by kernel_rfl) (by kernel_rfl) (fun _ _ _ h => h) (Or.inl ⟨by rfl, fun w' => by go_simp⟩) ?_
    try simp only [Act.put, List.getElem_toArray, List.getElem_cons_succ, List.getElem_cons_zero, List.setIfInBounds_toArray, List.set_cons_zero, List.set_cons_succ]
    refine wpAnyLast_take (i := 1) (oi := _) (v := (.pointer (some ⟨gp, 0, none⟩))) rfl (by kernel_rfl) (by kernel_rfl) (by kernel_rfl) (by kernel_rfl) (by kernel_rfl) (fun _ _ _ h => h) (Or.inl ⟨by rfl, fun w' _ => by go_simp⟩) hHeld ?_
    try simp only [Act.put, List.getElem_toArray, List.getElem_cons_succ, List.getElem_cons_zero, List.setIfInBounds_toArray, List.set_cons_zero, List.set_cons_succ]
    refine wpAnyLast_take (i := 2) (oi := _) (v := (.pointer (some ⟨gp, 0, none⟩))) rfl (by kernel_rfl) (by kernel_rfl) (by kernel_rfl) (by kernel_rfl) (by kernel_rfl) (fun _ _ _ h => h) (Or.inl ⟨by rfl, fun w' _ => by go_simp⟩) hHeld ?_
    try simp only [Act.put, List.getElem_toArray, List.getElem_cons_succ, List.getElem_cons_zero, List.setIfInBounds_toArray, List.set_cons_zero, List.set_cons_succ]
    refine wpAnyLast_take (i := 3) (oi := _) (v := (.pointer (some ⟨gp, 0, none⟩))) rfl (by kernel_rfl) (by kernel_rfl) (by kernel_rfl) (by kernel_rfl) (by kernel_rfl) (fun _ _ _ h => h) (Or.inl ⟨by rfl, fun w' _ => by go_simp⟩) hHeld ?_
    try simp only [Act.put, List.getElem_toArray, List.getElem_cons_succ, List.getElem_cons_zero, List.setIfInBounds_toArray, List.set_cons_zero, List.set_cons_succ]
    refine wpAnyLast_take (i := 4) (oi := _) (v := (.pointer (some ⟨gp, 2, none⟩))) rfl (by kernel_rfl) (by kernel_rfl) (by kernel_rfl) (by kernel_rfl) (by kernel_rfl) (fun _ _ _ h => h) (Or.inl ⟨by rfl, fun w' _ => by go_simp⟩) hHeld ?_
    try simp only [Act.put, List.getElem_toArray, List.getElem_cons_succ, List.getElem_cons_zero, List.setIfInBounds_toArray, List.set_cons_zero, List.set_cons_succ]
    refine wpAnyLast_take (i := 5) (oi := _) (v := (.agg #[.int .i64 p.code, .int .i64 (p.fat : Int)])) rfl (by kernel_rfl) (by kernel_rfl) (by kernel_rfl) (by kernel_rfl) (by kernel_rfl) (fun _ _ _ h => h) (Or.inl ⟨by rfl, fun w' hSw => by have h1 := hSw.1; have h2 := hSw.2; go_simp⟩) hHeld ?_
    try simp only [Act.put, List.getElem_toArray, List.getElem_cons_succ, List.getElem_cons_zero, List.setIfInBounds_toArray, List.set_cons_zero, List.set_cons_succ]
    refine wpAnyLast_ready (rs := [6]) (by kernel_rfl) (by simp) ?_
    refine AllReadyL.cons (o := _) rfl (by decide) (fun K hK => ?_) AllReadyL.nil
    rw [if_pos (by rfl)]
    go_simp
    have hx4 := (((HX3.out.set2 HL1.out 0 (.int .i64 0)).set2 HL1.out 1 (.bool false)).set2 HL1.out 2 (.string ⟨#[]⟩)).set2 HL1.out 3 (.slice none 0 0)
    have hx4d := hx4.later (Below.refl _ _).drew
    have HX4 := Lib.hid hx4
    refine hK.out _ ((((w2.setCell ⟨m, 0, none⟩ (.int .i64 0)).setCell ⟨m, 1, none⟩ (.bool false)).setCell ⟨m, 2, none⟩ (.string ⟨#[]⟩)).setCell ⟨m, 3, none⟩ (.slice none 0 0)).drew ⟨hx4d.c2, hx4d.c3⟩ (fun hHeld => ?_)
    clear hK K hx4 hx4d
    try dsimp only
    try simp only [Act.put, List.getElem_toArray, List.getElem_cons_succ, List.getElem_cons_zero, List.setIfInBounds_toArray, List.set_cons_zero, List.set_cons_succ]
    refine wpAnyLast_ready (rs := [7]) (by kernel_rfl) (by simp) ?_
    refine AllReadyL.cons_last (o := _) rfl (by decide) (fun K hK => ?_) AllReadyL.nil
    rw [if_pos (by rfl)]
    go_simp
    have hx5 := ((HX4.out.set2 HL2.out 0 (.int .i64 p.code)).set2 HL2.out 1 (.int .i64 (p.fat : Int))).later (Below.refl _ _).drew
    have HX5 := Lib.hid hx5
    clear hx5
    have HSZ := HX5.out.lt
    refine hK.out _ ((((((w2.setCell ⟨m, 0, none⟩ (.int .i64 0)).setCell ⟨m, 1, none⟩ (.bool false)).setCell ⟨m, 2, none⟩ (.string ⟨#[]⟩)).setCell ⟨m, 3, none⟩ (.slice none 0 0)).setCell ⟨m + 1, 0, none⟩ (.int .i64 p.code)).setCell ⟨m + 1, 1, none⟩ (.int .i64 (p.fat : Int))).drew ?_
    clear hK K HX4 HX3
    try dsimp only
    try simp only [Act.put, List.getElem_toArray, List.getElem_cons_succ, List.getElem_cons_zero, List.setIfInBounds_toArray, List.set_cons_zero, List.set_cons_succ]
    refine wpAnyLast_done (by kernel_rfl) ?_ _
    refine NoPanic.normal ?_
    go_wp2_with fail
    exact bodyPost_ret (v := .tuple #[.agg #[.int .i64 0, .bool false, .string ⟨#[]⟩, .slice none 0 0], .agg #[.int .i64 p.code, .int .i64 (p.fat : Int)]]) (by simp [results, Tryd.results13, go_sem, p0, p1, p2, p3, q0, q1, f0, f1, f2, f3, g0, g1]) rfl (CloseP.fault (q := { p with shut := true }) hc HCL.out HX5.out)
set_option maxRecDepth 100000 in
set_option maxHeartbeats 4000000 in
/-- Close ahead of the end -/
theorem pclose_short (w0 : World) (S : Nat → Prop) (B gp : Nat) (fl : Nat → Nat) (p : PS) (gf : Nat) (sv rv : Value) (w : World) (H : PaW w0 S w B gp fl p gf sv rv) (hs : p.shut = false) (hc0 : p.code = 0) (hwh0 : p.x.whole = false) :
    Calls Tryd.prog 13 #[.pointer (some ⟨gp, 0, none⟩)] w fun e w' => CloseP w0 S B gp p e w' := by
  have hp : p.close = { p.bad 4 p.at_ with shut := true } := by unfold PS.close; rw [if_pos ⟨by simp [hs], by simp [hwh0], hc0⟩]; rfl
  have hr1 := row_past (heap_alloc_new w (.cells #[.int .i64 0, .bool false, .string ⟨#[]⟩, .slice none 0 0] 25)) (.cells #[.int .i64 0, .int .i64 0] 42)
  have hr2 := alloc_new2 w (.cells #[.int .i64 0, .bool false, .string ⟨#[]⟩, .slice none 0 0] 25) #[.int .i64 0, .int .i64 0] 42
  have h2 := H.box2 (.cells #[.int .i64 0, .bool false, .string ⟨#[]⟩, .slice none 0 0] 25) (.cells #[.int .i64 0, .int .i64 0] 42)
  have hl1 : upd (upd fl w.heap.size 2) (w.heap.size + 1) 2 w.heap.size = 2 := by rw [upd_ne _ _ _ _ (by omega)]; exact upd_same _ _ _
  have hl2 : upd (upd fl w.heap.size 2) (w.heap.size + 1) 2 (w.heap.size + 1) = 2 := upd_same _ _ _
  have hlt := H.lt
  generalize upd (upd fl w.heap.size 2) (w.heap.size + 1) 2 = fl2 at *
  have HX := Lib.hid h2
  have HR1 := Lib.hid hr1
  have HR2 := Lib.hid hr2
  have HL1 := Lib.hid hl1
  have HL2 := Lib.hid hl2
  have HCL := Lib.hid hp
  have HS := Lib.hid hs
  clear h2 hr1 hr2 hl1 hl2 hp hs H
  go_enter Tryd.func13, Tryd.ntmps13
  go_upto_region 1 with fail
  generalize hm : w.heap.size = m at *
  generalize (w.alloc (.cells #[.int .i64 0, .bool false, .string ⟨#[]⟩, .slice none 0 0] 25)).alloc (.cells #[.int .i64 0, .int .i64 0] 42) = w1 at *
  have HM := Lib.hid hm
  clear hm
  have c4 := HX.out.c4
  rw [HS.out] at c4
  have c6 := HX.out.c6
  rw [hwh0] at c6
  have c2 := HX.out.c2
  rw [hc0] at c2
  have c0 := HX.out.c0
  have hmg : m ≠ gp := by omega
  have hmg2 : m + 1 ≠ gp := by omega
  have CF := pfail_eq w0 S B gp fl2 p gf sv rv 4 p.at_ w1 HX.out
  go_upto_region 3 with (go_at_call 26; refine CF.mono ?_; rintro e w4 ⟨rfl, hf⟩; have HF := Lib.hid hf; clear hf)
  have hx4 : PaW w0 S w4 B gp fl2 (p.bad 4 p.at_) gf sv rv := by
    rw [HF.out]
    exact (HX.out.put (p' := { p with code := 4 }) 2 (.int .i64 (4 : Int)) rfl rfl rfl).put 3 _ rfl rfl rfl
  have hr4 : w4.heap[m]? = some (.cells #[.int .i64 0, .bool false, .string ⟨#[]⟩, .slice none 0 0] 25 (0, 0)) := by
    rw [HF.out]
    exact (Below.heap_setCell _ ⟨gp, 3, none⟩ _ m hmg).trans ((Below.heap_setCell _ ⟨gp, 2, none⟩ _ m hmg).trans HR1.out)
  have hr5 : w4.heap[m + 1]? = some (.cells #[.int .i64 0, .int .i64 0] 42 (0, 0)) := by
    rw [HF.out]
    exact (Below.heap_setCell _ ⟨gp, 3, none⟩ _ (m + 1) hmg2).trans ((Below.heap_setCell _ ⟨gp, 2, none⟩ _ (m + 1) hmg2).trans HR2.out)
  clear HX HR1 HR2 HF c2 c6 c0 CF
  have HX := Lib.hid hx4
  have HR1 := Lib.hid hr4
  have HR2 := Lib.hid hr5
  clear hx4 hr4 hr5
  have c4 := HX.out.c4
  replace c4 : w4.cell? ⟨gp, 4, none⟩ = some (.bool p.shut) := c4
  rw [HS.out] at c4
  have c2 := HX.out.c2
  have f4 := HX.out.free 4
  have h3 := HX.out.put (p' := { p.bad 4 p.at_ with shut := true }) (gf' := gf) 4 (.bool true) rfl rfl rfl
  have HX3 := Lib.hid h3
  clear h3
  have HR13 := Lib.hid ((Below.heap_setCell w4 ⟨gp, 4, none⟩ (.bool true) m hmg).trans HR1.out)
  have HR23 := Lib.hid ((Below.heap_setCell w4 ⟨gp, 4, none⟩ (.bool true) (m + 1) hmg2).trans HR2.out)
  have c6 := True.intro
  go_upto_region 4 with fail
  generalize w4.setCell ⟨gp, 4, none⟩ (.bool true) = w2 at *
  clear c4 c6 c2 f4 HX HR1 HR2
  have c2 := HX3.out.c2
  have c3 := HX3.out.c3
  have p0 := cell_of_row w2 m 0 _ _ _ HR13.out
  have p1 := cell_of_row w2 m 1 _ _ _ HR13.out
  have p2 := cell_of_row w2 m 2 _ _ _ HR13.out
  have p3 := cell_of_row w2 m 3 _ _ _ HR13.out
  have q0 := cell_of_row w2 (m + 1) 0 _ _ _ HR23.out
  have q1 := cell_of_row w2 (m + 1) 1 _ _ _ HR23.out
  have f0 := frozen_of_row w2 m 0 _ _ HR13.out
  have f1 := frozen_of_row w2 m 1 _ _ HR13.out
  have f2 := frozen_of_row w2 m 2 _ _ HR13.out
  have f3 := frozen_of_row w2 m 3 _ _ HR13.out
  have g0 := frozen_of_row w2 (m + 1) 0 _ _ HR23.out
  have g1 := frozen_of_row w2 (m + 1) 1 _ _ HR23.out
  go_upto_region 5 with fail
  have d2 : (w2.drew).cell? ⟨gp, 2, none⟩ = some (.int .i64 4) := c2
  refine wp_region_noPanic ?_
  refine wp_region_last_drew (S := fun w' => w'.cell? ⟨gp, 2, none⟩ = some (.int .i64 4) ∧ w'.cell? ⟨gp, 3, none⟩ = some (.int .i64 (p.at_ : Int))) (ds := [7]) (by kernel_rfl) ⟨c2, c3⟩ (fun hHeld => ?_)
  refine last_pure8 (i := 0) (oi := _) (v := (.agg #[.int .i64 0, .bool false, .string ⟨#[]⟩, .slice none 0 0])) rfl (by kernel_rfl) (by kernel_rfl) (by kernel_rfl) (fun _ _ _ h => h) (Or.inl ⟨by rfl, fun w' => by go_simp⟩) ?_
  try simp only [Act.put, List.getElem_toArray, List.getElem_cons_succ, List.getElem_cons_zero, List.setIfInBounds_toArray, List.set_cons_zero, List.set_cons_succ]
  refine wpAnyLast_take (i := 1) (oi := _) (v := (.pointer (some ⟨gp, 0, none⟩))) rfl (by kernel_rfl) (by kernel_rfl) (by kernel_rfl) (by kernel_rfl) (by kernel_rfl) (fun _ _ _ h => h) (Or.inl ⟨by rfl, fun w' _ => by go_simp⟩) hHeld ?_
  try simp only [Act.put, List.getElem_toArray, List.getElem_cons_succ, List.getElem_cons_zero, List.setIfInBounds_toArray, List.set_cons_zero, List.set_cons_succ]
  refine wpAnyLast_take (i := 2) (oi := _) (v := (.pointer (some ⟨gp, 0, none⟩))) rfl (by kernel_rfl) (by kernel_rfl) (by kernel_rfl) (by kernel_rfl) (by kernel_rfl) (fun _ _ _ h => h) (Or.inl ⟨by rfl, fun w' _ => by go_simp⟩) hHeld ?_
  try simp only [Act.put, List.getElem_toArray, List.getElem_cons_succ, List.getElem_cons_zero, List.setIfInBounds_toArray, List.set_cons_zero, List.set_cons_succ]
  refine wpAnyLast_take (i := 3) (oi := _) (v := (.pointer (some ⟨gp, 0, none⟩))) rfl (by kernel_rfl) (by kernel_rfl) (by kernel_rfl) (by kernel_rfl) (by kernel_rfl) (fun _ _ _ h => h) (Or.inl ⟨by rfl, fun w' _ => by go_simp⟩) hHeld ?_
  try simp only [Act.put, List.getElem_toArray, List.getElem_cons_succ, List.getElem_cons_zero, List.setIfInBounds_toArray, List.set_cons_zero, List.set_cons_succ]
  refine wpAnyLast_take (i := 4) (oi := _) (v := (.pointer (some ⟨gp, 2, none⟩))) rfl (by kernel_rfl) (by kernel_rfl) (by kernel_rfl) (by kernel_rfl) (by kernel_rfl) (fun _ _ _ h => h) (Or.inl ⟨by rfl, fun w' _ => by go_simp⟩) hHeld ?_
  try simp only [Act.put, List.getElem_toArray, List.getElem_cons_succ, List.getElem_cons_zero, List.setIfInBounds_toArray, List.set_cons_zero, List.set_cons_succ]
  refine wpAnyLast_take (i := 5) (oi := _) (v := (.agg #[.int .i64 4, .int .i64 (p.at_ : Int)])) rfl (by kernel_rfl) (by kernel_rfl) (by kernel_rfl) (by kernel_rfl) (by kernel_rfl) (fun _ _ _ h => h) (Or.inl ⟨by rfl, fun w' hSw => by have h1 := hSw.1; have h2 := hSw.2; go_simp⟩) hHeld ?_
  try simp only [Act.put, List.getElem_toArray, List.getElem_cons_succ, List.getElem_cons_zero, List.setIfInBounds_toArray, List.set_cons_zero, List.set_cons_succ]
  refine wpAnyLast_ready (rs := [6]) (by kernel_rfl) (by simp) ?_
  refine AllReadyL.cons (o := _) rfl (by decide) (fun K hK => ?_) AllReadyL.nil
  rw [if_pos (by rfl)]
  go_simp
  have hx4 := (((HX3.out.set2 HL1.out 0 (.int .i64 0)).set2 HL1.out 1 (.bool false)).set2 HL1.out 2 (.string ⟨#[]⟩)).set2 HL1.out 3 (.slice none 0 0)
  have hx4d := hx4.later (Below.refl _ _).drew
  have HX4 := Lib.hid hx4
  refine hK.out _ ((((w2.setCell ⟨m, 0, none⟩ (.int .i64 0)).setCell ⟨m, 1, none⟩ (.bool false)).setCell ⟨m, 2, none⟩ (.string ⟨#[]⟩)).setCell ⟨m, 3, none⟩ (.slice none 0 0)).drew ⟨hx4d.c2, hx4d.c3⟩ (fun hHeld => ?_)
  clear hK K hx4 hx4d
  try dsimp only
  try simp only [Act.put, List.getElem_toArray, List.getElem_cons_succ, List.getElem_cons_zero, List.setIfInBounds_toArray, List.set_cons_zero, List.set_cons_succ]
  refine wpAnyLast_ready (rs := [7]) (by kernel_rfl) (by simp) ?_
  refine AllReadyL.cons_last (o := _) rfl (by decide) (fun K hK => ?_) AllReadyL.nil
  rw [if_pos (by rfl)]
  go_simp
  have hx5 := ((HX4.out.set2 HL2.out 0 (.int .i64 4)).set2 HL2.out 1 (.int .i64 (p.at_ : Int))).later (Below.refl _ _).drew
  have HX5 := Lib.hid hx5
  clear hx5
  have HSZ := HX5.out.lt
  refine hK.out _ ((((((w2.setCell ⟨m, 0, none⟩ (.int .i64 0)).setCell ⟨m, 1, none⟩ (.bool false)).setCell ⟨m, 2, none⟩ (.string ⟨#[]⟩)).setCell ⟨m, 3, none⟩ (.slice none 0 0)).setCell ⟨m + 1, 0, none⟩ (.int .i64 4)).setCell ⟨m + 1, 1, none⟩ (.int .i64 (p.at_ : Int))).drew ?_
  clear hK K HX4 HX3
  try dsimp only
  try simp only [Act.put, List.getElem_toArray, List.getElem_cons_succ, List.getElem_cons_zero, List.setIfInBounds_toArray, List.set_cons_zero, List.set_cons_succ]
  refine wpAnyLast_done (by kernel_rfl) ?_ _
  refine NoPanic.normal ?_
  go_wp2_with fail
  exact bodyPost_ret (v := .tuple #[.agg #[.int .i64 0, .bool false, .string ⟨#[]⟩, .slice none 0 0], .agg #[.int .i64 4, .int .i64 (p.at_ : Int)]]) (by simp [results, Tryd.results13, go_sem, p0, p1, p2, p3, q0, q1, f0, f1, f2, f3, g0, g1]) rfl (CloseP.fault (q := { p.bad 4 p.at_ with shut := true }) (by show (4 : Int) ≠ 0; decide) HCL.out HX5.out)
end Go.Proofs.YtlcppkcclolgcaaDoor
