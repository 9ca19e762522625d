/- The walk of the parser's Feed. -/
import Derived.Test.YtlcppkcclolgcaaQa
namespace Go.Proofs.Ytlcppkcclolgcaa
set_option linter.unusedVariables false
set_option linter.unusedSimpArgs false
open Go.RowKit

/-- how the loop leaves -/
theorem step_bad {q : PS} {c : Nat} {ps : List Nat} {k : Nat} (hk : k < ps.length) (hc : ps.getD k 0 = c) (h : (q.step c).code ≠ 0) : q.feed (ps.drop k) = q.step c := by
  rw [drop_cons8 ps k hk, feed_cons, hc, feed_stop (.inr h)]
theorem step_go {q : PS} {c : Nat} {ps : List Nat} {k : Nat} (hk : k < ps.length) (hc : ps.getD k 0 = c) : q.feed (ps.drop k) = (q.step c).feed (ps.drop (k + 1)) := by
  rw [drop_cons8 ps k hk, feed_cons, hc]
theorem step_whole {q : PS} {c : Nat} (hs : q.shut = false) (h0 : q.code = 0) (hw : q.x.whole = true) : q.step c = q.bad 5 q.at_ := by
  unfold PS.step
  rw [if_neg (by rintro (h | h); rw [hs] at h; cases h; exact h h0), if_pos hw]
  rfl
theorem step_big {q : PS} {c : Nat} (hs : q.shut = false) (h0 : q.code = 0) (hw : q.x.whole = false) (ha : q.at_ = 1048576) : q.step c = q.bad 2 q.at_ := by
  unfold PS.step
  rw [if_neg (by rintro (h | h); rw [hs] at h; cases h; exact h h0), if_neg (by rw [hw]; simp), if_pos ha]
  rfl
theorem step_fr {q : PS} {c : Nat} (hs : q.shut = false) (h0 : q.code = 0) (hw : q.x.whole = false) (ha : q.at_ ≠ 1048576) : q.step c = q.frR c (frStep q.ws c) := by
  unfold PS.step
  rw [if_neg (by rintro (h | h); rw [hs] at h; cases h; exact h h0), if_neg (by rw [hw]; simp), if_neg ha]
/-- 'b[i:i+1]' -/
theorem slice_one (gb n cap k : Nat) (h : k + 1 ≤ cap) (w : World) : (Instr.slice 38 (.slice (some ⟨gb, 0, none⟩) n cap) (some (.int .i64 (k : Int))) (some (.int .i64 ((k : Int) + 1))) none).run Try.prog w = .ok (.slice (some ⟨gb, k, none⟩) 1 (cap - k)) w := by
  have hu : Try.prog.underlying 38 = some (.slice (Try.prog.elem 38)) := by kernel_rfl
  rw [run_slice_lh w 38 (some ⟨gb, 0, none⟩) n cap hu .i64 .i64 (k : Int) ((k : Int) + 1) (by omega) (by omega) (by omega)]
  have hs : (sizeOf (Try.prog.elem 38)).run Try.prog w = .ok 1 w := by kernel_rfl
  rw [hs]
  have e1 : ((k : Int) + 1).toNat = k + 1 := by omega
  have e2 : (k : Int).toNat = k := by omega
  have hadd : (⟨gb, 0, none⟩ : Addr).add (k * 1) = ⟨gb, k, none⟩ := by rw [Nat.mul_one]; exact addr_add0 gb k
  simp only [Result.andThen_ok, sliced, e1, e2]
  rw [if_neg (by omega), show k + 1 - k = 1 by omega]
  simp only [Option.map_some, hadd]
theorem rd_moved {w0 w w' : World} {S : Nat → Prop} {B g : Nat} {v : Value} {c : RC} (H : RdS w0 S w B g v c) (hk : ∀ b, MineR g v b → w'.heap[b]? = w.heap[b]?) : RdS w' (MineR g v) w' B g v c := by
  refine ⟨(hk g (.inl rfl)).trans H.row, ?_, H.hB, Away.refl _ _, fun _ => .inl rfl, fun k e _ => .inr e⟩
  rcases H.own with h | ⟨g', cap, cur, fz, rfl, hb, hg, rest⟩
  · exact .inl h
  · exact .inr ⟨g', cap, cur, fz, rfl, hb, (hk g' (.inr rfl)).trans hg, rest⟩
set_option maxRecDepth 100000 in
set_option maxHeartbeats 8000000 in
theorem pfeed_any (w0 : World) (S : Nat → Prop) (B gp : Nat) (p : PS) (bs ps : List Nat) (gb cap : Nat) (w : World) (H : PaX w0 S w B gp p) (hi : PInv p bs) (hb : Bytes ps) (hrd : RdB w0 S gb ps) (hl : ps.length ≤ 1000000000) (hcap : ps.length ≤ cap) :
    Calls Try.prog 10 #[.pointer (some ⟨gp, 0, none⟩), .slice (some ⟨gb, 0, none⟩) ps.length cap] w fun e w' => e = .returned (.int .i64 (((p.feed ps).at_ : Nat) - (p.at_ : Nat) : Int)) ∧ PaX w0 S w' B gp (p.feed ps) := by
  obtain ⟨R, hR⟩ : ∃ R, p.feed ps = R := ⟨_, rfl⟩
  have hRi := feed_inv ps hi hb
  rw [hR] at hRi ⊢
  have hR0 : (0 : Int) ≤ R.at_ := by omega
  have hR1 : (R.at_ : Int) ≤ 1048576 := by have := hRi.most; omega
  have hp0 : (0 : Int) ≤ p.at_ := by omega
  have hp1 : (p.at_ : Int) ≤ 1048576 := by have := hi.most; omega
  obtain ⟨n, hn⟩ : ∃ n, ps.length = n := ⟨_, rfl⟩
  rw [hn] at hcap hl ⊢
  have c0 : w.cell? ⟨gp, 0, none⟩ = some (.int .i64 (p.at_ : Nat)) := by obtain ⟨fl, gf, sv, rv, h⟩ := H; exact h.paw.c0
  have hn0 : (0 : Int) ≤ n := by omega
  have hnI : (n : Int) ≤ cap := by omega
  have HR := Lib.hid hR
  have HH := Lib.hid H
  have HI := Lib.hid hi
  have HB := Lib.hid hb
  have HRD := Lib.hid hrd
  have HN := Lib.hid hn
  clear hR hRi H hi hb hrd hn
  go_enter Try.func10, Try.ntmps10
  go_wp2_with fail
  go_step3
  go_wp2_with fail
  go_step3
  go_wp2_with fail
  go_loopw [16] (fun x wr => ∃ (k : Nat) (q : PS), x = .int .i64 (k : Nat) ∧ PaX w0 S wr B gp q ∧ PInv q (bs ++ ps.take k) ∧ q.feed (ps.drop k) = R ∧ k ≤ n) (fun x _ => n - (intOf x).toNat)
  case atStart => exact ⟨0, p, rfl, HH.out, by simpa using HI.out, by simpa using HR.out, Nat.zero_le _⟩
  case round =>
    clear HH HI HR c0
    obtain ⟨k, q, rfl, ⟨fl, gf, sv, rv, hP⟩, hqi, hfe, hkn⟩ := hrel
    have hk0 : (0 : Int) ≤ k := by omega
    have c0 := hP.paw.c0
    have c1 := hP.paw.c1
    have c2 := hP.paw.c2
    have c4 := hP.paw.c4
    have c5 := hP.paw.c5
    have c6 := hP.paw.c6
    have c8 := hP.paw.c8
    rw [hqi.shut] at c4
    have ha0 : (0 : Int) ≤ q.at_ := by omega
    have ha1 : (q.at_ : Int) ≤ 1048576 := by have := hqi.most; omega
    have hs0 : (0 : Int) ≤ q.start := by omega
    have hs1 : (q.start : Int) ≤ 1048576 := by have := hqi.most; have := hqi.st; omega
    have HP := Lib.hid hP
    have HQI := Lib.hid hqi
    have HFE := Lib.hid hfe
    clear hP hqi hfe
    by_cases hlt : k < n
    · have hltI : (k : Int) < n := by omega
      have hlp : k < ps.length := by rw [HN.out]; exact hlt
      obtain ⟨c, hc⟩ : ∃ c, ps.getD k 0 = c := ⟨_, rfl⟩
      have hcb : c < 256 := by
        rw [← hc, List.getD_eq_getElem?_getD, List.getElem?_eq_getElem hlp]
        exact HB.out _ (List.getElem_mem _)
      have hnext := step_inv HQI.out hcb
      rw [List.append_assoc, ← hc, ← take_snoc8 ps k hlp, hc] at hnext
      have HLP := Lib.hid hlp
      have HC := Lib.hid hc
      have HCB := Lib.hid hcb
      have HNX := Lib.hid hnext
      clear hc hcb hnext hlp
      by_cases h0 : q.code = 0
      · rw [h0] at c2
        by_cases hw : q.x.whole = true
        · rw [hw] at c6
          have hst := step_whole (c := c) HQI.out.shut h0 hw
          obtain rfl : q.bad 5 q.at_ = R := by rw [← hst, ← HFE.out, step_bad HLP.out HC.out (by rw [hst]; show (5 : Int) ≠ 0; decide)]
          have HP2 := Lib.hid HP.out.paw
          clear HFE HNX hst hw h0 HP
          go_wp2_with (go_at_call 24; refine (pfail_any w0 S B gp fl q gf sv rv 5 q.at_ _ HP2.out).mono ?_; rintro e w3 ⟨rfl, hf⟩; have d0 : w3.cell? ⟨gp, 0, none⟩ = some (.int .i64 (q.at_ : Nat)) := hf.c0; have HF := Lib.hid hf; clear hf)
          try rw [Exit.noGoto_ret]
          go_ret
          exact ⟨rfl, _, _, _, _, PaS.of_bad HF.out (by show (5 : Int) ≠ 0; decide)⟩
        · have hw' : q.x.whole = false := by simpa using hw
          rw [hw'] at c6
          by_cases ha : q.at_ = 1048576
          · have haI : ((q.at_ : Int) == 1048576) = true := by simp; omega
            have hst := step_big (c := c) HQI.out.shut h0 hw' ha
            obtain rfl : q.bad 2 q.at_ = R := by rw [← hst, ← HFE.out, step_bad HLP.out HC.out (by rw [hst]; show (2 : Int) ≠ 0; decide)]
            have HP2 := Lib.hid HP.out.paw
            clear HFE HNX hst hw hw' h0 HP ha
            go_wp2_with (go_at_call 24; refine (pfail_any w0 S B gp fl q gf sv rv 2 q.at_ _ HP2.out).mono ?_; rintro e w3 ⟨rfl, hf⟩; have d0 : w3.cell? ⟨gp, 0, none⟩ = some (.int .i64 (q.at_ : Nat)) := hf.c0; have HF := Lib.hid hf; clear hf)
            try rw [Exit.noGoto_ret]
            go_ret
            exact ⟨rfl, _, _, _, _, PaS.of_bad HF.out (by show (2 : Int) ≠ 0; decide)⟩
          · have haI : ((q.at_ : Int) == 1048576) = false := by simp; omega
            have hst := step_fr (c := c) HQI.out.shut h0 hw' ha
            obtain ⟨ws, hinv, -, hpre, -⟩ := HQI.out.good h0
            have hpl := hinv.place hw'
            have hfs := feedB_step hpre HCB.out
            obtain ⟨v, hrd, hf2, hf3⟩ := HP.out.rdr h0 hw'
            have hcell := HRD.out.at HP.out.paw.away k HLP.out
            rw [HC.out] at hcell
            have hdr : Below wr.heap.size wr wr.drew := (Below.refl _ _).drew
            have CF := rfeed_any wr.drew (MineR gf v) B gf c gb k (cap - k) v (rcOf q.ws) wr.drew (hrd.later hdr).rebase HCB.out (rc_fine hpre) hcell
            have HD := Lib.hid (HP.out.later hdr)
            have CF := Lib.hid CF
            have HPL := Lib.hid hpl
            have HPRE := Lib.hid hpre
            have HF2 := Lib.hid hf2
            have HF3 := Lib.hid hf3
            have HST := Lib.hid hst
            have HFS := Lib.hid hfs
            have H0 := Lib.hid h0
            have HW := Lib.hid hw'
            have hlen : ps.length = n := HN.out
            have hkc : k + 1 ≤ cap := by omega
            have hsl := slice_one gb n cap k hkc
            have hwk : IntKind.i64.wrap ((k : Int) + 1) = (k : Int) + 1 := IntWalk.i64_in _ (by omega)
            clear hst hinv hpre hpl hfs hrd hf2 hf3 hcell hdr h0 hw hw' ha HP hlen
            go_upto_region 11 with fail
            go_still_tail 9, (by kernel_rfl)
            change wpList _ _ _ _ _ wr.drew
            generalize wr.drew = w6 at *
            clear c0 c1 c2 c4 c5 c6 c8 hsl hwk
            have hst := HST.out
            have hfs := HFS.out
            cases e : frStep q.ws c with
            | cont =>
              rw [e] at hst hfs
              have hfs : (rcOf q.ws).feedB c = (rcOf (q.ws ++ [c]), true, none) := hfs
              have hcf := CF.out
              rw [hfs] at hcf
              have KF := Lib.hid hcf
              have HSTP : Hid (q.step c = { q with at_ := q.at_ + 1, ws := q.ws ++ [c] }) := Lib.hid hst
              clear hfs hcf hst e CF HFS HST
              go_upto_region 16 with (first | (go_at_call 25; refine KF.out.mono ?_; rintro e w7 ⟨x, rfl, hx, v7, h7⟩; obtain rfl : x = .slice none 0 0 := hx; have hfd := PaS.fed HD.out.paw HF2.out HF3.out h7; have c87 := hfd.1.c8; have r1 : w7.cell? ⟨gf, 1, none⟩ = some (.int .i64 0) := h7.c1; have r2 : w7.cell? ⟨gf, 2, none⟩ = some (.int .i64 0) := h7.c2; have HFD := Lib.hid hfd; have H7 := Lib.hid h7; clear hfd h7) | (go_at_call 26; refine (rfault_any gf _ _ _ r1 r2).mono ?_; rintro e w8 ⟨rfl, hb8⟩; have HB8 := Lib.hid hb8; clear hb8))
              have hp8 := (HFD.out.1.later HB8.out).later ((Below.refl w8.heap.size w8).alloc (Nat.le_refl _) (.cells #[.int .i64 0, .int .i64 0] 30))
              have hr8 := (H7.out.later HB8.out).later ((Below.refl w8.heap.size w8).alloc (Nat.le_refl _) (.cells #[.int .i64 0, .int .i64 0] 30))
              generalize w8.alloc (.cells #[.int .i64 0, .int .i64 0] 30) = w9 at *
              have c0 := hp8.c0
              have f0 := hp8.free 0
              have hput := hp8.put (p' := { q with at_ := q.at_ + 1, ws := q.ws ++ [c] }) 0 (.int .i64 ((q.at_ + 1 : Nat) : Int)) rfl rfl rfl
              rw [Int.natCast_add] at hput
              have hne : ∀ b, MineR gf v7 b → b ≠ gp := fun b hb e => by
                have h1 := HFD.out.1.lab
                rcases hb with rfl | hb
                · have h2 := HFD.out.2.1; rw [e] at h2; omega
                · have h2 := HFD.out.2.2 b hb; rw [e] at h2; omega
              have hrd' := rd_moved (w' := w9.setCell ⟨gp, 0, none⟩ (.int .i64 ((q.at_ : Int) + 1))) hr8 (fun b hb => Below.heap_setCell _ _ _ _ (hne b hb))
              have HPUT : Hid (PaX w0 S (w9.setCell ⟨gp, 0, none⟩ (.int .i64 ((q.at_ : Int) + 1))) B gp { q with at_ := q.at_ + 1, ws := q.ws ++ [c] }) := Lib.hid ⟨_, _, _, _, hput, fun _ _ => ⟨v7, hrd', HFD.out.2.1, HFD.out.2.2⟩⟩
              clear hp8 hr8 hput hrd' hne
              go_wp2_with fail
              go_roundw
              case rel =>
                refine ⟨k + 1, { q with at_ := q.at_ + 1, ws := q.ws ++ [c] }, by go_num, HPUT.out, ?_, ?_, by omega⟩
                · have h := HNX.out; rw [HSTP.out] at h; exact h
                · have h := step_go HLP.out HC.out (q := q); rw [HSTP.out, HFE.out] at h; exact h.symm
              case measure => simp [intOf]; omega
            | bad qc off =>
              have hqc := frStep_bad e
              rw [e] at hst hfs
              obtain ⟨c', hfb, hc1, hc2⟩ : ∃ c', (rcOf q.ws).feedB c = (c', false, none) ∧ c'.code = qc ∧ c'.fat = off := hfs
              have hcf := CF.out
              rw [hfb] at hcf
              have KF := Lib.hid hcf
              have hst : q.step c = q.bad qc (q.start + off) := hst
              have hqn : qc ≠ 0 := by omega
              have hqI : (qc != 0) = true := by simpa using hqn
              obtain rfl : q.bad qc (q.start + off) = R := by rw [← hst, ← HFE.out, step_bad HLP.out HC.out (by rw [hst]; exact hqn)]
              have hol := HPRE.out.len
              have ho1 : (off : Int) ≤ 1048600 := by omega
              have ho0 : (0 : Int) ≤ off := by omega
              have hwo : IntKind.i64.wrap ((q.start : Int) + off) = (q.start : Int) + off := IntWalk.i64_in _ (by omega)
              have HC1 := Lib.hid hc1
              have HC2 := Lib.hid hc2
              have HQN := Lib.hid hqn
              clear hfb hcf hst e CF HFS HST hc1 hc2 hol hqc hqn HFE HNX
              go_upto_region 14 with (first | (go_at_call 25; refine KF.out.mono ?_; rintro e w7 ⟨x, rfl, hx, v7, h7⟩; obtain rfl : x = .slice none 0 0 := hx; have hfd := PaS.fed HD.out.paw HF2.out HF3.out h7; have c87 := hfd.1.c8; have r1 : w7.cell? ⟨gf, 1, none⟩ = some (.int .i64 qc) := h7.c1.trans (by rw [HC1.out]); have r2 : w7.cell? ⟨gf, 2, none⟩ = some (.int .i64 (off : Int)) := h7.c2.trans (by rw [HC2.out]); have HFD := Lib.hid hfd; have H7 := Lib.hid h7; clear hfd h7) | (go_at_call 26; refine (rfault_any gf _ _ _ r1 r2).mono ?_; rintro e w8 ⟨rfl, hb8⟩; have HB8 := Lib.hid hb8; clear hb8))
              have hp8 := (HFD.out.1.later HB8.out).later ((Below.refl w8.heap.size w8).alloc (Nat.le_refl _) (.cells #[.int .i64 qc, .int .i64 (off : Int)] 30))
              have hbx := heap_alloc_new w8 (.cells #[.int .i64 qc, .int .i64 (off : Int)] 30)
              generalize hm : w8.heap.size = m at *
              generalize w8.alloc (.cells #[.int .i64 qc, .int .i64 (off : Int)] 30) = w9 at *
              have c1 := hp8.c1
              have b0 : w9.cell? ⟨m, 0, none⟩ = some (.int .i64 qc) := cell_of_row w9 m 0 _ _ _ hbx
              have b1 : w9.cell? ⟨m, 1, none⟩ = some (.int .i64 (off : Int)) := cell_of_row w9 m 1 _ _ _ hbx
              have HP9 := Lib.hid (hp8.later (Below.refl w9.heap.size w9).drew)
              have hcall := fun wq (h : PaW w0 S wq B gp (lbl fl v7 3) q gf sv rv) => pfail_any w0 S B gp _ q gf sv rv qc (q.start + off) wq h
              simp only [Int.natCast_add] at hcall
              have HCALL := Lib.hid hcall
              clear hp8 hbx hm hcall
              go_still_tail 11, (by kernel_rfl)
              change wpList _ _ _ _ _ w9.drew
              generalize w9.drew = w10 at *
              clear c1 b0 b1 hwo
              go_wp2_with (go_at_call 24; refine (HCALL.out _ HP9.out).mono ?_; rintro e w3 ⟨rfl, hf⟩; have d0 : w3.cell? ⟨gp, 0, none⟩ = some (.int .i64 (q.at_ : Nat)) := hf.c0; have HF := Lib.hid hf; clear hf)
              try rw [Exit.noGoto_ret]
              go_ret
              exact ⟨rfl, _, _, _, _, PaS.of_bad HF.out HQN.out⟩
            | whole s =>
              have hsz := (HPRE.out.whole HCB.out e).2
              rw [e] at hst hfs
              obtain ⟨c', hfb, hc1, hc2⟩ : ∃ c', (rcOf q.ws).feedB c = (c', true, some s) ∧ c'.code = 0 ∧ c'.fat = 0 := hfs
              have hcf := CF.out
              rw [hfb] at hcf
              have KF := Lib.hid hcf
              have hst : q.step c = q.wordR (q.x.word s) := hst
              have KW := Lib.hid (fun wq fl gf sv rv (h : PaW w0 S wq B gp fl q gf sv rv) => word_any w0 S B gp fl q gf sv rv s wq h hsz HQI.out.dep (fun l hl => by have h1 := HQI.out.cnt l hl; have h2 := HQI.out.st; have h3 := HQI.out.most; omega) HPL.out)
              have HC1 := Lib.hid hc1
              have HC2 := Lib.hid hc2
              have HSTP := Lib.hid hst
              clear hfb hcf hst e CF HFS HST hc1 hc2 hsz
              cases hwd : q.x.word s with
              | error qe =>
                have hqe := word_err hwd
                have hst : q.step c = q.bad qe q.start := by rw [HSTP.out, hwd]; rfl
                rw [hwd] at KW
                obtain rfl : q.bad qe q.start = R := by rw [← hst, ← HFE.out, step_bad HLP.out HC.out (by rw [hst]; exact hqe)]
                have HQE := Lib.hid hqe
                clear hwd hst hqe HSTP HFE HNX
                go_upto_region 15 with (first | (go_at_call 25; refine KF.out.mono ?_; rintro e w7 ⟨x, rfl, hx, v7, h7⟩; obtain ⟨ki, kc, hxe, hxb, hxc⟩ : ∃ k cap, x = .slice (some ⟨k, 0, none⟩) 1 cap ∧ B ≤ k ∧ w7.cell? ⟨k, 2, none⟩ = some (.string s) := hx; subst hxe; have hfd := PaS.fed HD.out.paw HF2.out HF3.out h7; have c87 := hfd.1.c8; have r1 : w7.cell? ⟨gf, 1, none⟩ = some (.int .i64 0) := h7.c1.trans (by rw [HC1.out]); have r2 : w7.cell? ⟨gf, 2, none⟩ = some (.int .i64 0) := h7.c2.trans (by rw [HC2.out]; rfl); have HFD := Lib.hid hfd; have H7 := Lib.hid h7; clear hfd h7) | (go_at_call 26; refine (rfault_any gf _ _ _ r1 r2).mono ?_; rintro e w8 ⟨rfl, hb8⟩; have HB8 := Lib.hid hb8; clear hb8))
                have hp8 := (HFD.out.1.later HB8.out).later ((Below.refl w8.heap.size w8).alloc (Nat.le_refl _) (.cells #[.int .i64 0, .int .i64 0] 30))
                have hx8 : w8.cell? ⟨ki, 2, none⟩ = some (.string s) := (HB8.out.cell (p := ⟨ki, 2, none⟩) (block_lt_of_cell hxc)).trans hxc
                have hx9 := cell_past hx8 (.cells #[.int .i64 0, .int .i64 0] 30)
                have hbx := heap_alloc_new w8 (.cells #[.int .i64 0, .int .i64 0] 30)
                generalize hm : w8.heap.size = m at *
                generalize w8.alloc (.cells #[.int .i64 0, .int .i64 0] 30) = w9 at *
                have b0 : w9.cell? ⟨m, 0, none⟩ = some (.int .i64 0) := cell_of_row w9 m 0 _ _ _ hbx
                have HW9 := Lib.hid (KW.out _ _ _ _ _ hp8)
                clear hp8 hx8 hbx hm hxc
                go_wp2_with (go_at_call 27; refine HW9.out.mono ?_; rintro e w3 ⟨rfl, fl', sv', rv', hf⟩; have d0 : w3.cell? ⟨gp, 0, none⟩ = some (.int .i64 (q.at_ : Nat)) := hf.c0; have HF := Lib.hid hf; clear hf)
                try rw [Exit.noGoto_ret]
                go_ret
                exact ⟨rfl, _, _, _, _, PaS.of_bad HF.out HQE.out⟩
              | ok y =>
                have hst : q.step c = { q with at_ := q.at_ + 1, start := q.at_ + 1, ws := [], x := y } := by rw [HSTP.out, hwd]; rfl
                rw [hwd] at KW
                have HST2 := Lib.hid hst
                clear hwd hst HSTP
                go_upto_region 15 with (first | (go_at_call 25; refine KF.out.mono ?_; rintro e w7 ⟨x, rfl, hx, v7, h7⟩; obtain ⟨ki, kc, hxe, hxb, hxc⟩ : ∃ k cap, x = .slice (some ⟨k, 0, none⟩) 1 cap ∧ B ≤ k ∧ w7.cell? ⟨k, 2, none⟩ = some (.string s) := hx; subst hxe; have hfd := PaS.fed HD.out.paw HF2.out HF3.out h7; have c87 := hfd.1.c8; have r1 : w7.cell? ⟨gf, 1, none⟩ = some (.int .i64 0) := h7.c1.trans (by rw [HC1.out]); have r2 : w7.cell? ⟨gf, 2, none⟩ = some (.int .i64 0) := h7.c2.trans (by rw [HC2.out]; rfl); have HFD := Lib.hid hfd; have H7 := Lib.hid h7; clear hfd h7) | (go_at_call 26; refine (rfault_any gf _ _ _ r1 r2).mono ?_; rintro e w8 ⟨rfl, hb8⟩; have HB8 := Lib.hid hb8; clear hb8))
                have hp8 := (HFD.out.1.later HB8.out).later ((Below.refl w8.heap.size w8).alloc (Nat.le_refl _) (.cells #[.int .i64 0, .int .i64 0] 30))
                have hx8 : w8.cell? ⟨ki, 2, none⟩ = some (.string s) := (HB8.out.cell (p := ⟨ki, 2, none⟩) (block_lt_of_cell hxc)).trans hxc
                have hx9 := cell_past hx8 (.cells #[.int .i64 0, .int .i64 0] 30)
                have hbx := heap_alloc_new w8 (.cells #[.int .i64 0, .int .i64 0] 30)
                generalize hm : w8.heap.size = m at *
                generalize w8.alloc (.cells #[.int .i64 0, .int .i64 0] 30) = w9 at *
                have b0 : w9.cell? ⟨m, 0, none⟩ = some (.int .i64 0) := cell_of_row w9 m 0 _ _ _ hbx
                have HW9 := Lib.hid (KW.out _ _ _ _ _ hp8)
                clear hp8 hx8 hbx hm hxc
                go_upto_region 16 with (go_at_call 27; refine HW9.out.mono ?_; rintro e w3 ⟨rfl, fl', sv', rv', hf⟩; have HF := Lib.hid hf; clear hf)
                have d0 : w3.cell? ⟨gp, 0, none⟩ = some (.int .i64 (q.at_ : Nat)) := HF.out.c0
                have g0 := HF.out.free 0
                have hput := HF.out.put (p' := { q with at_ := q.at_ + 1, x := y }) 0 (.int .i64 ((q.at_ + 1 : Nat) : Int)) rfl rfl rfl
                rw [Int.natCast_add] at hput
                have HPUT := Lib.hid hput
                clear hput b0 hx9
                go_upto_region 18 with fail
                generalize w3.setCell ⟨gp, 0, none⟩ (.int .i64 ((q.at_ : Int) + 1)) = w4 at *
                clear d0 g0
                have d0 : w4.cell? ⟨gp, 0, none⟩ = some (.int .i64 ((q.at_ : Int) + 1)) := HPUT.out.c0.trans (by simp only [Int.natCast_add]; rfl)
                have d1 := HPUT.out.c1
                have g1 := HPUT.out.free 1
                have hput := HPUT.out.put (p' := { q with at_ := q.at_ + 1, start := q.at_ + 1, x := y }) 1 (.int .i64 ((q.at_ + 1 : Nat) : Int)) rfl rfl rfl
                rw [Int.natCast_add] at hput
                have HPUT2 := Lib.hid hput
                clear hput
                go_upto_region 19 with fail
                generalize w4.setCell ⟨gp, 1, none⟩ (.int .i64 ((q.at_ : Int) + 1)) = w5 at *
                clear d0 d1 g1
                have HNR := Lib.hid (newr_any w5)
                go_wp2_with (go_at_call 23; refine HNR.out.mono ?_; rintro e w6' ⟨rfl, hr6⟩; have hb6 : Below w5.heap.size w5 w6' := ⟨hr6.away.os, hr6.away.tape, hr6.away.output, hr6.away.size, fun k hk => hr6.away.block k hk (fun h => h)⟩; have d8 : w6'.cell? ⟨gp, 8, none⟩ = some (.pointer (some ⟨gf, 0, none⟩)) := (HPUT2.out.later hb6).c8; have g8 := (HPUT2.out.later hb6).free 8; have HNF := Lib.hid (HPUT2.out.newFrame (p' := { q with at_ := q.at_ + 1, start := q.at_ + 1, ws := [], x := y }) hr6 rfl); clear hr6 hb6)
                go_roundw
                case rel =>
                  refine ⟨k + 1, { q with at_ := q.at_ + 1, start := q.at_ + 1, ws := [], x := y }, by go_num, ⟨_, _, _, _, HNF.out⟩, ?_, ?_, by omega⟩
                  · have h := HNX.out; rw [HST2.out] at h; exact h
                  · have h := step_go HLP.out HC.out (q := q); rw [HST2.out, HFE.out] at h; exact h.symm
                case measure => simp [intOf]; omega
      · have h0I : (q.code != 0) = true := by simpa using h0
        obtain rfl : q = R := by rw [← HFE.out, feed_stop (.inr h0)]
        clear HFE h0
        go_wp2_with fail
        try rw [Exit.noGoto_ret]
        go_ret
        exact ⟨rfl, _, _, _, _, HP.out⟩
    · have hltI : ¬ (k : Int) < n := by omega
      have hkk : ps.drop k = [] := List.drop_eq_nil_of_le (by rw [HN.out]; omega)
      obtain rfl : q = R := by rw [← HFE.out, hkk]; rfl
      clear HFE hkk
      go_wp2_with fail
      try rw [Exit.noGoto_ret]
      go_ret
      exact ⟨rfl, _, _, _, _, HP.out⟩
end Go.Proofs.Ytlcppkcclolgcaa

