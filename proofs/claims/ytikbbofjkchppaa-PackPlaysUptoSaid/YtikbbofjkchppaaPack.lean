/- The walk of Pack. -/
import Derived.Test.YtikbbofjkchppaaFl
import Derived.Test.YtikbbofjkchppaaPg
import Derived.Deep.DeepCutAuto
namespace Go.Proofs.Ytikbbofjkchppaa
set_option linter.unusedVariables false
set_option linter.unusedSimpArgs false
open Go.RowKit

/-- the packer as it is made -/
theorem pks_made {w w1 : World} (hb : Below w.heap.size w w1) (t : ByteArray) (L : List Nat) (hL : nb t = L) (ht : t.size ≤ 140737488355328) :
    PkS w ((((Lib.bytesWorld w1 5 t).alloc (.map #[] 0)).alloc (.cells #[.slice (some ⟨w1.heap.size, 0, none⟩) t.size (grownCap w1 t.size 0 5), .int .i64 0, .map (some (w1.heap.size + 1))] 71))) (w1.heap.size + 2) (w1.heap.size + 1) (.slice (some ⟨w1.heap.size, 0, none⟩) t.size (grownCap w1 t.size 0 5)) 0 0 (fun _ => none) L := by
  have hsz := Lib.bytesWorld_size w1 5 t
  have hown := OwnB.conv (base := w.heap.size) w1 t ht hb.size
  rw [hL] at hown
  have hm := LastMap.made (Lib.bytesWorld w1 5 t)
  rw [hsz] at hm
  have hbw := below_conv w w1 t hb (Nat.le_refl _)
  have hb2 : Below w.heap.size w ((Lib.bytesWorld w1 5 t).alloc (.map #[] 0)) := hbw.alloc hbw.size _
  have hs2 : ((Lib.bytesWorld w1 5 t).alloc (.map #[] 0)).heap.size = w1.heap.size + 2 := by simp [hsz]
  refine ⟨⟨?_⟩, ?_, ?_, hb2.alloc hb2.size _, ?_, ?_⟩
  · rw [← hs2]; exact heap_alloc_new _ _
  · exact (hown.later ((Below.refl _ _).alloc (Nat.le_refl _) _)).later ((Below.refl _ _).alloc (Nat.le_refl _) _)
  · exact hm.kept (World.grownBy_alloc _ _ none) (by simp)
  · have := hb.size; omega
  · have := hb.size; omega

theorem PkS.noted {w0 w w' : World} {gp b plain n : Nat} {v : Value} {F F' : List Nat → Option Nat} {out : List Nat} (H : PkS w0 w gp b v plain n F out) (hm : LastMap w' b (n + 1) F') (hg : w.grownBy w' (some b)) : PkS w0 w' gp b v plain (n + 1) F' out :=
  ⟨H.p.far (hg.block _ H.p.lt (by simpa using H.ne)), H.own.kept hg (.inr H.vb), hm, ⟨hg.os.trans H.below.os, hg.tape.trans H.below.tape, hg.output.trans H.below.output, Nat.le_trans H.below.size hg.size, fun k hk => (hg.block k (Nat.lt_of_lt_of_le hk H.below.size) (by have := H.ob; simp; omega)).trans (H.below.block k hk)⟩, H.og, H.ob⟩
theorem noted_le {L : List Nat} {i : Nat} {ws : List Nat} {c : Nat} (h : lastW L i ws = some c) : c ≤ i := by have := (lastW_some h).1; omega

theorem hbo' {rn rf : Nat} {P : Nat → Nat → Prop} (h : (rn, rf).1 ≠ 0 → ∃ n far, (rn, rf) = (n, far) ∧ P n far) (h0 : ¬ rn = 0) : ∃ n far, (rn, rf) = (n, far) ∧ P n far := h h0

set_option maxRecDepth 100000 in
set_option maxHeartbeats 8000000 in
theorem pack_any (s : ByteArray) (w : World) (hs : s.size ≤ 1048576) :
    Calls Try.prog 16 #[.string s] w fun e w' => e = .returned (.tuple #[.string (strOf (packL (nb s))), .int .i64 0]) ∧ Below w.heap.size w w' := by
  obtain ⟨R, hR⟩ : ∃ R, packL (nb s) = R := ⟨_, rfl⟩
  have hRB := packL_bytes (nb s) (nb_bytes s)
  rw [hR] at hRB ⊢
  have HR := Lib.hid hR
  have HRB := Lib.hid hRB
  clear hR hRB
  have hsI : (s.size : Int) ≤ 1048576 := by omega
  have hs0 : (0 : Int) ≤ s.size := by omega
  go_enter Try.func16, Try.ntmps16
  go_upto_region 3 with fail
  go_cut [4] (fun x4 wx => ∃ gp b v, x4 = .pointer (some ⟨gp, 0, none⟩) ∧ PkS w wx gp b v 0 0 (fun _ => none) (le8 s.size))
  case first =>
    have hcv := fun W => Lib.run_convert_string_bytes (P := Try.prog) W 9 43 5 (strOf (le8 s.size)) Try.underlying9 Try.underlying43 Try.underlying5
    have hmk := fun W => run_makeMap (P := Try.prog) 69 W
    go_wp2_with (go_at_call 28; refine (wint_any s.size (by omega) _).mono ?_; rintro e w1 ⟨rfl, hb1⟩; have HB1 := Lib.hid hb1; clear hb1; have hbsz := Lib.bytesWorld_size w1 5 (strOf (le8 s.size)))
    go_meet
    refine ⟨w1.heap.size + 2, w1.heap.size + 1, _, ?_, pks_made HB1.out (strOf (le8 s.size)) (le8 s.size) (nb_strOf _ (fl8_bytes _ 8)) (by rw [strOf_size, le8_length]; omega)⟩
    rfl
  case rest =>
    obtain ⟨gp, b, v, rfl, hP⟩ := hcut
    have HP := Lib.hid hP
    clear hP
    have hG : le8 s.size ++ packG (nb s) s.size 0 0 = R := by
      rw [← HR.out, packL, nb_length]
    have HG := Lib.hid hG
    clear hG HR
    have L8 := le8_length s.size
    have HL8 := Lib.hid L8
    clear L8
    go_wp2_with fail
    go_loopw [5, 6] (fun x5 x6 wr => ∃ v p out n i seen k, x5 = .int .i64 (seen : Nat) ∧ x6 = .int .i64 (i : Nat) ∧ PkS w wr gp b v p n (lastW (nb s) seen) out ∧ seen ≤ i ∧ i ≤ s.size ∧ p ≤ i ∧ n ≤ seen ∧ out.length + 2 * (s.size - p) ≤ 2100000 ∧ s.size - i ≤ k ∧ out ++ packG (nb s) k i p = R) (fun _ x6 _ => s.size - (intOf x6).toNat)
    case atStart => exact ⟨v, 0, le8 s.size, 0, 0, 0, s.size, rfl, rfl, HP.out, by omega, by omega, by omega, by omega, by have := HL8.out; omega, by omega, HG.out⟩
    case round =>
      clear HP HG HL8
      obtain ⟨v, p, out, n, i, seen, k, rfl, rfl, hP, hsi, his, hpi, hns, hol, hk, hRR⟩ := hrel
      have HP := Lib.hid hP
      have HRR := Lib.hid hRR
      clear hP hRR
      have hi0 : (0 : Int) ≤ i := by omega
      have hse0 : (0 : Int) ≤ seen := by omega
      by_cases hlt : i < s.size
      · have hltI : (i : Int) < s.size := by omega
        go_wp2_with fail
        go_loopw [5] (fun x5 wq => ∃ sn n', x5 = .int .i64 (sn : Nat) ∧ PkS w wq gp b v p n' (lastW (nb s) sn) out ∧ sn ≤ i ∧ n' ≤ sn) (fun x5 _ => i - (intOf x5).toNat)
        case atStart => exact ⟨seen, n, rfl, HP.out, hsi, hns⟩
        case round =>
          clear HP
          obtain ⟨sn, n', rfl, hP, hsn, hn'⟩ := hrel
          have HP := Lib.hid hP
          clear hP
          have hsn0 : (0 : Int) ≤ sn := by omega
          by_cases hl2 : sn < i
          · have hl2I : (sn : Int) < i := by omega
            go_wp2_with (go_at_call 29; refine (note_any gp b n' p sn v _ s _ HP.out.p HP.out.m HP.out.ne (by omega) hs (by simp only [maxLen]; omega)).mono ?_; rintro e w3 ⟨rfl, hm3, hg3⟩; rw [noted_lastW] at hm3; have HP3 := Lib.hid (HP.out.noted hm3 hg3); clear hm3 hg3)
            go_roundw
            case rel => exact ⟨sn + 1, n' + 1, by go_num, HP3.out, by omega, by omega⟩
            case measure => simp [intOf]; omega
          · have hl2I : ¬ (sn : Int) < i := by omega
            obtain rfl : sn = i := by omega
            have hF : ∀ ws c, lastW (nb s) sn ws = some c → c ≤ sn := fun ws c h => noted_le h
            have HF := Lib.hid hF
            obtain ⟨⟨rn, rf⟩, hr⟩ : ∃ r, backP (nb s) sn (lastW (nb s) sn) = r := ⟨_, rfl⟩
            have hbo := backP_ok (nb s) sn
            rw [hr] at hbo
            have HBO := Lib.hid hbo
            have HBR := Lib.hid hr
            have hstep : ∀ k', k = k' + 1 → packG (nb s) k sn p = if rn = 0 then packG (nb s) k' (sn + 1) p else runs (nb s) sn (sn - p) p ++ ((124 + rn) :: (rf - 1) % 256 :: (rf - 1) / 256 % 256 :: packG (nb s) k' (sn + rn) (sn + rn)) := by
              intro k' e
              rw [e, packG, if_pos (by rw [nb_length]; exact hlt), hr]
            have HSTEP := Lib.hid hstep
            clear hF hr hbo hstep
            by_cases h0 : rn = 0
            · have hz : ((rn : Int) == 0) = true := by rw [h0]; rfl
              have HZ := Lib.hid h0
              clear h0
              go_wp2_with (go_at_call 30; refine (back_any gp b n' p sn v _ s _ HP.out.p HP.out.m (by omega) hs HF.out).mono ?_; rintro e w3 ⟨rfl, hb3⟩; rw [HBR.out]; have HP3 := Lib.hid (HP.out.later hb3); clear hb3)
              go_roundw
              case rel =>
                refine ⟨v, p, out, n', sn + 1, sn, k - 1, rfl, by go_num, HP3.out, by omega, by omega, by omega, by omega, by omega, by omega, ?_⟩
                have e := HSTEP.out (k - 1) (by omega)
                rw [if_pos HZ.out] at e
                rw [← e]
                exact HRR.out
              case measure => simp [intOf]; omega
            · have hz : ((rn : Int) == 0) = false := by simp; omega
              obtain ⟨_, _, he, hn4, h131, hin, hf1, hfi, hf6, hsame⟩ := hbo' HBO.out h0
              simp only [Prod.mk.injEq] at he
              obtain ⟨rfl, rfl⟩ := he
              clear hsame
              rw [nb_length] at hin
              have hfl : out.length + 2 * (sn - p) ≤ 8000000 := by omega
              have hrl := runs_length (nb s) sn (by rw [nb_length]; omega) (sn - p) p (Nat.le_refl _)
              have hrl2 : (out ++ runs (nb s) sn (sn - p) p).length ≤ out.length + 2 * (sn - p) := by
                rw [List.length_append, hrl]; unfold rc; omega
              have HRL := Lib.hid hrl2
              obtain ⟨x0, hx0⟩ : ∃ x, x = 124 + rn := ⟨_, rfl⟩
              obtain ⟨x1, hx1⟩ : ∃ x, x = (rf - 1) % 256 := ⟨_, rfl⟩
              obtain ⟨x2, hx2⟩ : ∃ x, x = (rf - 1) / 256 % 256 := ⟨_, rfl⟩
              have hstep2 := HSTEP.out
              simp only [if_neg h0, ← hx0, ← hx1, ← hx2] at hstep2
              have HSTEP2 := Lib.hid hstep2
              have hr4 : (4 : Int) ≤ rn := by omega
              have hr131 : (rn : Int) ≤ 131 := by omega
              have hri : (sn : Int) + rn ≤ s.size := by omega
              have hrf1 : (1 : Int) ≤ rf := by omega
              have hrf6 : (rf : Int) ≤ 65536 := by omega
              have hq0 : 128 + (rn : Int) - 4 = (x0 : Int) := by omega
              have hq1 : ((rf : Int) - 1) % 256 = (x1 : Int) := by omega
              have hq2 : ((rf : Int) - 1) / 256 = (x2 : Int) := by omega
              have hcl : (cl .u8 [x0, x1, x2]).toArray = #[.int .u8 (128 + (rn : Int) - 4), .int .u8 (((rf : Int) - 1) % 256), .int .u8 (((rf : Int) - 1) / 256)] := by rw [hq0, hq1, hq2]; rfl
              have HCL := Lib.hid hcl
              clear hrl hrl2 hstep2 hx0 hx1 hx2 h0 hq0 hq1 hq2 hcl
              go_upto_region 14 with (first | (go_at_call 30; refine (back_any gp b n' p sn v _ s _ HP.out.p HP.out.m (by omega) hs HF.out).mono ?_; rintro e w3 ⟨rfl, hb3⟩; rw [HBR.out]; have HP3 := Lib.hid (HP.out.later hb3); clear hb3) | (go_at_call 31; refine (flush_any gp b n' p sn v _ out s w _ HP3.out hpi (by omega) hs hfl).mono ?_; rintro e w4 ⟨rfl, v4, hP4⟩; have HP4 := Lib.hid hP4; clear hP4))
              obtain ⟨A4, k4, hv4⟩ := HP4.out.own.slice
              generalize hl4 : (out ++ runs (nb s) sn (sn - p) p).length = l4 at hv4
              have c4 := HP4.out.p.cell0
              rw [hv4] at c4
              have hnew := news_bytes w4 [x0, x1, x2] 5
              rw [HCL.out] at hnew
              have hown := HP4.out.own.later ((Below.refl w4.heap.size w4).alloc (Nat.le_refl _) (.cells #[.int .u8 (128 + (rn : Int) - 4), .int .u8 (((rf : Int) - 1) % 256), .int .u8 (((rf : Int) - 1) / 256)] 5))
              have hbt : (out ++ runs (nb s) sn (sn - p) p).length + [x0, x1, x2].length ≤ 140737488355328 := by have := HRL.out; simp only [List.length_cons, List.length_nil]; omega
              have hbs : w.heap.size ≤ (w4.alloc (.cells #[.int .u8 (128 + (rn : Int) - 4), .int .u8 (((rf : Int) - 1) % 256), .int .u8 (((rf : Int) - 1) / 256)] 5)).heap.size := by
                have := HP4.out.below.size
                simp
                omega
              have HL4 := Lib.hid hl4
              have HV4 := Lib.hid hv4
              have HNEW := Lib.hid hnew
              have HOWN := Lib.hid hown
              have HBT := Lib.hid hbt
              clear hl4 hv4 hnew hown hbt
              go_wp2_with (at_builtin; refine wpList_app_bytes _ rfl (.tmp 45) (.tmp 57) rfl w.heap.size v4 _ (by first | exact HV4.out.symm | rfl) HOWN.out ⟨w4.heap.size, 0, none⟩ [x0, x1, x2] 3 rfl HNEW.out HBT.out hbs ?_; intro v5 w5 ho5 hg5 _; obtain ⟨A5, k5, hv5⟩ := ho5.slice; generalize ((out ++ runs (nb s) sn (sn - p) p) ++ [x0, x1, x2]).length = l5 at hv5; subst hv5; have hga : w4.grownBy w5 v4.ownBlock := (World.grownBy_alloc w4 _ v4.ownBlock).trans hg5; have hP5 : PkRow w5 gp v4 sn b := HP4.out.p.far (hga.block _ HP4.out.p.lt (fun e => HP4.out.vg e.symm)); have c05 := hP5.cell0; have f05 := hP5.free 0; have hst := HP4.out.step ho5 hga; have c15 := hst.p.cell1; have f15 := hst.p.free 1; have HS5 := Lib.hid hst; clear ho5 hg5 hga hP5 hst)
              have hmv := HS5.out.moved (sn + rn)
              rw [Int.natCast_add] at hmv
              have HMV := Lib.hid hmv
              clear hmv
              go_roundw
              case rel =>
                refine ⟨_, sn + rn, _, n', sn + rn, sn, k - 1, rfl, by go_num, HMV.out, by omega, hin, by omega, by omega, ?_, by omega, ?_⟩
                · have := HRL.out
                  simp only [List.length_append, List.length_cons, List.length_nil] at this ⊢
                  omega
                · rw [← HRR.out, HSTEP2.out (k - 1) (by omega)]
                  simp only [List.append_assoc, List.cons_append, List.nil_append]
              case measure => simp [intOf]; omega
      · have hltI : ¬ (i : Int) < s.size := by omega
        have hrl := runs_length (nb s) s.size (by rw [nb_length]; omega) (s.size - p) p (Nat.le_refl _)
        have hR2 : out ++ runs (nb s) s.size (s.size - p) p = R := by
          rw [← HRR.out]
          congr 1
          cases k with
          | zero => rw [packG, nb_length]
          | succ k => rw [packG, if_neg (by rw [nb_length]; omega), nb_length]
        have HR2 := Lib.hid hR2
        have hconv : ∀ (W : World) (u : Value), OwnB W w.heap.size u R → (convert 43 9 u).run Try.prog W = .ok (.string (strOf R)) W := fun W u h => run_conv_own W h HRB.out
        have HCONV := Lib.hid hconv
        clear hrl hR2 hconv
        go_wp2_with (go_at_call 31; refine (flush_any gp b n p s.size v _ out s w _ HP.out (by omega) (Nat.le_refl _) hs (by omega)).mono ?_; rintro e w4 ⟨rfl, v4, hP4⟩; rw [HR2.out] at hP4; have c4 := hP4.p.cell0; have hcv := HCONV.out w4 v4 hP4.own; have HP4 := Lib.hid hP4; clear hP4)
        go_ret2
        exact ⟨rfl, HP4.out.below⟩
end Go.Proofs.Ytikbbofjkchppaa

