/- The walks of strings.Builder's String inside nar's writer, and of the writer's words. -/
import Derived.Test.YtlcppkcclolgcaaBd
import Derived.RegionTactic
import Derived.BigRegion
import Derived.Deep.RegionWith
namespace Go.Proofs.Ytlcppkcclolgcaa
set_option linter.unusedVariables false
set_option linter.unusedSimpArgs false
open Go.RowKit

theorem fr_le {n : Nat} (h : n ≤ 1048576) : 8 + (n + 7) / 8 * 8 ≤ 1048592 := by omega
set_option maxRecDepth 100000 in
set_option maxHeartbeats 2000000 in
theorem string_any (w : World) (B g : Nat) (xs : List Nat) (r : Option Nat) (hx : Bytes xs) (h0 : xs ≠ []) (H : Bld w B g xs r) :
    Calls Try.prog 32 #[.pointer (some ⟨g, 0, none⟩)] w fun e w' => e = .returned (.string (strOf xs)) ∧ Below B w w' := by
  obtain ⟨p, v, hp, h1, h2, h3⟩ := H.at_
  have h2' := h2
  rcases h2 with ⟨_, rfl⟩ | ⟨gr, cap, cur, fz, rfl, hb, hg, hc, hcap, hm, hs, ht⟩
  · exact absurd rfl h0
  have hl0 : xs.length ≠ 0 := by simpa using h0
  have hL : (xs.map UInt8.ofNat).length = xs.length := by simp
  have hL0 : xs.map UInt8.ofNat ≠ [] := by simpa using h0
  have c1 : w.drew.cell? ⟨g, 1, none⟩ = some (.slice (some ⟨gr, 0, none⟩) xs.length cap) := cell_of_row w.drew g 1 _ _ _ h1
  have hSD : (Builtin.unsafeSliceData_ #[38] 122 #[.slice (some ⟨gr, 0, none⟩) xs.length cap]).run Try.prog w.drew = .ok (.pointer (some ⟨gr, 0, none⟩)) w.drew :=
    Lib.run_unsafeSliceData_row _ _ _ _ _ _ (by omega)
  have hUS : (Builtin.unsafeString_ #[122, 3] 9 #[.pointer (some ⟨gr, 0, none⟩), .int .i64 (xs.length : Int)]).run Try.prog w.drew = .ok (.string (strOf xs)) (w.drew.freeze ⟨gr, 0, none⟩ xs.length) := by
    have h := Lib.run_unsafeString_row (P := Try.prog) w.drew 122 3 9 5 Try.underlying122 (by kernel_rfl) gr cur.size (by have hg' : w.drew.heap[gr]? = some (.cells cur 5 fz) := hg; simp [World.shape?, hg']) (xs.map UInt8.ofNat) hL0 (by rw [hL]; omega) (by rw [hL]; unfold maxLen at hm; omega) ?_
    · rw [hL] at h
      exact h
    · intro j x hj
      have hxj : xs[j]? = some x.toNat := by
        rw [List.getElem?_map] at hj
        cases hq : xs[j]? with
        | none => rw [hq] at hj; cases hj
        | some y =>
          rw [hq] at hj
          injection hj with hj
          have hy : y < 256 := hx y (List.mem_of_getElem? hq)
          rw [← hj]
          simp
          omega
      have hcl : (cl .u8 xs)[j]? = some (.int .u8 (x.toNat : Int)) := by
        unfold cl
        rw [List.getElem?_map, hxj]
        rfl
      exact h2'.cells (g := gr) rfl j _ hcl
  have HB : Below B w (w.drew.freeze ⟨gr, 0, none⟩ xs.length) := Lib.below_freeze (Below.drew (Below.refl B w)) (p := ⟨gr, 0, none⟩) hb _
  have HH := Lib.hid HB
  clear HB H h1 h2' hg hx ht hL0 hL hp h0
  go_enter Try.func32, Try.ntmps32
  go_wp2_with fail
  go_region
  all_goals (go_wp2_with fail; go_ret; exact ⟨rfl, HH.out⟩)
set_option maxRecDepth 100000 in
set_option maxHeartbeats 4000000 in
theorem words_any (ss : List ByteArray) (B g blk len cap : Nat) (xs : List Nat) (r : Option Nat) (t : TypeId) (w : World) (H : Bld w B g xs r) (hB : B ≤ w.heap.size) (hrow : w.heap[blk]? = some (.cells (strs ss) t (0, 0))) (hbg : blk ≠ g) (hbr : some blk ≠ r)
    (hs : ∀ s ∈ ss, s.size ≤ 1048576) (hl : ss.length ≤ 10) (hlen : len = ss.length) (hx : xs.length ≤ 100000000) :
    Calls Try.prog 30 #[.pointer (some ⟨g, 0, none⟩), .slice (some ⟨blk, 0, none⟩) len cap] w fun e w' => e = .returned (.tuple #[]) ∧ ∃ r', Bld w' B g (xs ++ frames ss) r' ∧ Kp w w' g r r' := by
  have HS := Lib.hid hs
  have HL := Lib.hid hlen
  have HH := Lib.hid H
  have HROW := Lib.hid hrow
  have hl2 : len ≤ 10 := by omega
  clear hrow hs hlen H
  go_enter Try.func30, Try.ntmps30
  go_wp2_with fail
  go_loopw [8] (fun x8 wr => ∃ (i : Nat) (ri : Option Nat), i ≤ len ∧ x8 = .int .i64 (i : Int) ∧ Bld wr B g (xs ++ frames (ss.take i)) ri ∧ Kp w wr g r ri) (fun x8 _ => len - (intOf x8).toNat)
  case atStart => exact ⟨0, r, Nat.zero_le _, rfl, by simpa [frames] using HH.out, Kp.refl _ _ _⟩
  case round =>
    obtain ⟨i, ri, hi, rfl, hbl, hkp⟩ := hrel
    have hi0 : (0 : Int) ≤ i := by omega
    by_cases hlt : i < len
    · have hlt2 : i < ss.length := by rw [← HL.out]; exact hlt
      have hrw : wr.heap[blk]? = some (.cells (strs ss) t (0, 0)) := (hkp.block blk (lt_of_row HROW.out) hbg hbr).trans HROW.out
      have c0 := (cell_of_row wr blk i _ _ _ hrw).trans (strs_get ss i hlt2)
      have hsz := HS.out ss[i] (List.getElem_mem _)
      have hfr : (frames (ss.take i)).length ≤ 10 * 1048592 := by
        rw [frames_length]
        have h := frSum_le (ss.take i) fun s hm => HS.out s (List.mem_of_mem_take hm)
        rw [List.length_take] at h
        exact Nat.le_trans h (Nat.mul_le_mul_right _ (by omega))
      have hnx : frames (ss.take (i + 1)) = frames (ss.take i) ++ frameL (nb ss[i]) := by
        rw [List.take_add_one, frames_append, List.getElem?_eq_getElem hlt2]
        simp [frames]
      have CT := Lib.hid (fun w => text_any ss[i] (by omega) w)
      have hnb : nb (strOf (frameL (nb ss[i]))) = frameL (nb ss[i]) := nb_strOf _ (frameL_bytes _ (nb_bytes _))
      have hfl : (strOf (frameL (nb ss[i]))).size ≤ 1048592 := by
        rw [strOf_size, frameL_length, nb_length]
        exact fr_le hsz
      have hltI : (i : Int) < len := by omega
      generalize ss[i] = s at *
      have CW : Hid (∀ wq, Bld wq B g (xs ++ frames (ss.take i)) ri → B ≤ wq.heap.size → Calls Try.prog 51 #[.pointer (some ⟨g, 0, none⟩), .string (strOf (frameL (nb s)))] wq fun e w' => e = .returned (.tuple #[.int .i64 ((strOf (frameL (nb s))).size : Int), .nilIface]) ∧ ∃ r', Bld w' B g ((xs ++ frames (ss.take i)) ++ nb (strOf (frameL (nb s)))) r' ∧ Kp wq w' g ri r') :=
        Lib.hid fun wq hb hBw => write_any wq B g _ ri _ (by rw [List.length_append]; omega) hBw hb
      rw [hnb] at CW
      have HBL := Lib.hid hbl
      have HKP := Lib.hid hkp
      have HNX := Lib.hid hnx
      have HSZ := Lib.hid hB
      clear hlt2 hrw hnb hfl hnx hfr hbl hkp hsz
      go_upto_region 3 with (fail)
      go_region_with (first | (go_at_call 52; refine (CT.out _).mono ?_; rintro e w5 ⟨rfl, h5⟩; have h6 : Below wr.heap.size wr w5 := ⟨h5.os, h5.tape, h5.output, h5.size, h5.block⟩; clear h5) | (go_at_call 51; refine (CW.out _ (HBL.out.later h6) (Nat.le_trans HSZ.out (Nat.le_trans HKP.out.size h6.size))).mono ?_; rintro e w6 ⟨rfl, r6, hb6, hk6⟩))
      go_wp2_with fail
      go_roundw
      case rel => exact ⟨i + 1, r6, by omega, by go_num, by rw [HNX.out, ← List.append_assoc]; exact hb6, HKP.out.trans ((Kp.below h6).trans hk6)⟩
      case measure => simp [intOf]; omega
    · have hltI : ¬ (i : Int) < len := by omega
      have hfin : ss.take i = ss := List.take_of_length_le (by rw [← HL.out]; omega)
      rw [hfin] at hbl
      have HBL := Lib.hid hbl
      have HKP := Lib.hid hkp
      clear hbl hkp
      go_wp2_with fail
      go_end0
      exact ⟨rfl, ri, HBL.out, HKP.out⟩
end Go.Proofs.Ytlcppkcclolgcaa

