/- The walk of the law PackRuns. -/
import Derived.Test.YtikbbofjkchppaaPackShort
import Derived.Deep.DeepCutAuto
namespace Go.Proofs.Ytikbbofjkchppaa
set_option linter.unusedVariables false
set_option linter.unusedSimpArgs false
open Go.RowKit

/-- n bytes, the first i of them b, the others 0 -/
def qfill (b n i : Nat) : List Nat := List.replicate i b ++ List.replicate (n - i) 0
theorem qfill_length (b n i : Nat) (h : i ≤ n) : (qfill b n i).length = n := by simp [qfill]; omega
theorem qfill_set (b n i : Nat) (h : i < n) : (qfill b n i).set i b = qfill b n (i + 1) := by
  unfold qfill
  rw [List.set_append_right _ _ (by simp), List.length_replicate, Nat.sub_self, show n - i = (n - (i + 1)) + 1 by omega, List.replicate_succ (a := 0), List.set_cons_zero, List.replicate_succ' (n := i), List.append_assoc]
  rfl
theorem qfill_all (b n : Nat) : qfill b n n = List.replicate n b := by simp [qfill]
theorem run_make_u8 (n : Nat) (hn : n ≤ 281474976710656) (W : World) (b : Nat) :
    (Instr.makeSlice 43 (.int .i64 (n : Int)) (.int .i64 (n : Int))).run Try.prog W = .ok (.slice (some ⟨W.heap.size, 0, none⟩) n n) (W.alloc (.cells (cw .u8 (qfill b n 0)) 5)) := by
  obtain ⟨i0, hi, hz0, hz1, hz2⟩ := u8_info
  have hr := run_make (P := Try.prog) W 43 5 i0 (.int .u8 0) Try.underlying43 hi hz0 .i64 .i64 (n : Int) (n : Int) (by omega) (by omega) (by rw [hz2]; omega) (by omega)
  rw [hr, hz1, Int.toNat_natCast, Nat.mul_one]
  congr 3
  apply Array.ext'
  rw [show (Value.int .u8 0).cells = #[Value.int .u8 0] from rfl, toList_madeCells_one]
  simp [cw, qfill]

set_option maxRecDepth 100000 in
set_option maxHeartbeats 8000000 in
theorem runs_law (b : Int) (hbw : (Lit.int .u8 b).wf = true) (n : Int) (hnw : (Lit.int .i64 n).wf = true) (s : ByteArray) (hs : s.size ≤ 140737488351232) (w : World) : Calls Try.prog 7 #[.int .u8 b, .int .i64 n, .string s] w fun e w' => e = .returned (.bool true) ∧ Below w.heap.size w w' := by
  have bn : -9223372036854775808 ≤ n ∧ n ≤ 9223372036854775807 := by
    simp [Lit.wf, IntKind.min, IntKind.max, IntKind.signed, IntKind.bits] at hnw
    omega
  have bm : 0 ≤ b ∧ b < 256 := by
    simp [Lit.wf, IntKind.min, IntKind.max, IntKind.signed, IntKind.bits] at hbw
    omega
  obtain ⟨x, rfl⟩ : ∃ x : Nat, b = x := ⟨b.toNat, by omega⟩
  have hx : x < 256 := by omega
  clear hbw hnw
  obtain ⟨m, hm⟩ : ∃ m : Nat, m = (min (max n 0) 1048576).toNat := ⟨_, rfl⟩
  have hm1 : m ≤ 1048576 := by omega
  have hm0 : (0 : Int) ≤ m := by omega
  have hm2 : (m : Int) ≤ 1048576 := by omega
  have hmk := fun W => run_make_u8 m (by omega) W x
  go_enter Try.func7, Try.ntmps7
  go_upto_region 3 with (go_at_call 15; refine (awake_any _).mono ?_; rintro e w1 ⟨rfl, h1⟩; have H1 := Lib.hid h1; clear h1)
  go_cut [1] (fun y wx => y = .int .i64 (m : Int) ∧ wx = w1)
  case first =>
    by_cases h1 : n < 0
    · have hmz : (m : Int) = 0 := by omega
      have a1 : ¬ (0 : Int) < n := by omega
      have a2 : n ≤ 0 := by omega
      clear hm
      go_wp2_with fail
      all_goals (go_meet; refine ⟨?_, rfl⟩; first | (rw [hmz]; done) | (congr 1; omega))
    · by_cases h2 : n < 1048576
      · have hmz : (m : Int) = n := by omega
        have a1 : ¬ n < 0 := by omega
        have a2 : 0 ≤ n := by omega
        clear hm
        go_wp2_with fail
        all_goals (go_meet; refine ⟨?_, rfl⟩; first | (rw [hmz]; done) | (congr 1; omega))
      · have hmz : (m : Int) = 1048576 := by omega
        have a1 : ¬ n < 0 := by omega
        have a2 : 0 ≤ n := by omega
        have a3 : 1048576 ≤ n := by omega
        clear hm
        go_wp2_with fail
        all_goals (go_meet; refine ⟨?_, rfl⟩; first | (rw [hmz]; done) | (congr 1; omega))
  case rest =>
    obtain ⟨rfl, rfl⟩ := hcut
    clear hm bn
    have hbl := bl_alloc H1.out (.cells (cw .u8 (qfill x m 0)) 5)
    have hrow := heap_alloc_new wc (.cells (cw .u8 (qfill x m 0)) 5)
    have hgs := H1.out.size
    have HBL := Lib.hid hbl
    have HROW := Lib.hid hrow
    have HGS := Lib.hid hgs
    clear hbl hrow hgs
    go_upto_region 5 with fail
    clear hmk
    generalize wc.heap.size = g at *
    generalize wc.alloc (.cells (cw .u8 (qfill x m 0)) 5) = W1 at *
    go_wp2_with fail
    go_loopw [24] (fun y wr => ∃ i : Nat, y = .int .i64 (i : Nat) ∧ i ≤ m ∧ wr.heap[g]? = some (.cells (cw .u8 (qfill x m i)) 5 (0, 0)) ∧ Below w.heap.size w wr) (fun y _ => m - (intOf y).toNat)
    case atStart => exact ⟨0, rfl, Nat.zero_le _, HROW.out, HBL.out⟩
    case round =>
      clear HROW HBL
      obtain ⟨i, rfl, him, hrow, hbl⟩ := hrel
      have hi0 : (0 : Int) ≤ i := by omega
      by_cases hlt : i < m
      · have hltI : (i : Int) < m := by omega
        have hl := qfill_length x m i him
        have hc := row_cell hrow i (by omega)
        have hf := row_free hrow i
        have hst := row_store hrow i x
        rw [qfill_set x m i hlt] at hst
        have hb2 : Below w.heap.size w (wr.setCell ⟨g, i, none⟩ (.int .u8 (x : Int))) := hbl.setCell HGS.out _
        generalize (qfill x m i).getD i 0 = y at hc
        have HST := Lib.hid hst
        have HB2 := Lib.hid hb2
        clear hst hb2 hrow hbl hl
        go_wp2_with fail
        go_roundw
        case rel => exact ⟨i + 1, by go_num, by omega, HST.out, HB2.out⟩
        case measure => simp [intOf]; omega
      · obtain rfl : i = m := by omega
        have hltI : ¬ (i : Int) < i := by omega
        rw [qfill_all] at hrow
        have hbr : Bytes (List.replicate i x) := fun y hy => by rw [(List.mem_replicate.1 hy).2]; exact hx
        have hcv : (convert 43 9 (.slice (some ⟨g, 0, none⟩) i i)).run Try.prog wr = .ok (.string (strOf (List.replicate i x))) wr := by
          have h := run_conv_own (base := 0) wr (v := .slice (some ⟨g, 0, none⟩) i i) (xs := List.replicate i x) (.inr ⟨g, i, _, (0, 0), by rw [List.length_replicate], Nat.zero_le _, hrow, .inl rfl, by rw [List.length_replicate]; exact Nat.le_refl _, by simp only [maxLen]; omega, by rw [cw_size, List.length_replicate], by rw [← cl_array, List.length_replicate]; exact List.take_of_length_le (by simp [cl])⟩) hbr
          exact h
        obtain ⟨t, ht⟩ : ∃ t, strOf (List.replicate i x) = t := ⟨_, rfl⟩
        have hts : t.size = i := by rw [← ht, strOf_size, List.length_replicate]
        have htn : nb t = List.replicate i x := by rw [← ht, nb_strOf _ hbr]
        rw [ht] at hcv
        obtain ⟨p, hp⟩ : ∃ p, strOf (packL (nb t)) = p := ⟨_, rfl⟩
        have hpp : ∀ W, Calls Try.prog 16 #[.string t] W fun e w' => e = .returned (.tuple #[.string p, .int .i64 0]) ∧ Below W.heap.size W w' := fun W => by
          have h := pack_any t W (by omega)
          rw [hp] at h
          exact h
        have hps : p.size = (packL (List.replicate i x)).length := by rw [← hp, strOf_size, htn]
        have hpl : 0 < i → p.size ≤ 14 + 3 * ((i - 1) / 131) := fun h => by rw [hps]; exact packL_same i x h
        obtain ⟨s2, hs2⟩ : ∃ s2 : ByteArray, s2 = if 32768 < s.size then s.extract 0 32768 else s := ⟨_, rfl⟩
        have hs2s : s2.size ≤ 32768 := by
          rw [hs2]
          split
          · rw [ByteArray.size_extract]; omega
          · omega
        obtain ⟨q1, hq1⟩ : ∃ q, strOf (packL (nb s2)) = q := ⟨_, rfl⟩
        obtain ⟨q2, hq2⟩ : ∃ q, strOf (packL (nb (s2 ++ s2))) = q := ⟨_, rfl⟩
        have hp1 : ∀ W, Calls Try.prog 16 #[.string s2] W fun e w' => e = .returned (.tuple #[.string q1, .int .i64 0]) ∧ Below W.heap.size W w' := fun W => by
          have h := pack_any s2 W (by omega)
          rw [hq1] at h
          exact h
        have hp2 : ∀ W, Calls Try.prog 16 #[.string (s2 ++ s2)] W fun e w' => e = .returned (.tuple #[.string q2, .int .i64 0]) ∧ Below W.heap.size W w' := fun W => by
          have h := pack_any (s2 ++ s2) W (by rw [ByteArray.size_append]; omega)
          rw [hq2] at h
          exact h
        have hqq : q2.size ≤ q1.size + 14 + 3 * (s2.size / 4) := by
          rw [← hq1, ← hq2, strOf_size, strOf_size, nb_append]
          have h := packL_twice (nb s2) (by rw [nb_length]; omega)
          rw [nb_length] at h
          exact h
        have HP := Lib.hid hpp
        have HP1 := Lib.hid hp1
        have HP2 := Lib.hid hp2
        have HS2 := Lib.hid hs2
        have HQQ := Lib.hid hqq
        have HS2S := Lib.hid hs2s
        have HBL := Lib.hid hbl
        have hqI : (q2.size : Int) ≤ q1.size + 14 + 3 * (s2.size / 4) := by omega
        have hq0 : (0 : Int) ≤ q1.size := by omega
        have hq3 : (q1.size : Int) ≤ 2000000 := by
          have h := packL_room (nb s2)
          rw [nb_length] at h
          have : q1.size = (packL (nb s2)).length := by rw [← hq1, strOf_size]
          omega
        have hs2I : (s2.size : Int) ≤ 32768 := by omega
        have hs20 : (0 : Int) ≤ s2.size := by omega
        have hp3 : (0 : Int) ≤ p.size := by omega
        have hbs : ¬ (i : Int) ≤ 0 → (p.size : Int) ≤ 14 + 3 * (((i : Int) - 1) / 131) := fun h => by
          have := hpl (by omega)
          omega
        have HBS := Lib.hid hbs
        clear hpl hps htn ht hp hpp hp1 hp2 hq1 hq2 hqq hs2 hs2s hrow hbr hbl hbs hx
        by_cases hi1 : (i : Int) ≤ 0
        · have hi2 : ¬ (0 : Int) < i := by omega
          go_upto_region 13 with (go_at_call 16; refine (HP.out _).mono ?_; rintro e w2 ⟨rfl, h2⟩; have H2 := Lib.hid h2; clear h2)
          clear hcv
          go_upto_if 56 with fail
          go_cut [2] (fun y wx => y = .string s2 ∧ wx = w2)
          case first =>
            by_cases hsz : 32768 < s.size
            · have hszI : (32768 : Int) < s.size := by omega
              have hse : s2 = s.extract 0 32768 := by rw [HS2.out, if_pos hsz]
              have hle : (32768 : Int) ≤ s.size := by omega
              have HSE := Lib.hid hse
              clear hsz hse
              go_wp2_with fail
              go_meet
              exact ⟨by rw [HSE.out], rfl⟩
            · have hszI : ¬ (32768 : Int) < s.size := by omega
              have hse : s2 = s := by rw [HS2.out, if_neg hsz]
              have HSE := Lib.hid hse
              clear hsz hse
              go_wp2_with fail
              go_meet
              exact ⟨by rw [HSE.out], rfl⟩
          case rest =>
            obtain ⟨rfl, rfl⟩ := hcut
            have hadd : (s2.size : Int) + s2.size < 9223372036854775808 := by omega
            go_upto_region 16 with (go_at_call 16; refine (HP1.out _).mono ?_; rintro e w3 ⟨rfl, h3⟩; have H3 := Lib.hid h3; clear h3)
            go_wp2_with (go_at_call 16; refine (HP2.out _).mono ?_; rintro e w4 ⟨rfl, h4⟩; have H4 := Lib.hid h4; clear h4)
            go_ret
            exact ⟨rfl, bl_step (bl_step (bl_step HBL.out H2.out) H3.out) H4.out⟩
        · have hi2 : (0 : Int) < i := by omega
          have hpI := HBS.out hi1
          go_upto_region 13 with (go_at_call 16; refine (HP.out _).mono ?_; rintro e w2 ⟨rfl, h2⟩; have H2 := Lib.hid h2; clear h2)
          clear hcv
          go_upto_if 56 with fail
          go_cut [2] (fun y wx => y = .string s2 ∧ wx = w2)
          case first =>
            by_cases hsz : 32768 < s.size
            · have hszI : (32768 : Int) < s.size := by omega
              have hse : s2 = s.extract 0 32768 := by rw [HS2.out, if_pos hsz]
              have hle : (32768 : Int) ≤ s.size := by omega
              have HSE := Lib.hid hse
              clear hsz hse
              go_wp2_with fail
              go_meet
              exact ⟨by rw [HSE.out], rfl⟩
            · have hszI : ¬ (32768 : Int) < s.size := by omega
              have hse : s2 = s := by rw [HS2.out, if_neg hsz]
              have HSE := Lib.hid hse
              clear hsz hse
              go_wp2_with fail
              go_meet
              exact ⟨by rw [HSE.out], rfl⟩
          case rest =>
            obtain ⟨rfl, rfl⟩ := hcut
            have hadd : (s2.size : Int) + s2.size < 9223372036854775808 := by omega
            go_upto_region 16 with (go_at_call 16; refine (HP1.out _).mono ?_; rintro e w3 ⟨rfl, h3⟩; have H3 := Lib.hid h3; clear h3)
            go_wp2_with (go_at_call 16; refine (HP2.out _).mono ?_; rintro e w4 ⟨rfl, h4⟩; have H4 := Lib.hid h4; clear h4)
            go_ret
            exact ⟨rfl, bl_step (bl_step (bl_step HBL.out H2.out) H3.out) H4.out⟩
end Go.Proofs.Ytikbbofjkchppaa

