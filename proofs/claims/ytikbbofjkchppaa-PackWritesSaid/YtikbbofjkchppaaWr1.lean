/- The walks of the reference's Int, plain, four and chains. -/
import Derived.Test.YtikbbofjkchppaaRe
import Derived.Laws.MakeOwn
namespace Go.Proofs.Ytikbbofjkchppaa
set_option linter.unusedVariables false
set_option linter.unusedSimpArgs false
open Go.RowKit

/-! ### a number in eight bytes -/
theorem make_fl8 (n : Nat) (W : World) : (Instr.makeSlice 43 (.int .i64 8) (.int .i64 8)).run Try.prog W = .ok (.slice (some ⟨W.heap.size, 0, none⟩) 8 8) (W.alloc (.cells (cw .u8 (fl8 n 0)) 5)) := by
  obtain ⟨i0, hi, hz0, hz1, hz2⟩ := u8_info
  have hr := run_make (P := Try.prog) W 43 5 i0 (.int .u8 0) Try.underlying43 hi hz0 .i64 .i64 8 8 (by omega) (by omega) (by rw [hz2]; decide) (by omega)
  rw [hr, hz1]
  congr 3
  apply Array.ext'
  rw [show (Value.int .u8 0).cells = #[Value.int .u8 0] from rfl, show (8 : Int).toNat * 1 = 8 from rfl, toList_madeCells_one]
  rfl
set_option maxRecDepth 100000 in
set_option maxHeartbeats 2000000 in
theorem rint_any (n : Nat) (hn : n < 18446744073709551616) (w : World) : Calls Try.prog 33 #[.int .u64 (n : Int)] w fun e w' => e = .returned (.string (strOf (le8 n))) ∧ Below w.heap.size w w' := by
  have hmk := fun W => make_fl8 n W
  go_enter Try.func33, Try.ntmps33
  go_wp2_with fail
  go_loopw [0, 4] (fun x0 x4 wr => ∃ j : Nat, j ≤ 8 ∧ x0 = .int .u64 ((n / 2 ^ (8 * j) : Nat) : Int) ∧ x4 = .int .i64 j ∧ wr.heap[w.heap.size]? = some (.cells (cw .u8 (fl8 n j)) 5 (0, 0)) ∧ Below w.heap.size w wr) (fun _ x4 _ => 8 - (intOf x4).toNat)
  case atStart => exact ⟨0, by omega, by simp, rfl, heap_alloc_new _ _, (Below.refl _ _).alloc (Nat.le_refl _) _⟩
  case round =>
    obtain ⟨j, hj, rfl, rfl, hrow, hb⟩ := hrel
    by_cases hlt : j < 8
    · have h0 : (0 : Int) ≤ j := by omega
      have h1 : (j : Int) < 8 := by omega
      have hc := row_cell hrow j (by rw [fl8_length]; omega)
      have hf := row_free hrow j
      have hst := row_store hrow j (n / 2 ^ (8 * j) % 256)
      have hb2 : Below w.heap.size w (wr.setCell ⟨w.heap.size, j, none⟩ (.int .u8 ((n / 2 ^ (8 * j) % 256 : Nat) : Int))) := hb.setCell (by simp) _
      rw [show (fl8 n j).set j (n / 2 ^ (8 * j) % 256) = fl8 n (j + 1) from rfl] at hst
      have hnx : n / 2 ^ (8 * j) / 256 = n / 2 ^ (8 * (j + 1)) := by
        rw [Nat.div_div_eq_div_mul, show 8 * (j + 1) = 8 * j + 8 by omega, Nat.pow_add]
      have hml : n / 2 ^ (8 * j) ≤ n := Nat.div_le_self _ _
      generalize (fl8 n j).getD j 0 = y at *
      generalize n / 2 ^ (8 * j) = m at *
      have hm0 : (0 : Int) ≤ m := by omega
      have hm1 : (m : Int) < 18446744073709551616 := by omega
      rw [Int.natCast_emod] at hst hb2
      have HST := Lib.hid hst
      have HB := Lib.hid hb2
      have HNX := Lib.hid hnx
      clear hst hb2 hrow hnx hn hml
      go_wp2_with fail
      go_roundw
      case rel => exact ⟨j + 1, by omega, by rw [← HNX.out, Int.natCast_ediv]; rfl, by go_num, HST.out, HB.out⟩
      case measure => simp [intOf]; omega
    · obtain rfl : j = 8 := by omega
      have hcv := run_conv_row (n := 8) (cap := 8) hrow (by rw [fl8_length]; omega) (fl8_bytes n 8)
      rw [List.take_of_length_le (by rw [fl8_length]; omega)] at hcv
      go_wp2_with fail
      go_ret
      exact ⟨rfl, hb⟩

/-! ### bytes as they are -/
theorem runs_shift (L : List Nat) (i p : Nat) (hi : i ≤ L.length) (hp : p ≤ i) : ∀ k q, runs L i k (p + q) = runs ((L.drop p).take (i - p)) (i - p) k q
  | 0, q => rfl
  | k + 1, q => by
    have hml : ((L.drop p).take (i - p)).length = i - p := by rw [List.length_take, List.length_drop]; omega
    rw [runs, runs]
    by_cases h : p + q < i
    · rw [if_pos h, if_pos (by omega), show i - (p + q) = i - p - q by omega]
      have he : (((L.drop p).take (i - p)).drop q).take (min 128 (i - p - q)) = (L.drop (p + q)).take (min 128 (i - p - q)) := by
        rw [List.drop_take, List.drop_drop, List.take_take, Nat.min_eq_left (by omega)]
      rw [he, Nat.add_assoc p q, runs_shift L i p hi hp k]
    · rw [if_neg h, if_neg (by omega)]
set_option maxRecDepth 100000 in
set_option maxHeartbeats 3000000 in
theorem rplain_any (s : ByteArray) (hs : s.size ≤ 1048576) (w : World) : Calls Try.prog 35 #[.string s] w fun e w' => ∃ v, e = .returned v ∧ OwnB w' w.heap.size v (runs (nb s) s.size s.size 0) ∧ Below w.heap.size w w' := by
  obtain ⟨R, hR⟩ : ∃ R, runs (nb s) s.size s.size 0 = R := ⟨_, rfl⟩
  rw [hR]
  have HR := Lib.hid hR
  clear hR
  go_enter Try.func35, Try.ntmps35
  go_wp2_with fail
  go_loopw [0, 3] (fun x0 x3 wr => ∃ (q k : Nat) (u : ByteArray) (o : List Nat), x0 = .string u ∧ q ≤ s.size ∧ u.size = s.size - q ∧ nb u = (nb s).drop q ∧ OwnB wr w.heap.size x3 o ∧ Below w.heap.size w wr ∧ o.length ≤ 2 * q ∧ s.size - q ≤ k ∧ o ++ runs (nb s) s.size k q = R) (fun x0 _ _ => match x0 with | .string u => u.size | _ => 0)
  case atStart => exact ⟨0, s.size, s, [], rfl, Nat.zero_le _, rfl, rfl, OwnB.nil _ _, Below.refl _ _, Nat.zero_le _, Nat.le_refl _, HR.out⟩
  case round =>
    obtain ⟨q, k, u, o, rfl, hq, hus, hun, hown, hbel, hol, hk, hRR⟩ := hrel
    obtain ⟨A, kc, hv⟩ := hown.slice
    obtain ⟨lo, hlo⟩ : ∃ lo, o.length = lo := ⟨_, rfl⟩
    rw [hlo] at hv
    subst hv
    have hrs : ∀ k', k = k' + 1 → q < s.size → runs (nb s) s.size k q = (min 128 (s.size - q) - 1) :: (((nb s).drop q).take (min 128 (s.size - q)) ++ runs (nb s) s.size k' (q + min 128 (s.size - q))) := fun k' e h => by rw [e, runs, if_pos h]
    have hu0 : (0 : Int) ≤ u.size := by omega
    have huI : (u.size : Int) ≤ 1048576 := by omega
    by_cases hlt : 128 < u.size
    · have hltI : (128 : Int) < u.size := by omega
      have hle : (128 : Int) ≤ u.size := by omega
      obtain ⟨e1, he1⟩ : ∃ e, u.extract 0 128 = e := ⟨_, rfl⟩
      obtain ⟨e2, he2⟩ : ∃ e, u.extract 128 u.size = e := ⟨_, rfl⟩
      have hn1 : nb e1 = ((nb s).drop q).take 128 := by rw [← he1, nb_extract u 0 128 (by omega), hun]; simp
      have hn2 : nb e2 = (nb s).drop (q + 128) := by
        rw [← he2, nb_extract u 128 u.size (Nat.le_refl _), hun, List.drop_drop]
        exact List.take_of_length_le (by rw [List.length_drop, nb_length]; omega)
      have hs1 : e1.size = 128 := by rw [← nb_length, hn1, List.length_take, List.length_drop, nb_length]; omega
      have hs2 : e2.size = s.size - (q + 128) := by rw [← nb_length, hn2, List.length_drop, nb_length]
      have hst := hrs (k - 1) (by omega) (by omega)
      rw [show min 128 (s.size - q) = 128 by omega, ← hn1] at hst
      have hnx : (o ++ [127] ++ nb e1) ++ runs (nb s) s.size (k - 1) (q + 128) = R := by
        rw [← hRR, hst]
        simp
      have hb1 : o.length + [127].length ≤ 140737488355328 := by rw [hlo]; simp only [List.length_cons, List.length_nil]; omega
      have hb2 : (o ++ [127]).length + e1.size ≤ 140737488355328 := by rw [List.length_append, hlo, hs1]; simp only [List.length_cons, List.length_nil]; omega
      have hbs : w.heap.size ≤ (wr.alloc (.cells #[.int .u8 127] 5)).heap.size := by have := hbel.size; simp; omega
      have hl3 : (o ++ [127] ++ nb e1).length ≤ 2 * (q + 128) := by rw [List.length_append, List.length_append, hlo, nb_length, hs1]; simp only [List.length_cons, List.length_nil]; omega
      have HOA := Lib.hid (hown.later ((Below.refl wr.heap.size wr).alloc (Nat.le_refl _) (.cells #[.int .u8 127] 5)))
      have HBA := Lib.hid (hbel.trans (((Below.refl wr.heap.size wr).alloc (Nat.le_refl _) (.cells #[.int .u8 127] 5)).mono hbel.size))
      have HNEW := Lib.hid (show ∀ j u, (cl .u8 [127])[j]? = some u → (wr.alloc (.cells #[.int .u8 127] 5)).cell? ((⟨wr.heap.size, 0, none⟩ : Addr).add j) = some u from one_byte wr 127 5)
      have HNX := Lib.hid hnx
      have HB1 := Lib.hid hb1
      have HB2 := Lib.hid hb2
      have HL3 := Lib.hid hl3
      have HS2 := Lib.hid hs2
      have HN2 := Lib.hid hn2
      have hq2 : q + 128 ≤ s.size := by omega
      have hmeas : s.size - (q + 128) < u.size := by omega
      have HMEAS := Lib.hid hmeas
      clear hrs hst hnx hb1 hb2 hown hbel hol hRR hl3 hs2 hn2 hn1 hs1 hmeas hun hus
      go_upto_region 4 with (at_builtin; refine wpList_app_bytes _ rfl (.tmp 7) (.tmp 8) rfl w.heap.size _ o rfl HOA.out ⟨wr.heap.size, 0, none⟩ [127] 1 rfl HNEW.out HB1.out hbs ?_; intro v5 w5 ho5 hg5 _; obtain ⟨A5, k5, hv5⟩ := ho5.slice; generalize (o ++ [127]).length = l5 at hv5; subst hv5; have HO5 := Lib.hid ho5; have HB5 := Lib.hid (below_own HBA.out HOA.out hg5); clear ho5 hg5)
      go_wp2_with (at_builtin; refine wpList_app_string _ rfl (.tmp 10) (.tmp 12) rfl w.heap.size _ (o ++ [127]) rfl HO5.out e1 rfl HB2.out HB5.out.size ?_; intro v6 w6 ho6 hg6; obtain ⟨A6, k6, hv6⟩ := ho6.slice; generalize (o ++ [127] ++ nb e1).length = l6 at hv6; subst hv6; have HO6 := Lib.hid ho6; have HB6 := Lib.hid (below_own HB5.out HO5.out hg6); clear ho6 hg6)
      go_roundw
      case rel => exact ⟨q + 128, k - 1, e2, _, rfl, hq2, HS2.out, HN2.out, HO6.out, HB6.out, HL3.out, by omega, HNX.out⟩
      case measure => simp; have := HS2.out; have := HMEAS.out; omega
    · have hltI : ¬ (128 : Int) < u.size := by omega
      by_cases hz : 0 < u.size
      · have hzI : (0 : Int) < u.size := by omega
        obtain ⟨m, hm⟩ : ∃ m, m = u.size - 1 := ⟨_, rfl⟩
        have hmI : (u.size : Int) - 1 = m := by omega
        have hst := hrs (k - 1) (by omega) (by omega)
        have hfin : (o ++ [m]) ++ nb u = R := by
          have hr0 : runs (nb s) s.size (k - 1) (q + min 128 (s.size - q)) = [] := by
            rw [show q + min 128 (s.size - q) = s.size by omega]
            cases k - 1 with
            | zero => rfl
            | succ k2 => rw [runs, if_neg (Nat.lt_irrefl _)]
          rw [← hRR, hst, hr0, List.append_nil, hun, List.take_of_length_le (by rw [List.length_drop, nb_length]; omega), hm, show min 128 (s.size - q) - 1 = u.size - 1 by omega]
          simp
        have hb1 : o.length + [m].length ≤ 140737488355328 := by rw [hlo]; simp only [List.length_cons, List.length_nil]; omega
        have hb2 : (o ++ [m]).length + u.size ≤ 140737488355328 := by rw [List.length_append, hlo]; simp only [List.length_cons, List.length_nil]; omega
        have hbs : w.heap.size ≤ (wr.alloc (.cells #[.int .u8 (m : Int)] 5)).heap.size := by have := hbel.size; simp; omega
        have hm0 : (0 : Int) ≤ m := by omega
        have hm1 : (m : Int) < 256 := by omega
        have HOA := Lib.hid (hown.later ((Below.refl wr.heap.size wr).alloc (Nat.le_refl _) (.cells #[.int .u8 (m : Int)] 5)))
        have HBA := Lib.hid (hbel.trans (((Below.refl wr.heap.size wr).alloc (Nat.le_refl _) (.cells #[.int .u8 (m : Int)] 5)).mono hbel.size))
        have HNEW := Lib.hid (one_byte wr m 5)
        have HB1 := Lib.hid hb1
        have HB2 := Lib.hid hb2
        have HFIN := Lib.hid hfin
        clear hrs hst hfin hb1 hb2 hown hbel hol hRR hm hun hus
        go_upto_region 8 with (at_builtin; refine wpList_app_bytes _ rfl (.tmp 19) (.tmp 24) rfl w.heap.size _ o rfl HOA.out ⟨wr.heap.size, 0, none⟩ [m] 1 rfl HNEW.out HB1.out hbs ?_; intro v5 w5 ho5 hg5 _; obtain ⟨A5, k5, hv5⟩ := ho5.slice; generalize (o ++ [m]).length = l5 at hv5; subst hv5; have HO5 := Lib.hid ho5; have HB5 := Lib.hid (below_own HBA.out HOA.out hg5); clear ho5 hg5)
        go_wp2_with (at_builtin; refine wpList_app_string _ rfl (.tmp 26) (.tmp 27) rfl w.heap.size _ (o ++ [m]) rfl HO5.out u rfl HB2.out HB5.out.size ?_; intro v6 w6 ho6 hg6; have HB6 := Lib.hid (below_own HB5.out HO5.out hg6); rw [HFIN.out] at ho6; have HO6 := Lib.hid ho6; clear ho6 hg6)
        go_ret
        exact ⟨_, rfl, HO6.out, HB6.out⟩
      · have hzI : ¬ (0 : Int) < u.size := by omega
        have hfin : o = R := by
          have hr0 : runs (nb s) s.size k q = [] := by
            cases k with
            | zero => rfl
            | succ k2 => rw [runs, if_neg (by omega)]
          rw [← hRR, hr0, List.append_nil]
        have HO := Lib.hid hown
        have HB := Lib.hid hbel
        have HFIN := Lib.hid hfin
        clear hrs hown hbel hol hRR hfin hun hus
        go_wp2_with fail
        go_ret
        exact ⟨_, rfl, HFIN.out ▸ HO.out, HB.out⟩
end Go.Proofs.Ytikbbofjkchppaa

