/- The walk of depotref01.Of. -/
import Derived.Test.YtemioilfedpohaaDoorSum
namespace Go.Proofs.YtemioilfedpohaaDoor
set_option linter.unusedVariables false
set_option linter.unusedSimpArgs false
open Go.RowKit

theorem getD_nb (m : ByteArray) (j : Nat) (h : j < m.size) : (nb m).getD j 0 = (m[j]'h).toNat := by
  have h1 : j < m.data.toList.length := by simpa using h
  simp only [nb, List.getD_eq_getElem?_getD, List.getElem?_map, List.getElem?_eq_getElem h1, Option.map_some, Option.getD_some]
  rfl

/-- a block's bytes, so far -/
def blf (M : List Nat) (o : Nat) : Nat → List Nat
  | 0 => zr 64
  | i + 1 => (blf M o i).set i (M.getD (o + i) 0)
theorem blf_length (M : List Nat) (o : Nat) : ∀ i, (blf M o i).length = 64
  | 0 => by simp [blf, zr]
  | i + 1 => by simp [blf, blf_length M o i]
theorem blf_is (M : List Nat) (o : Nat) : ∀ i, i ≤ 64 → o + i ≤ M.length → blf M o i = (M.drop o).take i ++ List.replicate (64 - i) 0
  | 0, _, _ => by simp [blf, zr]
  | i + 1, h, hl => by
    rw [blf, blf_is M o i (by omega) (by omega)]
    have e1 : ((M.drop o).take i).length = i := by rw [List.length_take, List.length_drop]; omega
    rw [List.set_append_right _ _ (by omega), e1, Nat.sub_self, show 64 - i = (64 - (i + 1)) + 1 by omega, List.replicate_succ, List.set_cons_zero]
    rw [List.take_succ_eq_append_getElem (by rw [List.length_drop]; omega), List.append_assoc]
    congr 1
    simp [List.getD_eq_getElem?_getD, show o + i < M.length by omega]
theorem blf_all (M : List Nat) (o : Nat) (h : o + 64 ≤ M.length) : blf M o 64 = (M.drop o).take 64 := by
  rw [blf_is M o 64 (Nat.le_refl _) h]; simp

/-- the digest's bytes one by one, so far -/
def dg1 (h : List Nat) : Nat → List Nat
  | 0 => zr 32
  | k + 1 => (dg1 h k).set k (h.getD (k / 4) 0 / 2 ^ (8 * (3 - k % 4)) % 256)
theorem dg1_length (h : List Nat) : ∀ k, (dg1 h k).length = 32
  | 0 => by simp [dg1, zr]
  | k + 1 => by simp [dg1, dg1_length h k]
theorem dg1_is (h : List Nat) : ∀ k, k ≤ 32 → dg1 h k = (List.range k).map (fun i => h.getD (i / 4) 0 / 2 ^ (8 * (3 - i % 4)) % 256) ++ List.replicate (32 - k) 0
  | 0, _ => by simp [dg1, zr]
  | k + 1, hk => by
    rw [dg1, dg1_is h k (by omega), List.set_append_right _ _ (by simp), List.length_map, List.length_range, Nat.sub_self, show 32 - k = (32 - (k + 1)) + 1 by omega, List.replicate_succ, List.set_cons_zero, List.range_succ, List.map_append, List.append_assoc]
    rfl
theorem dg1_eight (a b c d e f g k : Nat) : dg1 [a, b, c, d, e, f, g, k] 32 = dig [a, b, c, d, e, f, g, k] := by
  rw [dg1_is _ 32 (Nat.le_refl _)]
  simp [List.range, List.range.loop, dig, four]
theorem dg1_all (h : List Nat) (hl : h.length = 8) : dg1 h 32 = dig h := by
  match h, hl with
  | [a, b, c, d, e, f, g, k], _ => exact dg1_eight a b c d e f g k

/-- what stands in memory while a digest is worked out by blocks: the result's block, the words' -/
structure RoH (w wr : World) (gh : Nat) (hw : List Nat) : Prop where
  o : w.heap.size < gh
  size : gh < wr.heap.size
  hr : wr.heap[w.heap.size]? = some (.cells (cw .u8 (zr 32)) 28 (0, 0))
  hh : wr.heap[gh]? = some (.cells (cw .u32 hw) 23 (0, 0))
  below : Below w.heap.size w wr
theorem RoH.later {w wr w1 : World} {gh : Nat} {hw : List Nat} (H : RoH w wr gh hw) (hb : Below wr.heap.size wr w1) : RoH w w1 gh hw :=
  have h1 := H.o; have h2 := H.size
  ⟨h1, Nat.lt_of_lt_of_le h2 hb.size, (hb.block _ (by omega)).trans H.hr, (hb.block _ h2).trans H.hh, H.below.trans (hb.mono (by omega))⟩
theorem RoH.row {w wr : World} {gh : Nat} {hw : List Nat} (H : RoH w wr gh hw) (h' : List Nat) : RoH w (wr.setRow gh (cw .u32 h')) gh h' :=
  have h1 := H.o; have h2 := H.size
  ⟨h1, by simpa using h2, (setRow_other _ _ _ _ (by omega)).trans H.hr, setRow_heap _ _ _ _ _ _ H.hh, below_setRow H.below (by omega) _⟩
theorem RoH.far {w wr : World} {gh : Nat} {hw : List Nat} (H : RoH w wr gh hw) (g i : Nat) (v : Value) (hg : gh < g) : RoH w (wr.setCell ⟨g, i, none⟩ v) gh hw :=
  have h1 := H.o; have h2 := H.size
  ⟨h1, by simpa [World.setCell] using h2, row_other H.hr (by omega), row_other H.hh (by omega), H.below.setCell (by simp; omega) _⟩
theorem RoH.drew1 {w wr : World} {gh : Nat} {hw : List Nat} (H : RoH w wr gh hw) : RoH w wr.drew gh hw :=
  ⟨H.o, H.size, H.hr, H.hh, ⟨H.below.os, H.below.tape, H.below.output, H.below.size, H.below.block⟩⟩

set_option maxRecDepth 100000 in
set_option maxHeartbeats 400000 in
theorem start_any (w : World) : Calls Tryd.prog 15 #[] w fun e w' => e = .returned (.agg (cw .u32 ST)) ∧ Below w.heap.size w w' := by
  have hr : (w.alloc (.cells (cw .u32 (zr 8)) 23)).heap[w.heap.size]? = some (.cells (cw .u32 (zr 8)) 23 (0, 0)) := heap_alloc_new _ _
  have HR := Lib.hid hr
  have HB : Hid (Below w.heap.size w ((w.alloc (.cells (cw .u32 (zr 8)) 23)).setRow w.heap.size (cw .u32 ST))) := Lib.hid (below_setRow ((Below.refl _ _).alloc (Nat.le_refl _) _) (Nat.le_refl _) _)
  have hz8 := (zero_of_info (P := Tryd.prog) (t := 23) (v := .agg (cw .u32 (zr 8))) (n := 8) (by kernel_rfl)).1
  clear hr
  go_enter Tryd.func15, Tryd.ntmps15
  go_wp2_with (first | (refine wpList_build_to rfl 23 _ rfl (cw .u32 ST) (by kernel_rfl) ?_) | (with_reducible refine wpList_store_row rfl 23 _ _ rfl w.heap.size _ rfl rfl 23 (cw .u32 (zr 8)) ?_ ?_ ?_ ?_ ?_))
  · exact HR.out
  · kernel_rfl
  · rfl
  · exact cw_one _ _
  · go_wp2_with fail
    exact bodyPost_ret (results_cell_row rfl _ _ w.heap.size 23 (cw .u32 ST) (0, 0) _ rfl (setRow_heap _ _ _ _ _ _ HR.out) Tryd.underlying23 rfl (by kernel_rfl)) rfl ⟨rfl, HB.out⟩

theorem rblock_row (h b : List Nat) (hl : h.length = 8) (hb : b.length = 64) (hs : Small h) (hy : Bytes b) (w : World) :
    Calls Tryd.prog 12 #[.agg (cw .u32 h), .agg (cw .u8 b)] w fun e w' => e = .returned (.agg (cw .u32 (blk KT h b))) ∧ Below w.heap.size w w' := by
  obtain ⟨a0, a1, a2, a3, a4, a5, a6, a7, hh⟩ : ∃ a0 a1 a2 a3 a4 a5 a6 a7, h = [a0, a1, a2, a3, a4, a5, a6, a7] := by
    match h, hl with
    | [a0, a1, a2, a3, a4, a5, a6, a7], _ => exact ⟨a0, a1, a2, a3, a4, a5, a6, a7, rfl⟩
  exact rblock_any h b a0 a1 a2 a3 a4 a5 a6 a7 hh hb hs hy w

theorem info32r : (Tryd.prog.info? 28).map (·.size) = some 32 := by kernel_rfl
theorem info8t : (Tryd.prog.info? 23).map (·.size) = some 8 := by kernel_rfl

set_option maxRecDepth 100000 in
set_option maxHeartbeats 1200000 in
theorem rof_any (s : ByteArray) (w : World) (hlen : s.size < 2305843009213693952) :
    Calls Tryd.prog 17 #[.string s] w fun e w' => e = .returned (.agg (cw .u8 (shaL (nb s)))) ∧ Below w.heap.size w w' := by
  obtain ⟨W, hW⟩ : ∃ W, W = w.alloc (.cells (cw .u8 (zr 32)) 28) := ⟨_, rfl⟩
  have hWb : Below w.heap.size w W := by rw [hW]; exact (Below.refl _ _).alloc (Nat.le_refl _) _
  have hWr : W.heap[w.heap.size]? = some (.cells (cw .u8 (zr 32)) 28 (0, 0)) := by rw [hW]; exact heap_alloc_new _ _
  have hWs : W.heap.size = w.heap.size + 1 := by rw [hW]; simp
  have hz32 := (zero_of_info (P := Tryd.prog) (t := 28) (v := .agg (cw .u8 (zr 32))) (n := 32) (by kernel_rfl)).1
  have hz64 := (zero_of_info (P := Tryd.prog) (t := 24) (v := .agg (cw .u8 (zr 64))) (n := 64) (by kernel_rfl)).1
  have hz8 := (zero_of_info (P := Tryd.prog) (t := 23) (v := .agg (cw .u32 (zr 8))) (n := 8) (by kernel_rfl)).1
  have HWB := Lib.hid hWb
  have HWR := Lib.hid hWr
  have HWS := Lib.hid hWs
  have HW := Lib.hid hW
  clear hWb hWr hW hWs
  go_enter Tryd.func17, Tryd.ntmps17
  go_wp2_with fail
  rw [← HW.out]
  refine (rpad_any s.size W).mono ?_
  rintro e w3 ⟨p, rfl, hp, hb3⟩
  have hpl : p.size = zsN s.size + 9 := by rw [← nb_length, hp, padN_length]
  have hzl := zsN_le s.size
  have hsum : s.size + p.size ≤ 9223372036854775807 := by omega
  have hB3 := HWB.out.trans (hb3.mono (by have := HWB.out.size; omega))
  have hR3 := (hb3.block w.heap.size (by have := HWS.out; omega)).trans HWR.out
  have hs3 : w.heap.size + 1 ≤ w3.heap.size := by have := HWS.out; have := hb3.size; omega
  have HP := Lib.hid hp
  have HPL := Lib.hid hpl
  have HB3 := Lib.hid hB3
  have HR3 := Lib.hid hR3
  clear hp hpl hB3 hR3 hb3 HWB HWR HWS HW
  go_wp2_with fail
  refine (start_any w3).mono ?_
  rintro e w4 ⟨rfl, hb4⟩
  have hB4 := HB3.out.trans (hb4.mono HB3.out.size)
  have hR4 := (hb4.block w.heap.size (by omega)).trans HR3.out
  have hs4 : w.heap.size + 1 ≤ w4.heap.size := by have := hb4.size; omega
  obtain ⟨W5, hW5⟩ : ∃ W5, W5 = (w4.alloc (.cells (cw .u32 (zr 8)) 23)).setRow w4.heap.size (cw .u32 ST) := ⟨_, rfl⟩
  have hn5 : NewRow w4 W5 (cw .u32 ST) 23 := by rw [hW5]; exact new_row _ _ _ _
  have hro : RoH w W5 w4.heap.size (hsh (nb s ++ padN s.size) 0) := ⟨by omega, by rw [hn5.size]; omega, (hn5.below.block _ (by omega)).trans hR4, hn5.new, hB4.trans (hn5.below.mono hB4.size)⟩
  have hn8 := heap_alloc_new w4 (.cells (cw .u32 (zr 8)) 23)
  have HRO := Lib.hid hro
  have HW5 := Lib.hid hW5
  have HN8 := Lib.hid hn8
  clear hB4 hR4 hro hn5 hW5 hn8 hb4 HB3 HR3
  go_wp2_with (first | (with_reducible refine wpList_store_row rfl 23 _ _ rfl w4.heap.size _ rfl rfl 23 (cw .u32 (zr 8)) ?_ ?_ ?_ ?_ ?_))
  · exact HN8.out
  · exact info8t
  · rfl
  · exact cw_one _ _
  · rw [← HW5.out]
    clear HW5 HN8
    go_wp2_with fail
    obtain ⟨M, hM⟩ : ∃ M, M = nb s ++ padN s.size := ⟨_, rfl⟩
    have hml : M.length = s.size + p.size := by rw [hM, List.length_append, nb_length, padN_length, HPL.out]
    have hmul : (s.size + p.size) % 64 = 0 := by have := pad_fills s.size; rw [padN_length] at this; rw [HPL.out]; exact this
    have hmb : Bytes M := by
      rw [hM]; intro x hx
      rcases List.mem_append.1 hx with h | h
      · exact nb_bytes s x h
      · exact padN_bytes _ x h
    have hnb : nb (s ++ p) = M := by rw [nb_append, HP.out, hM]
    rw [← hM] at HRO
    have HML := Lib.hid hml
    have HMU := Lib.hid hmul
    have HNB := Lib.hid hnb
    have HM := Lib.hid hM
    clear hml hmul hnb hM
    go_loopw [5] (fun a wx => ∃ k : Nat, 64 * k ≤ s.size + p.size ∧ a = .int .i64 (64 * k : Nat) ∧ RoH w wx w4.heap.size (hsh M k)) (fun a _ => s.size + p.size - (intOf a).toNat)
    case atStart => exact ⟨0, by omega, rfl, HRO.out⟩
    case round =>
      clear HRO W5
      obtain ⟨k, hk, rfl, hro⟩ := hrel
      by_cases hlt : 64 * k < s.size + p.size
      · have hk2 : 64 * k + 64 ≤ s.size + p.size := by have := HMU.out; omega
        obtain ⟨o, ho⟩ : ∃ o, o = 64 * k := ⟨_, rfl⟩
        rw [← ho] at hlt hk2 hk
        have HO := Lib.hid ho
        rw [← ho]
        clear ho
        have hbb : Below wr.heap.size wr (wr.alloc (.cells (cw .u8 (zr 64)) 24)) := (Below.refl _ _).alloc (Nat.le_refl _) _
        have hst0 : RoH w (wr.alloc (.cells (cw .u8 (zr 64)) 24)) w4.heap.size (hsh M k) ∧ (wr.alloc (.cells (cw .u8 (zr 64)) 24)).heap[wr.heap.size]? = some (.cells (cw .u8 (blf M o 0)) 24 (0, 0)) := ⟨hro.later hbb, heap_alloc_new _ _⟩
        have hgb := hro.size
        have HS0 := Lib.hid hst0
        obtain ⟨wo, rfl⟩ : ∃ wo : World, wo = wr := ⟨_, rfl⟩
        clear hst0 hbb hro
        have ho1 : (o : Int) < (s.size : Int) + p.size := by omega
        go_wp2_with fail
        go_loopw [7] (fun a wx => ∃ i : Nat, i ≤ 64 ∧ a = .int .i64 i ∧ RoH w wx w4.heap.size (hsh M k) ∧ wx.heap[wo.heap.size]? = some (.cells (cw .u8 (blf M o i)) 24 (0, 0))) (fun a _ => 64 - (intOf a).toNat)
        case atStart => exact ⟨0, by omega, rfl, HS0.out⟩
        case round =>
          clear HS0
          obtain ⟨i, hi, rfl, hro, hrb⟩ := hrel
          by_cases hi64 : i < 64
          · have hl := blf_length M o i
            have c0 := row_cell hrb i (by omega)
            have f0 := row_free hrb i
            have hbt : ((s ++ p)[o + i]'(by rw [ByteArray.size_append]; omega)).toNat = M.getD (o + i) 0 := by
              rw [← getD_nb, HNB.out]
            obtain ⟨x, hx⟩ : ∃ x, x = M.getD (o + i) 0 := ⟨_, rfl⟩
            have r2 := hro.far wo.heap.size i (.int .u8 (x : Int)) hgb
            have b2 := row_store hrb i x
            rw [show (blf M o i).set i x = blf M o (i + 1) by rw [blf, hx]] at b2
            rw [← hx] at hbt
            have R2 := Lib.hid r2
            have B2 := Lib.hid b2
            clear hl hro hrb hx r2 b2
            go_wp2_with fail
            go_roundw
            case rel => exact ⟨i + 1, by omega, by go_num, R2.out, B2.out⟩
            case measure => simp [intOf]; omega
          · obtain rfl : i = 64 := by omega
            rw [show ((64 : Nat) : Int) = 64 from rfl]
            have hbe : blf M o 64 = (M.drop o).take 64 := blf_all M o (by rw [HML.out]; exact hk2)
            have hbl := blf_length M o 64
            have hby : Bytes (blf M o 64) := by rw [hbe]; exact fun x hx => hmb x (List.mem_of_mem_drop (List.mem_of_mem_take hx))
            have hok := hsh_ok M k
            have hnx : blk KT (hsh M k) (blf M o 64) = hsh M (k + 1) := by rw [hbe, HO.out, hsh]
            have h8 : (cw .u32 (hsh M k)).size = 8 := by rw [cw_size, hok.1]
            have h64 : (cw .u8 (blf M o 64)).size = 64 := by rw [cw_size, hbl]
            have HR := Lib.hid hro
            have HB := Lib.hid hrb
            have HOK := Lib.hid hok
            have HNX := Lib.hid hnx
            have H8 := Lib.hid h8
            have H64 := Lib.hid h64
            clear hro hrb hok hnx hbe hi64 hi h8 h64
            go_wp2_with (first | (with_reducible refine wpList_load_row rfl 23 _ rfl w4.heap.size rfl 23 (cw .u32 (hsh M k)) (0, 0) _ ?_ Tryd.underlying23 rfl ?_ ?_) | (with_reducible refine wpList_load_row rfl 24 _ rfl wo.heap.size rfl 24 (cw .u8 (blf M o 64)) (0, 0) _ ?_ Tryd.underlying24 rfl ?_ ?_))
            · exact HR.out.hh
            · rw [H8.out]; exact info8t
            · exact HB.out
            · rw [H64.out]; exact info64b
            · go_wp2_with fail
              refine (rblock_row (hsh M k) (blf M o 64) HOK.out.1 hbl HOK.out.2 hby _).mono ?_
              rintro e w6 ⟨rfl, hb6⟩
              have r6 := HR.out.later hb6
              have hc6 := r6.hh
              have r7 := r6.row (blk KT (hsh M k) (blf M o 64))
              rw [HNX.out] at r7
              have n8 : (cw .u32 (hsh M (k + 1))).size = 8 := by rw [cw_size, (hsh_ok M (k + 1)).1]
              rw [HNX.out]
              have C6 := Lib.hid hc6
              have R7 := Lib.hid r7
              have N8 := Lib.hid n8
              clear r6 hc6 r7 n8 hb6 HR HB HNX
              go_wp2_with (first | (with_reducible refine wpList_store_row rfl 23 _ _ rfl w4.heap.size _ rfl rfl 23 (cw .u32 (hsh M k)) ?_ ?_ ?_ ?_ ?_))
              · exact C6.out
              · rw [N8.out]; exact info8t
              · rw [N8.out]; exact H8.out
              · exact cw_one _ _
              · have hw1 : wrap64 ((o : Int) + 64) = (o : Int) + 64 := by unfold wrap64; omega
                go_wp2_with fail
                go_roundw
                case rel => exact ⟨k + 1, by have := HO.out; omega, by have := HO.out; rw [show 64 * (k + 1) = o + 64 by omega]; go_num, R7.out⟩
                case measure => simp [intOf]; omega
      · have hke : 64 * k = s.size + p.size := by omega
        have hkk : k = (s.size + p.size) / 64 := by omega
        have hd8 := heap_alloc_new wr (.cells (cw .u8 (zr 32)) 28)
        have hbb : Below wr.heap.size wr (wr.alloc (.cells (cw .u8 (zr 32)) 28)) := (Below.refl _ _).alloc (Nat.le_refl _) _
        have hst0 : RoH w (wr.alloc (.cells (cw .u8 (zr 32)) 28)) w4.heap.size (hsh M k) ∧ (wr.alloc (.cells (cw .u8 (zr 32)) 28)).heap[wr.heap.size]? = some (.cells (cw .u8 (dg1 (hsh M k) 0)) 28 (0, 0)) := ⟨hro.later hbb, hd8⟩
        have hgb := hro.size
        have hok := hsh_ok M k
        have hval : dg1 (hsh M k) 32 = shaL (nb s) := by
          rw [dg1_all _ hok.1, shaL, nb_length, ← HM.out, padN_length, hkk, HPL.out]
        have HV := Lib.hid hval
        have HOK := Lib.hid hok
        have HS0 := Lib.hid hst0
        obtain ⟨wo, rfl⟩ : ∃ wo : World, wo = wr := ⟨_, rfl⟩
        obtain ⟨o, ho⟩ : ∃ o, o = 64 * k := ⟨_, rfl⟩
        rw [← ho] at hlt hke hk ⊢
        have ho1 : (s.size : Int) + p.size ≤ o := by omega
        have ho2 : ¬ (o : Int) < (s.size : Int) + p.size := by omega
        clear hst0 hbb hro hd8 hok hval hkk hke ho hlt hk
        go_wp2_with fail
        go_loopw [9] (fun a wx => ∃ i : Nat, i ≤ 32 ∧ a = .int .i64 i ∧ RoH w wx w4.heap.size (hsh M k) ∧ wx.heap[wo.heap.size]? = some (.cells (cw .u8 (dg1 (hsh M k) i)) 28 (0, 0))) (fun a _ => 32 - (intOf a).toNat)
        case atStart => exact ⟨0, by omega, rfl, HS0.out⟩
        case round =>
          clear HS0
          obtain ⟨i, hi, rfl, hro, hrb⟩ := hrel
          by_cases hi32 : i < 32
          · have hl := dg1_length (hsh M k) i
            have c0 := row_cell hrb i (by omega)
            have f0 := row_free hrb i
            have c1 := row_cell hro.hh (i / 4) (by rw [HOK.out.1]; omega)
            have hx := HOK.out.2.get (i / 4)
            obtain ⟨x, hxe⟩ : ∃ x, x = (hsh M k).getD (i / 4) 0 := ⟨_, rfl⟩
            rw [← hxe] at c1 hx
            have r2 := hro.far wo.heap.size i (.int .u8 ((x / 2 ^ (8 * (3 - i % 4)) % 256 : Nat) : Int)) hgb
            have b2 := row_store hrb i (x / 2 ^ (8 * (3 - i % 4)) % 256)
            rw [show (dg1 (hsh M k) i).set i (x / 2 ^ (8 * (3 - i % 4)) % 256) = dg1 (hsh M k) (i + 1) by rw [dg1, hxe]] at b2
            have e : ((x / 2 ^ (8 * (3 - i % 4)) % 256 : Nat) : Int) = (x : Int) / 2 ^ (8 * (3 - i % 4)) % 256 := by
              rw [Int.natCast_emod, Int.natCast_ediv, Int.natCast_pow]; rfl
            rw [e] at r2 b2
            have R2 := Lib.hid r2
            have B2 := Lib.hid b2
            have q0 : (0 : Int) ≤ (i : Int) / 4 := by omega
            have q1 : (i : Int) / 4 < 8 := by omega
            have q2 : ((i : Int) / 4).toNat = i / 4 := by omega
            have q3 : (0 : Int) ≤ 3 - (i : Int) % 4 := by omega
            have q4 : 3 - (i : Int) % 4 ≤ 3 := by omega
            have q5 : (0 : Int) ≤ i := by omega
            have q6 : (i : Int) < 32 := by omega
            clear hl hro hrb hxe r2 b2 e
            go_wp2_with fail
            go_roundw
            case rel => exact ⟨i + 1, by omega, by go_num, R2.out, B2.out⟩
            case measure => simp [intOf]; omega
          · obtain rfl : i = 32 := by omega
            rw [show ((32 : Nat) : Int) = 32 from rfl]
            have hcr := hro.hr
            have hfin : Below w.heap.size w (wr.setRow w.heap.size (cw .u8 (dg1 (hsh M k) 32))) := below_setRow hro.below (Nat.le_refl _) _
            have hrow := setRow_heap wr w.heap.size (cw .u8 (zr 32)) (cw .u8 (dg1 (hsh M k) 32)) 28 (0, 0) hcr
            have h32 : (cw .u8 (dg1 (hsh M k) 32)).size = 32 := by rw [cw_size, dg1_length]
            have CD := Lib.hid hrb
            have CR := Lib.hid hcr
            have HF := Lib.hid hfin
            have HW := Lib.hid hrow
            have H32 := Lib.hid h32
            clear hcr hfin hrow hro hrb hi32 hi h32
            go_wp2_with (first | (with_reducible refine wpList_load_row rfl 28 _ rfl wo.heap.size rfl 28 (cw .u8 (dg1 (hsh M k) 32)) (0, 0) _ ?_ Tryd.underlying28 rfl ?_ ?_) | (with_reducible refine wpList_store_row rfl 28 _ _ rfl w.heap.size _ rfl rfl 28 (cw .u8 (zr 32)) ?_ ?_ ?_ ?_ ?_))
            · exact CD.out
            · rw [H32.out]; exact info32r
            · exact CR.out
            · rw [H32.out]; exact info32r
            · rw [H32.out]; rfl
            · exact cw_one _ _
            · go_wp2_with fail
              refine bodyPost_ret (results_cell_row rfl _ _ w.heap.size 28 _ (0, 0) _ rfl HW.out Tryd.underlying28 rfl (by rw [H32.out]; exact info32r)) rfl ⟨?_, HF.out⟩
              rw [HV.out]
end Go.Proofs.YtemioilfedpohaaDoor

