/- The walks of (*sha.State).Sum and sha.Of. -/
import Derived.Test.YtemioilfedpohaaDoorRst
import Derived.Test.YtemioilfedpohaaDoorZRow
import Derived.Test.YtemioilfedpohaaDoorPadsShaOf
import Derived.Test.YtemioilfedpohaaDoorEqr
namespace Go.Proofs.YtemioilfedpohaaDoor
set_option linter.unusedVariables false
set_option linter.unusedSimpArgs false
open Go.RowKit

theorem size_u32 : ∀ w, (Go.sizeOf 22).run Tryd.prog w = .ok 1 w := by
  intro w
  have h : (Tryd.prog.info? 22).map (·.size) = some 1 := by kernel_rfl
  cases hq : Tryd.prog.info? 22 with
  | none => simp [hq] at h
  | some i =>
    have hi : i.size = 1 := by simpa [hq] using h
    simp [sizeOf, typeInfo, hq, hi]

/-- one number out of a row by value -/
theorem run_index_row {P : Program} {t e : TypeId} {n : Nat} {kk : IntKind} (ht : P.underlying t = some (.array n e)) (he : P.underlying e = some (.int kk)) (hz : ∀ w, (Go.sizeOf e).run P w = .ok 1 w)
    (xs : List Nat) (hx : xs.length = n) (i : Nat) (hi : i < n) (w : World) : (Instr.index t (.agg (cl kk xs).toArray) (.int .i64 (i : Int))).run P w = .ok (.int kk (xs.getD i 0 : Nat)) w := by
  have hp := eqr_part (P := P) (k := kk) (e := e) he xs i (by omega) w
  have h1 : (0 : Int) ≤ i ∧ (i : Int) < n := by omega
  unfold Instr.index
  simp only [asIntOf, Sem.run_bind, Sem.run_pure, Result.andThen_ok, run_underlying ht, h1, and_self, if_true, hz, Int.toNat_natCast]
  exact hp

/-- the digest's bytes, so far -/
def dgs (h : List Nat) : Nat → List Nat
  | 0 => List.replicate 32 0
  | k + 1 => ((((dgs h k).set (4 * k) (h.getD k 0 / 16777216 % 256)).set (4 * k + 1) (h.getD k 0 / 65536 % 256)).set (4 * k + 2) (h.getD k 0 / 256 % 256)).set (4 * k + 3) (h.getD k 0 % 256)
theorem dgs_length (h : List Nat) : ∀ k, (dgs h k).length = 32
  | 0 => by simp [dgs]
  | k + 1 => by simp [dgs, dgs_length h k]
theorem dgs_is (h : List Nat) (hl : h.length = 8) : ∀ k, k ≤ 8 → dgs h k = dig (h.take k) ++ List.replicate (32 - 4 * k) 0
  | 0, _ => by simp [dgs, dig]
  | k + 1, hk => by
    rw [dgs, dgs_is h hl k (by omega), List.take_succ_eq_append_getElem (by omega)]
    have e1 : (dig (h.take k)).length = 4 * k := by rw [dig_length, List.length_take]; omega
    have e2 : 32 - 4 * k = (32 - 4 * (k + 1)) + 4 := by omega
    have e3 : h.getD k 0 = h[k] := by simp [List.getD_eq_getElem?_getD, show k < h.length by omega]
    rw [e2, List.replicate_succ, List.replicate_succ, List.replicate_succ, List.replicate_succ, e3]
    simp only [dig, List.flatMap_append, List.flatMap_cons, List.flatMap_nil, four, List.append_nil]
    generalize hA : h.take k = A at *
    have e4 : (A.flatMap four).length = 4 * k := e1
    rw [List.set_append_right _ _ (by omega), e4, show 4 * k - 4 * k = 0 by omega]
    simp only [List.set_cons_zero]
    rw [List.set_append_right _ _ (by omega), e4, show 4 * k + 1 - 4 * k = 1 by omega]
    simp only [List.set_cons_succ, List.set_cons_zero]
    rw [List.set_append_right _ _ (by omega), e4, show 4 * k + 2 - 4 * k = 2 by omega]
    simp only [List.set_cons_succ, List.set_cons_zero]
    rw [List.set_append_right _ _ (by omega), e4, show 4 * k + 3 - 4 * k = 3 by omega]
    simp only [List.set_cons_succ, List.set_cons_zero, List.append_assoc, List.cons_append, List.nil_append]
theorem dgs_all (h : List Nat) (hl : h.length = 8) : dgs h 8 = dig h := by
  rw [dgs_is h hl 8 (Nat.le_refl _), List.take_of_length_le (by omega)]
  simp

/-- what stands in memory while the digest is written out: the result's block, the digest's -/
structure SmH (w wr : World) (bd : Nat) (d : List Nat) : Prop where
  o : w.heap.size < bd
  size : bd < wr.heap.size
  hr : wr.heap[w.heap.size]? = some (.cells (cw .u8 (zr 32)) 29 (0, 0))
  hd : wr.heap[bd]? = some (.cells (cw .u8 d) 29 (0, 0))
  below : Below w.heap.size w wr
theorem SmH.store {w wr : World} {bd : Nat} {d : List Nat} (H : SmH w wr bd d) (i x : Nat) : SmH w (wr.setCell ⟨bd, i, none⟩ (.int .u8 (x : Int))) bd (d.set i x) :=
  have h1 := H.o
  ⟨h1, by simpa [World.setCell] using H.size, row_other H.hr (by omega), row_store H.hd i x, H.below.setCell (by simp; omega) _⟩

theorem info32 : (Tryd.prog.info? 29).map (·.size) = some 32 := by kernel_rfl

set_option maxRecDepth 100000 in
set_option maxHeartbeats 2000000 in
theorem sum_any (g : Nat) (T : List Nat) (w : World) (hst : StAt w g T) (hT : Tab w) (hlen : T.length < 2305843009213693952) :
    Calls Tryd.prog 25 #[.pointer (some ⟨g, 0, none⟩)] w fun e w' => e = .returned (.agg (cw .u8 (shaL T))) ∧ Below w.heap.size w w' := by
  obtain ⟨n, h, buf, used, hs, hS⟩ := hst
  have hl : (stc n h buf used).length = 74 := stc_length hs.h8 hs.b64
  have i74 : (Tryd.prog.info? 43).map (·.size) = some (stc n h buf used).toArray.size := by rw [List.size_toArray, hl]; exact info74
  obtain ⟨W, hW⟩ : ∃ W, W = w.alloc (.cells (cw .u8 (zr 32)) 29) := ⟨_, rfl⟩
  have hWs : W.heap.size = w.heap.size + 1 := by rw [hW]; simp
  have hWb : Below w.heap.size w W := by rw [hW]; exact (Below.refl _ _).alloc (Nat.le_refl _) _
  have hWr : W.heap[w.heap.size]? = some (.cells (cw .u8 (zr 32)) 29 (0, 0)) := by rw [hW]; exact heap_alloc_new _ _
  have hrow : W.heap[g]? = some (.cells (stc n h buf used).toArray 43 (0, 0)) := (hWb.block g hs.lt).trans hs.row
  obtain ⟨W2, hW2⟩ : ∃ W2, W2 = (W.alloc (.cells (stc 0 (zr 8) (zr 64) 0).toArray 43)).setRow W.heap.size (stc n h buf used).toArray := ⟨_, rfl⟩
  have hnew : NewRow W W2 (stc n h buf used).toArray 43 := by rw [hW2]; exact new_row _ _ _ _
  have hz := (zero_of_info (P := Tryd.prog) (t := 43) (v := .agg (stc 0 (zr 8) (zr 64) 0).toArray) (n := 74) (by kernel_rfl)).1
  have hst2 : StAt W2 (w.heap.size + 1) T := ⟨n, h, buf, used, ⟨by have := hnew.new; rw [hWs] at this; exact this, hs.h8, hs.b64⟩, hS⟩
  have hb2 : Below w.heap.size w W2 := hWb.trans (hnew.below.mono (by omega))
  have hr2 : W2.heap[w.heap.size]? = some (.cells (cw .u8 (zr 32)) 29 (0, 0)) := (hnew.below.block _ (by omega)).trans hWr
  have hT2 : Tab W2 := hT.below hb2 hT.two
  have hnr := heap_alloc_new W (.cells (stc 0 (zr 8) (zr 64) 0).toArray 43)
  have hc0 : W2.cell? ⟨w.heap.size + 1, 0, none⟩ = some (.int .i64 (T.length : Int)) := by
    have h1 := hnew.new
    rw [hWs] at h1
    rw [cell_of_row W2 _ 0 _ _ _ h1, ← hS.n_eq]
    rfl
  have hw2 := hT.two
  rw [hWs] at hnr hW2
  rw [hW2] at hc0
  subst hW
  have HROW := Lib.hid hrow
  have HNR := Lib.hid hnr
  have I74 := Lib.hid i74
  have HL := Lib.hid hl
  have HST := Lib.hid hst2
  have HB2 := Lib.hid hb2
  have HR2 := Lib.hid hr2
  have HT2 := Lib.hid hT2
  have HW2 := Lib.hid hW2
  have hz32 := (zero_of_info (P := Tryd.prog) (t := 29) (v := .agg (cw .u8 (zr 32))) (n := 32) (by kernel_rfl)).1
  clear hrow hnr i74 hl hst2 hb2 hr2 hT2 hW2 hWs hWb hWr hnew hs hS hT
  go_enter Tryd.func25, Tryd.ntmps25
  go_wp2_with (first | (with_reducible refine wpList_load_row rfl 43 _ rfl g rfl 43 (stc n h buf used).toArray (0, 0) _ ?_ Tryd.underlying43 rfl ?_ ?_) | (with_reducible refine wpList_store_row rfl 43 _ _ rfl (w.heap.size + 1) _ rfl rfl 43 (stc 0 (zr 8) (zr 64) 0).toArray ?_ ?_ ?_ ?_ ?_))
  · exact HROW.out
  · exact I74.out
  · exact HNR.out
  · exact I74.out
  · rw [List.size_toArray, List.size_toArray, stc_length rfl rfl, HL.out]
  · exact all_oneCell_toArray (stc_one _ _ _ _)
  · rw [← HW2.out] at hc0
    rw [← HW2.out]
    clear HROW HNR I74 HL HW2
    refine (spad_any T.length (by omega) _).mono ?_
    rintro e w3 ⟨s, rfl, hs, hb3⟩
    have hst3 := HST.out.below hb3 HST.out.lt
    have hT3 := HT2.out.below hb3 HT2.out.two
    have hB3 := HB2.out.trans (hb3.mono (by have := HB2.out.size; omega))
    have hR3 := (hb3.block w.heap.size (by have := HST.out.lt; omega)).trans HR2.out
    have hslen : s.size = (padN T.length).length := by rw [← hs, nb_length]
    have hpl := padN_length T.length
    have hzl := zsN_le T.length
    have HS3 := Lib.hid hst3
    have HT3 := Lib.hid hT3
    have HB3 := Lib.hid hB3
    have HR3 := Lib.hid hR3
    have HS := Lib.hid hs
    have HSL := Lib.hid hslen
    have HPL := Lib.hid hpl
    clear hst3 hT3 hB3 hR3 hs hslen hpl hb3 HST HT2 HB2 HR2 hc0 W2
    go_wp2_with fail
    refine (writeText_any (w.heap.size + 1) T s w3 HS3.out HT3.out (by omega) (by have := HSL.out; have := HPL.out; omega)).mono ?_
    rintro e w4 ⟨rfl, hst4, ho4⟩
    obtain ⟨n4, h4, buf4, used4, hs4, hS4⟩ := hst4
    have hB4 : Below w.heap.size w w4 := only_new HB3.out ho4 (Nat.le_refl _) (by omega)
    have hR4 := (ho4.block w.heap.size (by have := HB3.out.size; have := HS3.out.lt; omega) (by simp)).trans HR3.out
    have hlt4 := hs4.lt
    have hb5 : Below w4.heap.size w4 (w4.alloc (.cells (cw .u8 (zr 32)) 29)) := (Below.refl _ _).alloc (Nat.le_refl _) _
    have hs5 := hs4.below hb5 hs4.lt
    have hsm : SmH w (w4.alloc (.cells (cw .u8 (zr 32)) 29)) w4.heap.size (dgs h4 0) :=
      ⟨by omega, by simp, (hb5.block _ (by omega)).trans hR4, heap_alloc_new _ _, hB4.trans (hb5.mono (by omega))⟩
    have hdig : dig h4 = shaL T := by
      unfold shaL
      rw [hS4.h_eq, HS.out, List.length_append]
    have hrH := hs5.rangeH
    have hh8 := hs4.h8
    have hsm4 := hS4.hs
    have HSM := Lib.hid hsm
    have HDG := Lib.hid hdig
    have HRH := Lib.hid hrH
    have HH8 := Lib.hid hh8
    have i8 : (Tryd.prog.info? 23).map (·.size) = some (cl .u32 h4).length := by rw [cl_length, hh8]; exact info8s
    have I8 := Lib.hid i8
    clear hsm hdig hrH hh8 hs5 hs4 hS4 hB4 hR4 ho4 hb5 HS3 HT3 HB3 HR3 HS HSL HPL i8
    go_wp2_with (first | (with_reducible refine wpList_load_mid rfl 23 _ rfl (w.heap.size + 1) 1 rfl (cl .u32 h4) _ ?_ Tryd.underlying23 rfl ?_ ?_))
    · exact HRH.out
    · exact I8.out
    · go_wp2_with fail
      go_loopw [17] (fun i wx => ∃ k : Nat, k ≤ 8 ∧ i = .int .i64 k ∧ SmH w wx w4.heap.size (dgs h4 k)) (fun i _ => 8 - (intOf i).toNat)
      case atStart => exact ⟨0, by omega, rfl, HSM.out⟩
      case round =>
        clear HSM HRH I8
        obtain ⟨k, hk, rfl, hheld⟩ := hrel
        by_cases hlt : k < 8
        · have hix := fun W => run_index_row (P := Tryd.prog) Tryd.underlying23 Tryd.underlying22 size_u32 h4 HH8.out k hlt W
          have hx := hsm4.get k
          have dl := dgs_length h4 k
          obtain ⟨x, hxe⟩ : ∃ x, x = h4.getD k 0 := ⟨_, rfl⟩
          rw [← hxe] at hx
          have s1 := hheld.store (4 * k) (x / 16777216)
          have s2 := s1.store (4 * k + 1) (x / 65536 % 256)
          have s3 := s2.store (4 * k + 2) (x / 256 % 256)
          have s4 := s3.store (4 * k + 3) (x % 256)
          have e4 : ((((dgs h4 k).set (4 * k) (x / 16777216)).set (4 * k + 1) (x / 65536 % 256)).set (4 * k + 2) (x / 256 % 256)).set (4 * k + 3) (x % 256) = dgs h4 (k + 1) := by rw [dgs, ← hxe, show x / 16777216 % 256 = x / 16777216 by omega]
          rw [e4] at s4
          have c1 := row_cell hheld.hd (4 * k) (by omega)
          have f1 := row_free hheld.hd (4 * k)
          have c2 := row_cell s1.hd (4 * k + 1) (by rw [List.length_set]; omega)
          have f2 := row_free s1.hd (4 * k + 1)
          have c3 := row_cell s2.hd (4 * k + 2) (by rw [List.length_set, List.length_set]; omega)
          have f3 := row_free s2.hd (4 * k + 2)
          have c4 := row_cell s3.hd (4 * k + 3) (by rw [List.length_set, List.length_set, List.length_set]; omega)
          have f4 := row_free s3.hd (4 * k + 3)
          have v1 : (x : Int) / 16777216 = ((x / 16777216 : Nat) : Int) := by omega
          have v2 : (x : Int) / 65536 % 256 = ((x / 65536 % 256 : Nat) : Int) := by omega
          have v3 : (x : Int) / 256 % 256 = ((x / 256 % 256 : Nat) : Int) := by omega
          have v4 : (x : Int) % 256 = ((x % 256 : Nat) : Int) := by omega
          simp only [← v1, ← v2, ← v3, ← v4] at c2 f2 c3 f3 c4 f4 s4
          have S4 := Lib.hid s4
          rw [← hxe] at hix
          clear s1 s2 s3 s4 e4 hheld dl hxe v1 v2 v3 v4
          have t0 : (4 * (k : Int)).toNat = 4 * k := by omega
          have t1 : (4 * (k : Int) + 1).toNat = 4 * k + 1 := by omega
          have t2 : (4 * (k : Int) + 2).toNat = 4 * k + 2 := by omega
          have t3 : (4 * (k : Int) + 3).toNat = 4 * k + 3 := by omega
          have k0 : (0 : Int) ≤ k := by omega
          have k1 : (k : Int) < 8 := by omega
          go_wp2_with fail
          go_roundw
          case rel => exact ⟨k + 1, by omega, by go_num, S4.out⟩
          case measure => simp [intOf]; omega
        · obtain rfl : k = 8 := by omega
          rw [show ((8 : Nat) : Int) = 8 from rfl]
          have hcd := hheld.hd
          have hcr := hheld.hr
          have dl := dgs_length h4 8
          have hfin : Below w.heap.size w (wr.setRow w.heap.size (cw .u8 (dgs h4 8))) := below_setRow hheld.below (Nat.le_refl _) _
          have hrow := setRow_heap wr w.heap.size (cw .u8 (zr 32)) (cw .u8 (dgs h4 8)) 29 (0, 0) hcr
          have h32 : (cw .u8 (dgs h4 8)).size = 32 := by rw [cw_size, dl]
          have hval : dgs h4 8 = shaL T := by rw [dgs_all h4 HH8.out, HDG.out]
          have CD := Lib.hid hcd
          have CR := Lib.hid hcr
          have HF := Lib.hid hfin
          have HW := Lib.hid hrow
          have HV := Lib.hid hval
          have H32 := Lib.hid h32
          clear hcd hcr hfin hrow hval hheld dl hlt hk h32
          go_wp2_with (first | (with_reducible refine wpList_load_row rfl 29 _ rfl w4.heap.size rfl 29 (cw .u8 (dgs h4 8)) (0, 0) _ ?_ Tryd.underlying29 rfl ?_ ?_) | (with_reducible refine wpList_store_row rfl 29 _ _ rfl w.heap.size _ rfl rfl 29 (cw .u8 (zr 32)) ?_ ?_ ?_ ?_ ?_))
          · exact CD.out
          · rw [H32.out]; exact info32
          · exact CR.out
          · rw [H32.out]; exact info32
          · rw [H32.out]; rfl
          · exact cw_one _ _
          · go_wp2_with fail
            refine bodyPost_ret (results_cell_row rfl _ _ w.heap.size 29 _ (0, 0) _ rfl HW.out Tryd.underlying29 rfl (by rw [H32.out]; exact info32)) rfl ⟨?_, HF.out⟩
            rw [HV.out]

set_option maxRecDepth 100000 in
set_option maxHeartbeats 1000000 in
theorem of_any (s : ByteArray) (w : World) (hT : Tab w) (hlen : s.size < 2305843009213693952) :
    Calls Tryd.prog 16 #[.string s] w fun e w' => e = .returned (.agg (cw .u8 (shaL (nb s)))) ∧ Below w.heap.size w w' := by
  obtain ⟨W, hW⟩ : ∃ W, W = w.alloc (.cells (cw .u8 (zr 32)) 29) := ⟨_, rfl⟩
  have hWb : Below w.heap.size w W := by rw [hW]; exact (Below.refl _ _).alloc (Nat.le_refl _) _
  have hWr : W.heap[w.heap.size]? = some (.cells (cw .u8 (zr 32)) 29 (0, 0)) := by rw [hW]; exact heap_alloc_new _ _
  have hWs : W.heap.size = w.heap.size + 1 := by rw [hW]; simp
  have hT2 := hT.below hWb hT.two
  have hw2 := hT.two
  have hz32 := (zero_of_info (P := Tryd.prog) (t := 29) (v := .agg (cw .u8 (zr 32))) (n := 32) (by kernel_rfl)).1
  have HWB := Lib.hid hWb
  have HWR := Lib.hid hWr
  have HWS := Lib.hid hWs
  have HT2 := Lib.hid hT2
  have HW := Lib.hid hW
  clear hWb hWr hT2 hW hWs hT
  go_enter Tryd.func16, Tryd.ntmps16
  go_wp2_with fail
  rw [← HW.out]
  refine (new_any W HT2.out).mono ?_
  rintro e w3 ⟨g, hg, rfl, hst, hb3⟩
  have hT3 := HT2.out.below hb3 HT2.out.two
  have hB3 := HWB.out.trans (hb3.mono (by have := HWB.out.size; omega))
  have hR3 := (hb3.block w.heap.size (by have := HWS.out; omega)).trans HWR.out
  have hgw : w.heap.size + 1 ≤ g := by have := HWS.out; omega
  have HST := Lib.hid hst
  have HT3 := Lib.hid hT3
  have HB3 := Lib.hid hB3
  have HR3 := Lib.hid hR3
  clear hst hT3 hB3 hR3 hb3 HWB HWR HT2 HW HWS hg
  go_wp2_with fail
  refine (writeText_any g [] s w3 HST.out HT3.out (by omega) (by simp; omega)).mono ?_
  rintro e w4 ⟨rfl, hst4, ho4⟩
  rw [List.nil_append] at hst4
  have hT4 := HT3.out.only (by omega) ho4
  have hB4 : Below w.heap.size w w4 := only_new HB3.out ho4 (Nat.le_refl _) (by omega)
  have hR4 := (ho4.block w.heap.size (by have := HST.out.lt; omega) (by simp; omega)).trans HR3.out
  have HST4 := Lib.hid hst4
  have HT4 := Lib.hid hT4
  have HB4 := Lib.hid hB4
  have HR4 := Lib.hid hR4
  clear hst4 hT4 hB4 hR4 ho4 HST HT3 HB3 HR3
  go_wp2_with fail
  refine (sum_any g (nb s) w4 HST4.out HT4.out (by rw [nb_length]; omega)).mono ?_
  rintro e w5 ⟨rfl, hb5⟩
  have hB5 := HB4.out.trans (hb5.mono HB4.out.size)
  have hR5 := (hb5.block w.heap.size (by have := HST4.out.lt; omega)).trans HR4.out
  have hl := shaL_length (nb s)
  have h32 : (cw .u8 (shaL (nb s))).size = 32 := by rw [cw_size, hl]
  have hrow := setRow_heap w5 w.heap.size (cw .u8 (zr 32)) (cw .u8 (shaL (nb s))) 29 (0, 0) hR5
  have hfin : Below w.heap.size w (w5.setRow w.heap.size (cw .u8 (shaL (nb s)))) := below_setRow hB5 (Nat.le_refl _) _
  have HR5 := Lib.hid hR5
  have HROW := Lib.hid hrow
  have HF := Lib.hid hfin
  have H32 := Lib.hid h32
  clear hB5 hR5 hl h32 hrow hfin hb5 HB4 HST4 HT4 HR4
  go_wp2_with (first | (with_reducible refine wpList_store_row rfl 29 _ _ rfl w.heap.size _ rfl rfl 29 (cw .u8 (zr 32)) ?_ ?_ ?_ ?_ ?_))
  · exact HR5.out
  · rw [H32.out]; exact info32
  · rw [H32.out]; rfl
  · exact cw_one _ _
  · go_wp2_with fail
    exact bodyPost_ret (results_cell_row rfl _ _ w.heap.size 29 _ (0, 0) _ rfl HROW.out Tryd.underlying29 rfl (by rw [H32.out]; exact info32)) rfl ⟨rfl, HF.out⟩
end Go.Proofs.YtemioilfedpohaaDoor

