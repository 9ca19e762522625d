/- The walk of depotlaw01.fold and of the law ShaFolds. -/
import Derived.Test.YtemioilfedpohaaDoorRootAll
import Derived.Test.YtemioilfedpohaaDoorDigEq
import Derived.Test.YtemioilfedpohaaDoorRof
namespace Go.Proofs.YtemioilfedpohaaDoor
set_option linter.unusedVariables false
set_option linter.unusedSimpArgs false
open Go.RowKit

theorem nb_extract3 (u : ByteArray) (a b : Nat) (h : b ≤ u.size) : nb (u.extract a b) = ((nb u).drop a).take (b - a) := by
  have hs : u.data.toList.length = u.size := by simp
  simp only [nb, ByteArray.data_extract, Array.toList_extract, List.extract_eq_drop_take', List.map_drop, List.map_take]

/-- what stands in memory while a message is folded -/
structure FoH (w wr : World) (gh : Nat) (hw : List Nat) : Prop where
  o : w.heap.size < gh
  size : gh < wr.heap.size
  tab : Tab wr
  hr : wr.heap[w.heap.size]? = some (.cells (cw .u8 (zr 32)) 29 (0, 0))
  hh : wr.heap[gh]? = some (.cells (cw .u32 hw) 23 (0, 0))
  below : Below w.heap.size w wr
theorem FoH.later {w wr w1 : World} {gh : Nat} {hw : List Nat} (H : FoH w wr gh hw) (hb : Below wr.heap.size wr w1) : FoH w w1 gh hw :=
  have h1 := H.o; have h2 := H.size
  ⟨h1, Nat.lt_of_lt_of_le h2 hb.size, H.tab.below hb H.tab.two, (hb.block _ (by omega)).trans H.hr, (hb.block _ h2).trans H.hh, H.below.trans (hb.mono (by omega))⟩
theorem FoH.row {w wr : World} {gh : Nat} {hw : List Nat} (H : FoH w wr gh hw) (hw2 : 2 ≤ w.heap.size) (h' : List Nat) : FoH w (wr.setRow gh (cw .u32 h')) gh h' :=
  have h1 := H.o; have h2 := H.size
  ⟨h1, by simpa using h2, H.tab.only (g := gh) (by omega) (only_row (World.grownBy.refl wr _)), (setRow_other _ _ _ _ (by omega)).trans H.hr, setRow_heap _ _ _ _ _ _ H.hh, below_setRow H.below (by omega) _⟩
theorem FoH.far {w wr : World} {gh : Nat} {hw : List Nat} (H : FoH w wr gh hw) (hw2 : 2 ≤ w.heap.size) (g i : Nat) (v : Value) (hg : gh < g) : FoH w (wr.setCell ⟨g, i, none⟩ v) gh hw :=
  have h1 := H.o; have h2 := H.size
  ⟨h1, by simpa [World.setCell] using h2, H.tab.only (g := g) (by omega) (only_setG (World.grownBy.refl wr _) i v), row_other H.hr (by omega), row_other H.hh (by omega), H.below.setCell (by simp; omega) _⟩
theorem FoH.far2 {w wr : World} {gh : Nat} {hw : List Nat} (H : FoH w wr gh hw) (hw2 : 2 ≤ w.heap.size) (g o : Nat) (vs : List Value) (hg : gh < g) : FoH w (wr.setCells g o vs) gh hw :=
  have h1 := H.o; have h2 := H.size
  ⟨h1, by rw [size_setCells]; exact h2, H.tab.only (g := g) (by omega) (only_setCells vs o wr (World.grownBy.refl wr _)), (heap_setCells_other (by omega) vs o wr).trans H.hr, (heap_setCells_other (by omega) vs o wr).trans H.hh, below_setCells (by omega) vs o wr H.below⟩
theorem FoH.drew1 {w wr : World} {gh : Nat} {hw : List Nat} (H : FoH w wr gh hw) : FoH w wr.drew gh hw :=
  H.later ⟨rfl, rfl, rfl, Nat.le_refl _, fun _ _ => rfl⟩

set_option maxRecDepth 100000 in
set_option maxHeartbeats 1200000 in
theorem fold_any (m : ByteArray) (w : World) (hT : Tab w) (hlen : m.size < 2305843009213693952) (hmul : m.size % 64 = 0) :
    Calls Tryd.prog 19 #[.string m] w fun e w' => e = .returned (.agg (cw .u8 (dig (hsh (nb m) (m.size / 64))))) ∧ Below w.heap.size w w' := by
  have hw2 := hT.two
  obtain ⟨W, hW⟩ : ∃ W, W = w.alloc (.cells (cw .u8 (zr 32)) 29) := ⟨_, rfl⟩
  have hWb : Below w.heap.size w W := by rw [hW]; exact (Below.refl _ _).alloc (Nat.le_refl _) _
  have hWr : W.heap[w.heap.size]? = some (.cells (cw .u8 (zr 32)) 29 (0, 0)) := by rw [hW]; exact heap_alloc_new _ _
  have hWs : W.heap.size = w.heap.size + 1 := by rw [hW]; simp
  have hz32 := (zero_of_info (P := Tryd.prog) (t := 29) (v := .agg (cw .u8 (zr 32))) (n := 32) (by kernel_rfl)).1
  have hz64 := (zero_of_info (P := Tryd.prog) (t := 24) (v := .agg (cw .u8 (zr 64))) (n := 64) (by kernel_rfl)).1
  have hz8 := (zero_of_info (P := Tryd.prog) (t := 23) (v := .agg (cw .u32 (zr 8))) (n := 8) (by kernel_rfl)).1
  have HT2 := Lib.hid (hT.below hWb hw2)
  have HWB := Lib.hid hWb
  have HWR := Lib.hid hWr
  have HWS := Lib.hid hWs
  have HW := Lib.hid hW
  have HMU := Lib.hid hmul
  clear hWb hWr hW hWs hT hmul
  go_enter Tryd.func19, Tryd.ntmps19
  go_wp2_with fail
  rw [← HW.out]
  refine (rooted8_any W).mono ?_
  rintro e w4 ⟨rfl, hb4⟩
  have hB4 := HWB.out.trans (hb4.mono (by have := HWB.out.size; omega))
  have hR4 := (hb4.block w.heap.size (by have := HWS.out; omega)).trans HWR.out
  have hs4 : w.heap.size + 1 ≤ w4.heap.size := by have := HWS.out; have := hb4.size; omega
  have hT4 := HT2.out.below hb4 HT2.out.two
  obtain ⟨W5, hW5⟩ : ∃ W5, W5 = (w4.alloc (.cells (cw .u32 (zr 8)) 23)).setRow w4.heap.size (cw .u32 ST) := ⟨_, rfl⟩
  have hn5 : NewRow w4 W5 (cw .u32 ST) 23 := by rw [hW5]; exact new_row _ _ _ _
  have hro : FoH w W5 w4.heap.size (hsh (nb m) 0) := ⟨by omega, by rw [hn5.size]; omega, hT4.below hn5.below hT4.two, (hn5.below.block _ (by omega)).trans hR4, hn5.new, hB4.trans (hn5.below.mono hB4.size)⟩
  have hn8 := heap_alloc_new w4 (.cells (cw .u32 (zr 8)) 23)
  have HRO := Lib.hid hro
  have HW5 := Lib.hid hW5
  have HN8 := Lib.hid hn8
  clear hB4 hR4 hro hn5 hW5 hn8 hb4 hT4 HWB HWR HWS HW HT2
  go_wp2_with (first | (with_reducible refine wpList_store_row rfl 23 _ _ rfl w4.heap.size _ rfl rfl 23 (cw .u32 (zr 8)) ?_ ?_ ?_ ?_ ?_))
  · exact HN8.out
  · exact info8t
  · rfl
  · exact cw_one _ _
  · rw [← HW5.out]
    clear HW5 HN8
    have hgh := HRO.out.o
    generalize w4.heap.size = gh at *
    go_wp2_with fail
    obtain ⟨M, hM⟩ : ∃ M, M = nb m := ⟨_, rfl⟩
    have hml : M.length = m.size := by rw [hM, nb_length]
    have hmb : Bytes M := by rw [hM]; exact nb_bytes m
    rw [← hM] at HRO
    have HML := Lib.hid hml
    have HM := Lib.hid hM
    clear hml hM
    go_loopw [4] (fun a wx => ∃ k : Nat, 64 * k ≤ m.size ∧ a = .int .i64 (64 * k : Nat) ∧ FoH w wx gh (hsh M k)) (fun a _ => m.size - (intOf a).toNat)
    case atStart => exact ⟨0, by omega, rfl, HRO.out⟩
    case round =>
      clear HRO W5
      obtain ⟨k, hk, rfl, hro⟩ := hrel
      by_cases hlt : 64 * k < m.size
      · have hk2 : 64 * k + 64 ≤ m.size := by have := HMU.out; omega
        obtain ⟨o, ho⟩ : ∃ o, o = 64 * k := ⟨_, rfl⟩
        rw [← ho] at hlt hk2 hk
        have HO := Lib.hid ho
        rw [← ho]
        clear ho
        have hbb : Below wr.heap.size wr (wr.alloc (.cells (cw .u8 (zr 64)) 24)) := (Below.refl _ _).alloc (Nat.le_refl _) _
        have hn64 := heap_alloc_new wr (.cells (cw .u8 (zr 64)) 24)
        have hr1 := hro.later hbb
        have hgb := hro.size
        obtain ⟨Wb, hWb⟩ : ∃ Wb, Wb = (wr.alloc (.cells (cw .u8 (zr 64)) 24)).drew := ⟨_, rfl⟩
        have hr2 : FoH w Wb gh (hsh M k) := by rw [hWb]; exact hr1.drew1
        have hn2 : Wb.heap[wr.heap.size]? = some (.cells (cw .u8 (zr 64)) 24 (0, 0)) := by rw [hWb]; exact hn64
        obtain ⟨B, hB⟩ : ∃ B, B = (M.drop o).take 64 := ⟨_, rfl⟩
        have hbl : B.length = 64 := by rw [hB, List.length_take, List.length_drop, HML.out]; omega
        have hex : nb (m.extract o (o + 64)) = B := by rw [hB, HM.out, nb_extract3 _ _ _ hk2, show o + 64 - o = 64 by omega]
        have hexs : (m.extract o (o + 64)).size = 64 := by rw [ByteArray.size_extract]; omega
        have hrun : ∀ ty, (Builtin.copy_ #[45, 9] ty #[.slice (some ⟨wr.heap.size, 0, none⟩) 64 64, .string (m.extract o (o + 64))]).run Tryd.prog Wb = .ok (goInt (64 : Nat)) (Wb.setCells wr.heap.size 0 (cl .u8 (B))) := by
          intro ty
          have := run_copy_text (P := Tryd.prog) Wb 45 9 ty 5 wr.heap.size 0 64 64 64 (m.extract o (o + 64)) Tryd.underlying45 size_u8 (by rw [hexs]; rfl) (fun j hj => ⟨by rw [row_cell hn2 (0 + j) (by simp [zr]; omega)]; rfl, row_free hn2 _⟩)
          rw [hex, List.take_of_length_le (by omega)] at this
          exact this
        have hr3 := hr2.far2 hw2 wr.heap.size 0 (cl .u8 (B)) hgb
        have hrow3 : (Wb.setCells wr.heap.size 0 (cl .u8 (B))).heap[wr.heap.size]? = some (.cells (cw .u8 (B)) 24 (0, 0)) := by
          rw [heap_setCells _ _ _ (cl .u8 (zr 64)) hn2 (by rw [cl_length, cl_length, hbl]; simp [zr])]
          congr 2
          simp [splice, cl, zr, cw, hbl]
        have hby : Bytes B := fun x hx => by rw [hB] at hx; exact hmb x (List.mem_of_mem_drop (List.mem_of_mem_take hx))
        have hok := hsh_ok M k
        have hnx : blk KT (hsh M k) (B) = hsh M (k + 1) := by rw [hB, HO.out, hsh]
        have h8 : (cw .u32 (hsh M k)).size = 8 := by rw [cw_size, hok.1]
        have h64 : (cw .u8 (B)).size = 64 := by rw [cw_size, hbl]
        have HR3 := Lib.hid hr3
        have HB3 := Lib.hid hrow3
        have HOK := Lib.hid hok
        have HNX := Lib.hid hnx
        have H8 := Lib.hid h8
        have H64 := Lib.hid h64
        have HBL := Lib.hid hbl
        have HWB := Lib.hid hWb
        have ho1 : (o : Int) + 64 ≤ m.size := by omega
        have ho0 : (0 : Int) ≤ o := by omega
        have hto : ((o : Int) + 64).toNat = o + 64 := by omega
        have hwo : IntKind.i64.wrap ((o : Int) + 64) = (o : Int) + 64 := IntWalk.i64_in _ (by omega)
        clear hbb hn64 hr1 hr2 hn2 hr3 hrow3 hex hexs hok hnx h8 h64 hro hWb hbl
        clear hB
        have hq1 : (0 : Int) ≤ (o : Int) + 64 := by omega
        have hq2 : (o : Int) ≤ (o : Int) + 64 := by omega
        go_wp2_with fail
        refine wp_region_any (by kernel_rfl) ?_
        change wpAny _ _ _ _ _ _ _ (World.drew _)
        rw [← HWB.out]
        refine wpAny_take (i := 0) (oi := _) (v := (.slice (some ⟨wr.heap.size, 0, none⟩) 64 64)) rfl (by kernel_rfl) (by kernel_rfl) (by kernel_rfl) (fun _ _ _ h => h) (Or.inl ⟨by rfl, fun w' => by go_simp⟩) ?_
        try simp only [Act.put, List.getElem_toArray, List.getElem_cons_succ, List.getElem_cons_zero, List.setIfInBounds_toArray, List.set_cons_zero, List.set_cons_succ]
        refine wpAny_take (i := 1) (oi := _) (v := (.string m)) rfl (by kernel_rfl) (by kernel_rfl) (by kernel_rfl) (fun _ _ _ h => h) (Or.inl ⟨by rfl, fun w' => by go_simp⟩) ?_
        try simp only [Act.put, List.getElem_toArray, List.getElem_cons_succ, List.getElem_cons_zero, List.setIfInBounds_toArray, List.set_cons_zero, List.set_cons_succ]
        refine wpAny_take (i := 2) (oi := _) (v := (.int .i64 (o : Int))) rfl (by kernel_rfl) (by kernel_rfl) (by kernel_rfl) (fun _ _ _ h => h) (Or.inl ⟨by rfl, fun w' => by go_simp⟩) ?_
        try simp only [Act.put, List.getElem_toArray, List.getElem_cons_succ, List.getElem_cons_zero, List.setIfInBounds_toArray, List.set_cons_zero, List.set_cons_succ]
        refine wpAny_take (i := 3) (oi := _) (v := (.int .i64 (o : Int))) rfl (by kernel_rfl) (by kernel_rfl) (by kernel_rfl) (fun _ _ _ h => h) (Or.inl ⟨by rfl, fun w' => by go_simp⟩) ?_
        try simp only [Act.put, List.getElem_toArray, List.getElem_cons_succ, List.getElem_cons_zero, List.setIfInBounds_toArray, List.set_cons_zero, List.set_cons_succ]
        refine wpAny_take (i := 4) (oi := _) (v := (.int .i64 ((o : Int) + 64))) rfl (by kernel_rfl) (by kernel_rfl) (by kernel_rfl) (fun _ _ _ h => h) (Or.inl ⟨by rfl, fun w' => by go_simp⟩) ?_
        try simp only [Act.put, List.getElem_toArray, List.getElem_cons_succ, List.getElem_cons_zero, List.setIfInBounds_toArray, List.set_cons_zero, List.set_cons_succ]
        refine wpAny_take (i := 5) (oi := _) (v := (.string (m.extract o (o + 64)))) rfl (by kernel_rfl) (by kernel_rfl) (by kernel_rfl) (fun _ _ _ h => h) (Or.inl ⟨by rfl, fun w' => by go_simp⟩) ?_
        try simp only [Act.put, List.getElem_toArray, List.getElem_cons_succ, List.getElem_cons_zero, List.setIfInBounds_toArray, List.set_cons_zero, List.set_cons_succ]
        refine wpAny_ready (rs := [6]) (by kernel_rfl) (by simp) ?_
        refine AllReady.cons (o := _) rfl (fun K hK => ?_) AllReady.nil
        rw [if_pos (by rfl)]
        refine Lib.wp_copy_run _ (.tmp 16) (.tmp 21) _ _ rfl _ _ rfl rfl (hrun _) ?_
        refine hK _ _ ?_
        clear hK K hrun
        try simp only [Act.put, List.getElem_toArray, List.getElem_cons_succ, List.getElem_cons_zero, List.setIfInBounds_toArray, List.set_cons_zero, List.set_cons_succ]
        refine wpAny_done (by kernel_rfl) ?_ _
        generalize hgbb : wr.heap.size = gb at *
        clear hgbb HWB
        generalize Wb.setCells gb 0 (cl .u8 B) = W3 at *
        go_wp2_with (first | (with_reducible refine wpList_load_row rfl 23 _ rfl gh rfl 23 (cw .u32 (hsh M k)) (0, 0) _ ?_ Tryd.underlying23 rfl ?_ ?_) | (with_reducible refine wpList_load_row rfl 24 _ rfl gb rfl 24 (cw .u8 B) (0, 0) _ ?_ Tryd.underlying24 rfl ?_ ?_))
        · exact HR3.out.hh
        · rw [H8.out]; exact info8t
        · exact HB3.out
        · rw [H64.out]; exact info64b
        · go_wp2_with fail
          refine (block_row (hsh M k) B HOK.out.1 HBL.out HOK.out.2 hby _ HR3.out.tab).mono ?_
          rintro e w6 ⟨he, hb6⟩
          rw [cl_array] at he
          subst he
          have r6 := HR3.out.later hb6
          have hc6 := r6.hh
          have r7 := r6.row hw2 (blk KT (hsh M k) B)
          rw [HNX.out] at r7
          have n8 : (cw .u32 (hsh M (k + 1))).size = 8 := by rw [cw_size, (hsh_ok M (k + 1)).1]
          rw [HNX.out]
          have C6 := Lib.hid hc6
          have R7 := Lib.hid r7
          have N8 := Lib.hid n8
          clear r6 hc6 r7 n8 hb6 HR3 HB3 HNX
          go_wp2_with (first | (with_reducible refine wpList_store_row rfl 23 _ _ rfl gh _ rfl rfl 23 (cw .u32 (hsh M k)) ?_ ?_ ?_ ?_ ?_))
          · exact C6.out
          · rw [N8.out]; exact info8t
          · rw [N8.out]; exact H8.out
          · exact cw_one _ _
          · have hw1 : wrap64 ((o : Int) + 64) = (o : Int) + 64 := by unfold wrap64; omega
            go_wp2_with fail
            go_roundw
            case rel => exact ⟨k + 1, by have := HO.out; omega, by have := HO.out; rw [show 64 * (k + 1) = o + 64 by omega]; go_num, R7.out⟩
            case measure => simp [intOf]; omega
      · have hke : 64 * k = m.size := by omega
        have hkk : k = m.size / 64 := by omega
        have hd8 := heap_alloc_new wr (.cells (cw .u8 (zr 32)) 29)
        have hbb : Below wr.heap.size wr (wr.alloc (.cells (cw .u8 (zr 32)) 29)) := (Below.refl _ _).alloc (Nat.le_refl _) _
        have hst0 : FoH w (wr.alloc (.cells (cw .u8 (zr 32)) 29)) gh (hsh M k) ∧ (wr.alloc (.cells (cw .u8 (zr 32)) 29)).heap[wr.heap.size]? = some (.cells (cw .u8 (dg1 (hsh M k) 0)) 29 (0, 0)) := ⟨hro.later hbb, hd8⟩
        have hgb := hro.size
        have hok := hsh_ok M k
        have hval : dg1 (hsh M k) 32 = dig (hsh (nb m) (m.size / 64)) := by
          rw [dg1_all _ hok.1, ← HM.out, hkk]
        have HV := Lib.hid hval
        have HOK := Lib.hid hok
        have HS0 := Lib.hid hst0
        obtain ⟨wo, rfl⟩ : ∃ wo : World, wo = wr := ⟨_, rfl⟩
        obtain ⟨o, ho⟩ : ∃ o, o = 64 * k := ⟨_, rfl⟩
        rw [← ho] at hlt hke hk ⊢
        have ho1 : ¬ (o : Int) + 64 ≤ m.size := by omega
        have ho2 : (o : Int) ≤ m.size := by omega
        clear hst0 hbb hro hd8 hok hval hkk hke ho hlt hk
        go_wp2_with fail
        go_loopw [26] (fun a wx => ∃ i : Nat, i ≤ 32 ∧ a = .int .i64 i ∧ FoH w wx gh (hsh M k) ∧ wx.heap[wo.heap.size]? = some (.cells (cw .u8 (dg1 (hsh M k) i)) 29 (0, 0))) (fun a _ => 32 - (intOf a).toNat)
        case atStart => exact ⟨0, by omega, rfl, HS0.out⟩
        case round =>
          clear HS0
          obtain ⟨i, hi, rfl, hro, hrb⟩ := hrel
          by_cases hi32 : i < 32
          · have hl := dg1_length (hsh M k) i
            have c0 := row_cell hrb i (by omega)
            have f0 := row_free hrb i
            have c1 := row_cell hro.hh (i / 4) (by rw [HOK.out.1]; omega)
            have hx := HOK.out.2.get (i / 4)
            obtain ⟨x, hxe⟩ : ∃ x, x = (hsh M k).getD (i / 4) 0 := ⟨_, rfl⟩
            rw [← hxe] at c1 hx
            have r2 := hro.far hw2 wo.heap.size i (.int .u8 ((x / 2 ^ (8 * (3 - i % 4)) % 256 : Nat) : Int)) hgb
            have b2 := row_store hrb i (x / 2 ^ (8 * (3 - i % 4)) % 256)
            rw [show (dg1 (hsh M k) i).set i (x / 2 ^ (8 * (3 - i % 4)) % 256) = dg1 (hsh M k) (i + 1) by rw [dg1, hxe]] at b2
            have e : ((x / 2 ^ (8 * (3 - i % 4)) % 256 : Nat) : Int) = (x : Int) / 2 ^ (8 * (3 - i % 4)) % 256 := by
              rw [Int.natCast_emod, Int.natCast_ediv, Int.natCast_pow]; rfl
            rw [e, show 8 * (3 - i % 4) = 24 - 8 * (i % 4) by omega] at r2 b2
            have R2 := Lib.hid r2
            have B2 := Lib.hid b2
            have q0 : (0 : Int) ≤ (i : Int) / 4 := by omega
            have q1 : (i : Int) / 4 < 8 := by omega
            have q2 : ((i : Int) / 4).toNat = i / 4 := by omega
            have q3 : (0 : Int) ≤ 24 - 8 * ((i : Int) % 4) := by omega
            have q4 : 24 - 8 * ((i : Int) % 4) ≤ 24 := by omega
            have q5 : (0 : Int) ≤ i := by omega
            have q6 : (i : Int) < 32 := by omega
            clear hl hro hrb hxe r2 b2 e
            go_wp2_with fail
            go_roundw
            case rel => exact ⟨i + 1, by omega, by go_num, R2.out, B2.out⟩
            case measure => simp [intOf]; omega
          · obtain rfl : i = 32 := by omega
            rw [show ((32 : Nat) : Int) = 32 from rfl]
            have hcr := hro.hr
            have hfin : Below w.heap.size w (wr.setRow w.heap.size (cw .u8 (dg1 (hsh M k) 32))) := below_setRow hro.below (Nat.le_refl _) _
            have hrow := setRow_heap wr w.heap.size (cw .u8 (zr 32)) (cw .u8 (dg1 (hsh M k) 32)) 29 (0, 0) hcr
            have h32 : (cw .u8 (dg1 (hsh M k) 32)).size = 32 := by rw [cw_size, dg1_length]
            have CD := Lib.hid hrb
            have CR := Lib.hid hcr
            have HF := Lib.hid hfin
            have HW := Lib.hid hrow
            have H32 := Lib.hid h32
            clear hcr hfin hrow hro hrb hi32 hi h32
            go_wp2_with (first | (with_reducible refine wpList_load_row rfl 29 _ rfl wo.heap.size rfl 29 (cw .u8 (dg1 (hsh M k) 32)) (0, 0) _ ?_ Tryd.underlying29 rfl ?_ ?_) | (with_reducible refine wpList_store_row rfl 29 _ _ rfl w.heap.size _ rfl rfl 29 (cw .u8 (zr 32)) ?_ ?_ ?_ ?_ ?_))
            · exact CD.out
            · rw [H32.out]; exact info32
            · exact CR.out
            · rw [H32.out]; exact info32
            · rw [H32.out]; rfl
            · exact cw_one _ _
            · go_wp2_with fail
              refine bodyPost_ret (results_cell_row rfl _ _ w.heap.size 29 _ (0, 0) _ rfl HW.out Tryd.underlying29 rfl (by rw [H32.out]; exact info32)) rfl ⟨?_, HF.out⟩
              rw [HV.out]

set_option maxRecDepth 100000 in
set_option maxHeartbeats 1000000 in
theorem shaFolds_walk (s : ByteArray) (hs : s.size ≤ 140737488351232) (w : World) (hT : Tab w) :
    Calls Tryd.prog 6 #[.string s] w fun e w' => e = .returned (.bool true) ∧ Below w.heap.size w w' := by
  have HT := Lib.hid hT
  have hd := dig_same (nb s)
  clear hT
  go_enter Tryd.func6, Tryd.ntmps6
  go_wp2_with fail
  refine (awake_any w HT.out).mono ?_
  rintro e w1 ⟨rfl, hb1⟩
  have T1 := Lib.hid (HT.out.below hb1 HT.out.two)
  have B1 := Lib.hid hb1
  clear hb1
  go_wp2_with fail
  refine (of_any s w1 T1.out (by omega)).mono ?_
  rintro e w2 ⟨rfl, hb2⟩
  have T2 := Lib.hid (T1.out.below hb2 T1.out.two)
  have B2 := Lib.hid (B1.out.trans (hb2.mono B1.out.size))
  clear hb2 T1 B1
  go_wp2_with fail
  refine (spad_any s.size (by omega) w2).mono ?_
  rintro e w3 ⟨p, rfl, hp, hb3⟩
  have hpl : p.size = zsN s.size + 9 := by rw [← nb_length, hp, padN_length]
  have hzl := zsN_le s.size
  have hsum : s.size + p.size ≤ 9223372036854775807 := by omega
  have hval : dig (hsh (nb (s ++ p)) ((s ++ p).size / 64)) = shaL (nb s) := by
    rw [nb_append, hp, ByteArray.size_append, hpl, shaL, nb_length, padN_length]
  have hmul : (s ++ p).size % 64 = 0 := by
    have := pad_fills s.size
    rw [padN_length] at this
    rw [ByteArray.size_append, hpl]; exact this
  have hszl : (s ++ p).size < 2305843009213693952 := by rw [ByteArray.size_append]; omega
  have T3 := Lib.hid (T2.out.below hb3 T2.out.two)
  have B3 := Lib.hid (B2.out.trans (hb3.mono B2.out.size))
  have HV := Lib.hid hval
  have HM := Lib.hid hmul
  have HS := Lib.hid hszl
  clear hpl hval hmul hszl hp hb3 T2 B2
  go_wp2_with fail
  refine (fold_any (s ++ p) w3 T3.out HS.out HM.out).mono ?_
  rintro e w4 ⟨rfl, hb4⟩
  rw [HV.out]
  have B4 := Lib.hid (B3.out.trans (hb4.mono B3.out.size))
  clear hb4 B3
  go_wp2_with fail
  go_ret
  exact ⟨rfl, B4.out⟩
end Go.Proofs.YtemioilfedpohaaDoor

