/- The walk of the law PackKeeps. -/
import Derived.Test.YtikbbofjkchppaaPackShort
import Derived.Deep.DeepCutAuto
import Derived.Lib.BufferWrite
import Derived.Lib.SlBuf
namespace Go.Proofs.Ytikbbofjkchppaa
set_option linter.unusedVariables false
set_option linter.unusedSimpArgs false
open Go.RowKit

/-- the bytes with 80 cells of room behind them, of which j are filled -/
def qrow (ps : List Nat) (gap j : Nat) : List Nat := ps ++ (List.replicate j gap ++ List.replicate (80 - j) 0)
theorem qrow_length (ps : List Nat) (gap j : Nat) (h : j ≤ 80) : (qrow ps gap j).length = ps.length + 80 := by simp [qrow]; omega
theorem qrow_set (ps : List Nat) (gap j : Nat) (h : j < 80) : (qrow ps gap j).set (ps.length + j) gap = qrow ps gap (j + 1) := by
  unfold qrow
  rw [List.set_append_right _ _ (by omega), show ps.length + j - ps.length = j by omega, List.set_append_right _ _ (by simp), List.length_replicate, Nat.sub_self, show 80 - j = (80 - (j + 1)) + 1 by omega, List.replicate_succ (a := 0), List.set_cons_zero, List.replicate_succ' (n := j), List.append_assoc]
  rfl
theorem qrow_lo (ps : List Nat) (gap i : Nat) (h : i < ps.length) : (qrow ps gap 80).getD i 0 = ps.getD i 0 := by
  simp [qrow, List.getD_eq_getElem?_getD, List.getElem?_append, h]
theorem qrow_hi (ps : List Nat) (gap i : Nat) (h : ps.length ≤ i) (h2 : i < ps.length + 80) : (qrow ps gap 80).getD i 0 = gap := by
  rw [List.getD_eq_getElem?_getD, qrow, List.getElem?_append_right h, List.getElem?_append_left (by rw [List.length_replicate]; omega), List.getElem?_replicate, if_pos (by omega)]
  rfl
/-- the row written over from the head on -/
def qover (L : List Nat) (v : Nat) : Nat → List Nat
  | 0 => L
  | i + 1 => (qover L v i).set i v
theorem qover_length (L : List Nat) (v : Nat) : ∀ i, (qover L v i).length = L.length
  | 0 => rfl
  | i + 1 => by rw [qover, List.length_set, qover_length L v i]
theorem qover_later (L : List Nat) (v : Nat) : ∀ i j, i ≤ j → (qover L v i).getD j 0 = L.getD j 0
  | 0, _, _ => rfl
  | i + 1, j, h => by
    rw [qover, List.getD_eq_getElem?_getD, List.getElem?_set_ne (by omega), ← List.getD_eq_getElem?_getD, qover_later L v i j (by omega)]
def zrow (n : Nat) : List Nat := qover [] 0 0 ++ List.replicate n 0
theorem run_make_q (n : Nat) (hn : n ≤ 281474976710656) (W : World) :
    (Instr.makeSlice 43 (.int .i64 (n : Int)) (.int .i64 (n : Int))).run Try.prog W = .ok (.slice (some ⟨W.heap.size, 0, none⟩) n n) (W.alloc (.cells (cw .u8 (zrow n)) 5)) := by
  obtain ⟨i0, hi, hz0, hz1, hz2⟩ := u8_info
  have hr := run_make (P := Try.prog) W 43 5 i0 (.int .u8 0) Try.underlying43 hi hz0 .i64 .i64 (n : Int) (n : Int) (by omega) (by omega) (by rw [hz2]; omega) (by omega)
  rw [hr, hz1, Int.toNat_natCast, Nat.mul_one]
  congr 3
  apply Array.ext'
  rw [show (Value.int .u8 0).cells = #[Value.int .u8 0] from rfl, toList_madeCells_one]
  simp [cw, zrow, qover]
/-- 'copy(q, p)' -/
theorem run_copy_q (W : World) (g : Nat) (p : ByteArray) (ty : TypeId) (mark : Nat) (h : W.heap[g]? = some (.cells (cw .u8 (zrow (p.size + 80))) 5 (0, 0))) :
    ∃ W', (Builtin.copy_ #[43, 9] ty #[.slice (some ⟨g, 0, none⟩) (p.size + 80) (p.size + 80), .string p]).run Try.prog W = .ok (goInt p.size) W' ∧ W'.heap[g]? = some (.cells (cw .u8 (qrow (nb p) mark 0)) 5 (0, 0)) ∧ W.grownBy W' (some g) := by
  have hz : (zrow (p.size + 80)).length = p.size + 80 := by simp [zrow, qover]
  have hr := Lib.run_copy_row_string (P := Try.prog) W 43 9 ty 5 g 0 (p.size + 80) (p.size + 80) p (cw .u8 (zrow (p.size + 80))) 5 Try.underlying43 (by kernel_rfl) h (by omega) (by rw [cw_size, hz]; omega)
  refine ⟨_, hr, ?_, grown_setRow W g _⟩
  rw [setRow_heap W g _ _ _ _ h]
  congr 2
  apply Array.ext'
  have hb : Lib.byteCells p.data.toList = cl .u8 (nb p) := by
    unfold Lib.byteCells cl nb
    rw [List.map_map]
    rfl
  rw [hb]
  simp only [List.take_zero, List.nil_append, Nat.zero_add, cw, cl, qrow, zrow, qover, List.map_append, List.map_replicate, List.drop_replicate, Nat.add_sub_cancel_left, List.replicate_zero, List.map_nil, Nat.sub_zero]
/-- more blocks may have changed -/
theorem UkS.widen {w0 w : World} {S S' : Nat → Prop} {g : Nat} {vo vt : Value} {u : US} (H : UkS w0 S w g vo vt u) (h : ∀ k, S k → S' k) : UkS w0 S' w g vo vt u :=
  ⟨H.row, H.oo, H.ot, H.ne, ⟨H.far.os, H.far.tape, H.far.output, H.far.size, fun k hk hn => H.far.block k hk (fun hs => hn (h k hs))⟩, fun e => h _ (H.sg e), fun k e hk => h k (H.so k e hk), fun k e hk => h k (H.st k e hk)⟩
theorem UkS.other2 {w0 w : World} {S : Nat → Prop} {g : Nat} {vo vt : Value} {u : US} (H : UkS w0 S w g vo vt u) {b i : Nat} {x : Value} (hb : S b) (hm : ¬ Mine g vo vt b) : UkS w0 S (w.setCell ⟨b, i, none⟩ x) g vo vt u := by
  have hset : w.grownBy (w.setCell ⟨b, i, none⟩ x) (some b) := only_setG (World.grownBy.refl w _) i _
  refine ⟨?_, H.oo.kept hset (.inr fun e => hm (.inr (.inl e))), H.ot.kept hset (.inr fun e => hm (.inr (.inr e))), H.ne, H.far.grown hset (fun k e hk => by injection e with e; subst e; exact hb), H.sg, H.so, H.st⟩
  exact (hset.block _ H.lt (by simp; exact fun e => hm (.inl e.symm))).trans H.row
/-- closed twice -/
theorem close_twice (L : List Nat) (u : US) (h : At L u L.length) : closeText u = strOf L ∧ closeCode u = 0 ∧ closeAt u = 0 ∧ closeText u.close = strOf L ∧ closeCode u.close = 0 ∧ closeAt u.close = 0 := by
  obtain ⟨hw, ho⟩ := at_whole h
  obtain ⟨h1, h2, h3, h4, h5, h6, h7⟩ := h
  have hc : u.close = { u with shut := true } := close_shut _ (fun q => by rw [hw] at q; simp at q)
  have hc2 : u.close.close = { u with shut := true } := by
    rw [hc, close_shut _ (fun q => by simp at q)]
  refine ⟨?_, ?_, ?_, ?_, ?_, ?_⟩
  · rw [closeText, hc, if_pos h2, ho]
  · rw [closeCode, hc]; exact h2
  · rw [closeAt, hc, if_pos h2]
  · rw [closeText, hc2, if_pos h2, hc, ho]
  · rw [closeCode, hc2]; exact h2
  · rw [closeAt, hc2, if_pos h2]

set_option maxRecDepth 100000 in
set_option maxHeartbeats 3000000 in
theorem keeps_law (s : ByteArray) (hs : s.size ≤ 140737488351232) (mark : Int) (hm : (Lit.int .u8 mark).wf = true) (w : World) : Calls Try.prog 9 #[.string s, .int .u8 mark] w fun e w' => e = .returned (.bool true) ∧ Below w.heap.size w w' := by
  have bm : 0 ≤ mark ∧ mark < 256 := by
    simp [Lit.wf, IntKind.min, IntKind.max, IntKind.signed, IntKind.bits] at hm
    omega
  obtain ⟨m, rfl⟩ : ∃ m : Nat, mark = m := ⟨mark.toNat, by omega⟩
  clear hm
  by_cases hsm : s.size ≤ 1048576
  · obtain ⟨p, hp⟩ : ∃ p, strOf (packL (nb s)) = p := ⟨_, rfl⟩
    have hL : (nb s).length ≤ 1048576 := by rw [nb_length]; exact hsm
    have hroom := packL_room (nb s)
    have hps : p.size = (packL (nb s)).length := by rw [← hp, strOf_size]
    have hnbp : nb p = packL (nb s) := by rw [← hp, nb_strOf _ (packL_bytes _ (nb_bytes s))]
    rw [nb_length, ← hps] at hroom
    have hpp : ∀ W, Calls Try.prog 16 #[.string s] W fun e w' => e = .returned (.tuple #[.string p, .int .i64 0]) ∧ Below W.heap.size W w' := fun W => by
      have h := pack_any s W hsm
      rw [hp] at h
      exact h
    obtain ⟨n, hn⟩ : ∃ n, p.size = n := ⟨_, rfl⟩
    have hn2 : n ≤ 1200000 := by omega
    have hmk := fun W => run_make_q (n + 80) (by omega) W
    have hfp := feed_packL (nb s) hL
    rw [← hnbp] at hfp
    obtain ⟨V, hV⟩ : ∃ V, US.new.feed (nb p) = V := ⟨_, rfl⟩
    rw [hV] at hfp
    have hcl := close_twice (nb s) V hfp.1
    rw [show strOf (nb s) = s from nb_inj (nb_strOf _ (nb_bytes s))] at hcl
    have hsane : Sane V := by rw [← hV]; exact sane_feed (nb p) US.new sane_new (nb_bytes p)
    have HP := Lib.hid hpp
    have HN := Lib.hid hn
    have HV := Lib.hid hV
    have HCL := Lib.hid hcl
    have HSA := Lib.hid hsane
    have n0 : (0 : Int) ≤ n := by omega
    have n1 : (n : Int) ≤ 1200000 := by omega
    have hnl : (nb p).length = n := by rw [nb_length, hn]
    have HNL := Lib.hid hnl
    clear hp hps hnbp hpp hroom hsm hs hL hfp hV hcl hsane hnl
    rw [Int.natCast_add, show ((80 : Nat) : Int) = 80 from rfl] at hmk
    go_enter Try.func9, Try.ntmps9
    go_upto_region 7 with (first | (go_at_call 15; refine (awake_any _).mono ?_; rintro e w1 ⟨rfl, h1⟩; have H1 := Lib.hid h1; clear h1) | (go_at_call 16; refine (HP.out _).mono ?_; rintro e w2 ⟨rfl, h2⟩; have H2 := Lib.hid h2; clear h2))
    obtain ⟨W1, hW1⟩ : ∃ W1, W1 = w2.alloc (.cells (cw .u8 (zrow (n + 80))) 5) := ⟨_, rfl⟩
    have hbw : Below w.heap.size w W1 := by rw [hW1]; exact bl_alloc (bl_step H1.out H2.out) _
    have hq1 : W1.heap[w2.heap.size]? = some (.cells (cw .u8 (zrow (p.size + 80))) 5 (0, 0)) := by rw [hW1, HN.out]; exact heap_alloc_new _ _
    have hgq : w.heap.size ≤ w2.heap.size := (bl_step H1.out H2.out).size
    obtain ⟨W2, hrun, hrow, hgr⟩ := run_copy_q W1 w2.heap.size p 3 m hq1
    have hbel : Below w.heap.size w W2 := only_new hbw hgr (Nat.le_refl _) hgq
    rw [hW1, HN.out] at hrun
    have HGQ := Lib.hid hgq
    have HROW := Lib.hid hrow
    have HBEL := Lib.hid hbel
    clear hrow hgr hq1 hbw hbel hW1 hgq W1 hmk
    go_wp2_with (first | (refine Lib.wpList_copy_run _ rfl (.tmp 30) (.tmp 31) _ _ rfl _ _ rfl rfl hrun ?_))
    clear hrun
    generalize w2.heap.size = gq at *
    go_loopw [8] (fun i wr => ∃ j : Nat, j ≤ 80 ∧ i = .int .i64 (n + j : Nat) ∧ wr.heap[gq]? = some (.cells (cw .u8 (qrow (nb p) m j)) 5 (0, 0)) ∧ Below w.heap.size w wr) (fun i _ => n + 80 - (intOf i).toNat)
    case atStart => exact ⟨0, by omega, rfl, HROW.out, HBEL.out⟩
    case round =>
      clear HROW HBEL
      obtain ⟨j, hj, rfl, hrow, hbel⟩ := hrel
      by_cases hlt : j < 80
      · have hl := qrow_length (nb p) m j hj
        have c0 := row_cell hrow (n + j) (by rw [hl, HNL.out]; omega)
        have f0 := row_free hrow (n + j)
        have k2 := row_store hrow (n + j) m
        rw [← HNL.out, qrow_set (nb p) m j hlt, HNL.out] at k2
        have hb2 : Below w.heap.size w (wr.setCell ⟨gq, n + j, none⟩ (.int .u8 (m : Int))) := hbel.setCell HGQ.out _
        generalize (qrow (nb p) m j).getD (n + j) 0 = y at c0
        obtain ⟨i, hi⟩ : ∃ i, i = n + j := ⟨_, rfl⟩
        rw [← hi] at c0 f0 k2 hb2
        rw [← hi]
        have K3 := Lib.hid k2
        have HB2 := Lib.hid hb2
        have HI := Lib.hid hi
        have i0 : (0 : Int) ≤ i := by omega
        have i1 : (i : Int) < (n : Int) + 80 := by omega
        clear hl k2 hi hb2 hrow hbel
        go_wp2_with fail
        go_roundw
        case rel => exact ⟨j + 1, by omega, by have := HI.out; rw [show n + (j + 1) = i + 1 by omega]; go_num, K3.out, HB2.out⟩
        case measure => simp [intOf]; omega
      · obtain rfl : j = 80 := by omega
        obtain ⟨i, hi⟩ : ∃ i, i = n + 80 := ⟨_, rfl⟩
        rw [← hi]
        have i1 : ¬ (i : Int) < (n : Int) + 80 := by omega
        have i2 : n + 80 ≤ i := by omega
        have HROW := Lib.hid hrow
        have HBEL := Lib.hid hbel
        have hgl : gq < wr.heap.size := lt_of_row hrow
        have HGL := Lib.hid hgl
        have hil : (i : Int) = (n : Int) + 80 := by omega
        have HIL := Lib.hid hil
        clear hrow hbel hi hgl hil hlt hj
        obtain ⟨wk, rfl⟩ : ∃ wk : World, wk = wr := ⟨_, rfl⟩
        go_upto_region 15 with (go_at_call 20; refine (new_any _).mono ?_; rintro e w3 ⟨rfl, h3⟩; have H3 := Lib.hid h3; clear h3)
        have hrd : Rd wk (fun _ => False) gq (nb p) := ⟨HGL.out, id, fun j hj => by
          rw [HNL.out] at hj
          rw [row_cell HROW.out j (by rw [qrow_length _ _ _ (Nat.le_refl _), HNL.out]; omega), qrow_lo _ _ _ (by rw [HNL.out]; exact hj)]⟩
        have hfeed := feed_any wk (fun _ => False) wk.heap.size gq i (nb p) _ _ US.new w3 H3.out (fun _ => fine_new) (nb_bytes p) hrd (by rw [HNL.out]; show 0 + n ≤ _; omega)
        rw [HV.out, HNL.out] at hfeed
        have HFEED := Lib.hid hfeed
        have hgne : gq ≠ wk.heap.size := Nat.ne_of_lt HGL.out
        clear hrd hfeed
        generalize hge : wk.heap.size = g at *
        have HGE := Lib.hid hge
        clear hge
        have i3 : (n : Int) ≤ i := by omega
        go_upto_region 16 with (go_at_call 21; refine HFEED.out.mono ?_; rintro e w4 ⟨rfl, h4⟩; have H4 := Lib.hid h4; clear h4)
        obtain ⟨vo, vt, h4⟩ := H4.out
        have hr4 : w4.heap[gq]? = some (.cells (cw .u8 (qrow (nb p) m 80)) 5 (0, 0)) := (h4.far.block gq (by rw [HGE.out]; exact HGL.out) id).trans HROW.out
        have hmine : ¬ Mine g vo vt gq := fun h => (h4.mine h).2 (by rw [HGE.out]; exact HGL.out)
        have H5 := Lib.hid (h4.widen (S' := fun k => k = gq) (fun k h => h.elim))
        have HR5 := Lib.hid hr4
        have HMI := Lib.hid hmine
        clear h4 hr4 hmine H4 H3 HFEED
        go_wp2_with fail
        go_loopw [56] (fun x wr => ∃ k : Nat, x = .int .i64 (k : Nat) ∧ k ≤ i ∧ wr.heap[gq]? = some (.cells (cw .u8 (qover (qrow (nb p) m 80) m k)) 5 (0, 0)) ∧ UkS wk (fun k => k = gq) wr g vo vt V) (fun x _ => i - (intOf x).toNat)
        case atStart => exact ⟨0, rfl, Nat.zero_le _, HR5.out, H5.out⟩
        case round =>
          clear H5 HR5
          obtain ⟨k, rfl, hki, hr, hP⟩ := hrel
          have hk0 : (0 : Int) ≤ k := by omega
          by_cases hlt : k < i
          · have hltI : (k : Int) < i := by omega
            have hkl : k < n + 80 := by have := HIL.out; omega
            have hl : (qover (qrow (nb p) m 80) m k).length = n + 80 := by rw [qover_length, qrow_length _ _ _ (Nat.le_refl _), HNL.out]
            have c0 := row_cell hr k (by omega)
            rw [qover_later _ _ k k (Nat.le_refl _)] at c0
            have hcell : ∀ W : World, W.heap[gq]? = wr.heap[gq]? → W.cell? ⟨gq, k, none⟩ = wr.cell? ⟨gq, k, none⟩ := fun W h => World.cell?_of_block h
            have HR := Lib.hid hr
            have HPP := Lib.hid hP
            have HC := Lib.hid hcell
            clear hr hP hcell
            have hnext : ∀ W : World, W.heap[gq]? = some (.cells (cw .u8 (qover (qrow (nb p) m 80) m k)) 5 (0, 0)) → UkS wk (fun k => k = gq) W g vo vt V → (W.setCell ⟨gq, k, none⟩ (.int .u8 (m : Int))).heap[gq]? = some (.cells (cw .u8 (qover (qrow (nb p) m 80) m (k + 1))) 5 (0, 0)) ∧ UkS wk (fun k => k = gq) (W.setCell ⟨gq, k, none⟩ (.int .u8 (m : Int))) g vo vt V := fun W h1 h2 => ⟨row_store h1 k m, h2.other2 rfl HMI.out⟩
            have HNEXT := Lib.hid hnext
            clear hnext hl
            by_cases hkn : k < n
            · rw [qrow_lo _ _ _ (by rw [HNL.out]; exact hkn)] at c0
              have hx : (p[k]'(by have := HN.out; omega)).toNat = (nb p).getD k 0 := (getD_nb p k (by have := HN.out; omega)).symm
              generalize (nb p).getD k 0 = y at *
              have d0 : (k : Int) < n := by omega
              have d1 : decide ((k : Int) < n) = true := by simp; omega
              have d2 : decide ((n : Int) ≤ k) = false := by simp; omega
              go_upto_region 19 with fail
              refine wp_region_noPanic ?_
              refine wp_region_held_drew (S := fun w' => w'.cell? ⟨gq, k, none⟩ = some (.int .u8 (y : Int))) (by kernel_rfl) c0 (fun hHeld => ?_)
              refine wpAnyH_take (i := 0) (oi := _) (v := (.int .i64 (k : Int))) rfl (by kernel_rfl) (by kernel_rfl) (by kernel_rfl) (fun _ _ _ h => h) (Or.inl ⟨by rfl, fun w' _ => by go_simp⟩) hHeld ?_
              try simp only [Act.put, List.getElem_toArray, List.getElem_cons_succ, List.getElem_cons_zero, List.setIfInBounds_toArray, List.set_cons_zero, List.set_cons_succ]
              refine wpAnyH_take (i := 1) (oi := _) (v := (.string p)) rfl (by kernel_rfl) (by kernel_rfl) (by kernel_rfl) (fun _ _ _ h => h) (Or.inl ⟨by rfl, fun w' _ => by go_simp⟩) hHeld ?_
              try simp only [Act.put, List.getElem_toArray, List.getElem_cons_succ, List.getElem_cons_zero, List.setIfInBounds_toArray, List.set_cons_zero, List.set_cons_succ]
              refine wpAnyH_take (i := 2) (oi := _) (v := (.int .i64 (n : Int))) rfl (by kernel_rfl) (by kernel_rfl) (by kernel_rfl) (fun _ _ _ h => h) (Or.inl ⟨by rfl, fun w' _ => by go_simp⟩) hHeld ?_
              try simp only [Act.put, List.getElem_toArray, List.getElem_cons_succ, List.getElem_cons_zero, List.setIfInBounds_toArray, List.set_cons_zero, List.set_cons_succ]
              refine wpAnyH_take (i := 3) (oi := _) (v := (.bool true)) rfl (by kernel_rfl) (by kernel_rfl) (by kernel_rfl) (fun _ _ _ h => h) (Or.inl ⟨by rfl, fun w' _ => by go_simp⟩) hHeld ?_
              try simp only [Act.put, List.getElem_toArray, List.getElem_cons_succ, List.getElem_cons_zero, List.setIfInBounds_toArray, List.set_cons_zero, List.set_cons_succ]
              refine wpAnyH_take (i := 4) (oi := _) (v := (.bool true)) rfl (by kernel_rfl) (by kernel_rfl) (by kernel_rfl) (fun _ _ _ h => h) (Or.inl ⟨by rfl, fun w' _ => by go_simp⟩) hHeld ?_
              try simp only [Act.put, List.getElem_toArray, List.getElem_cons_succ, List.getElem_cons_zero, List.setIfInBounds_toArray, List.set_cons_zero, List.set_cons_succ]
              refine wpAnyH_take (i := 5) (oi := _) (v := (.slice (some ⟨gq, 0, none⟩) i i)) rfl (by kernel_rfl) (by kernel_rfl) (by kernel_rfl) (fun _ _ _ h => h) (Or.inl ⟨by rfl, fun w' _ => by go_simp⟩) hHeld ?_
              try simp only [Act.put, List.getElem_toArray, List.getElem_cons_succ, List.getElem_cons_zero, List.setIfInBounds_toArray, List.set_cons_zero, List.set_cons_succ]
              refine wpAnyH_take (i := 6) (oi := _) (v := (.int .i64 (k : Int))) rfl (by kernel_rfl) (by kernel_rfl) (by kernel_rfl) (fun _ _ _ h => h) (Or.inl ⟨by rfl, fun w' _ => by go_simp⟩) hHeld ?_
              try simp only [Act.put, List.getElem_toArray, List.getElem_cons_succ, List.getElem_cons_zero, List.setIfInBounds_toArray, List.set_cons_zero, List.set_cons_succ]
              refine wpAnyH_take (i := 7) (oi := _) (v := (.pointer (some ⟨gq, k, none⟩))) rfl (by kernel_rfl) (by kernel_rfl) (by kernel_rfl) (fun _ _ _ h => h) (Or.inl ⟨by rfl, fun w' _ => by go_simp⟩) hHeld ?_
              try simp only [Act.put, List.getElem_toArray, List.getElem_cons_succ, List.getElem_cons_zero, List.setIfInBounds_toArray, List.set_cons_zero, List.set_cons_succ]
              refine wpAnyH_take (i := 8) (oi := _) (v := (.int .u8 (y : Int))) rfl (by kernel_rfl) (by kernel_rfl) (by kernel_rfl) (fun _ _ _ h => h) (Or.inl ⟨by rfl, fun w' hSw => by go_simp⟩) hHeld ?_
              try simp only [Act.put, List.getElem_toArray, List.getElem_cons_succ, List.getElem_cons_zero, List.setIfInBounds_toArray, List.set_cons_zero, List.set_cons_succ]
              refine wpAnyH_take (i := 9) (oi := _) (v := (.string p)) rfl (by kernel_rfl) (by kernel_rfl) (by kernel_rfl) (fun _ _ _ h => h) (Or.inl ⟨by rfl, fun w' _ => by go_simp⟩) hHeld ?_
              try simp only [Act.put, List.getElem_toArray, List.getElem_cons_succ, List.getElem_cons_zero, List.setIfInBounds_toArray, List.set_cons_zero, List.set_cons_succ]
              refine wpAnyH_take (i := 10) (oi := _) (v := (.int .i64 (k : Int))) rfl (by kernel_rfl) (by kernel_rfl) (by kernel_rfl) (fun _ _ _ h => h) (Or.inl ⟨by rfl, fun w' _ => by go_simp⟩) hHeld ?_
              try simp only [Act.put, List.getElem_toArray, List.getElem_cons_succ, List.getElem_cons_zero, List.setIfInBounds_toArray, List.set_cons_zero, List.set_cons_succ]
              refine wpAnyH_take (i := 11) (oi := _) (v := (.int .u8 (y : Int))) rfl (by kernel_rfl) (by kernel_rfl) (by kernel_rfl) (fun _ _ _ h => h) (Or.inl ⟨by rfl, fun w' _ => by go_simp⟩) hHeld ?_
              try simp only [Act.put, List.getElem_toArray, List.getElem_cons_succ, List.getElem_cons_zero, List.setIfInBounds_toArray, List.set_cons_zero, List.set_cons_succ]
              refine wpAnyH_take (i := 12) (oi := _) (v := (.bool false)) rfl (by kernel_rfl) (by kernel_rfl) (by kernel_rfl) (fun _ _ _ h => h) (Or.inl ⟨by rfl, fun w' _ => by go_simp⟩) hHeld ?_
              try simp only [Act.put, List.getElem_toArray, List.getElem_cons_succ, List.getElem_cons_zero, List.setIfInBounds_toArray, List.set_cons_zero, List.set_cons_succ]
              refine wpAnyH_take (i := 13) (oi := _) (v := (.bool false)) rfl (by kernel_rfl) (by kernel_rfl) (by kernel_rfl) (fun _ _ _ h => h) (Or.inl ⟨by rfl, fun w' _ => by go_simp⟩) hHeld ?_
              try simp only [Act.put, List.getElem_toArray, List.getElem_cons_succ, List.getElem_cons_zero, List.setIfInBounds_toArray, List.set_cons_zero, List.set_cons_succ]
              refine wpAnyH_take (i := 14) (oi := _) (v := (.bool false)) rfl (by kernel_rfl) (by kernel_rfl) (by kernel_rfl) (fun _ _ _ h => h) (Or.inl ⟨by rfl, fun w' _ => by go_simp⟩) hHeld ?_
              try simp only [Act.put, List.getElem_toArray, List.getElem_cons_succ, List.getElem_cons_zero, List.setIfInBounds_toArray, List.set_cons_zero, List.set_cons_succ]
              refine wpAnyH_take (i := 15) (oi := _) (v := (.int .i64 (k : Int))) rfl (by kernel_rfl) (by kernel_rfl) (by kernel_rfl) (fun _ _ _ h => h) (Or.inl ⟨by rfl, fun w' _ => by go_simp⟩) hHeld ?_
              try simp only [Act.put, List.getElem_toArray, List.getElem_cons_succ, List.getElem_cons_zero, List.setIfInBounds_toArray, List.set_cons_zero, List.set_cons_succ]
              refine wpAnyH_take (i := 16) (oi := _) (v := (.string p)) rfl (by kernel_rfl) (by kernel_rfl) (by kernel_rfl) (fun _ _ _ h => h) (Or.inl ⟨by rfl, fun w' _ => by go_simp⟩) hHeld ?_
              try simp only [Act.put, List.getElem_toArray, List.getElem_cons_succ, List.getElem_cons_zero, List.setIfInBounds_toArray, List.set_cons_zero, List.set_cons_succ]
              refine wpAnyH_take (i := 17) (oi := _) (v := (.int .i64 (n : Int))) rfl (by kernel_rfl) (by kernel_rfl) (by kernel_rfl) (fun _ _ _ h => h) (Or.inl ⟨by rfl, fun w' _ => by go_simp⟩) hHeld ?_
              try simp only [Act.put, List.getElem_toArray, List.getElem_cons_succ, List.getElem_cons_zero, List.setIfInBounds_toArray, List.set_cons_zero, List.set_cons_succ]
              refine wpAnyH_take (i := 18) (oi := _) (v := (.bool false)) rfl (by kernel_rfl) (by kernel_rfl) (by kernel_rfl) (fun _ _ _ h => h) (Or.inl ⟨by rfl, fun w' _ => by go_simp⟩) hHeld ?_
              try simp only [Act.put, List.getElem_toArray, List.getElem_cons_succ, List.getElem_cons_zero, List.setIfInBounds_toArray, List.set_cons_zero, List.set_cons_succ]
              refine wpAnyH_take (i := 19) (oi := _) (v := (.bool false)) rfl (by kernel_rfl) (by kernel_rfl) (by kernel_rfl) (fun _ _ _ h => h) (Or.inl ⟨by rfl, fun w' _ => by go_simp⟩) hHeld ?_
              try simp only [Act.put, List.getElem_toArray, List.getElem_cons_succ, List.getElem_cons_zero, List.setIfInBounds_toArray, List.set_cons_zero, List.set_cons_succ]
              refine wpAnyH_take (i := 20) (oi := _) (v := undef) rfl (by kernel_rfl) (by kernel_rfl) (by kernel_rfl) (fun _ _ _ h => h) (Or.inr ⟨by rfl, rfl⟩) hHeld ?_
              try simp only [Act.put, List.getElem_toArray, List.getElem_cons_succ, List.getElem_cons_zero, List.setIfInBounds_toArray, List.set_cons_zero, List.set_cons_succ]
              refine wpAnyH_take (i := 21) (oi := _) (v := undef) rfl (by kernel_rfl) (by kernel_rfl) (by kernel_rfl) (fun _ _ _ h => h) (Or.inr ⟨by rfl, rfl⟩) hHeld ?_
              try simp only [Act.put, List.getElem_toArray, List.getElem_cons_succ, List.getElem_cons_zero, List.setIfInBounds_toArray, List.set_cons_zero, List.set_cons_succ]
              refine wpAnyH_take (i := 22) (oi := _) (v := undef) rfl (by kernel_rfl) (by kernel_rfl) (by kernel_rfl) (fun _ _ _ h => h) (Or.inr ⟨by rfl, rfl⟩) hHeld ?_
              try simp only [Act.put, List.getElem_toArray, List.getElem_cons_succ, List.getElem_cons_zero, List.setIfInBounds_toArray, List.set_cons_zero, List.set_cons_succ]
              refine wpAnyH_take (i := 23) (oi := _) (v := undef) rfl (by kernel_rfl) (by kernel_rfl) (by kernel_rfl) (fun _ _ _ h => h) (Or.inr ⟨by rfl, rfl⟩) hHeld ?_
              try simp only [Act.put, List.getElem_toArray, List.getElem_cons_succ, List.getElem_cons_zero, List.setIfInBounds_toArray, List.set_cons_zero, List.set_cons_succ]
              refine wpAnyH_take (i := 24) (oi := _) (v := undef) rfl (by kernel_rfl) (by kernel_rfl) (by kernel_rfl) (fun _ _ _ h => h) (Or.inr ⟨by rfl, rfl⟩) hHeld ?_
              try simp only [Act.put, List.getElem_toArray, List.getElem_cons_succ, List.getElem_cons_zero, List.setIfInBounds_toArray, List.set_cons_zero, List.set_cons_succ]
              refine wpAnyH_take (i := 25) (oi := _) (v := undef) rfl (by kernel_rfl) (by kernel_rfl) (by kernel_rfl) (fun _ _ _ h => h) (Or.inr ⟨by rfl, rfl⟩) hHeld ?_
              try simp only [Act.put, List.getElem_toArray, List.getElem_cons_succ, List.getElem_cons_zero, List.setIfInBounds_toArray, List.set_cons_zero, List.set_cons_succ]
              refine wpAnyH_take (i := 26) (oi := _) (v := (.bool false)) rfl (by kernel_rfl) (by kernel_rfl) (by kernel_rfl) (fun _ _ _ h => h) (Or.inl ⟨by rfl, fun w' _ => by go_simp⟩) hHeld ?_
              try simp only [Act.put, List.getElem_toArray, List.getElem_cons_succ, List.getElem_cons_zero, List.setIfInBounds_toArray, List.set_cons_zero, List.set_cons_succ]
              refine wpAnyH_take (i := 27) (oi := _) (v := (.bool false)) rfl (by kernel_rfl) (by kernel_rfl) (by kernel_rfl) (fun _ _ _ h => h) (Or.inl ⟨by rfl, fun w' _ => by go_simp⟩) hHeld ?_
              try simp only [Act.put, List.getElem_toArray, List.getElem_cons_succ, List.getElem_cons_zero, List.setIfInBounds_toArray, List.set_cons_zero, List.set_cons_succ]
              refine wpAnyH_done (by kernel_rfl) ?_ _
              refine NoPanic.normal ?_
              clear hHeld
              have hq := HNEXT.out wr.drew HR.out HPP.out.drew
              have c1 : wr.drew.cell? ⟨gq, k, none⟩ = some (.int .u8 (y : Int)) := c0
              have f1 : wr.drew.frozen? ⟨gq, k, none⟩ = false := row_free HR.out k
              have HQ := Lib.hid hq
              clear hq c0 HPP HR HNEXT
              generalize wr.drew = wd at *
              go_wp2_with fail
              go_roundw
              case rel => exact ⟨k + 1, by go_num, by omega, HQ.out.1, HQ.out.2⟩
              case measure => simp [intOf]; omega
            · rw [qrow_hi _ _ _ (by rw [HNL.out]; omega) (by rw [HNL.out]; exact hkl)] at c0
              have d0 : ¬ (k : Int) < n := by omega
              have d1 : decide ((k : Int) < n) = false := by simp; omega
              have d2 : decide ((n : Int) ≤ k) = true := by simp; omega
              have d3 : n ≤ k := by omega
              go_upto_region 19 with fail
              refine wp_region_noPanic ?_
              refine wp_region_held_drew (S := fun w' => w'.cell? ⟨gq, k, none⟩ = some (.int .u8 (m : Int))) (by kernel_rfl) c0 (fun hHeld => ?_)
              refine wpAnyH_take (i := 0) (oi := _) (v := (.int .i64 (k : Int))) rfl (by kernel_rfl) (by kernel_rfl) (by kernel_rfl) (fun _ _ _ h => h) (Or.inl ⟨by rfl, fun w' _ => by go_simp⟩) hHeld ?_
              try simp only [Act.put, List.getElem_toArray, List.getElem_cons_succ, List.getElem_cons_zero, List.setIfInBounds_toArray, List.set_cons_zero, List.set_cons_succ]
              refine wpAnyH_take (i := 1) (oi := _) (v := (.string p)) rfl (by kernel_rfl) (by kernel_rfl) (by kernel_rfl) (fun _ _ _ h => h) (Or.inl ⟨by rfl, fun w' _ => by go_simp⟩) hHeld ?_
              try simp only [Act.put, List.getElem_toArray, List.getElem_cons_succ, List.getElem_cons_zero, List.setIfInBounds_toArray, List.set_cons_zero, List.set_cons_succ]
              refine wpAnyH_take (i := 2) (oi := _) (v := (.int .i64 (n : Int))) rfl (by kernel_rfl) (by kernel_rfl) (by kernel_rfl) (fun _ _ _ h => h) (Or.inl ⟨by rfl, fun w' _ => by go_simp⟩) hHeld ?_
              try simp only [Act.put, List.getElem_toArray, List.getElem_cons_succ, List.getElem_cons_zero, List.setIfInBounds_toArray, List.set_cons_zero, List.set_cons_succ]
              refine wpAnyH_take (i := 3) (oi := _) (v := (.bool false)) rfl (by kernel_rfl) (by kernel_rfl) (by kernel_rfl) (fun _ _ _ h => h) (Or.inl ⟨by rfl, fun w' _ => by go_simp⟩) hHeld ?_
              try simp only [Act.put, List.getElem_toArray, List.getElem_cons_succ, List.getElem_cons_zero, List.setIfInBounds_toArray, List.set_cons_zero, List.set_cons_succ]
              refine wpAnyH_take (i := 4) (oi := _) (v := (.bool false)) rfl (by kernel_rfl) (by kernel_rfl) (by kernel_rfl) (fun _ _ _ h => h) (Or.inl ⟨by rfl, fun w' _ => by go_simp⟩) hHeld ?_
              try simp only [Act.put, List.getElem_toArray, List.getElem_cons_succ, List.getElem_cons_zero, List.setIfInBounds_toArray, List.set_cons_zero, List.set_cons_succ]
              refine wpAnyH_take (i := 5) (oi := _) (v := undef) rfl (by kernel_rfl) (by kernel_rfl) (by kernel_rfl) (fun _ _ _ h => h) (Or.inr ⟨by rfl, rfl⟩) hHeld ?_
              try simp only [Act.put, List.getElem_toArray, List.getElem_cons_succ, List.getElem_cons_zero, List.setIfInBounds_toArray, List.set_cons_zero, List.set_cons_succ]
              refine wpAnyH_take (i := 6) (oi := _) (v := undef) rfl (by kernel_rfl) (by kernel_rfl) (by kernel_rfl) (fun _ _ _ h => h) (Or.inr ⟨by rfl, rfl⟩) hHeld ?_
              try simp only [Act.put, List.getElem_toArray, List.getElem_cons_succ, List.getElem_cons_zero, List.setIfInBounds_toArray, List.set_cons_zero, List.set_cons_succ]
              refine wpAnyH_take (i := 7) (oi := _) (v := undef) rfl (by kernel_rfl) (by kernel_rfl) (by kernel_rfl) (fun _ _ _ h => h) (Or.inr ⟨by rfl, rfl⟩) hHeld ?_
              try simp only [Act.put, List.getElem_toArray, List.getElem_cons_succ, List.getElem_cons_zero, List.setIfInBounds_toArray, List.set_cons_zero, List.set_cons_succ]
              refine wpAnyH_take (i := 8) (oi := _) (v := undef) rfl (by kernel_rfl) (by kernel_rfl) (by kernel_rfl) (fun _ _ _ h => h) (Or.inr ⟨by rfl, rfl⟩) hHeld ?_
              try simp only [Act.put, List.getElem_toArray, List.getElem_cons_succ, List.getElem_cons_zero, List.setIfInBounds_toArray, List.set_cons_zero, List.set_cons_succ]
              refine wpAnyH_take (i := 9) (oi := _) (v := undef) rfl (by kernel_rfl) (by kernel_rfl) (by kernel_rfl) (fun _ _ _ h => h) (Or.inr ⟨by rfl, rfl⟩) hHeld ?_
              try simp only [Act.put, List.getElem_toArray, List.getElem_cons_succ, List.getElem_cons_zero, List.setIfInBounds_toArray, List.set_cons_zero, List.set_cons_succ]
              refine wpAnyH_take (i := 10) (oi := _) (v := undef) rfl (by kernel_rfl) (by kernel_rfl) (by kernel_rfl) (fun _ _ _ h => h) (Or.inr ⟨by rfl, rfl⟩) hHeld ?_
              try simp only [Act.put, List.getElem_toArray, List.getElem_cons_succ, List.getElem_cons_zero, List.setIfInBounds_toArray, List.set_cons_zero, List.set_cons_succ]
              refine wpAnyH_take (i := 11) (oi := _) (v := undef) rfl (by kernel_rfl) (by kernel_rfl) (by kernel_rfl) (fun _ _ _ h => h) (Or.inr ⟨by rfl, rfl⟩) hHeld ?_
              try simp only [Act.put, List.getElem_toArray, List.getElem_cons_succ, List.getElem_cons_zero, List.setIfInBounds_toArray, List.set_cons_zero, List.set_cons_succ]
              refine wpAnyH_take (i := 12) (oi := _) (v := undef) rfl (by kernel_rfl) (by kernel_rfl) (by kernel_rfl) (fun _ _ _ h => h) (Or.inr ⟨by rfl, rfl⟩) hHeld ?_
              try simp only [Act.put, List.getElem_toArray, List.getElem_cons_succ, List.getElem_cons_zero, List.setIfInBounds_toArray, List.set_cons_zero, List.set_cons_succ]
              refine wpAnyH_take (i := 13) (oi := _) (v := (.bool false)) rfl (by kernel_rfl) (by kernel_rfl) (by kernel_rfl) (fun _ _ _ h => h) (Or.inl ⟨by rfl, fun w' _ => by go_simp⟩) hHeld ?_
              try simp only [Act.put, List.getElem_toArray, List.getElem_cons_succ, List.getElem_cons_zero, List.setIfInBounds_toArray, List.set_cons_zero, List.set_cons_succ]
              refine wpAnyH_take (i := 14) (oi := _) (v := (.bool false)) rfl (by kernel_rfl) (by kernel_rfl) (by kernel_rfl) (fun _ _ _ h => h) (Or.inl ⟨by rfl, fun w' _ => by go_simp⟩) hHeld ?_
              try simp only [Act.put, List.getElem_toArray, List.getElem_cons_succ, List.getElem_cons_zero, List.setIfInBounds_toArray, List.set_cons_zero, List.set_cons_succ]
              refine wpAnyH_take (i := 15) (oi := _) (v := (.int .i64 (k : Int))) rfl (by kernel_rfl) (by kernel_rfl) (by kernel_rfl) (fun _ _ _ h => h) (Or.inl ⟨by rfl, fun w' _ => by go_simp⟩) hHeld ?_
              try simp only [Act.put, List.getElem_toArray, List.getElem_cons_succ, List.getElem_cons_zero, List.setIfInBounds_toArray, List.set_cons_zero, List.set_cons_succ]
              refine wpAnyH_take (i := 16) (oi := _) (v := (.string p)) rfl (by kernel_rfl) (by kernel_rfl) (by kernel_rfl) (fun _ _ _ h => h) (Or.inl ⟨by rfl, fun w' _ => by go_simp⟩) hHeld ?_
              try simp only [Act.put, List.getElem_toArray, List.getElem_cons_succ, List.getElem_cons_zero, List.setIfInBounds_toArray, List.set_cons_zero, List.set_cons_succ]
              refine wpAnyH_take (i := 17) (oi := _) (v := (.int .i64 (n : Int))) rfl (by kernel_rfl) (by kernel_rfl) (by kernel_rfl) (fun _ _ _ h => h) (Or.inl ⟨by rfl, fun w' _ => by go_simp⟩) hHeld ?_
              try simp only [Act.put, List.getElem_toArray, List.getElem_cons_succ, List.getElem_cons_zero, List.setIfInBounds_toArray, List.set_cons_zero, List.set_cons_succ]
              refine wpAnyH_take (i := 18) (oi := _) (v := (.bool true)) rfl (by kernel_rfl) (by kernel_rfl) (by kernel_rfl) (fun _ _ _ h => h) (Or.inl ⟨by rfl, fun w' _ => by go_simp⟩) hHeld ?_
              try simp only [Act.put, List.getElem_toArray, List.getElem_cons_succ, List.getElem_cons_zero, List.setIfInBounds_toArray, List.set_cons_zero, List.set_cons_succ]
              refine wpAnyH_take (i := 19) (oi := _) (v := (.bool true)) rfl (by kernel_rfl) (by kernel_rfl) (by kernel_rfl) (fun _ _ _ h => h) (Or.inl ⟨by rfl, fun w' _ => by go_simp⟩) hHeld ?_
              try simp only [Act.put, List.getElem_toArray, List.getElem_cons_succ, List.getElem_cons_zero, List.setIfInBounds_toArray, List.set_cons_zero, List.set_cons_succ]
              refine wpAnyH_take (i := 20) (oi := _) (v := (.slice (some ⟨gq, 0, none⟩) i i)) rfl (by kernel_rfl) (by kernel_rfl) (by kernel_rfl) (fun _ _ _ h => h) (Or.inl ⟨by rfl, fun w' _ => by go_simp⟩) hHeld ?_
              try simp only [Act.put, List.getElem_toArray, List.getElem_cons_succ, List.getElem_cons_zero, List.setIfInBounds_toArray, List.set_cons_zero, List.set_cons_succ]
              refine wpAnyH_take (i := 21) (oi := _) (v := (.int .i64 (k : Int))) rfl (by kernel_rfl) (by kernel_rfl) (by kernel_rfl) (fun _ _ _ h => h) (Or.inl ⟨by rfl, fun w' _ => by go_simp⟩) hHeld ?_
              try simp only [Act.put, List.getElem_toArray, List.getElem_cons_succ, List.getElem_cons_zero, List.setIfInBounds_toArray, List.set_cons_zero, List.set_cons_succ]
              refine wpAnyH_take (i := 22) (oi := _) (v := (.pointer (some ⟨gq, k, none⟩))) rfl (by kernel_rfl) (by kernel_rfl) (by kernel_rfl) (fun _ _ _ h => h) (Or.inl ⟨by rfl, fun w' _ => by go_simp⟩) hHeld ?_
              try simp only [Act.put, List.getElem_toArray, List.getElem_cons_succ, List.getElem_cons_zero, List.setIfInBounds_toArray, List.set_cons_zero, List.set_cons_succ]
              refine wpAnyH_take (i := 23) (oi := _) (v := (.int .u8 (m : Int))) rfl (by kernel_rfl) (by kernel_rfl) (by kernel_rfl) (fun _ _ _ h => h) (Or.inl ⟨by rfl, fun w' hSw => by go_simp⟩) hHeld ?_
              try simp only [Act.put, List.getElem_toArray, List.getElem_cons_succ, List.getElem_cons_zero, List.setIfInBounds_toArray, List.set_cons_zero, List.set_cons_succ]
              refine wpAnyH_take (i := 24) (oi := _) (v := (.int .u8 (m : Int))) rfl (by kernel_rfl) (by kernel_rfl) (by kernel_rfl) (fun _ _ _ h => h) (Or.inl ⟨by rfl, fun w' _ => by go_simp⟩) hHeld ?_
              try simp only [Act.put, List.getElem_toArray, List.getElem_cons_succ, List.getElem_cons_zero, List.setIfInBounds_toArray, List.set_cons_zero, List.set_cons_succ]
              refine wpAnyH_take (i := 25) (oi := _) (v := (.bool false)) rfl (by kernel_rfl) (by kernel_rfl) (by kernel_rfl) (fun _ _ _ h => h) (Or.inl ⟨by rfl, fun w' _ => by go_simp⟩) hHeld ?_
              try simp only [Act.put, List.getElem_toArray, List.getElem_cons_succ, List.getElem_cons_zero, List.setIfInBounds_toArray, List.set_cons_zero, List.set_cons_succ]
              refine wpAnyH_take (i := 26) (oi := _) (v := (.bool false)) rfl (by kernel_rfl) (by kernel_rfl) (by kernel_rfl) (fun _ _ _ h => h) (Or.inl ⟨by rfl, fun w' _ => by go_simp⟩) hHeld ?_
              try simp only [Act.put, List.getElem_toArray, List.getElem_cons_succ, List.getElem_cons_zero, List.setIfInBounds_toArray, List.set_cons_zero, List.set_cons_succ]
              refine wpAnyH_take (i := 27) (oi := _) (v := (.bool false)) rfl (by kernel_rfl) (by kernel_rfl) (by kernel_rfl) (fun _ _ _ h => h) (Or.inl ⟨by rfl, fun w' _ => by go_simp⟩) hHeld ?_
              try simp only [Act.put, List.getElem_toArray, List.getElem_cons_succ, List.getElem_cons_zero, List.setIfInBounds_toArray, List.set_cons_zero, List.set_cons_succ]
              refine wpAnyH_done (by kernel_rfl) ?_ _
              refine NoPanic.normal ?_
              clear hHeld
              have hq := HNEXT.out wr.drew HR.out HPP.out.drew
              have c1 : wr.drew.cell? ⟨gq, k, none⟩ = some (.int .u8 (m : Int)) := c0
              have f1 : wr.drew.frozen? ⟨gq, k, none⟩ = false := row_free HR.out k
              have HQ := Lib.hid hq
              clear hq c0 HPP HR HNEXT
              generalize wr.drew = wd at *
              go_wp2_with fail
              go_roundw
              case rel => exact ⟨k + 1, by go_num, by omega, HQ.out.1, HQ.out.2⟩
              case measure => simp [intOf]; omega
          · have hltI : ¬ (k : Int) < i := by omega
            have HPP := Lib.hid hP
            obtain ⟨q1, q2, q3, q4, q5, q6⟩ := HCL.out
            have hc1 : ∀ W, UkS wk (fun k => k = gq) W g vo vt V → Calls Try.prog 22 #[.pointer (some ⟨g, 0, none⟩)] W fun e w' => e = .returned (.tuple #[.string s, .agg #[.int .i64 0, .int .i64 0]]) ∧ UkS wk (fun k => k = gq) w' g vo vt V.close := fun W h => by
              have h := close_any wk (fun k => k = gq) g vo vt V W h HSA.out
              rw [q1, q2, q3] at h
              exact h
            have hc2 : ∀ W, UkS wk (fun k => k = gq) W g vo vt V.close → Calls Try.prog 22 #[.pointer (some ⟨g, 0, none⟩)] W fun e w' => e = .returned (.tuple #[.string s, .agg #[.int .i64 0, .int .i64 0]]) ∧ UkS wk (fun k => k = gq) w' g vo vt V.close.close := fun W h => by
              have h := close_any wk (fun k => k = gq) g vo vt V.close W h (sane_close V HSA.out)
              rw [q4, q5, q6] at h
              exact h
            have HC1 := Lib.hid hc1
            have HC2 := Lib.hid hc2
            clear hP hr q1 q2 q3 q4 q5 q6 hc1 hc2
            go_upto_region 24 with (go_at_call 22; refine (HC1.out _ HPP.out).mono ?_; rintro e w5 ⟨rfl, h5⟩; have H5 := Lib.hid h5; clear h5)
            have ha5 := heap_alloc_new w5 (.cells #[.int .i64 0, .int .i64 0] 38)
            have hlt5 : w5.heap.size < (w5.alloc (.cells #[.int .i64 0, .int .i64 0] 38)).heap.size := by simp
            have H5' := Lib.hid (H5.out.later ((Below.refl w5.heap.size w5).alloc (Nat.le_refl _) (.cells #[.int .i64 0, .int .i64 0] 38)))
            have hm5 : ¬ Mine g vo vt w5.heap.size := fun h => Nat.lt_irrefl _ (H5.out.mine h).1
            have HA5 := Lib.hid ha5
            have HLT5 := Lib.hid hlt5
            have HM5 := Lib.hid hm5
            clear ha5 hlt5 hm5
            generalize w5.heap.size = f5 at *
            generalize w5.alloc (.cells #[.int .i64 0, .int .i64 0] 38) = w6 at *
            have hcl2 := close_any w6 (Mine g vo vt) g vo vt V.close w6 H5'.out.rebase (sane_close V HSA.out)
            obtain ⟨q1, q2, q3, q4, q5, q6⟩ := HCL.out
            rw [q4, q5, q6] at hcl2
            have HCL2 := Lib.hid hcl2
            clear hcl2 q1 q2 q3 q4 q5 q6
            go_upto_region 25 with (go_at_call 22; refine HCL2.out.mono ?_; rintro e w7 ⟨rfl, h7⟩; have H7 := Lib.hid h7; clear h7)
            have hr5 := (H7.out.far.block f5 HLT5.out HM5.out).trans HA5.out
            have r50 := cell_of_row w7 f5 0 _ _ _ hr5
            have h75 : (w7.alloc (.cells #[.int .i64 0, .int .i64 0] 38)).cell? ⟨f5, 0, none⟩ = some (.int .i64 0) := (World.cell?_of_block (Below.heap_alloc w7 _ f5 (lt_of_row hr5))).trans r50
            have hfin : Below w.heap.size w (w7.alloc (.cells #[.int .i64 0, .int .i64 0] 38)) := by
              refine bl_alloc ?_ _
              have hf := (H5'.out.join H7.out).far
              have hb := HBEL.out
              refine ⟨hf.os.trans hb.os, hf.tape.trans hb.tape, hf.output.trans hb.output, Nat.le_trans hb.size hf.size, fun k hk => (hf.block k (Nat.lt_of_lt_of_le hk hb.size) ?_).trans (hb.block k hk)⟩
              intro e
              have := HGQ.out
              omega
            have HFIN := Lib.hid hfin
            clear hfin hr5 r50
            go_wp2_with fail
            go_ret
            exact ⟨rfl, HFIN.out⟩
  · have HP := Lib.hid (fun W => pack_big s W hsm)
    clear hsm hs
    go_enter Try.func9, Try.ntmps9
    go_wp2_with (first | (go_at_call 15; refine (awake_any _).mono ?_; rintro e w1 ⟨rfl, h1⟩; have H1 := Lib.hid h1; clear h1) | (go_at_call 16; refine (HP.out _).mono ?_; rintro e w2 ⟨rfl, h2⟩; have H2 := Lib.hid h2; clear h2))
    go_ret
    exact ⟨rfl, bl_step H1.out H2.out⟩
end Go.Proofs.Ytikbbofjkchppaa

