/- The walk of tree.Copy. -/
import Derived.Test.YtlcppkcclolgcaaQc
namespace Go.Proofs.Ytlcppkcclolgcaa
set_option linter.unusedVariables false
set_option linter.unusedSimpArgs false
open Go.RowKit

theorem ent_one (s : ByteArray) (k : Int) (x : Bool) (t : ByteArray) (a : Option Addr) (n c : Nat) : ∀ u ∈ [Value.string s, .int .i64 k, .bool x, .string t, .slice a n c], u.oneCell' = true := by
  intro u hu
  simp only [List.mem_cons, List.not_mem_nil, or_false] at hu
  rcases hu with rfl | rfl | rfl | rfl | rfl <;> rfl
def CopyP (w : World) (n : ND) (kd : Int) (ex : Bool) (tx : ByteArray) (e : Ending) (w' : World) : Prop := ∃ a' cap', e = .returned (.agg #[.int .i64 kd, .bool ex, .string tx, .slice a' n.cnt cap']) ∧ n.InS (fun b => w.heap.size ≤ b) w' a' ∧ Below w.heap.size w w'
set_option maxRecDepth 100000 in
set_option maxHeartbeats 8000000 in
theorem copy_node (n : ND) (kd : Int) (ex : Bool) (tx : ByteArray) (a : Option Addr) (len cap : Nat) (w : World) (hlen : len = n.cnt) (hin : n.In w.heap.size w a) (hsm : n.small 1048576) (hct : n.cnt ≤ 1048576) (ih : ∀ c : ND, c.sz < n.sz → CopyOk c) :
    Calls Try.prog 28 #[.agg #[.int .i64 kd, .bool ex, .string tx, .slice a len cap]] w fun e w' => CopyP w n kd ex tx e w' := by
  obtain ⟨W2, hW2⟩ : ∃ W2, W2 = (w.alloc (.cells #[.int .i64 kd, .bool ex, .string tx, .slice a len cap] 26)).alloc (.cells #[.int .i64 0, .bool false, .string ⟨#[]⟩, .slice none 0 0] 26) := ⟨_, rfl⟩
  have hz2 : W2.heap.size = w.heap.size + 2 := by rw [hW2]; simp
  have hb2 : Below w.heap.size w W2 := by rw [hW2]; exact ((Below.refl _ _).alloc (Nat.le_refl _) _).alloc (by simp) _
  have hr1 : W2.heap[w.heap.size]? = some (.cells #[.int .i64 kd, .bool ex, .string tx, .slice a len cap] 26 (0, 0)) := by rw [hW2]; exact row_past (heap_alloc_new w _) _
  have hr2 : W2.heap[w.heap.size + 1]? = some (.cells #[.int .i64 0, .bool false, .string ⟨#[]⟩, .slice none 0 0] 26 (0, 0)) := by rw [hW2]; exact alloc_new2 w _ _ _
  have hmk := fun W => make_kids len (by omega) W
  have hl0 : (0 : Int) ≤ len := by omega
  have hl1 : (len : Int) ≤ 1048576 := by omega
  have hpre0 : (n.pre 0).cnt = 0 := n.pre_cnt 0 (by omega)
  have hmade : CpS W2 (W2.alloc (.cells (madeCells zcells (len * 5)) 79)) (.slice (some ⟨W2.heap.size, 0, none⟩) 0 len) (n.pre 0) (fun _ => False) [] := by
    refine ⟨?_, ?_, fun b _ h => h, fun b h => h.elim, (Below.refl _ _).alloc (Nat.le_refl _) _⟩
    · rw [hpre0]
      exact World.ownsRow_made _ _ _ (Nat.le_refl _) (by unfold maxLen; omega) (size_madeCells _ _)
    · have : ∀ m : ND, m.cnt = 0 → m.KC (fun _ => False) (W2.alloc (.cells (madeCells zcells (len * 5)) 79)) [] := fun m h => by rw [leaf_of h]; rfl
      exact this _ hpre0
  have HL := Lib.hid hlen
  have HSM := Lib.hid hsm
  have HIN := Lib.hid hin
  have HI := Lib.hid ih
  have HW2 := Lib.hid hW2
  have HZ2 := Lib.hid hz2
  have HB2 := Lib.hid hb2
  have HR1 := Lib.hid hr1
  have HR2 := Lib.hid hr2
  have HM := Lib.hid hmade
  have HMK := Lib.hid hmk
  have HCT := Lib.hid hct
  clear hlen hsm hin ih hW2 hz2 hb2 hr1 hr2 hmade hmk hpre0 hct
  go_enter Try.func28, Try.ntmps28
  go_upto_region 1 with fail
  rw [← HW2.out]
  have b3 := cell_of_row W2 w.heap.size 3 _ _ _ HR1.out
  have hmk := HMK.out W2
  generalize hm : w.heap.size = m at *
  have HM0 := Lib.hid hm
  clear hm
  go_upto_region 2 with fail
  generalize hW3 : W2.alloc (.cells (madeCells zcells (len * 5)) 79) = W3 at *
  generalize hq : W2.heap.size = q at *
  have HQ2 := Lib.hid hq
  clear hW3 hmk b3 hq
  have hrow3 := fun (wr : World) (h : Below W2.heap.size W2 wr) => (h.block m (by rw [HQ2.out, HZ2.out]; omega)).trans HR1.out
  have HROW := Lib.hid hrow3
  have b3 := cell_of_row W3 m 3 _ _ _ (hrow3 W3 HM.out.bel)
  clear hrow3
  go_wp2_with fail
  go_loopw [3, 13] (fun x3 x13 wr => ∃ (i : Nat) (T : Nat → Prop) (ks : List Value), x13 = .int .i64 (i : Int) ∧ i ≤ len ∧ CpS W2 wr x3 (n.pre i) T ks) (fun _ x13 _ => len - (intOf x13).toNat)
  case atStart => exact ⟨0, _, _, rfl, Nat.zero_le _, HM.out⟩
  case round =>
    obtain ⟨i, T, ks, rfl, hi, hC⟩ := hrel
    have hi0 : (0 : Int) ≤ i := by omega
    clear b3
    by_cases hlt : i < len
    · have hltI : (i : Int) < len := by omega
      have hcn : i < n.cnt := by rw [← HL.out]; exact hlt
      obtain ⟨y, rfl, hat⟩ : ∃ y, a = some y ∧ n.At m w y := by
        rcases HIN.out with h | h
        · omega
        · exact h
      obtain ⟨s, c, e1, e2, e3, e4, ka, kcap, c0, c1, c2, c3, c4, hc⟩ := hat.kid hcn
      have hbw : Below w.heap.size w wr := by rw [HM0.out]; exact HB2.out.trans (hC.bel.mono (by rw [HQ2.out, HZ2.out]; omega))
      have hkk : ∀ q : Addr, q.block = y.block → wr.cell? q = w.cell? q := fun q e => hbw.cell (by rw [e, HM0.out]; exact e4)
      replace c0 := (hkk (y.add (i * 5)) (block_add _ _)).trans c0
      replace c1 := (hkk ⟨(y.add (i * 5)).block, (y.add (i * 5)).off + 1, none⟩ (block_add _ _)).trans c1
      replace c2 := (hkk ⟨(y.add (i * 5)).block, (y.add (i * 5)).off + 2, none⟩ (block_add _ _)).trans c2
      replace c3 := (hkk ⟨(y.add (i * 5)).block, (y.add (i * 5)).off + 3, none⟩ (block_add _ _)).trans c3
      replace c4 := (hkk ⟨(y.add (i * 5)).block, (y.add (i * 5)).off + 4, none⟩ (block_add _ _)).trans c4
      have hpc : (n.pre i).cnt = i := n.pre_cnt i (by omega)
      have hin0 : c.In w.heap.size w ka := by rw [HM0.out]; exact hc
      have HBW := Lib.hid hbw
      have HC := Lib.hid hC
      have HE1 := Lib.hid e1
      have HPC := Lib.hid hpc
      have HIN0 := Lib.hid hin0
      have HSC := Lib.hid (e3 _ HSM.out).2
      have HIC := Lib.hid (HI.out c e2)
      clear hbw hC e1 e2 e3 hkk hat hc hpc hin0
      go_upto_region 5 with fail
      have hbx := heap_alloc_new wr (.cells #[.string s, .int .i64 c.kind, .bool c.exec, .string c.text, .slice ka c.cnt kcap] 79)
      have hbA : Below wr.heap.size wr (wr.alloc (.cells #[.string s, .int .i64 c.kind, .bool c.exec, .string c.text, .slice ka c.cnt kcap] 79)).drew := ((Below.refl _ _).alloc (Nat.le_refl _) _).drew
      have hul : ∀ b, u3.ownBlock = some b → b < wr.heap.size := fun b h => (HC.out.own.lt b h).2
      have hinA := HIN0.out.up (HBW.out.trans (hbA.mono HBW.out.size))
      have hlA : wr.heap.size < (wr.alloc (.cells #[.string s, .int .i64 c.kind, .bool c.exec, .string c.text, .slice ka c.cnt kcap] 79)).drew.heap.size := by simp
      generalize hmb : wr.heap.size = mb at *
      generalize hwA : wr.alloc (.cells #[.string s, .int .i64 c.kind, .bool c.exec, .string c.text, .slice ka c.cnt kcap] 79) = wA at *
      have HUL := Lib.hid hul
      have HBA := Lib.hid hbA
      have HINA := Lib.hid hinA
      have HLA := Lib.hid hlA
      have HMB := Lib.hid hmb
      obtain ⟨i0, hi0', hz0, hz1, hz2⟩ := info_parts (show (Try.prog.info? 79).map (fun i => (i.zero, i.size, i.bytes)) = some (some (.agg #[.string ⟨#[]⟩, .int .i64 0, .bool false, .string ⟨#[]⟩, .slice none 0 0]), 5, 72) by kernel_rfl)
      clear hul hbA hinA hlA hmb hwA c0 c1 c2 c3 c4
      refine wp_region_noPanic ?_
      refine wp_region_held_drew (S := fun w' => w'.heap[mb]? = some (.cells #[.string s, .int .i64 c.kind, .bool c.exec, .string c.text, .slice ka c.cnt kcap] 79 (0, 0))) (by kernel_rfl) hbx (fun hHeld => ?_)
      refine wpAnyH_take (i := 0) (oi := _) (v := u3) rfl (by kernel_rfl) (by kernel_rfl) (by kernel_rfl) (fun _ _ _ h => h) (Or.inl ⟨by rfl, fun w' _ => by go_simp⟩) hHeld ?_
      try simp only [Act.put, List.getElem_toArray, List.getElem_cons_succ, List.getElem_cons_zero, List.setIfInBounds_toArray, List.set_cons_zero, List.set_cons_succ]
      refine wpAnyH_take (i := 1) (oi := _) (v := (.pointer (some ⟨mb, 0, none⟩))) rfl (by kernel_rfl) (by kernel_rfl) (by kernel_rfl) (fun _ _ _ h => h) (Or.inl ⟨by rfl, fun w' _ => by go_simp⟩) hHeld ?_
      try simp only [Act.put, List.getElem_toArray, List.getElem_cons_succ, List.getElem_cons_zero, List.setIfInBounds_toArray, List.set_cons_zero, List.set_cons_succ]
      refine wpAnyH_take (i := 2) (oi := _) (v := (.string s)) rfl (by kernel_rfl) (by kernel_rfl) (by kernel_rfl) (fun _ _ _ h => h) (Or.inl ⟨by rfl, fun w' hSw => by have h1 := cell_of_row w' mb 0 _ _ _ hSw; go_simp⟩) hHeld ?_
      try simp only [Act.put, List.getElem_toArray, List.getElem_cons_succ, List.getElem_cons_zero, List.setIfInBounds_toArray, List.set_cons_zero, List.set_cons_succ]
      refine wpAnyH_take (i := 3) (oi := _) (v := (.pointer (some ⟨mb, 1, none⟩))) rfl (by kernel_rfl) (by kernel_rfl) (by kernel_rfl) (fun _ _ _ h => h) (Or.inl ⟨by rfl, fun w' _ => by go_simp⟩) hHeld ?_
      try simp only [Act.put, List.getElem_toArray, List.getElem_cons_succ, List.getElem_cons_zero, List.setIfInBounds_toArray, List.set_cons_zero, List.set_cons_succ]
      refine wpAnyH_take (i := 4) (oi := _) (v := (.agg #[.int .i64 c.kind, .bool c.exec, .string c.text, .slice ka c.cnt kcap])) rfl (by kernel_rfl) (by kernel_rfl) (by kernel_rfl) (fun _ _ _ h => h) (Or.inl ⟨by rfl, fun w' hSw => by have h1 := cell_of_row w' mb 1 _ _ _ hSw; have h2 := cell_of_row w' mb 2 _ _ _ hSw; have h3 := cell_of_row w' mb 3 _ _ _ hSw; have h4 := cell_of_row w' mb 4 _ _ _ hSw; go_simp⟩) hHeld ?_
      try simp only [Act.put, List.getElem_toArray, List.getElem_cons_succ, List.getElem_cons_zero, List.setIfInBounds_toArray, List.set_cons_zero, List.set_cons_succ]
      refine wpAnyH_ready (rs := [5]) (by kernel_rfl) (by simp) ?_
      refine AllReadyH.cons (o := _) rfl (fun K hK => ?_) AllReadyH.nil
      rw [if_pos (by rfl)]
      go_simp
      go_at_call 28
      refine (HIC.out ka kcap _ HINA.out HSC.out).mono ?_
      rintro e w5 ⟨a5, cp5, rfl, hin5, hb5⟩
      have hz5 : mb < w5.heap.size := Nat.lt_of_lt_of_le HLA.out hb5.size
      refine hK.out _ _ ((hb5.block mb HLA.out).trans hHeld) (fun hHeld => ?_)
      clear hK K
      try dsimp only
      try simp only [Act.put, List.getElem_toArray, List.getElem_cons_succ, List.getElem_cons_zero, List.setIfInBounds_toArray, List.set_cons_zero, List.set_cons_succ]
      unfold ND.val
      have hown := owns_kept HC.out.own (fun b hb _ => (hb5.block b (by have h1 := HLA.out; have h2 := HMB.out; omega)).trans (HBA.out.block b (by rw [← HMB.out]; exact hb)))
      have hown2 := owns_kept (w' := w5.alloc (.cells #[.string s, .int .i64 c.kind, .bool c.exec, .string c.text, .slice a5 c.cnt cp5] 79)) hown (fun b hb _ => ((Below.refl w5.heap.size w5).alloc (Nat.le_refl _) _).block b hb)
      have hnew := news_cells w5 [.string s, .int .i64 c.kind, .bool c.exec, .string c.text, .slice a5 c.cnt cp5] 79
      have hpi := HPC.out
      have hcm := HCT.out
      have hm63 : (n.pre i).cnt + 1 ≤ maxLen := by unfold maxLen; omega
      have hm47 : ((n.pre i).cnt + 1) * 72 ≤ 140737488355328 := by omega
      have hbase : W2.heap.size ≤ (w5.alloc (.cells #[.string s, .int .i64 c.kind, .bool c.exec, .string c.text, .slice a5 c.cnt cp5] 79)).heap.size := by
        have h1 := HC.out.bel.size
        have h2 := HMB.out
        simp
        omega
      have HOWN := Lib.hid hown2
      have HNEW := Lib.hid hnew
      have HBASE := Lib.hid hbase
      have HIN5 := Lib.hid hin5
      have HB5 := Lib.hid hb5
      clear hown hown2 hnew hbase hpi hcm hin5 hb5
      refine wpAnyH_take (i := 6) (oi := _) (v := (.agg #[.string s, .int .i64 c.kind, .bool c.exec, .string c.text, .slice a5 c.cnt cp5])) rfl (by kernel_rfl) (by kernel_rfl) (by kernel_rfl) (fun _ _ _ h => h) (Or.inl ⟨by rfl, fun w' _ => by go_simp⟩) hHeld ?_
      try simp only [Act.put, List.getElem_toArray, List.getElem_cons_succ, List.getElem_cons_zero, List.setIfInBounds_toArray, List.set_cons_zero, List.set_cons_succ]
      refine wpAnyH_ready (rs := [7]) (by kernel_rfl) (by simp) ?_
      refine AllReadyH.cons (o := _) rfl (fun K hK => ?_) AllReadyH.nil
      rw [if_pos (by rfl)]
      go_simp
      refine hK.out _ _ (row_past hHeld _) (fun hHeld => ?_)
      clear hK K
      try dsimp only
      try simp only [Act.put, List.getElem_toArray, List.getElem_cons_succ, List.getElem_cons_zero, List.setIfInBounds_toArray, List.set_cons_zero, List.set_cons_succ]
      refine wpAnyH_ready (rs := [8]) (by kernel_rfl) (by simp) ?_
      refine AllReadyH.cons (o := _) rfl (fun K hK => ?_) AllReadyH.nil
      rw [if_pos (by rfl)]
      refine wp_own_at _ (.tmp 17) (.tmp 24) 24 (by rfl) W2.heap.size 79 i0 (.agg #[.string ⟨#[]⟩, .int .i64 0, .bool false, .string ⟨#[]⟩, .slice none 0 0]) 5 72 Try.underlying24 hi0' hz0 hz1 hz2 rfl (by decide) u3 (n.pre i).cnt ks (by rfl) HOWN.out ⟨w5.heap.size, 0, none⟩ 1 1 [.string s, .int .i64 c.kind, .bool c.exec, .string c.text, .slice a5 c.cnt cp5] (by rfl) rfl HNEW.out (ent_one _ _ _ _ _ _ _) hm63 hm47 HBASE.out ?_
      intro v6 w6 ho6 hg6 ha6
      refine hK.out _ _ ((hg6.block mb (by simp; omega) (fun e => by have := HUL.out mb e.symm; omega)).trans hHeld) (fun hHeld => ?_)
      clear hK K
      try dsimp only
      try simp only [Act.put, List.getElem_toArray, List.getElem_cons_succ, List.getElem_cons_zero, List.setIfInBounds_toArray, List.set_cons_zero, List.set_cons_succ]
      refine wpAnyH_take (i := 9) (oi := _) (v := v6) rfl (by kernel_rfl) (by kernel_rfl) (by kernel_rfl) (fun _ _ _ h => h) (Or.inl ⟨by rfl, fun w' _ => by go_simp⟩) hHeld ?_
      try simp only [Act.put, List.getElem_toArray, List.getElem_cons_succ, List.getElem_cons_zero, List.setIfInBounds_toArray, List.set_cons_zero, List.set_cons_succ]
      refine wpAnyH_done (by kernel_rfl) ?_ _
      refine NoPanic.normal ?_
      have hb15 : Below wr.heap.size wr w5 := by
        rw [HMB.out]
        exact HBA.out.trans (HB5.out.mono (by have := HLA.out; omega))
      have hin15 : c.InS (fun b => wr.heap.size ≤ b) w5 a5 := HIN5.out.kept (fun b hb h => ⟨rfl, by have h1 := HLA.out; have h2 := HMB.out; omega⟩)
      have hadd := HC.out.add (s := s) hb15 hin15 ((Below.refl w5.heap.size w5).alloc (Nat.le_refl _) _) ho6 hg6 ha6
      rw [← HE1.out] at hadd
      have HADD := Lib.hid hadd
      clear hadd hb15 hin15 ho6 hg6 ha6 hHeld
      go_wp2_with fail
      go_roundw
      case rel => exact ⟨i + 1, _, _, by go_num, by omega, HADD.out⟩
      case measure => simp [intOf]; omega
    · have hltI : ¬ (i : Int) < len := by omega
      have hii : i = n.cnt := by have := HL.out; omega
      rw [hii, n.pre_all] at hC
      obtain ⟨a5, c5, hv5, hin5⟩ := hC.done
      have r1 := HROW.out wr hC.bel
      have r2 := (hC.bel.block (m + 1) (by rw [HQ2.out, HZ2.out]; omega)).trans HR2.out
      have hbel := HB2.out.trans (hC.bel.mono (by rw [HQ2.out, HZ2.out]; omega))
      rw [hv5] at hC
      have q0 := cell_of_row wr m 0 _ _ _ r1
      have q1 := cell_of_row wr m 1 _ _ _ r1
      have q2 := cell_of_row wr m 2 _ _ _ r1
      have q3 := cell_of_row wr m 3 _ _ _ r1
      have g3 := frozen_of_row wr m 3 _ _ r1
      have p0 := cell_of_row wr (m + 1) 0 _ _ _ r2
      have p1 := cell_of_row wr (m + 1) 1 _ _ _ r2
      have p2 := cell_of_row wr (m + 1) 2 _ _ _ r2
      have p3 := cell_of_row wr (m + 1) 3 _ _ _ r2
      have f0 := frozen_of_row wr (m + 1) 0 _ _ r2
      have f1 := frozen_of_row wr (m + 1) 1 _ _ r2
      have f2 := frozen_of_row wr (m + 1) 2 _ _ r2
      have f3 := frozen_of_row wr (m + 1) 3 _ _ r2
      have HIN5 := Lib.hid hin5
      have HBEL := Lib.hid hbel
      subst hv5
      have hn1 : m ≠ m + 1 := by omega
      have hn2 : m + 1 ≠ m := by omega
      clear hin5 hbel hC r1 r2 hii
      go_wp2_with fail
      refine bodyPost_ret (v := .agg #[.int .i64 kd, .bool ex, .string tx, .slice a5 n.cnt c5]) (by simp [results, Try.results28, go_sem, p0, p1, p2, p3]) rfl ⟨a5, c5, rfl, ?_, ?_⟩
      · refine HIN5.out.kept (fun b hb h => ⟨?_, by have h1 := HQ2.out; have h2 := HZ2.out; have h3 := HM0.out; omega⟩)
        have hbm : b ≠ m := by have h1 := HQ2.out; have h2 := HZ2.out; omega
        have hbm1 : b ≠ m + 1 := by have h1 := HQ2.out; have h2 := HZ2.out; omega
        exact (Below.heap_setCell _ _ _ _ hbm1).trans ((Below.heap_setCell _ _ _ _ hbm1).trans ((Below.heap_setCell _ _ _ _ hbm1).trans ((Below.heap_setCell _ _ _ _ hbm1).trans (Below.heap_setCell _ _ _ _ hbm))))
      · rw [HM0.out]
        exact ((((HBEL.out.setCell (by show m ≤ m; omega) _).setCell (by show m ≤ m + 1; omega) _).setCell (by show m ≤ m + 1; omega) _).setCell (by show m ≤ m + 1; omega) _).setCell (by show m ≤ m + 1; omega) _
theorem copy_any : ∀ (k : Nat) (n : ND), n.sz ≤ k → CopyOk n := by
  intro k
  induction k with
  | zero => intro n h; cases n <;> simp [ND.sz] at h
  | succ k ih =>
    intro n hk a cap w hin hsm
    exact copy_node n n.kind n.exec n.text a n.cnt cap w rfl hin hsm (small_cnt (m := 1048576) hsm) (fun c hc => ih c (by omega))
end Go.Proofs.Ytlcppkcclolgcaa

