/- The walk of the law ShaPlays. -/
import Derived.Test.YtemioilfedpohaaDoorPlB
import Derived.Test.YtemioilfedpohaaDoorRof
import Derived.Test.YtemioilfedpohaaDoorShaForks
import Derived.Lib.ConvBytes
namespace Go.Proofs.YtemioilfedpohaaDoor
set_option linter.unusedVariables false
set_option linter.unusedSimpArgs false
open Go.RowKit

theorem add_next (x : Addr) (m n : Nat) (hn : n ≠ 0) : x.add (m + n) = ⟨(x.add m).block, (x.add m).off + n, none⟩ := by
  unfold Addr.add
  by_cases hm : m = 0
  · simp [hm, hn]
  · simp [hm, hn]; omega

theorem r3_ptr (ps : Nat → Nat) : r3 (pj 3 ps) = [.pointer (some ⟨ps 0, 0, none⟩), .pointer (some ⟨ps 1, 0, none⟩), .pointer (some ⟨ps 2, 0, none⟩)] := by simp [r3, pj, pv]
theorem size_ptr : ∀ w, (Go.sizeOf 35).run Tryd.prog w = .ok 1 w := by
  intro w
  have h : (Tryd.prog.info? 35).map (·.size) = some 1 := by kernel_rfl
  cases hq : Tryd.prog.info? 35 with
  | none => simp [hq] at h
  | some i =>
    have hi : i.size = 1 := by simpa [hq] using h
    simp [sizeOf, typeInfo, hq, hi]
theorem run_index_ptr (ps : Nat → Nat) (n : Nat) (hn : n < 3) (w : World) : (Instr.index 49 (.agg #[.pointer (some ⟨ps 0, 0, none⟩), .pointer (some ⟨ps 1, 0, none⟩), .pointer (some ⟨ps 2, 0, none⟩)]) (.int .i64 (n : Int))).run Tryd.prog w = .ok (.pointer (some ⟨ps n, 0, none⟩)) w := by
  have h1 : (0 : Int) ≤ n ∧ (n : Int) < ((3 : Nat) : Int) := by omega
  unfold Instr.index
  simp only [asIntOf, Sem.run_bind, Sem.run_pure, Result.andThen_ok, run_underlying Tryd.underlying49, h1, and_self, if_true, size_ptr, Int.toNat_natCast]
  rcases lt3 hn with rfl | rfl | rfl
  all_goals simp [part, isAgg, run_underlying Tryd.underlying35]
theorem info3L : (Tryd.prog.info? 49).map (·.size) = some 3 := by kernel_rfl

set_option maxRecDepth 100000 in
set_option maxHeartbeats 40000000 in
theorem shaPlays_walk (a : Option Addr) (len cap : Nat) (f : Nat → Call) (w : World) (hops : IsOps w a len cap f) (hlen : len ≤ 1048576) (hsum : tsum f len ≤ 1048576) (hT : Tab w) :
    Calls Tryd.prog 9 #[.slice a len cap] w fun e w' => e = .returned (.bool true) ∧ Below w.heap.size w w' := by
  have HT := Lib.hid hT
  have HOPS := Lib.hid hops
  have hw2 := hT.two
  have hdn := dig_nsame
  clear hT hops
  go_enter Tryd.func9, Tryd.ntmps9
  go_wp2_with fail
  have hzl : r3 (pj 0 fun _ => 0) = [.pointer none, .pointer none, .pointer none] := rfl
  have K0 := Lib.hid (show PlB w ((w.alloc (.cells #[.pointer none, .pointer none, .pointer none] 49)).alloc (.cells #[.string ⟨#[]⟩, .string ⟨#[]⟩, .string ⟨#[]⟩] 50)) w.heap.size (w.heap.size + 1) 0 (fun _ => 0) (fun _ => ⟨#[]⟩) (fun _ => ⟨#[]⟩) 0 from by
    have hb1 : Below w.heap.size w (w.alloc (.cells #[.pointer none, .pointer none, .pointer none] 49)) := (Below.refl _ _).alloc (Nat.le_refl _) _
    have hb2 : Below w.heap.size w ((w.alloc (.cells #[.pointer none, .pointer none, .pointer none] 49)).alloc (.cells #[.string ⟨#[]⟩, .string ⟨#[]⟩, .string ⟨#[]⟩] 50)) := hb1.alloc hb1.size _
    have hs1 : (w.alloc (.cells #[.pointer none, .pointer none, .pointer none] 49)).heap.size = w.heap.size + 1 := by simp
    refine ⟨HT.out.below hb2 hw2, hb2, ?_, ?_, Nat.le_refl _, by omega, fun _ h => by omega, fun _ _ h => by omega, fun _ h => by omega, fun _ _ => Nat.le_refl 0, fun _ h => by omega⟩
    · rw [Below.heap_alloc _ _ _ (by omega), heap_alloc_new]; rfl
    · rw [← hs1, heap_alloc_new]; rfl)
  clear hzl
  generalize ((w.alloc (.cells #[.pointer none, .pointer none, .pointer none] 49)).alloc (.cells #[.string ⟨#[]⟩, .string ⟨#[]⟩, .string ⟨#[]⟩] 50)) = wi at *
  have hgl := K0.out.ol
  have hgd := K0.out.od
  generalize w.heap.size + 1 = gd at *
  obtain ⟨gl, hgl0⟩ : ∃ gl, gl = w.heap.size := ⟨_, rfl⟩
  rw [← hgl0]
  rw [← hgl0] at K0
  have HG0 := Lib.hid hgl0
  clear hgl0
  go_loopw [13] (fun i wr => ∃ j : Nat, j ≤ 3 ∧ i = .int .i64 j ∧ ∃ ps, PlB w wr gl gd j ps (fun _ => ⟨#[]⟩) (fun _ => ⟨#[]⟩) 0) (fun i _ => 3 - (intOf i).toNat)
  case atStart => exact ⟨0, by omega, rfl, _, K0.out⟩
  case round =>
    clear K0
    obtain ⟨j, hj, rfl, ps, hp⟩ := hrel
    by_cases hlt : j < 3
    · have HP := Lib.hid hp
      have hj0 : (0 : Int) ≤ j := by omega
      have hj1 : (j : Int) < 3 := by omega
      clear hp
      go_wp2_with fail
      refine (new_any wr HP.out.tab).mono ?_
      rintro e w2 ⟨g, hg, rfl, hst, hb2⟩
      have hp2 := HP.out.later hb2
      have f0 := hp2.freeL j
      have c0 := hp2.cellL j hlt
      have hp3 := hp2.points hw2 j g (j + 1) ⟨#[]⟩ (.inr ⟨rfl, rfl⟩) hlt (Nat.le_refl 0) hst ⟨Nat.le_trans HP.out.below.size hg, by have := lt_of_row HP.out.lrow; omega, by have := lt_of_row HP.out.srow; omega⟩ (fun i hi => by have := (HP.out.st i hi).lt; omega)
      rw [show upd (fun _ => (⟨#[]⟩ : ByteArray)) j ⟨#[]⟩ = fun _ => ⟨#[]⟩ by funext i; unfold upd; split <;> rfl] at hp3
      rw [pj, if_neg (by omega)] at c0
      have K3 := Lib.hid hp3
      clear hp2 hp3 hst hb2 hg HP
      unfold pv at K3
      go_wp2_with fail
      go_roundw
      case rel => exact ⟨j + 1, by omega, by go_num, _, K3.out⟩
      case measure => simp [intOf]; omega
    · obtain rfl : j = 3 := by omega
      have K1 := Lib.hid hp
      clear hp hlt hj
      go_wp2_with fail
      have K2 := Lib.hid (show ∃ ps ss, PlB w wr gl gd 3 ps ss ss (tsum f 0) from ⟨_, _, K1.out⟩)
      clear K1
      go_loopw [26] (fun i wr => ∃ k : Nat, k ≤ len ∧ i = .int .i64 k ∧ ∃ ps ss, PlB w wr gl gd 3 ps ss ss (tsum f k)) (fun i _ => len - (intOf i).toNat)
      case atStart => exact ⟨0, by omega, rfl, K2.out⟩
      case round =>
        clear K2
        obtain ⟨k, hk, rfl, ps, ss, hp⟩ := hrel
        by_cases hlt : k < len
        · obtain ⟨x, rfl, hxb, hcells⟩ := HOPS.out.at_ (by omega)
          obtain ⟨c0, c1, c2⟩ := hcells k hlt
          rw [← hp.below.cell (by rw [block_add]; exact hxb)] at c0 c1 c2
          rw [add_next _ _ _ (by omega)] at c1 c2
          have hwf := bounds_i64 (HOPS.out.wf k hlt)
          have hk0 : (0 : Int) ≤ k := by omega
          have hk1 : (k : Int) < len := by omega
          have hts : tsum f k + (f k).text.size = tsum f (k + 1) := rfl
          have htl := Nat.le_trans (tsum_mono f (show k + 1 ≤ len by omega)) hsum
          have HTS := Lib.hid hts
          have HTL := Lib.hid htl
          have hgls := lt_of_row hp.lrow
          have hgds := lt_of_row hp.srow
          clear hcells hts htl
          obtain ⟨who, hwho⟩ : ∃ who, who = (f k).who := ⟨_, rfl⟩
          obtain ⟨kd, hkd⟩ : ∃ kd, kd = (f k).kind := ⟨_, rfl⟩
          obtain ⟨txt, htxt⟩ : ∃ txt, txt = (f k).text := ⟨_, rfl⟩
          rw [← hwho] at c0 hwf
          rw [← hkd] at c1
          rw [← htxt] at c2 HTS
          clear hwho hkd htxt
          have HO := Lib.hid (PlO.start hp who kd txt)
          have HP := Lib.hid hp
          clear hp
          have hne1 : ¬ gd = gl := by have := HP.out.od; omega
          have hne2 : ¬ gl = gd := by omega
          have hq : ∃ q : Nat, q < 3 ∧ (who.tmod 3 = (q : Int) ∨ (who.tmod 3 = -(q : Int) ∧ 0 < q)) := by
            have h1 : who.tmod 3 < 3 := Int.tmod_lt_of_pos _ (by omega)
            have h2 : -3 < who.tmod 3 := by
              have := Int.lt_tmod_of_pos who (show (0 : Int) < 3 by omega)
              omega
            rcases Int.lt_or_le (who.tmod 3) 0 with h | h
            · exact ⟨(-(who.tmod 3)).toNat, by omega, .inr ⟨by omega, by omega⟩⟩
            · exact ⟨(who.tmod 3).toNat, by omega, .inl (by omega)⟩
          obtain ⟨q, hq3, hq⟩ := hq
          have cL := HP.out.cellL q hq3
          rw [pj, if_pos hq3] at cL
          unfold pv at cL
          have hqi0 : (0 : Int) ≤ q := by omega
          have hqi1 : (q : Int) < 3 := by omega
          rcases hq with hq | ⟨hq, hqp⟩
          · have hqn : ¬ (q : Int) < 0 := by omega
            have hcv := fun W => Lib.run_convert_string_bytes (P := Tryd.prog) W 9 45 5 txt Tryd.underlying9 Tryd.underlying45 Tryd.underlying5
            go_wp2_with fail
            · have hws : (wr.alloc (.cells #[.int .i64 who, .int .i64 kd, .string txt] 52)).heap.size = wr.heap.size + 1 := by simp
              generalize wr.alloc (.cells #[.int .i64 who, .int .i64 kd, .string txt] 52) = W at *
              generalize wr.heap.size = go at *
              have HWS := Lib.hid hws
              clear hws
              have hob := HO.out.later (below_bytes W 5 txt)
              have hrd := rdb_bytes W 5 txt (ps q) (HO.out.b.st q hq3).lt
              rw [HWS.out] at hrd
              have hxl : (nb txt).length = txt.size := nb_length _
              have hgc := grownCap_ge W txt.size 0 5
              rw [← hxl]
              refine (write_any (ps q) (nb (ss q)) (nb txt) _ _ _ (hob.b.st q hq3) hob.b.tab (by have := (HO.out.b.pl q hq3).1; omega) (by rw [nb_length, nb_length]; have := HO.out.b.siz q hq3; have := HTS.out; have := HTL.out; omega) (nb_bytes txt) hrd (by rw [hxl]; exact hgc)).mono ?_
              rintro e w4 ⟨rfl, hst, ho⟩
              rw [← nb_append] at hst
              have HZ := Lib.hid (HO.out.b.siz q hq3)
              have H4 := Lib.hid ((hob.more (show tsum f k ≤ tsum f (k + 1) by have := HTS.out; omega)).turn hw2 q hq3 (ss q ++ txt) (by rw [ByteArray.size_append]; have := HO.out.b.siz q hq3; have := HTS.out; omega) hst ho)
              clear hst ho HO hob hrd hxl hgc
              go_wp2_with fail
              have cS := H4.out.drew.b.cellS q hq3
              have cT := H4.out.drew.cellT
              have fS := H4.out.drew.b.freeS q
              have H5 := Lib.hid (H4.out.drew.b.says hw2 q hq3 (ss q ++ txt) (by rw [ByteArray.size_append]; have := HZ.out; have := HTS.out; omega))
              clear H4
              have hssz : (ss q).size + txt.size ≤ 9223372036854775807 := by have := HZ.out; have := HTS.out; have := HTL.out; omega
              refine wp_region_any (by kernel_rfl) ?_
              change wpAny _ _ _ _ _ _ _ (World.drew _)
              generalize w4.drew = wd at *
              refine wpAny_take (i := 0) (oi := _) (v := (.int .i64 (q : Int))) rfl (by kernel_rfl) (by kernel_rfl) (by kernel_rfl) (fun _ _ _ h => h) (Or.inl ⟨by rfl, fun w' => by go_simp⟩) ?_
              try simp only [Act.put, List.getElem_toArray, List.getElem_cons_succ, List.getElem_cons_zero, List.setIfInBounds_toArray, List.set_cons_zero, List.set_cons_succ]
              refine wpAny_take (i := 1) (oi := _) (v := (.pointer (some ⟨gd, q, none⟩))) rfl (by kernel_rfl) (by kernel_rfl) (by kernel_rfl) (fun _ _ _ h => h) (Or.inl ⟨by rfl, fun w' => by go_simp⟩) ?_
              try simp only [Act.put, List.getElem_toArray, List.getElem_cons_succ, List.getElem_cons_zero, List.setIfInBounds_toArray, List.set_cons_zero, List.set_cons_succ]
              refine wpAny_take (i := 3) (oi := _) (v := (.pointer (some ⟨go, 2, none⟩))) rfl (by kernel_rfl) (by kernel_rfl) (by kernel_rfl) (fun _ _ _ h => h) (Or.inl ⟨by rfl, fun w' => by go_simp⟩) ?_
              try simp only [Act.put, List.getElem_toArray, List.getElem_cons_succ, List.getElem_cons_zero, List.setIfInBounds_toArray, List.set_cons_zero, List.set_cons_succ]
              refine wpAny_ready (rs := [2, 4]) (by kernel_rfl) (by simp) ?_
              refine AllReady.cons (o := _) rfl (fun K hK => ?_) (AllReady.cons (o := _) rfl (fun K hK => ?_) AllReady.nil)
              all_goals rw [if_pos (by rfl)]
              · go_simp
                refine hK _ _ ?_
                clear hK K
                try simp only [Act.put, List.getElem_toArray, List.getElem_cons_succ, List.getElem_cons_zero, List.setIfInBounds_toArray, List.set_cons_zero, List.set_cons_succ]
                refine wpAny_ready (rs := [4]) (by kernel_rfl) (by simp) ?_
                refine AllReady.cons (o := _) rfl (fun K hK => ?_) AllReady.nil
                rw [if_pos (by rfl)]
                go_simp
                refine hK _ _ ?_
                clear hK K
                try simp only [Act.put, List.getElem_toArray, List.getElem_cons_succ, List.getElem_cons_zero, List.setIfInBounds_toArray, List.set_cons_zero, List.set_cons_succ]
                refine wpAny_take (i := 5) (oi := _) (v := (.string (ss q ++ txt))) rfl (by kernel_rfl) (by kernel_rfl) (by kernel_rfl) (fun _ _ _ h => h) (Or.inl ⟨by rfl, fun w' => by go_simp⟩) ?_
                try simp only [Act.put, List.getElem_toArray, List.getElem_cons_succ, List.getElem_cons_zero, List.setIfInBounds_toArray, List.set_cons_zero, List.set_cons_succ]
                refine wpAny_take (i := 6) (oi := _) (v := (.pointer (some ⟨gd, q, none⟩))) rfl (by kernel_rfl) (by kernel_rfl) (by kernel_rfl) (fun _ _ _ h => h) (Or.inl ⟨by rfl, fun w' => by go_simp⟩) ?_
                try simp only [Act.put, List.getElem_toArray, List.getElem_cons_succ, List.getElem_cons_zero, List.setIfInBounds_toArray, List.set_cons_zero, List.set_cons_succ]
                refine wpAny_ready (rs := [7]) (by kernel_rfl) (by simp) ?_
                refine AllReady.cons (o := _) rfl (fun K hK => ?_) AllReady.nil
                rw [if_pos (by rfl)]
                go_simp
                refine hK _ _ ?_
                clear hK K
                try simp only [Act.put, List.getElem_toArray, List.getElem_cons_succ, List.getElem_cons_zero, List.setIfInBounds_toArray, List.set_cons_zero, List.set_cons_succ]
                refine wpAny_done (by kernel_rfl) ?_ _
                go_wp2_with fail
                go_roundw
                case rel => exact ⟨k + 1, by omega, by go_num, ps, _, H5.out⟩
                case measure => simp [intOf]; omega
              · go_simp
                refine hK _ _ ?_
                clear hK K
                try simp only [Act.put, List.getElem_toArray, List.getElem_cons_succ, List.getElem_cons_zero, List.setIfInBounds_toArray, List.set_cons_zero, List.set_cons_succ]
                refine wpAny_ready (rs := [2]) (by kernel_rfl) (by simp) ?_
                refine AllReady.cons (o := _) rfl (fun K hK => ?_) AllReady.nil
                rw [if_pos (by rfl)]
                go_simp
                refine hK _ _ ?_
                clear hK K
                try simp only [Act.put, List.getElem_toArray, List.getElem_cons_succ, List.getElem_cons_zero, List.setIfInBounds_toArray, List.set_cons_zero, List.set_cons_succ]
                refine wpAny_take (i := 5) (oi := _) (v := (.string (ss q ++ txt))) rfl (by kernel_rfl) (by kernel_rfl) (by kernel_rfl) (fun _ _ _ h => h) (Or.inl ⟨by rfl, fun w' => by go_simp⟩) ?_
                try simp only [Act.put, List.getElem_toArray, List.getElem_cons_succ, List.getElem_cons_zero, List.setIfInBounds_toArray, List.set_cons_zero, List.set_cons_succ]
                refine wpAny_take (i := 6) (oi := _) (v := (.pointer (some ⟨gd, q, none⟩))) rfl (by kernel_rfl) (by kernel_rfl) (by kernel_rfl) (fun _ _ _ h => h) (Or.inl ⟨by rfl, fun w' => by go_simp⟩) ?_
                try simp only [Act.put, List.getElem_toArray, List.getElem_cons_succ, List.getElem_cons_zero, List.setIfInBounds_toArray, List.set_cons_zero, List.set_cons_succ]
                refine wpAny_ready (rs := [7]) (by kernel_rfl) (by simp) ?_
                refine AllReady.cons (o := _) rfl (fun K hK => ?_) AllReady.nil
                rw [if_pos (by rfl)]
                go_simp
                refine hK _ _ ?_
                clear hK K
                try simp only [Act.put, List.getElem_toArray, List.getElem_cons_succ, List.getElem_cons_zero, List.setIfInBounds_toArray, List.set_cons_zero, List.set_cons_succ]
                refine wpAny_done (by kernel_rfl) ?_ _
                go_wp2_with fail
                go_roundw
                case rel => exact ⟨k + 1, by omega, by go_num, ps, _, H5.out⟩
                case measure => simp [intOf]; omega
            · have hws : (wr.alloc (.cells #[.int .i64 who, .int .i64 kd, .string txt] 52)).heap.size = wr.heap.size + 1 := by simp
              generalize wr.alloc (.cells #[.int .i64 who, .int .i64 kd, .string txt] 52) = W at *
              generalize wr.heap.size = go at *
              have HWS := Lib.hid hws
              clear hws
              refine (writeText_any (ps q) (nb (ss q)) txt W (HO.out.b.st q hq3) HO.out.b.tab (by have := (HO.out.b.pl q hq3).1; omega) (by rw [nb_length]; have := HO.out.b.siz q hq3; have := HTS.out; have := HTL.out; omega)).mono ?_
              rintro e w4 ⟨rfl, hst, ho⟩
              rw [← nb_append] at hst
              have HZ := Lib.hid (HO.out.b.siz q hq3)
              have H4 := Lib.hid ((HO.out.more (show tsum f k ≤ tsum f (k + 1) by have := HTS.out; omega)).turn hw2 q hq3 (ss q ++ txt) (by rw [ByteArray.size_append]; have := HO.out.b.siz q hq3; have := HTS.out; omega) hst ho)
              clear hst ho HO
              go_wp2_with fail
              have cS := H4.out.drew.b.cellS q hq3
              have cT := H4.out.drew.cellT
              have fS := H4.out.drew.b.freeS q
              have H5 := Lib.hid (H4.out.drew.b.says hw2 q hq3 (ss q ++ txt) (by rw [ByteArray.size_append]; have := HZ.out; have := HTS.out; omega))
              clear H4
              have hssz : (ss q).size + txt.size ≤ 9223372036854775807 := by have := HZ.out; have := HTS.out; have := HTL.out; omega
              refine wp_region_any (by kernel_rfl) ?_
              change wpAny _ _ _ _ _ _ _ (World.drew _)
              generalize w4.drew = wd at *
              refine wpAny_take (i := 0) (oi := _) (v := (.int .i64 (q : Int))) rfl (by kernel_rfl) (by kernel_rfl) (by kernel_rfl) (fun _ _ _ h => h) (Or.inl ⟨by rfl, fun w' => by go_simp⟩) ?_
              try simp only [Act.put, List.getElem_toArray, List.getElem_cons_succ, List.getElem_cons_zero, List.setIfInBounds_toArray, List.set_cons_zero, List.set_cons_succ]
              refine wpAny_take (i := 1) (oi := _) (v := (.pointer (some ⟨gd, q, none⟩))) rfl (by kernel_rfl) (by kernel_rfl) (by kernel_rfl) (fun _ _ _ h => h) (Or.inl ⟨by rfl, fun w' => by go_simp⟩) ?_
              try simp only [Act.put, List.getElem_toArray, List.getElem_cons_succ, List.getElem_cons_zero, List.setIfInBounds_toArray, List.set_cons_zero, List.set_cons_succ]
              refine wpAny_take (i := 3) (oi := _) (v := (.pointer (some ⟨go, 2, none⟩))) rfl (by kernel_rfl) (by kernel_rfl) (by kernel_rfl) (fun _ _ _ h => h) (Or.inl ⟨by rfl, fun w' => by go_simp⟩) ?_
              try simp only [Act.put, List.getElem_toArray, List.getElem_cons_succ, List.getElem_cons_zero, List.setIfInBounds_toArray, List.set_cons_zero, List.set_cons_succ]
              refine wpAny_ready (rs := [2, 4]) (by kernel_rfl) (by simp) ?_
              refine AllReady.cons (o := _) rfl (fun K hK => ?_) (AllReady.cons (o := _) rfl (fun K hK => ?_) AllReady.nil)
              all_goals rw [if_pos (by rfl)]
              · go_simp
                refine hK _ _ ?_
                clear hK K
                try simp only [Act.put, List.getElem_toArray, List.getElem_cons_succ, List.getElem_cons_zero, List.setIfInBounds_toArray, List.set_cons_zero, List.set_cons_succ]
                refine wpAny_ready (rs := [4]) (by kernel_rfl) (by simp) ?_
                refine AllReady.cons (o := _) rfl (fun K hK => ?_) AllReady.nil
                rw [if_pos (by rfl)]
                go_simp
                refine hK _ _ ?_
                clear hK K
                try simp only [Act.put, List.getElem_toArray, List.getElem_cons_succ, List.getElem_cons_zero, List.setIfInBounds_toArray, List.set_cons_zero, List.set_cons_succ]
                refine wpAny_take (i := 5) (oi := _) (v := (.string (ss q ++ txt))) rfl (by kernel_rfl) (by kernel_rfl) (by kernel_rfl) (fun _ _ _ h => h) (Or.inl ⟨by rfl, fun w' => by go_simp⟩) ?_
                try simp only [Act.put, List.getElem_toArray, List.getElem_cons_succ, List.getElem_cons_zero, List.setIfInBounds_toArray, List.set_cons_zero, List.set_cons_succ]
                refine wpAny_take (i := 6) (oi := _) (v := (.pointer (some ⟨gd, q, none⟩))) rfl (by kernel_rfl) (by kernel_rfl) (by kernel_rfl) (fun _ _ _ h => h) (Or.inl ⟨by rfl, fun w' => by go_simp⟩) ?_
                try simp only [Act.put, List.getElem_toArray, List.getElem_cons_succ, List.getElem_cons_zero, List.setIfInBounds_toArray, List.set_cons_zero, List.set_cons_succ]
                refine wpAny_ready (rs := [7]) (by kernel_rfl) (by simp) ?_
                refine AllReady.cons (o := _) rfl (fun K hK => ?_) AllReady.nil
                rw [if_pos (by rfl)]
                go_simp
                refine hK _ _ ?_
                clear hK K
                try simp only [Act.put, List.getElem_toArray, List.getElem_cons_succ, List.getElem_cons_zero, List.setIfInBounds_toArray, List.set_cons_zero, List.set_cons_succ]
                refine wpAny_done (by kernel_rfl) ?_ _
                go_wp2_with fail
                go_roundw
                case rel => exact ⟨k + 1, by omega, by go_num, ps, _, H5.out⟩
                case measure => simp [intOf]; omega
              · go_simp
                refine hK _ _ ?_
                clear hK K
                try simp only [Act.put, List.getElem_toArray, List.getElem_cons_succ, List.getElem_cons_zero, List.setIfInBounds_toArray, List.set_cons_zero, List.set_cons_succ]
                refine wpAny_ready (rs := [2]) (by kernel_rfl) (by simp) ?_
                refine AllReady.cons (o := _) rfl (fun K hK => ?_) AllReady.nil
                rw [if_pos (by rfl)]
                go_simp
                refine hK _ _ ?_
                clear hK K
                try simp only [Act.put, List.getElem_toArray, List.getElem_cons_succ, List.getElem_cons_zero, List.setIfInBounds_toArray, List.set_cons_zero, List.set_cons_succ]
                refine wpAny_take (i := 5) (oi := _) (v := (.string (ss q ++ txt))) rfl (by kernel_rfl) (by kernel_rfl) (by kernel_rfl) (fun _ _ _ h => h) (Or.inl ⟨by rfl, fun w' => by go_simp⟩) ?_
                try simp only [Act.put, List.getElem_toArray, List.getElem_cons_succ, List.getElem_cons_zero, List.setIfInBounds_toArray, List.set_cons_zero, List.set_cons_succ]
                refine wpAny_take (i := 6) (oi := _) (v := (.pointer (some ⟨gd, q, none⟩))) rfl (by kernel_rfl) (by kernel_rfl) (by kernel_rfl) (fun _ _ _ h => h) (Or.inl ⟨by rfl, fun w' => by go_simp⟩) ?_
                try simp only [Act.put, List.getElem_toArray, List.getElem_cons_succ, List.getElem_cons_zero, List.setIfInBounds_toArray, List.set_cons_zero, List.set_cons_succ]
                refine wpAny_ready (rs := [7]) (by kernel_rfl) (by simp) ?_
                refine AllReady.cons (o := _) rfl (fun K hK => ?_) AllReady.nil
                rw [if_pos (by rfl)]
                go_simp
                refine hK _ _ ?_
                clear hK K
                try simp only [Act.put, List.getElem_toArray, List.getElem_cons_succ, List.getElem_cons_zero, List.setIfInBounds_toArray, List.set_cons_zero, List.set_cons_succ]
                refine wpAny_done (by kernel_rfl) ?_ _
                go_wp2_with fail
                go_roundw
                case rel => exact ⟨k + 1, by omega, by go_num, ps, _, H5.out⟩
                case measure => simp [intOf]; omega
            · have hws : (wr.alloc (.cells #[.int .i64 who, .int .i64 kd, .string txt] 52)).heap.size = wr.heap.size + 1 := by simp
              generalize wr.alloc (.cells #[.int .i64 who, .int .i64 kd, .string txt] 52) = W at *
              generalize wr.heap.size = go at *
              have HWS := Lib.hid hws
              clear hws
              refine wp_region_noPanic ?_
              refine wp_region_held_drew (S := fun w' => PlO w w' gl gd ps ss ss (tsum f k) go who kd txt) (by kernel_rfl) HO.out.drew (fun hHeld => ?_)
              clear HO
              refine wpAnyH_take (i := 0) (oi := _) (v := (.pointer (some ⟨ps q, 0, none⟩))) rfl (by kernel_rfl) (by kernel_rfl) (by kernel_rfl) (fun _ _ _ h => h) (Or.inl ⟨by rfl, fun w' _ => by go_simp⟩) hHeld ?_
              try simp only [Act.put, List.getElem_toArray, List.getElem_cons_succ, List.getElem_cons_zero, List.setIfInBounds_toArray, List.set_cons_zero, List.set_cons_succ]
              refine wpAnyH_take (i := 1) (oi := _) (v := (.pointer (some ⟨ps q, 0, none⟩))) rfl (by kernel_rfl) (by kernel_rfl) (by kernel_rfl) (fun _ _ _ h => h) (Or.inl ⟨by rfl, fun w' _ => by go_simp⟩) hHeld ?_
              try simp only [Act.put, List.getElem_toArray, List.getElem_cons_succ, List.getElem_cons_zero, List.setIfInBounds_toArray, List.set_cons_zero, List.set_cons_succ]
              refine wpAnyH_take (i := 2) (oi := _) (v := (.pointer (some ⟨ps q, 0, none⟩))) rfl (by kernel_rfl) (by kernel_rfl) (by kernel_rfl) (fun _ _ _ h => h) (Or.inl ⟨by rfl, fun w' _ => by go_simp⟩) hHeld ?_
              try simp only [Act.put, List.getElem_toArray, List.getElem_cons_succ, List.getElem_cons_zero, List.setIfInBounds_toArray, List.set_cons_zero, List.set_cons_succ]
              refine wpAnyH_take (i := 4) (oi := _) (v := (.int .i64 (q : Int))) rfl (by kernel_rfl) (by kernel_rfl) (by kernel_rfl) (fun _ _ _ h => h) (Or.inl ⟨by rfl, fun w' _ => by go_simp⟩) hHeld ?_
              try simp only [Act.put, List.getElem_toArray, List.getElem_cons_succ, List.getElem_cons_zero, List.setIfInBounds_toArray, List.set_cons_zero, List.set_cons_succ]
              refine wpAnyH_take (i := 5) (oi := _) (v := (.pointer (some ⟨gd, q, none⟩))) rfl (by kernel_rfl) (by kernel_rfl) (by kernel_rfl) (fun _ _ _ h => h) (Or.inl ⟨by rfl, fun w' _ => by go_simp⟩) hHeld ?_
              try simp only [Act.put, List.getElem_toArray, List.getElem_cons_succ, List.getElem_cons_zero, List.setIfInBounds_toArray, List.set_cons_zero, List.set_cons_succ]
              refine wpAnyH_take (i := 6) (oi := _) (v := (.string (ss q))) rfl (by kernel_rfl) (by kernel_rfl) (by kernel_rfl) (fun _ _ _ h => h) (Or.inl ⟨by rfl, fun w' hSw => by have h1 := hSw.b.cellS q hq3; go_simp⟩) hHeld ?_
              try simp only [Act.put, List.getElem_toArray, List.getElem_cons_succ, List.getElem_cons_zero, List.setIfInBounds_toArray, List.set_cons_zero, List.set_cons_succ]
              refine wpAnyH_take (i := 7) (oi := _) (v := (.int .i64 (ss q).size)) rfl (by kernel_rfl) (by kernel_rfl) (by kernel_rfl) (fun _ _ _ h => h) (Or.inl ⟨by rfl, fun w' _ => by go_simp⟩) hHeld ?_
              try simp only [Act.put, List.getElem_toArray, List.getElem_cons_succ, List.getElem_cons_zero, List.setIfInBounds_toArray, List.set_cons_zero, List.set_cons_succ]
              refine wpAnyH_ready (rs := [3]) (by kernel_rfl) (by simp) ?_
              refine AllReadyH.cons (o := _) rfl (fun K hK => ?_) AllReadyH.nil
              rw [if_pos (by rfl)]
              go_simp
              go_at_call 26
              refine (size_any (ps q) _ _ (hHeld.b.st q hq3)).mono ?_
              rintro e w5 ⟨rfl, rfl⟩
              rw [nb_length]
              refine hK.out _ _ hHeld (fun hHeld => ?_)
              clear hK K
              try dsimp only
              try simp only [Act.put, List.getElem_toArray, List.getElem_cons_succ, List.getElem_cons_zero, List.setIfInBounds_toArray, List.set_cons_zero, List.set_cons_succ]
              refine wpAnyH_take (i := 8) (oi := _) (v := (.bool false)) rfl (by kernel_rfl) (by kernel_rfl) (by kernel_rfl) (fun _ _ _ h => h) (Or.inl ⟨by rfl, fun w' _ => by go_simp⟩) hHeld ?_
              try simp only [Act.put, List.getElem_toArray, List.getElem_cons_succ, List.getElem_cons_zero, List.setIfInBounds_toArray, List.set_cons_zero, List.set_cons_succ]
              refine wpAnyH_take (i := 9) (oi := _) (v := (.bool false)) rfl (by kernel_rfl) (by kernel_rfl) (by kernel_rfl) (fun _ _ _ h => h) (Or.inl ⟨by rfl, fun w' _ => by go_simp⟩) hHeld ?_
              try simp only [Act.put, List.getElem_toArray, List.getElem_cons_succ, List.getElem_cons_zero, List.setIfInBounds_toArray, List.set_cons_zero, List.set_cons_succ]
              refine wpAnyH_take (i := 10) (oi := _) (v := (.pointer (some ⟨ps q, 0, none⟩))) rfl (by kernel_rfl) (by kernel_rfl) (by kernel_rfl) (fun _ _ _ h => h) (Or.inl ⟨by rfl, fun w' _ => by go_simp⟩) hHeld ?_
              try simp only [Act.put, List.getElem_toArray, List.getElem_cons_succ, List.getElem_cons_zero, List.setIfInBounds_toArray, List.set_cons_zero, List.set_cons_succ]
              refine wpAnyH_take (i := 12) (oi := _) (v := (.int .i64 (q : Int))) rfl (by kernel_rfl) (by kernel_rfl) (by kernel_rfl) (fun _ _ _ h => h) (Or.inl ⟨by rfl, fun w' _ => by go_simp⟩) hHeld ?_
              try simp only [Act.put, List.getElem_toArray, List.getElem_cons_succ, List.getElem_cons_zero, List.setIfInBounds_toArray, List.set_cons_zero, List.set_cons_succ]
              refine wpAnyH_take (i := 13) (oi := _) (v := (.pointer (some ⟨gd, q, none⟩))) rfl (by kernel_rfl) (by kernel_rfl) (by kernel_rfl) (fun _ _ _ h => h) (Or.inl ⟨by rfl, fun w' _ => by go_simp⟩) hHeld ?_
              try simp only [Act.put, List.getElem_toArray, List.getElem_cons_succ, List.getElem_cons_zero, List.setIfInBounds_toArray, List.set_cons_zero, List.set_cons_succ]
              refine wpAnyH_take (i := 14) (oi := _) (v := (.string (ss q))) rfl (by kernel_rfl) (by kernel_rfl) (by kernel_rfl) (fun _ _ _ h => h) (Or.inl ⟨by rfl, fun w' hSw => by have h1 := hSw.b.cellS q hq3; go_simp⟩) hHeld ?_
              try simp only [Act.put, List.getElem_toArray, List.getElem_cons_succ, List.getElem_cons_zero, List.setIfInBounds_toArray, List.set_cons_zero, List.set_cons_succ]
              refine wpAnyH_ready (rs := [11]) (by kernel_rfl) (by simp) ?_
              refine AllReadyH.cons (o := _) rfl (fun K hK => ?_) AllReadyH.nil
              rw [if_pos (by rfl)]
              go_simp
              go_at_call 25
              refine (sum_any (ps q) _ _ (hHeld.b.st q hq3) hHeld.b.tab (by rw [nb_length]; have := hHeld.b.siz q hq3; have := HTS.out; have := HTL.out; omega)).mono ?_
              rintro e w6 ⟨rfl, hb6⟩
              refine hK.out _ _ (hHeld.later hb6) (fun hHeld => ?_)
              clear hK K hb6
              try dsimp only
              try simp only [Act.put, List.getElem_toArray, List.getElem_cons_succ, List.getElem_cons_zero, List.setIfInBounds_toArray, List.set_cons_zero, List.set_cons_succ]
              refine wpAnyH_ready (rs := [15]) (by kernel_rfl) (by simp) ?_
              refine AllReadyH.cons (o := _) rfl (fun K hK => ?_) AllReadyH.nil
              rw [if_pos (by rfl)]
              go_simp
              go_at_call 17
              refine (rof_any (ss q) _ (by have := hHeld.b.siz q hq3; have := HTS.out; have := HTL.out; omega)).mono ?_
              rintro e w7 ⟨rfl, hb7⟩
              refine hK.out _ _ (hHeld.later hb7) (fun hHeld => ?_)
              clear hK K hb7
              try dsimp only
              try simp only [Act.put, List.getElem_toArray, List.getElem_cons_succ, List.getElem_cons_zero, List.setIfInBounds_toArray, List.set_cons_zero, List.set_cons_succ]
              refine wpAnyH_take (i := 16) (oi := _) (v := (.bool false)) rfl (by kernel_rfl) (by kernel_rfl) (by kernel_rfl) (fun _ _ _ h => h) (Or.inl ⟨by rfl, fun w' _ => by go_simp⟩) hHeld ?_
              try simp only [Act.put, List.getElem_toArray, List.getElem_cons_succ, List.getElem_cons_zero, List.setIfInBounds_toArray, List.set_cons_zero, List.set_cons_succ]
              refine wpAnyH_take (i := 17) (oi := _) (v := (.bool false)) rfl (by kernel_rfl) (by kernel_rfl) (by kernel_rfl) (fun _ _ _ h => h) (Or.inl ⟨by rfl, fun w' _ => by go_simp⟩) hHeld ?_
              try simp only [Act.put, List.getElem_toArray, List.getElem_cons_succ, List.getElem_cons_zero, List.setIfInBounds_toArray, List.set_cons_zero, List.set_cons_succ]
              refine wpAnyH_done (by kernel_rfl) ?_ _
              refine NoPanic.normal ?_
              have H8 := Lib.hid hHeld
              clear hHeld
              go_wp2_with fail
              go_roundw
              case rel => exact ⟨k + 1, by omega, by go_num, ps, ss, H8.out.b.more (by have := HTS.out; omega)⟩
              case measure => simp [intOf]; omega
            · have hws : (wr.alloc (.cells #[.int .i64 who, .int .i64 kd, .string txt] 52)).heap.size = wr.heap.size + 1 := by simp
              generalize wr.alloc (.cells #[.int .i64 who, .int .i64 kd, .string txt] 52) = W at *
              generalize wr.heap.size = go at *
              have HWS := Lib.hid hws
              clear hws
              refine (fork_any (ps q) (nb (ss q)) W (HO.out.b.st q hq3)).mono ?_
              rintro e w4 ⟨g, hg, rfl, hst, hb4⟩
              have hgn : w.heap.size ≤ g ∧ g ≠ gl ∧ g ≠ gd ∧ ∀ i, i < 3 → ps i ≠ g := ⟨Nat.le_trans HO.out.b.below.size hg, by have := lt_of_row HO.out.b.lrow; omega, by have := lt_of_row HO.out.b.srow; omega, fun i hi => by have := (HO.out.b.st i hi).lt; omega⟩
              have h4 := (HO.out.later hb4).b.more (show tsum f k ≤ tsum f (k + 1) by have := HTS.out; omega)
              obtain ⟨r, hr3, hrq⟩ : ∃ r : Nat, r < 3 ∧ ((q : Int) + 1).tmod 3 = (r : Int) := by
                rcases lt3 hq3 with rfl | rfl | rfl
                · exact ⟨1, by omega, rfl⟩
                · exact ⟨2, by omega, rfl⟩
                · exact ⟨0, by omega, rfl⟩
              have hr0 : (0 : Int) ≤ r := by omega
              have hr1 : (r : Int) < 3 := by omega
              have hwI : IntKind.i64.wrap ((q : Int) + 1) = (q : Int) + 1 := by simp [IntKind.wrap, IntKind.bits, IntKind.signed]; omega
              have hw1 : wrap64 ((q : Int) + 1) = (q : Int) + 1 := by unfold wrap64; omega
              have H4 := Lib.hid h4
              have HST := Lib.hid hst
              have HGN := Lib.hid hgn
              clear h4 hst hgn hb4 hg HO
              go_wp2_with fail
              have hd := H4.out.drew
              have hst := HST.out.far (show w4.drew.heap[g]? = w4.heap[g]? from rfl)
              have cS := hd.cellS q hq3
              have fS := hd.freeS r
              have fL := hd.freeL r
              have cSr := hd.cellS r hr3
              have cLr := hd.cellL r hr3
              clear H4 HST
              refine wp_region_any (by kernel_rfl) ?_
              change wpAny _ _ _ _ _ _ _ (World.drew _)
              generalize w4.drew = wd at *
              have h5 := hd.says hw2 r hr3 (ss q) (hd.siz q hq3)
              have h6 := h5.points hw2 r g 3 (ss q) (.inl ⟨rfl, hr3⟩) hr3 (hd.siz q hq3) (hst.far (Below.heap_setCell _ _ _ _ (by simpa using HGN.out.2.2.1))) ⟨HGN.out.1, HGN.out.2.1, HGN.out.2.2.1⟩ HGN.out.2.2.2
              have h7 := hd.points hw2 r g 3 (ss q) (.inl ⟨rfl, hr3⟩) hr3 (hd.siz q hq3) hst ⟨HGN.out.1, HGN.out.2.1, HGN.out.2.2.1⟩ HGN.out.2.2.2
              have h8 := h7.says hw2 r hr3 (ss q) (hd.siz q hq3)
              have H6 := Lib.hid h6
              have H8 := Lib.hid h8
              clear hd hst h5 h6 h7 h8
              refine wpAny_take (i := 0) (oi := _) (v := (.int .i64 (q : Int))) rfl (by kernel_rfl) (by kernel_rfl) (by kernel_rfl) (fun _ _ _ h => h) (Or.inl ⟨by rfl, fun w' => by go_simp⟩) ?_
              try simp only [Act.put, List.getElem_toArray, List.getElem_cons_succ, List.getElem_cons_zero, List.setIfInBounds_toArray, List.set_cons_zero, List.set_cons_succ]
              refine wpAny_take (i := 1) (oi := _) (v := (.int .i64 ((q : Int) + 1))) rfl (by kernel_rfl) (by kernel_rfl) (by kernel_rfl) (fun _ _ _ h => h) (Or.inl ⟨by rfl, fun w' => by go_simp⟩) ?_
              try simp only [Act.put, List.getElem_toArray, List.getElem_cons_succ, List.getElem_cons_zero, List.setIfInBounds_toArray, List.set_cons_zero, List.set_cons_succ]
              refine wpAny_take (i := 2) (oi := _) (v := (.int .i64 (r : Int))) rfl (by kernel_rfl) (by kernel_rfl) (by kernel_rfl) (fun _ _ _ h => h) (Or.inl ⟨by rfl, fun w' => by go_simp⟩) ?_
              try simp only [Act.put, List.getElem_toArray, List.getElem_cons_succ, List.getElem_cons_zero, List.setIfInBounds_toArray, List.set_cons_zero, List.set_cons_succ]
              refine wpAny_take (i := 3) (oi := _) (v := (.int .i64 (q : Int))) rfl (by kernel_rfl) (by kernel_rfl) (by kernel_rfl) (fun _ _ _ h => h) (Or.inl ⟨by rfl, fun w' => by go_simp⟩) ?_
              try simp only [Act.put, List.getElem_toArray, List.getElem_cons_succ, List.getElem_cons_zero, List.setIfInBounds_toArray, List.set_cons_zero, List.set_cons_succ]
              refine wpAny_take (i := 4) (oi := _) (v := (.int .i64 ((q : Int) + 1))) rfl (by kernel_rfl) (by kernel_rfl) (by kernel_rfl) (fun _ _ _ h => h) (Or.inl ⟨by rfl, fun w' => by go_simp⟩) ?_
              try simp only [Act.put, List.getElem_toArray, List.getElem_cons_succ, List.getElem_cons_zero, List.setIfInBounds_toArray, List.set_cons_zero, List.set_cons_succ]
              refine wpAny_take (i := 5) (oi := _) (v := (.int .i64 (r : Int))) rfl (by kernel_rfl) (by kernel_rfl) (by kernel_rfl) (fun _ _ _ h => h) (Or.inl ⟨by rfl, fun w' => by go_simp⟩) ?_
              try simp only [Act.put, List.getElem_toArray, List.getElem_cons_succ, List.getElem_cons_zero, List.setIfInBounds_toArray, List.set_cons_zero, List.set_cons_succ]
              refine wpAny_take (i := 6) (oi := _) (v := (.pointer (some ⟨g, 0, none⟩))) rfl (by kernel_rfl) (by kernel_rfl) (by kernel_rfl) (fun _ _ _ h => h) (Or.inl ⟨by rfl, fun w' => by go_simp⟩) ?_
              try simp only [Act.put, List.getElem_toArray, List.getElem_cons_succ, List.getElem_cons_zero, List.setIfInBounds_toArray, List.set_cons_zero, List.set_cons_succ]
              refine wpAny_take (i := 7) (oi := _) (v := (.int .i64 (q : Int))) rfl (by kernel_rfl) (by kernel_rfl) (by kernel_rfl) (fun _ _ _ h => h) (Or.inl ⟨by rfl, fun w' => by go_simp⟩) ?_
              try simp only [Act.put, List.getElem_toArray, List.getElem_cons_succ, List.getElem_cons_zero, List.setIfInBounds_toArray, List.set_cons_zero, List.set_cons_succ]
              refine wpAny_take (i := 8) (oi := _) (v := (.pointer (some ⟨gd, q, none⟩))) rfl (by kernel_rfl) (by kernel_rfl) (by kernel_rfl) (fun _ _ _ h => h) (Or.inl ⟨by rfl, fun w' => by go_simp⟩) ?_
              try simp only [Act.put, List.getElem_toArray, List.getElem_cons_succ, List.getElem_cons_zero, List.setIfInBounds_toArray, List.set_cons_zero, List.set_cons_succ]
              refine wpAny_take (i := 10) (oi := _) (v := (.pointer (some ⟨gl, r, none⟩))) rfl (by kernel_rfl) (by kernel_rfl) (by kernel_rfl) (fun _ _ _ h => h) (Or.inl ⟨by rfl, fun w' => by go_simp⟩) ?_
              try simp only [Act.put, List.getElem_toArray, List.getElem_cons_succ, List.getElem_cons_zero, List.setIfInBounds_toArray, List.set_cons_zero, List.set_cons_succ]
              refine wpAny_ready (rs := [9, 11]) (by kernel_rfl) (by simp) ?_
              refine AllReady.cons (o := _) rfl (fun K hK => ?_) (AllReady.cons (o := _) rfl (fun K hK => ?_) AllReady.nil)
              all_goals rw [if_pos (by rfl)]
              · go_simp
                refine hK _ _ ?_
                clear hK K
                try simp only [Act.put, List.getElem_toArray, List.getElem_cons_succ, List.getElem_cons_zero, List.setIfInBounds_toArray, List.set_cons_zero, List.set_cons_succ]
                refine wpAny_ready (rs := [11]) (by kernel_rfl) (by simp) ?_
                refine AllReady.cons (o := _) rfl (fun K hK => ?_) AllReady.nil
                rw [if_pos (by rfl)]
                go_simp
                refine hK _ _ ?_
                clear hK K
                try simp only [Act.put, List.getElem_toArray, List.getElem_cons_succ, List.getElem_cons_zero, List.setIfInBounds_toArray, List.set_cons_zero, List.set_cons_succ]
                refine wpAny_take (i := 12) (oi := _) (v := (.pointer (some ⟨gd, r, none⟩))) rfl (by kernel_rfl) (by kernel_rfl) (by kernel_rfl) (fun _ _ _ h => h) (Or.inl ⟨by rfl, fun w' => by go_simp⟩) ?_
                try simp only [Act.put, List.getElem_toArray, List.getElem_cons_succ, List.getElem_cons_zero, List.setIfInBounds_toArray, List.set_cons_zero, List.set_cons_succ]
                refine wpAny_ready (rs := [13]) (by kernel_rfl) (by simp) ?_
                refine AllReady.cons (o := _) rfl (fun K hK => ?_) AllReady.nil
                rw [if_pos (by rfl)]
                go_simp
                refine hK _ _ ?_
                clear hK K
                try simp only [Act.put, List.getElem_toArray, List.getElem_cons_succ, List.getElem_cons_zero, List.setIfInBounds_toArray, List.set_cons_zero, List.set_cons_succ]
                refine wpAny_done (by kernel_rfl) ?_ _
                go_wp2_with fail
                go_roundw
                case rel => exact ⟨k + 1, by omega, by go_num, _, _, H8.out⟩
                case measure => simp [intOf]; omega
              · go_simp
                refine hK _ _ ?_
                clear hK K
                try simp only [Act.put, List.getElem_toArray, List.getElem_cons_succ, List.getElem_cons_zero, List.setIfInBounds_toArray, List.set_cons_zero, List.set_cons_succ]
                refine wpAny_ready (rs := [9]) (by kernel_rfl) (by simp) ?_
                refine AllReady.cons (o := _) rfl (fun K hK => ?_) AllReady.nil
                rw [if_pos (by rfl)]
                go_simp
                refine hK _ _ ?_
                clear hK K
                try simp only [Act.put, List.getElem_toArray, List.getElem_cons_succ, List.getElem_cons_zero, List.setIfInBounds_toArray, List.set_cons_zero, List.set_cons_succ]
                refine wpAny_take (i := 12) (oi := _) (v := (.pointer (some ⟨gd, r, none⟩))) rfl (by kernel_rfl) (by kernel_rfl) (by kernel_rfl) (fun _ _ _ h => h) (Or.inl ⟨by rfl, fun w' => by go_simp⟩) ?_
                try simp only [Act.put, List.getElem_toArray, List.getElem_cons_succ, List.getElem_cons_zero, List.setIfInBounds_toArray, List.set_cons_zero, List.set_cons_succ]
                refine wpAny_ready (rs := [13]) (by kernel_rfl) (by simp) ?_
                refine AllReady.cons (o := _) rfl (fun K hK => ?_) AllReady.nil
                rw [if_pos (by rfl)]
                go_simp
                refine hK _ _ ?_
                clear hK K
                try simp only [Act.put, List.getElem_toArray, List.getElem_cons_succ, List.getElem_cons_zero, List.setIfInBounds_toArray, List.set_cons_zero, List.set_cons_succ]
                refine wpAny_done (by kernel_rfl) ?_ _
                go_wp2_with fail
                go_roundw
                case rel => exact ⟨k + 1, by omega, by go_num, _, _, H8.out⟩
                case measure => simp [intOf]; omega
            · have hws : (wr.alloc (.cells #[.int .i64 who, .int .i64 kd, .string txt] 52)).heap.size = wr.heap.size + 1 := by simp
              generalize wr.alloc (.cells #[.int .i64 who, .int .i64 kd, .string txt] 52) = W at *
              generalize wr.heap.size = go at *
              have HWS := Lib.hid hws
              clear hws
              refine (reset_at (ps q) (nb (ss q)) W (HO.out.b.st q hq3) HO.out.b.tab).mono ?_
              rintro e w4 ⟨rfl, hst, ho⟩
              have h4 := (HO.out.more (show tsum f k ≤ tsum f (k + 1) by have := HTS.out; omega)).turn hw2 q hq3 ⟨#[]⟩ (Nat.zero_le _) hst ho
              have h5 := h4.b.says hw2 q hq3 ⟨#[]⟩ (Nat.zero_le _)
              have cS := h4.b.cellS q hq3
              have fS := h4.b.freeS q
              have H5 := Lib.hid h5
              clear hst ho HO h4 h5
              go_wp2_with fail
              go_roundw
              case rel => exact ⟨k + 1, by omega, by go_num, ps, _, H5.out⟩
              case measure => simp [intOf]; omega
            · have hws : (wr.alloc (.cells #[.int .i64 who, .int .i64 kd, .string txt] 52)).heap.size = wr.heap.size + 1 := by simp
              generalize wr.alloc (.cells #[.int .i64 who, .int .i64 kd, .string txt] 52) = W at *
              generalize wr.heap.size = go at *
              have HWS := Lib.hid hws
              clear hws
              go_roundw
              case rel => exact ⟨k + 1, by omega, by go_num, ps, ss, HO.out.b.more (by have := HTS.out; omega)⟩
              case measure => simp [intOf]; omega
          · have hqn : -(q : Int) < 0 := by omega
            have hqw : wrap64 (q : Int) = q := by unfold wrap64; omega
            have hcv := fun W => Lib.run_convert_string_bytes (P := Tryd.prog) W 9 45 5 txt Tryd.underlying9 Tryd.underlying45 Tryd.underlying5
            go_wp2_with fail
            · have hws : (wr.alloc (.cells #[.int .i64 who, .int .i64 kd, .string txt] 52)).heap.size = wr.heap.size + 1 := by simp
              generalize wr.alloc (.cells #[.int .i64 who, .int .i64 kd, .string txt] 52) = W at *
              generalize wr.heap.size = go at *
              have HWS := Lib.hid hws
              clear hws
              have hob := HO.out.later (below_bytes W 5 txt)
              have hrd := rdb_bytes W 5 txt (ps q) (HO.out.b.st q hq3).lt
              rw [HWS.out] at hrd
              have hxl : (nb txt).length = txt.size := nb_length _
              have hgc := grownCap_ge W txt.size 0 5
              rw [← hxl]
              refine (write_any (ps q) (nb (ss q)) (nb txt) _ _ _ (hob.b.st q hq3) hob.b.tab (by have := (HO.out.b.pl q hq3).1; omega) (by rw [nb_length, nb_length]; have := HO.out.b.siz q hq3; have := HTS.out; have := HTL.out; omega) (nb_bytes txt) hrd (by rw [hxl]; exact hgc)).mono ?_
              rintro e w4 ⟨rfl, hst, ho⟩
              rw [← nb_append] at hst
              have HZ := Lib.hid (HO.out.b.siz q hq3)
              have H4 := Lib.hid ((hob.more (show tsum f k ≤ tsum f (k + 1) by have := HTS.out; omega)).turn hw2 q hq3 (ss q ++ txt) (by rw [ByteArray.size_append]; have := HO.out.b.siz q hq3; have := HTS.out; omega) hst ho)
              clear hst ho HO hob hrd hxl hgc
              go_wp2_with fail
              have cS := H4.out.drew.b.cellS q hq3
              have cT := H4.out.drew.cellT
              have fS := H4.out.drew.b.freeS q
              have H5 := Lib.hid (H4.out.drew.b.says hw2 q hq3 (ss q ++ txt) (by rw [ByteArray.size_append]; have := HZ.out; have := HTS.out; omega))
              clear H4
              have hssz : (ss q).size + txt.size ≤ 9223372036854775807 := by have := HZ.out; have := HTS.out; have := HTL.out; omega
              refine wp_region_any (by kernel_rfl) ?_
              change wpAny _ _ _ _ _ _ _ (World.drew _)
              generalize w4.drew = wd at *
              refine wpAny_take (i := 0) (oi := _) (v := (.int .i64 (q : Int))) rfl (by kernel_rfl) (by kernel_rfl) (by kernel_rfl) (fun _ _ _ h => h) (Or.inl ⟨by rfl, fun w' => by go_simp⟩) ?_
              try simp only [Act.put, List.getElem_toArray, List.getElem_cons_succ, List.getElem_cons_zero, List.setIfInBounds_toArray, List.set_cons_zero, List.set_cons_succ]
              refine wpAny_take (i := 1) (oi := _) (v := (.pointer (some ⟨gd, q, none⟩))) rfl (by kernel_rfl) (by kernel_rfl) (by kernel_rfl) (fun _ _ _ h => h) (Or.inl ⟨by rfl, fun w' => by go_simp⟩) ?_
              try simp only [Act.put, List.getElem_toArray, List.getElem_cons_succ, List.getElem_cons_zero, List.setIfInBounds_toArray, List.set_cons_zero, List.set_cons_succ]
              refine wpAny_take (i := 3) (oi := _) (v := (.pointer (some ⟨go, 2, none⟩))) rfl (by kernel_rfl) (by kernel_rfl) (by kernel_rfl) (fun _ _ _ h => h) (Or.inl ⟨by rfl, fun w' => by go_simp⟩) ?_
              try simp only [Act.put, List.getElem_toArray, List.getElem_cons_succ, List.getElem_cons_zero, List.setIfInBounds_toArray, List.set_cons_zero, List.set_cons_succ]
              refine wpAny_ready (rs := [2, 4]) (by kernel_rfl) (by simp) ?_
              refine AllReady.cons (o := _) rfl (fun K hK => ?_) (AllReady.cons (o := _) rfl (fun K hK => ?_) AllReady.nil)
              all_goals rw [if_pos (by rfl)]
              · go_simp
                refine hK _ _ ?_
                clear hK K
                try simp only [Act.put, List.getElem_toArray, List.getElem_cons_succ, List.getElem_cons_zero, List.setIfInBounds_toArray, List.set_cons_zero, List.set_cons_succ]
                refine wpAny_ready (rs := [4]) (by kernel_rfl) (by simp) ?_
                refine AllReady.cons (o := _) rfl (fun K hK => ?_) AllReady.nil
                rw [if_pos (by rfl)]
                go_simp
                refine hK _ _ ?_
                clear hK K
                try simp only [Act.put, List.getElem_toArray, List.getElem_cons_succ, List.getElem_cons_zero, List.setIfInBounds_toArray, List.set_cons_zero, List.set_cons_succ]
                refine wpAny_take (i := 5) (oi := _) (v := (.string (ss q ++ txt))) rfl (by kernel_rfl) (by kernel_rfl) (by kernel_rfl) (fun _ _ _ h => h) (Or.inl ⟨by rfl, fun w' => by go_simp⟩) ?_
                try simp only [Act.put, List.getElem_toArray, List.getElem_cons_succ, List.getElem_cons_zero, List.setIfInBounds_toArray, List.set_cons_zero, List.set_cons_succ]
                refine wpAny_take (i := 6) (oi := _) (v := (.pointer (some ⟨gd, q, none⟩))) rfl (by kernel_rfl) (by kernel_rfl) (by kernel_rfl) (fun _ _ _ h => h) (Or.inl ⟨by rfl, fun w' => by go_simp⟩) ?_
                try simp only [Act.put, List.getElem_toArray, List.getElem_cons_succ, List.getElem_cons_zero, List.setIfInBounds_toArray, List.set_cons_zero, List.set_cons_succ]
                refine wpAny_ready (rs := [7]) (by kernel_rfl) (by simp) ?_
                refine AllReady.cons (o := _) rfl (fun K hK => ?_) AllReady.nil
                rw [if_pos (by rfl)]
                go_simp
                refine hK _ _ ?_
                clear hK K
                try simp only [Act.put, List.getElem_toArray, List.getElem_cons_succ, List.getElem_cons_zero, List.setIfInBounds_toArray, List.set_cons_zero, List.set_cons_succ]
                refine wpAny_done (by kernel_rfl) ?_ _
                go_wp2_with fail
                go_roundw
                case rel => exact ⟨k + 1, by omega, by go_num, ps, _, H5.out⟩
                case measure => simp [intOf]; omega
              · go_simp
                refine hK _ _ ?_
                clear hK K
                try simp only [Act.put, List.getElem_toArray, List.getElem_cons_succ, List.getElem_cons_zero, List.setIfInBounds_toArray, List.set_cons_zero, List.set_cons_succ]
                refine wpAny_ready (rs := [2]) (by kernel_rfl) (by simp) ?_
                refine AllReady.cons (o := _) rfl (fun K hK => ?_) AllReady.nil
                rw [if_pos (by rfl)]
                go_simp
                refine hK _ _ ?_
                clear hK K
                try simp only [Act.put, List.getElem_toArray, List.getElem_cons_succ, List.getElem_cons_zero, List.setIfInBounds_toArray, List.set_cons_zero, List.set_cons_succ]
                refine wpAny_take (i := 5) (oi := _) (v := (.string (ss q ++ txt))) rfl (by kernel_rfl) (by kernel_rfl) (by kernel_rfl) (fun _ _ _ h => h) (Or.inl ⟨by rfl, fun w' => by go_simp⟩) ?_
                try simp only [Act.put, List.getElem_toArray, List.getElem_cons_succ, List.getElem_cons_zero, List.setIfInBounds_toArray, List.set_cons_zero, List.set_cons_succ]
                refine wpAny_take (i := 6) (oi := _) (v := (.pointer (some ⟨gd, q, none⟩))) rfl (by kernel_rfl) (by kernel_rfl) (by kernel_rfl) (fun _ _ _ h => h) (Or.inl ⟨by rfl, fun w' => by go_simp⟩) ?_
                try simp only [Act.put, List.getElem_toArray, List.getElem_cons_succ, List.getElem_cons_zero, List.setIfInBounds_toArray, List.set_cons_zero, List.set_cons_succ]
                refine wpAny_ready (rs := [7]) (by kernel_rfl) (by simp) ?_
                refine AllReady.cons (o := _) rfl (fun K hK => ?_) AllReady.nil
                rw [if_pos (by rfl)]
                go_simp
                refine hK _ _ ?_
                clear hK K
                try simp only [Act.put, List.getElem_toArray, List.getElem_cons_succ, List.getElem_cons_zero, List.setIfInBounds_toArray, List.set_cons_zero, List.set_cons_succ]
                refine wpAny_done (by kernel_rfl) ?_ _
                go_wp2_with fail
                go_roundw
                case rel => exact ⟨k + 1, by omega, by go_num, ps, _, H5.out⟩
                case measure => simp [intOf]; omega
            · have hws : (wr.alloc (.cells #[.int .i64 who, .int .i64 kd, .string txt] 52)).heap.size = wr.heap.size + 1 := by simp
              generalize wr.alloc (.cells #[.int .i64 who, .int .i64 kd, .string txt] 52) = W at *
              generalize wr.heap.size = go at *
              have HWS := Lib.hid hws
              clear hws
              refine (writeText_any (ps q) (nb (ss q)) txt W (HO.out.b.st q hq3) HO.out.b.tab (by have := (HO.out.b.pl q hq3).1; omega) (by rw [nb_length]; have := HO.out.b.siz q hq3; have := HTS.out; have := HTL.out; omega)).mono ?_
              rintro e w4 ⟨rfl, hst, ho⟩
              rw [← nb_append] at hst
              have HZ := Lib.hid (HO.out.b.siz q hq3)
              have H4 := Lib.hid ((HO.out.more (show tsum f k ≤ tsum f (k + 1) by have := HTS.out; omega)).turn hw2 q hq3 (ss q ++ txt) (by rw [ByteArray.size_append]; have := HO.out.b.siz q hq3; have := HTS.out; omega) hst ho)
              clear hst ho HO
              go_wp2_with fail
              have cS := H4.out.drew.b.cellS q hq3
              have cT := H4.out.drew.cellT
              have fS := H4.out.drew.b.freeS q
              have H5 := Lib.hid (H4.out.drew.b.says hw2 q hq3 (ss q ++ txt) (by rw [ByteArray.size_append]; have := HZ.out; have := HTS.out; omega))
              clear H4
              have hssz : (ss q).size + txt.size ≤ 9223372036854775807 := by have := HZ.out; have := HTS.out; have := HTL.out; omega
              refine wp_region_any (by kernel_rfl) ?_
              change wpAny _ _ _ _ _ _ _ (World.drew _)
              generalize w4.drew = wd at *
              refine wpAny_take (i := 0) (oi := _) (v := (.int .i64 (q : Int))) rfl (by kernel_rfl) (by kernel_rfl) (by kernel_rfl) (fun _ _ _ h => h) (Or.inl ⟨by rfl, fun w' => by go_simp⟩) ?_
              try simp only [Act.put, List.getElem_toArray, List.getElem_cons_succ, List.getElem_cons_zero, List.setIfInBounds_toArray, List.set_cons_zero, List.set_cons_succ]
              refine wpAny_take (i := 1) (oi := _) (v := (.pointer (some ⟨gd, q, none⟩))) rfl (by kernel_rfl) (by kernel_rfl) (by kernel_rfl) (fun _ _ _ h => h) (Or.inl ⟨by rfl, fun w' => by go_simp⟩) ?_
              try simp only [Act.put, List.getElem_toArray, List.getElem_cons_succ, List.getElem_cons_zero, List.setIfInBounds_toArray, List.set_cons_zero, List.set_cons_succ]
              refine wpAny_take (i := 3) (oi := _) (v := (.pointer (some ⟨go, 2, none⟩))) rfl (by kernel_rfl) (by kernel_rfl) (by kernel_rfl) (fun _ _ _ h => h) (Or.inl ⟨by rfl, fun w' => by go_simp⟩) ?_
              try simp only [Act.put, List.getElem_toArray, List.getElem_cons_succ, List.getElem_cons_zero, List.setIfInBounds_toArray, List.set_cons_zero, List.set_cons_succ]
              refine wpAny_ready (rs := [2, 4]) (by kernel_rfl) (by simp) ?_
              refine AllReady.cons (o := _) rfl (fun K hK => ?_) (AllReady.cons (o := _) rfl (fun K hK => ?_) AllReady.nil)
              all_goals rw [if_pos (by rfl)]
              · go_simp
                refine hK _ _ ?_
                clear hK K
                try simp only [Act.put, List.getElem_toArray, List.getElem_cons_succ, List.getElem_cons_zero, List.setIfInBounds_toArray, List.set_cons_zero, List.set_cons_succ]
                refine wpAny_ready (rs := [4]) (by kernel_rfl) (by simp) ?_
                refine AllReady.cons (o := _) rfl (fun K hK => ?_) AllReady.nil
                rw [if_pos (by rfl)]
                go_simp
                refine hK _ _ ?_
                clear hK K
                try simp only [Act.put, List.getElem_toArray, List.getElem_cons_succ, List.getElem_cons_zero, List.setIfInBounds_toArray, List.set_cons_zero, List.set_cons_succ]
                refine wpAny_take (i := 5) (oi := _) (v := (.string (ss q ++ txt))) rfl (by kernel_rfl) (by kernel_rfl) (by kernel_rfl) (fun _ _ _ h => h) (Or.inl ⟨by rfl, fun w' => by go_simp⟩) ?_
                try simp only [Act.put, List.getElem_toArray, List.getElem_cons_succ, List.getElem_cons_zero, List.setIfInBounds_toArray, List.set_cons_zero, List.set_cons_succ]
                refine wpAny_take (i := 6) (oi := _) (v := (.pointer (some ⟨gd, q, none⟩))) rfl (by kernel_rfl) (by kernel_rfl) (by kernel_rfl) (fun _ _ _ h => h) (Or.inl ⟨by rfl, fun w' => by go_simp⟩) ?_
                try simp only [Act.put, List.getElem_toArray, List.getElem_cons_succ, List.getElem_cons_zero, List.setIfInBounds_toArray, List.set_cons_zero, List.set_cons_succ]
                refine wpAny_ready (rs := [7]) (by kernel_rfl) (by simp) ?_
                refine AllReady.cons (o := _) rfl (fun K hK => ?_) AllReady.nil
                rw [if_pos (by rfl)]
                go_simp
                refine hK _ _ ?_
                clear hK K
                try simp only [Act.put, List.getElem_toArray, List.getElem_cons_succ, List.getElem_cons_zero, List.setIfInBounds_toArray, List.set_cons_zero, List.set_cons_succ]
                refine wpAny_done (by kernel_rfl) ?_ _
                go_wp2_with fail
                go_roundw
                case rel => exact ⟨k + 1, by omega, by go_num, ps, _, H5.out⟩
                case measure => simp [intOf]; omega
              · go_simp
                refine hK _ _ ?_
                clear hK K
                try simp only [Act.put, List.getElem_toArray, List.getElem_cons_succ, List.getElem_cons_zero, List.setIfInBounds_toArray, List.set_cons_zero, List.set_cons_succ]
                refine wpAny_ready (rs := [2]) (by kernel_rfl) (by simp) ?_
                refine AllReady.cons (o := _) rfl (fun K hK => ?_) AllReady.nil
                rw [if_pos (by rfl)]
                go_simp
                refine hK _ _ ?_
                clear hK K
                try simp only [Act.put, List.getElem_toArray, List.getElem_cons_succ, List.getElem_cons_zero, List.setIfInBounds_toArray, List.set_cons_zero, List.set_cons_succ]
                refine wpAny_take (i := 5) (oi := _) (v := (.string (ss q ++ txt))) rfl (by kernel_rfl) (by kernel_rfl) (by kernel_rfl) (fun _ _ _ h => h) (Or.inl ⟨by rfl, fun w' => by go_simp⟩) ?_
                try simp only [Act.put, List.getElem_toArray, List.getElem_cons_succ, List.getElem_cons_zero, List.setIfInBounds_toArray, List.set_cons_zero, List.set_cons_succ]
                refine wpAny_take (i := 6) (oi := _) (v := (.pointer (some ⟨gd, q, none⟩))) rfl (by kernel_rfl) (by kernel_rfl) (by kernel_rfl) (fun _ _ _ h => h) (Or.inl ⟨by rfl, fun w' => by go_simp⟩) ?_
                try simp only [Act.put, List.getElem_toArray, List.getElem_cons_succ, List.getElem_cons_zero, List.setIfInBounds_toArray, List.set_cons_zero, List.set_cons_succ]
                refine wpAny_ready (rs := [7]) (by kernel_rfl) (by simp) ?_
                refine AllReady.cons (o := _) rfl (fun K hK => ?_) AllReady.nil
                rw [if_pos (by rfl)]
                go_simp
                refine hK _ _ ?_
                clear hK K
                try simp only [Act.put, List.getElem_toArray, List.getElem_cons_succ, List.getElem_cons_zero, List.setIfInBounds_toArray, List.set_cons_zero, List.set_cons_succ]
                refine wpAny_done (by kernel_rfl) ?_ _
                go_wp2_with fail
                go_roundw
                case rel => exact ⟨k + 1, by omega, by go_num, ps, _, H5.out⟩
                case measure => simp [intOf]; omega
            · have hws : (wr.alloc (.cells #[.int .i64 who, .int .i64 kd, .string txt] 52)).heap.size = wr.heap.size + 1 := by simp
              generalize wr.alloc (.cells #[.int .i64 who, .int .i64 kd, .string txt] 52) = W at *
              generalize wr.heap.size = go at *
              have HWS := Lib.hid hws
              clear hws
              refine wp_region_noPanic ?_
              refine wp_region_held_drew (S := fun w' => PlO w w' gl gd ps ss ss (tsum f k) go who kd txt) (by kernel_rfl) HO.out.drew (fun hHeld => ?_)
              clear HO
              refine wpAnyH_take (i := 0) (oi := _) (v := (.pointer (some ⟨ps q, 0, none⟩))) rfl (by kernel_rfl) (by kernel_rfl) (by kernel_rfl) (fun _ _ _ h => h) (Or.inl ⟨by rfl, fun w' _ => by go_simp⟩) hHeld ?_
              try simp only [Act.put, List.getElem_toArray, List.getElem_cons_succ, List.getElem_cons_zero, List.setIfInBounds_toArray, List.set_cons_zero, List.set_cons_succ]
              refine wpAnyH_take (i := 1) (oi := _) (v := (.pointer (some ⟨ps q, 0, none⟩))) rfl (by kernel_rfl) (by kernel_rfl) (by kernel_rfl) (fun _ _ _ h => h) (Or.inl ⟨by rfl, fun w' _ => by go_simp⟩) hHeld ?_
              try simp only [Act.put, List.getElem_toArray, List.getElem_cons_succ, List.getElem_cons_zero, List.setIfInBounds_toArray, List.set_cons_zero, List.set_cons_succ]
              refine wpAnyH_take (i := 2) (oi := _) (v := (.pointer (some ⟨ps q, 0, none⟩))) rfl (by kernel_rfl) (by kernel_rfl) (by kernel_rfl) (fun _ _ _ h => h) (Or.inl ⟨by rfl, fun w' _ => by go_simp⟩) hHeld ?_
              try simp only [Act.put, List.getElem_toArray, List.getElem_cons_succ, List.getElem_cons_zero, List.setIfInBounds_toArray, List.set_cons_zero, List.set_cons_succ]
              refine wpAnyH_take (i := 4) (oi := _) (v := (.int .i64 (q : Int))) rfl (by kernel_rfl) (by kernel_rfl) (by kernel_rfl) (fun _ _ _ h => h) (Or.inl ⟨by rfl, fun w' _ => by go_simp⟩) hHeld ?_
              try simp only [Act.put, List.getElem_toArray, List.getElem_cons_succ, List.getElem_cons_zero, List.setIfInBounds_toArray, List.set_cons_zero, List.set_cons_succ]
              refine wpAnyH_take (i := 5) (oi := _) (v := (.pointer (some ⟨gd, q, none⟩))) rfl (by kernel_rfl) (by kernel_rfl) (by kernel_rfl) (fun _ _ _ h => h) (Or.inl ⟨by rfl, fun w' _ => by go_simp⟩) hHeld ?_
              try simp only [Act.put, List.getElem_toArray, List.getElem_cons_succ, List.getElem_cons_zero, List.setIfInBounds_toArray, List.set_cons_zero, List.set_cons_succ]
              refine wpAnyH_take (i := 6) (oi := _) (v := (.string (ss q))) rfl (by kernel_rfl) (by kernel_rfl) (by kernel_rfl) (fun _ _ _ h => h) (Or.inl ⟨by rfl, fun w' hSw => by have h1 := hSw.b.cellS q hq3; go_simp⟩) hHeld ?_
              try simp only [Act.put, List.getElem_toArray, List.getElem_cons_succ, List.getElem_cons_zero, List.setIfInBounds_toArray, List.set_cons_zero, List.set_cons_succ]
              refine wpAnyH_take (i := 7) (oi := _) (v := (.int .i64 (ss q).size)) rfl (by kernel_rfl) (by kernel_rfl) (by kernel_rfl) (fun _ _ _ h => h) (Or.inl ⟨by rfl, fun w' _ => by go_simp⟩) hHeld ?_
              try simp only [Act.put, List.getElem_toArray, List.getElem_cons_succ, List.getElem_cons_zero, List.setIfInBounds_toArray, List.set_cons_zero, List.set_cons_succ]
              refine wpAnyH_ready (rs := [3]) (by kernel_rfl) (by simp) ?_
              refine AllReadyH.cons (o := _) rfl (fun K hK => ?_) AllReadyH.nil
              rw [if_pos (by rfl)]
              go_simp
              go_at_call 26
              refine (size_any (ps q) _ _ (hHeld.b.st q hq3)).mono ?_
              rintro e w5 ⟨rfl, rfl⟩
              rw [nb_length]
              refine hK.out _ _ hHeld (fun hHeld => ?_)
              clear hK K
              try dsimp only
              try simp only [Act.put, List.getElem_toArray, List.getElem_cons_succ, List.getElem_cons_zero, List.setIfInBounds_toArray, List.set_cons_zero, List.set_cons_succ]
              refine wpAnyH_take (i := 8) (oi := _) (v := (.bool false)) rfl (by kernel_rfl) (by kernel_rfl) (by kernel_rfl) (fun _ _ _ h => h) (Or.inl ⟨by rfl, fun w' _ => by go_simp⟩) hHeld ?_
              try simp only [Act.put, List.getElem_toArray, List.getElem_cons_succ, List.getElem_cons_zero, List.setIfInBounds_toArray, List.set_cons_zero, List.set_cons_succ]
              refine wpAnyH_take (i := 9) (oi := _) (v := (.bool false)) rfl (by kernel_rfl) (by kernel_rfl) (by kernel_rfl) (fun _ _ _ h => h) (Or.inl ⟨by rfl, fun w' _ => by go_simp⟩) hHeld ?_
              try simp only [Act.put, List.getElem_toArray, List.getElem_cons_succ, List.getElem_cons_zero, List.setIfInBounds_toArray, List.set_cons_zero, List.set_cons_succ]
              refine wpAnyH_take (i := 10) (oi := _) (v := (.pointer (some ⟨ps q, 0, none⟩))) rfl (by kernel_rfl) (by kernel_rfl) (by kernel_rfl) (fun _ _ _ h => h) (Or.inl ⟨by rfl, fun w' _ => by go_simp⟩) hHeld ?_
              try simp only [Act.put, List.getElem_toArray, List.getElem_cons_succ, List.getElem_cons_zero, List.setIfInBounds_toArray, List.set_cons_zero, List.set_cons_succ]
              refine wpAnyH_take (i := 12) (oi := _) (v := (.int .i64 (q : Int))) rfl (by kernel_rfl) (by kernel_rfl) (by kernel_rfl) (fun _ _ _ h => h) (Or.inl ⟨by rfl, fun w' _ => by go_simp⟩) hHeld ?_
              try simp only [Act.put, List.getElem_toArray, List.getElem_cons_succ, List.getElem_cons_zero, List.setIfInBounds_toArray, List.set_cons_zero, List.set_cons_succ]
              refine wpAnyH_take (i := 13) (oi := _) (v := (.pointer (some ⟨gd, q, none⟩))) rfl (by kernel_rfl) (by kernel_rfl) (by kernel_rfl) (fun _ _ _ h => h) (Or.inl ⟨by rfl, fun w' _ => by go_simp⟩) hHeld ?_
              try simp only [Act.put, List.getElem_toArray, List.getElem_cons_succ, List.getElem_cons_zero, List.setIfInBounds_toArray, List.set_cons_zero, List.set_cons_succ]
              refine wpAnyH_take (i := 14) (oi := _) (v := (.string (ss q))) rfl (by kernel_rfl) (by kernel_rfl) (by kernel_rfl) (fun _ _ _ h => h) (Or.inl ⟨by rfl, fun w' hSw => by have h1 := hSw.b.cellS q hq3; go_simp⟩) hHeld ?_
              try simp only [Act.put, List.getElem_toArray, List.getElem_cons_succ, List.getElem_cons_zero, List.setIfInBounds_toArray, List.set_cons_zero, List.set_cons_succ]
              refine wpAnyH_ready (rs := [11]) (by kernel_rfl) (by simp) ?_
              refine AllReadyH.cons (o := _) rfl (fun K hK => ?_) AllReadyH.nil
              rw [if_pos (by rfl)]
              go_simp
              go_at_call 25
              refine (sum_any (ps q) _ _ (hHeld.b.st q hq3) hHeld.b.tab (by rw [nb_length]; have := hHeld.b.siz q hq3; have := HTS.out; have := HTL.out; omega)).mono ?_
              rintro e w6 ⟨rfl, hb6⟩
              refine hK.out _ _ (hHeld.later hb6) (fun hHeld => ?_)
              clear hK K hb6
              try dsimp only
              try simp only [Act.put, List.getElem_toArray, List.getElem_cons_succ, List.getElem_cons_zero, List.setIfInBounds_toArray, List.set_cons_zero, List.set_cons_succ]
              refine wpAnyH_ready (rs := [15]) (by kernel_rfl) (by simp) ?_
              refine AllReadyH.cons (o := _) rfl (fun K hK => ?_) AllReadyH.nil
              rw [if_pos (by rfl)]
              go_simp
              go_at_call 17
              refine (rof_any (ss q) _ (by have := hHeld.b.siz q hq3; have := HTS.out; have := HTL.out; omega)).mono ?_
              rintro e w7 ⟨rfl, hb7⟩
              refine hK.out _ _ (hHeld.later hb7) (fun hHeld => ?_)
              clear hK K hb7
              try dsimp only
              try simp only [Act.put, List.getElem_toArray, List.getElem_cons_succ, List.getElem_cons_zero, List.setIfInBounds_toArray, List.set_cons_zero, List.set_cons_succ]
              refine wpAnyH_take (i := 16) (oi := _) (v := (.bool false)) rfl (by kernel_rfl) (by kernel_rfl) (by kernel_rfl) (fun _ _ _ h => h) (Or.inl ⟨by rfl, fun w' _ => by go_simp⟩) hHeld ?_
              try simp only [Act.put, List.getElem_toArray, List.getElem_cons_succ, List.getElem_cons_zero, List.setIfInBounds_toArray, List.set_cons_zero, List.set_cons_succ]
              refine wpAnyH_take (i := 17) (oi := _) (v := (.bool false)) rfl (by kernel_rfl) (by kernel_rfl) (by kernel_rfl) (fun _ _ _ h => h) (Or.inl ⟨by rfl, fun w' _ => by go_simp⟩) hHeld ?_
              try simp only [Act.put, List.getElem_toArray, List.getElem_cons_succ, List.getElem_cons_zero, List.setIfInBounds_toArray, List.set_cons_zero, List.set_cons_succ]
              refine wpAnyH_done (by kernel_rfl) ?_ _
              refine NoPanic.normal ?_
              have H8 := Lib.hid hHeld
              clear hHeld
              go_wp2_with fail
              go_roundw
              case rel => exact ⟨k + 1, by omega, by go_num, ps, ss, H8.out.b.more (by have := HTS.out; omega)⟩
              case measure => simp [intOf]; omega
            · have hws : (wr.alloc (.cells #[.int .i64 who, .int .i64 kd, .string txt] 52)).heap.size = wr.heap.size + 1 := by simp
              generalize wr.alloc (.cells #[.int .i64 who, .int .i64 kd, .string txt] 52) = W at *
              generalize wr.heap.size = go at *
              have HWS := Lib.hid hws
              clear hws
              refine (fork_any (ps q) (nb (ss q)) W (HO.out.b.st q hq3)).mono ?_
              rintro e w4 ⟨g, hg, rfl, hst, hb4⟩
              have hgn : w.heap.size ≤ g ∧ g ≠ gl ∧ g ≠ gd ∧ ∀ i, i < 3 → ps i ≠ g := ⟨Nat.le_trans HO.out.b.below.size hg, by have := lt_of_row HO.out.b.lrow; omega, by have := lt_of_row HO.out.b.srow; omega, fun i hi => by have := (HO.out.b.st i hi).lt; omega⟩
              have h4 := (HO.out.later hb4).b.more (show tsum f k ≤ tsum f (k + 1) by have := HTS.out; omega)
              obtain ⟨r, hr3, hrq⟩ : ∃ r : Nat, r < 3 ∧ ((q : Int) + 1).tmod 3 = (r : Int) := by
                rcases lt3 hq3 with rfl | rfl | rfl
                · exact ⟨1, by omega, rfl⟩
                · exact ⟨2, by omega, rfl⟩
                · exact ⟨0, by omega, rfl⟩
              have hr0 : (0 : Int) ≤ r := by omega
              have hr1 : (r : Int) < 3 := by omega
              have hwI : IntKind.i64.wrap ((q : Int) + 1) = (q : Int) + 1 := by simp [IntKind.wrap, IntKind.bits, IntKind.signed]; omega
              have hw1 : wrap64 ((q : Int) + 1) = (q : Int) + 1 := by unfold wrap64; omega
              have H4 := Lib.hid h4
              have HST := Lib.hid hst
              have HGN := Lib.hid hgn
              clear h4 hst hgn hb4 hg HO
              go_wp2_with fail
              have hd := H4.out.drew
              have hst := HST.out.far (show w4.drew.heap[g]? = w4.heap[g]? from rfl)
              have cS := hd.cellS q hq3
              have fS := hd.freeS r
              have fL := hd.freeL r
              have cSr := hd.cellS r hr3
              have cLr := hd.cellL r hr3
              clear H4 HST
              refine wp_region_any (by kernel_rfl) ?_
              change wpAny _ _ _ _ _ _ _ (World.drew _)
              generalize w4.drew = wd at *
              have h5 := hd.says hw2 r hr3 (ss q) (hd.siz q hq3)
              have h6 := h5.points hw2 r g 3 (ss q) (.inl ⟨rfl, hr3⟩) hr3 (hd.siz q hq3) (hst.far (Below.heap_setCell _ _ _ _ (by simpa using HGN.out.2.2.1))) ⟨HGN.out.1, HGN.out.2.1, HGN.out.2.2.1⟩ HGN.out.2.2.2
              have h7 := hd.points hw2 r g 3 (ss q) (.inl ⟨rfl, hr3⟩) hr3 (hd.siz q hq3) hst ⟨HGN.out.1, HGN.out.2.1, HGN.out.2.2.1⟩ HGN.out.2.2.2
              have h8 := h7.says hw2 r hr3 (ss q) (hd.siz q hq3)
              have H6 := Lib.hid h6
              have H8 := Lib.hid h8
              clear hd hst h5 h6 h7 h8
              refine wpAny_take (i := 0) (oi := _) (v := (.int .i64 (q : Int))) rfl (by kernel_rfl) (by kernel_rfl) (by kernel_rfl) (fun _ _ _ h => h) (Or.inl ⟨by rfl, fun w' => by go_simp⟩) ?_
              try simp only [Act.put, List.getElem_toArray, List.getElem_cons_succ, List.getElem_cons_zero, List.setIfInBounds_toArray, List.set_cons_zero, List.set_cons_succ]
              refine wpAny_take (i := 1) (oi := _) (v := (.int .i64 ((q : Int) + 1))) rfl (by kernel_rfl) (by kernel_rfl) (by kernel_rfl) (fun _ _ _ h => h) (Or.inl ⟨by rfl, fun w' => by go_simp⟩) ?_
              try simp only [Act.put, List.getElem_toArray, List.getElem_cons_succ, List.getElem_cons_zero, List.setIfInBounds_toArray, List.set_cons_zero, List.set_cons_succ]
              refine wpAny_take (i := 2) (oi := _) (v := (.int .i64 (r : Int))) rfl (by kernel_rfl) (by kernel_rfl) (by kernel_rfl) (fun _ _ _ h => h) (Or.inl ⟨by rfl, fun w' => by go_simp⟩) ?_
              try simp only [Act.put, List.getElem_toArray, List.getElem_cons_succ, List.getElem_cons_zero, List.setIfInBounds_toArray, List.set_cons_zero, List.set_cons_succ]
              refine wpAny_take (i := 3) (oi := _) (v := (.int .i64 (q : Int))) rfl (by kernel_rfl) (by kernel_rfl) (by kernel_rfl) (fun _ _ _ h => h) (Or.inl ⟨by rfl, fun w' => by go_simp⟩) ?_
              try simp only [Act.put, List.getElem_toArray, List.getElem_cons_succ, List.getElem_cons_zero, List.setIfInBounds_toArray, List.set_cons_zero, List.set_cons_succ]
              refine wpAny_take (i := 4) (oi := _) (v := (.int .i64 ((q : Int) + 1))) rfl (by kernel_rfl) (by kernel_rfl) (by kernel_rfl) (fun _ _ _ h => h) (Or.inl ⟨by rfl, fun w' => by go_simp⟩) ?_
              try simp only [Act.put, List.getElem_toArray, List.getElem_cons_succ, List.getElem_cons_zero, List.setIfInBounds_toArray, List.set_cons_zero, List.set_cons_succ]
              refine wpAny_take (i := 5) (oi := _) (v := (.int .i64 (r : Int))) rfl (by kernel_rfl) (by kernel_rfl) (by kernel_rfl) (fun _ _ _ h => h) (Or.inl ⟨by rfl, fun w' => by go_simp⟩) ?_
              try simp only [Act.put, List.getElem_toArray, List.getElem_cons_succ, List.getElem_cons_zero, List.setIfInBounds_toArray, List.set_cons_zero, List.set_cons_succ]
              refine wpAny_take (i := 6) (oi := _) (v := (.pointer (some ⟨g, 0, none⟩))) rfl (by kernel_rfl) (by kernel_rfl) (by kernel_rfl) (fun _ _ _ h => h) (Or.inl ⟨by rfl, fun w' => by go_simp⟩) ?_
              try simp only [Act.put, List.getElem_toArray, List.getElem_cons_succ, List.getElem_cons_zero, List.setIfInBounds_toArray, List.set_cons_zero, List.set_cons_succ]
              refine wpAny_take (i := 7) (oi := _) (v := (.int .i64 (q : Int))) rfl (by kernel_rfl) (by kernel_rfl) (by kernel_rfl) (fun _ _ _ h => h) (Or.inl ⟨by rfl, fun w' => by go_simp⟩) ?_
              try simp only [Act.put, List.getElem_toArray, List.getElem_cons_succ, List.getElem_cons_zero, List.setIfInBounds_toArray, List.set_cons_zero, List.set_cons_succ]
              refine wpAny_take (i := 8) (oi := _) (v := (.pointer (some ⟨gd, q, none⟩))) rfl (by kernel_rfl) (by kernel_rfl) (by kernel_rfl) (fun _ _ _ h => h) (Or.inl ⟨by rfl, fun w' => by go_simp⟩) ?_
              try simp only [Act.put, List.getElem_toArray, List.getElem_cons_succ, List.getElem_cons_zero, List.setIfInBounds_toArray, List.set_cons_zero, List.set_cons_succ]
              refine wpAny_take (i := 10) (oi := _) (v := (.pointer (some ⟨gl, r, none⟩))) rfl (by kernel_rfl) (by kernel_rfl) (by kernel_rfl) (fun _ _ _ h => h) (Or.inl ⟨by rfl, fun w' => by go_simp⟩) ?_
              try simp only [Act.put, List.getElem_toArray, List.getElem_cons_succ, List.getElem_cons_zero, List.setIfInBounds_toArray, List.set_cons_zero, List.set_cons_succ]
              refine wpAny_ready (rs := [9, 11]) (by kernel_rfl) (by simp) ?_
              refine AllReady.cons (o := _) rfl (fun K hK => ?_) (AllReady.cons (o := _) rfl (fun K hK => ?_) AllReady.nil)
              all_goals rw [if_pos (by rfl)]
              · go_simp
                refine hK _ _ ?_
                clear hK K
                try simp only [Act.put, List.getElem_toArray, List.getElem_cons_succ, List.getElem_cons_zero, List.setIfInBounds_toArray, List.set_cons_zero, List.set_cons_succ]
                refine wpAny_ready (rs := [11]) (by kernel_rfl) (by simp) ?_
                refine AllReady.cons (o := _) rfl (fun K hK => ?_) AllReady.nil
                rw [if_pos (by rfl)]
                go_simp
                refine hK _ _ ?_
                clear hK K
                try simp only [Act.put, List.getElem_toArray, List.getElem_cons_succ, List.getElem_cons_zero, List.setIfInBounds_toArray, List.set_cons_zero, List.set_cons_succ]
                refine wpAny_take (i := 12) (oi := _) (v := (.pointer (some ⟨gd, r, none⟩))) rfl (by kernel_rfl) (by kernel_rfl) (by kernel_rfl) (fun _ _ _ h => h) (Or.inl ⟨by rfl, fun w' => by go_simp⟩) ?_
                try simp only [Act.put, List.getElem_toArray, List.getElem_cons_succ, List.getElem_cons_zero, List.setIfInBounds_toArray, List.set_cons_zero, List.set_cons_succ]
                refine wpAny_ready (rs := [13]) (by kernel_rfl) (by simp) ?_
                refine AllReady.cons (o := _) rfl (fun K hK => ?_) AllReady.nil
                rw [if_pos (by rfl)]
                go_simp
                refine hK _ _ ?_
                clear hK K
                try simp only [Act.put, List.getElem_toArray, List.getElem_cons_succ, List.getElem_cons_zero, List.setIfInBounds_toArray, List.set_cons_zero, List.set_cons_succ]
                refine wpAny_done (by kernel_rfl) ?_ _
                go_wp2_with fail
                go_roundw
                case rel => exact ⟨k + 1, by omega, by go_num, _, _, H8.out⟩
                case measure => simp [intOf]; omega
              · go_simp
                refine hK _ _ ?_
                clear hK K
                try simp only [Act.put, List.getElem_toArray, List.getElem_cons_succ, List.getElem_cons_zero, List.setIfInBounds_toArray, List.set_cons_zero, List.set_cons_succ]
                refine wpAny_ready (rs := [9]) (by kernel_rfl) (by simp) ?_
                refine AllReady.cons (o := _) rfl (fun K hK => ?_) AllReady.nil
                rw [if_pos (by rfl)]
                go_simp
                refine hK _ _ ?_
                clear hK K
                try simp only [Act.put, List.getElem_toArray, List.getElem_cons_succ, List.getElem_cons_zero, List.setIfInBounds_toArray, List.set_cons_zero, List.set_cons_succ]
                refine wpAny_take (i := 12) (oi := _) (v := (.pointer (some ⟨gd, r, none⟩))) rfl (by kernel_rfl) (by kernel_rfl) (by kernel_rfl) (fun _ _ _ h => h) (Or.inl ⟨by rfl, fun w' => by go_simp⟩) ?_
                try simp only [Act.put, List.getElem_toArray, List.getElem_cons_succ, List.getElem_cons_zero, List.setIfInBounds_toArray, List.set_cons_zero, List.set_cons_succ]
                refine wpAny_ready (rs := [13]) (by kernel_rfl) (by simp) ?_
                refine AllReady.cons (o := _) rfl (fun K hK => ?_) AllReady.nil
                rw [if_pos (by rfl)]
                go_simp
                refine hK _ _ ?_
                clear hK K
                try simp only [Act.put, List.getElem_toArray, List.getElem_cons_succ, List.getElem_cons_zero, List.setIfInBounds_toArray, List.set_cons_zero, List.set_cons_succ]
                refine wpAny_done (by kernel_rfl) ?_ _
                go_wp2_with fail
                go_roundw
                case rel => exact ⟨k + 1, by omega, by go_num, _, _, H8.out⟩
                case measure => simp [intOf]; omega
            · have hws : (wr.alloc (.cells #[.int .i64 who, .int .i64 kd, .string txt] 52)).heap.size = wr.heap.size + 1 := by simp
              generalize wr.alloc (.cells #[.int .i64 who, .int .i64 kd, .string txt] 52) = W at *
              generalize wr.heap.size = go at *
              have HWS := Lib.hid hws
              clear hws
              refine (reset_at (ps q) (nb (ss q)) W (HO.out.b.st q hq3) HO.out.b.tab).mono ?_
              rintro e w4 ⟨rfl, hst, ho⟩
              have h4 := (HO.out.more (show tsum f k ≤ tsum f (k + 1) by have := HTS.out; omega)).turn hw2 q hq3 ⟨#[]⟩ (Nat.zero_le _) hst ho
              have h5 := h4.b.says hw2 q hq3 ⟨#[]⟩ (Nat.zero_le _)
              have cS := h4.b.cellS q hq3
              have fS := h4.b.freeS q
              have H5 := Lib.hid h5
              clear hst ho HO h4 h5
              go_wp2_with fail
              go_roundw
              case rel => exact ⟨k + 1, by omega, by go_num, ps, _, H5.out⟩
              case measure => simp [intOf]; omega
            · have hws : (wr.alloc (.cells #[.int .i64 who, .int .i64 kd, .string txt] 52)).heap.size = wr.heap.size + 1 := by simp
              generalize wr.alloc (.cells #[.int .i64 who, .int .i64 kd, .string txt] 52) = W at *
              generalize wr.heap.size = go at *
              have HWS := Lib.hid hws
              clear hws
              go_roundw
              case rel => exact ⟨k + 1, by omega, by go_num, ps, ss, HO.out.b.more (by have := HTS.out; omega)⟩
              case measure => simp [intOf]; omega
        · have HP := Lib.hid hp
          have hk1 : ¬ (k : Int) < len := by omega
          have htl := Nat.le_trans (tsum_mono f hk) hsum
          have HTL := Lib.hid htl
          have HTS := Lib.hid (show True from trivial)
          have hrow := HP.out.lrow
          rw [r3_ptr] at hrow
          have HROW := Lib.hid hrow
          have hi0 := run_index_ptr ps 0 (by omega)
          have hi1 := run_index_ptr ps 1 (by omega)
          have hi2 := run_index_ptr ps 2 (by omega)
          rw [show ((0 : Nat) : Int) = 0 from rfl] at hi0
          rw [show ((1 : Nat) : Int) = 1 from rfl] at hi1
          rw [show ((2 : Nat) : Int) = 2 from rfl] at hi2
          clear hp htl hrow
          go_wp2_with (first | (with_reducible refine wpList_load_row rfl 49 _ rfl gl rfl 49 #[.pointer (some ⟨ps 0, 0, none⟩), .pointer (some ⟨ps 1, 0, none⟩), .pointer (some ⟨ps 2, 0, none⟩)] (0, 0) _ ?_ Tryd.underlying49 rfl ?_ ?_))
          · exact HROW.out
          · exact Option.map_eq_some_iff.1 info3L
          · clear HROW
            go_wp2_with fail
            go_loopw [115] (fun i wl => ∃ n : Nat, n ≤ 3 ∧ i = .int .i64 n ∧ PlB w wl gl gd 3 ps ss ss (tsum f k)) (fun i _ => 3 - (intOf i).toNat)
            case atStart => exact ⟨0, by omega, rfl, HP.out⟩
            case round =>
              clear HP
              obtain ⟨n, hn, rfl, hp⟩ := hrel
              obtain ⟨wl, rfl⟩ : ∃ wl : World, wl = wr := ⟨_, rfl⟩
              have HP := Lib.hid hp
              clear hp
              by_cases hn3 : n < 3
              · rcases lt3 hn3 with rfl | rfl | rfl
                · rw [show ((0 : Nat) : Int) = 0 from rfl]
                  go_wp2_with fail
                  refine wp_region_noPanic ?_
                  refine wp_region_held_drew (S := fun w' => PlB w w' gl gd 3 ps ss ss (tsum f k)) (by kernel_rfl) HP.out.drew (fun hHeld => ?_)
                  clear HP
                  refine wpAnyH_take (i := 0) (oi := _) (v := (.pointer (some ⟨ps 0, 0, none⟩))) rfl (by kernel_rfl) (by kernel_rfl) (by kernel_rfl) (fun _ _ _ h => h) (Or.inl ⟨by rfl, fun w' _ => by go_simp⟩) hHeld ?_
                  try simp only [Act.put, List.getElem_toArray, List.getElem_cons_succ, List.getElem_cons_zero, List.setIfInBounds_toArray, List.set_cons_zero, List.set_cons_succ]
                  refine wpAnyH_take (i := 1) (oi := _) (v := (.pointer (some ⟨ps 0, 0, none⟩))) rfl (by kernel_rfl) (by kernel_rfl) (by kernel_rfl) (fun _ _ _ h => h) (Or.inl ⟨by rfl, fun w' _ => by go_simp⟩) hHeld ?_
                  try simp only [Act.put, List.getElem_toArray, List.getElem_cons_succ, List.getElem_cons_zero, List.setIfInBounds_toArray, List.set_cons_zero, List.set_cons_succ]
                  refine wpAnyH_take (i := 2) (oi := _) (v := (.pointer (some ⟨ps 0, 0, none⟩))) rfl (by kernel_rfl) (by kernel_rfl) (by kernel_rfl) (fun _ _ _ h => h) (Or.inl ⟨by rfl, fun w' _ => by go_simp⟩) hHeld ?_
                  try simp only [Act.put, List.getElem_toArray, List.getElem_cons_succ, List.getElem_cons_zero, List.setIfInBounds_toArray, List.set_cons_zero, List.set_cons_succ]
                  refine wpAnyH_take (i := 4) (oi := _) (v := (.int .i64 0)) rfl (by kernel_rfl) (by kernel_rfl) (by kernel_rfl) (fun _ _ _ h => h) (Or.inl ⟨by rfl, fun w' _ => by go_simp⟩) hHeld ?_
                  try simp only [Act.put, List.getElem_toArray, List.getElem_cons_succ, List.getElem_cons_zero, List.setIfInBounds_toArray, List.set_cons_zero, List.set_cons_succ]
                  refine wpAnyH_take (i := 5) (oi := _) (v := (.pointer (some ⟨gd, 0, none⟩))) rfl (by kernel_rfl) (by kernel_rfl) (by kernel_rfl) (fun _ _ _ h => h) (Or.inl ⟨by rfl, fun w' _ => by go_simp⟩) hHeld ?_
                  try simp only [Act.put, List.getElem_toArray, List.getElem_cons_succ, List.getElem_cons_zero, List.setIfInBounds_toArray, List.set_cons_zero, List.set_cons_succ]
                  refine wpAnyH_take (i := 6) (oi := _) (v := (.string (ss 0))) rfl (by kernel_rfl) (by kernel_rfl) (by kernel_rfl) (fun _ _ _ h => h) (Or.inl ⟨by rfl, fun w' hSw => by have h1 := hSw.cellS 0 (by omega); go_simp⟩) hHeld ?_
                  try simp only [Act.put, List.getElem_toArray, List.getElem_cons_succ, List.getElem_cons_zero, List.setIfInBounds_toArray, List.set_cons_zero, List.set_cons_succ]
                  refine wpAnyH_take (i := 7) (oi := _) (v := (.int .i64 (ss 0).size)) rfl (by kernel_rfl) (by kernel_rfl) (by kernel_rfl) (fun _ _ _ h => h) (Or.inl ⟨by rfl, fun w' _ => by go_simp⟩) hHeld ?_
                  try simp only [Act.put, List.getElem_toArray, List.getElem_cons_succ, List.getElem_cons_zero, List.setIfInBounds_toArray, List.set_cons_zero, List.set_cons_succ]
                  refine wpAnyH_ready (rs := [3]) (by kernel_rfl) (by simp) ?_
                  refine AllReadyH.cons (o := _) rfl (fun K hK => ?_) AllReadyH.nil
                  rw [if_pos (by rfl)]
                  go_simp
                  go_at_call 26
                  refine (size_any (ps 0) _ _ (hHeld.st 0 (by omega))).mono ?_
                  rintro e w5 ⟨rfl, rfl⟩
                  rw [nb_length]
                  refine hK.out _ _ hHeld (fun hHeld => ?_)
                  clear hK K
                  try dsimp only
                  try simp only [Act.put, List.getElem_toArray, List.getElem_cons_succ, List.getElem_cons_zero, List.setIfInBounds_toArray, List.set_cons_zero, List.set_cons_succ]
                  refine wpAnyH_take (i := 8) (oi := _) (v := (.bool false)) rfl (by kernel_rfl) (by kernel_rfl) (by kernel_rfl) (fun _ _ _ h => h) (Or.inl ⟨by rfl, fun w' _ => by go_simp⟩) hHeld ?_
                  try simp only [Act.put, List.getElem_toArray, List.getElem_cons_succ, List.getElem_cons_zero, List.setIfInBounds_toArray, List.set_cons_zero, List.set_cons_succ]
                  refine wpAnyH_take (i := 9) (oi := _) (v := (.bool false)) rfl (by kernel_rfl) (by kernel_rfl) (by kernel_rfl) (fun _ _ _ h => h) (Or.inl ⟨by rfl, fun w' _ => by go_simp⟩) hHeld ?_
                  try simp only [Act.put, List.getElem_toArray, List.getElem_cons_succ, List.getElem_cons_zero, List.setIfInBounds_toArray, List.set_cons_zero, List.set_cons_succ]
                  refine wpAnyH_take (i := 10) (oi := _) (v := (.pointer (some ⟨ps 0, 0, none⟩))) rfl (by kernel_rfl) (by kernel_rfl) (by kernel_rfl) (fun _ _ _ h => h) (Or.inl ⟨by rfl, fun w' _ => by go_simp⟩) hHeld ?_
                  try simp only [Act.put, List.getElem_toArray, List.getElem_cons_succ, List.getElem_cons_zero, List.setIfInBounds_toArray, List.set_cons_zero, List.set_cons_succ]
                  refine wpAnyH_take (i := 12) (oi := _) (v := (.int .i64 0)) rfl (by kernel_rfl) (by kernel_rfl) (by kernel_rfl) (fun _ _ _ h => h) (Or.inl ⟨by rfl, fun w' _ => by go_simp⟩) hHeld ?_
                  try simp only [Act.put, List.getElem_toArray, List.getElem_cons_succ, List.getElem_cons_zero, List.setIfInBounds_toArray, List.set_cons_zero, List.set_cons_succ]
                  refine wpAnyH_take (i := 13) (oi := _) (v := (.pointer (some ⟨gd, 0, none⟩))) rfl (by kernel_rfl) (by kernel_rfl) (by kernel_rfl) (fun _ _ _ h => h) (Or.inl ⟨by rfl, fun w' _ => by go_simp⟩) hHeld ?_
                  try simp only [Act.put, List.getElem_toArray, List.getElem_cons_succ, List.getElem_cons_zero, List.setIfInBounds_toArray, List.set_cons_zero, List.set_cons_succ]
                  refine wpAnyH_take (i := 14) (oi := _) (v := (.string (ss 0))) rfl (by kernel_rfl) (by kernel_rfl) (by kernel_rfl) (fun _ _ _ h => h) (Or.inl ⟨by rfl, fun w' hSw => by have h1 := hSw.cellS 0 (by omega); go_simp⟩) hHeld ?_
                  try simp only [Act.put, List.getElem_toArray, List.getElem_cons_succ, List.getElem_cons_zero, List.setIfInBounds_toArray, List.set_cons_zero, List.set_cons_succ]
                  refine wpAnyH_ready (rs := [11]) (by kernel_rfl) (by simp) ?_
                  refine AllReadyH.cons (o := _) rfl (fun K hK => ?_) AllReadyH.nil
                  rw [if_pos (by rfl)]
                  go_simp
                  go_at_call 25
                  refine (sum_any (ps 0) _ _ (hHeld.st 0 (by omega)) hHeld.tab (by rw [nb_length]; have := hHeld.siz 0 (by omega); have := HTS.out; have := HTL.out; omega)).mono ?_
                  rintro e w6 ⟨rfl, hb6⟩
                  refine hK.out _ _ (hHeld.later hb6) (fun hHeld => ?_)
                  clear hK K hb6
                  try dsimp only
                  try simp only [Act.put, List.getElem_toArray, List.getElem_cons_succ, List.getElem_cons_zero, List.setIfInBounds_toArray, List.set_cons_zero, List.set_cons_succ]
                  refine wpAnyH_ready (rs := [15]) (by kernel_rfl) (by simp) ?_
                  refine AllReadyH.cons (o := _) rfl (fun K hK => ?_) AllReadyH.nil
                  rw [if_pos (by rfl)]
                  go_simp
                  go_at_call 17
                  refine (rof_any (ss 0) _ (by have := hHeld.siz 0 (by omega); have := HTS.out; have := HTL.out; omega)).mono ?_
                  rintro e w7 ⟨rfl, hb7⟩
                  refine hK.out _ _ (hHeld.later hb7) (fun hHeld => ?_)
                  clear hK K hb7
                  try dsimp only
                  try simp only [Act.put, List.getElem_toArray, List.getElem_cons_succ, List.getElem_cons_zero, List.setIfInBounds_toArray, List.set_cons_zero, List.set_cons_succ]
                  refine wpAnyH_take (i := 16) (oi := _) (v := (.bool false)) rfl (by kernel_rfl) (by kernel_rfl) (by kernel_rfl) (fun _ _ _ h => h) (Or.inl ⟨by rfl, fun w' _ => by go_simp⟩) hHeld ?_
                  try simp only [Act.put, List.getElem_toArray, List.getElem_cons_succ, List.getElem_cons_zero, List.setIfInBounds_toArray, List.set_cons_zero, List.set_cons_succ]
                  refine wpAnyH_take (i := 17) (oi := _) (v := (.bool false)) rfl (by kernel_rfl) (by kernel_rfl) (by kernel_rfl) (fun _ _ _ h => h) (Or.inl ⟨by rfl, fun w' _ => by go_simp⟩) hHeld ?_
                  try simp only [Act.put, List.getElem_toArray, List.getElem_cons_succ, List.getElem_cons_zero, List.setIfInBounds_toArray, List.set_cons_zero, List.set_cons_succ]
                  refine wpAnyH_done (by kernel_rfl) ?_ _
                  refine NoPanic.normal ?_
                  have H8 := Lib.hid hHeld
                  clear hHeld
                  go_wp2_with fail
                  go_roundw
                  case rel => exact ⟨1, by omega, by go_num, H8.out⟩
                  case measure => simp [intOf]
                · rw [show ((1 : Nat) : Int) = 1 from rfl]
                  go_wp2_with fail
                  refine wp_region_noPanic ?_
                  refine wp_region_held_drew (S := fun w' => PlB w w' gl gd 3 ps ss ss (tsum f k)) (by kernel_rfl) HP.out.drew (fun hHeld => ?_)
                  clear HP
                  refine wpAnyH_take (i := 0) (oi := _) (v := (.pointer (some ⟨ps 1, 0, none⟩))) rfl (by kernel_rfl) (by kernel_rfl) (by kernel_rfl) (fun _ _ _ h => h) (Or.inl ⟨by rfl, fun w' _ => by go_simp⟩) hHeld ?_
                  try simp only [Act.put, List.getElem_toArray, List.getElem_cons_succ, List.getElem_cons_zero, List.setIfInBounds_toArray, List.set_cons_zero, List.set_cons_succ]
                  refine wpAnyH_take (i := 1) (oi := _) (v := (.pointer (some ⟨ps 1, 0, none⟩))) rfl (by kernel_rfl) (by kernel_rfl) (by kernel_rfl) (fun _ _ _ h => h) (Or.inl ⟨by rfl, fun w' _ => by go_simp⟩) hHeld ?_
                  try simp only [Act.put, List.getElem_toArray, List.getElem_cons_succ, List.getElem_cons_zero, List.setIfInBounds_toArray, List.set_cons_zero, List.set_cons_succ]
                  refine wpAnyH_take (i := 2) (oi := _) (v := (.pointer (some ⟨ps 1, 0, none⟩))) rfl (by kernel_rfl) (by kernel_rfl) (by kernel_rfl) (fun _ _ _ h => h) (Or.inl ⟨by rfl, fun w' _ => by go_simp⟩) hHeld ?_
                  try simp only [Act.put, List.getElem_toArray, List.getElem_cons_succ, List.getElem_cons_zero, List.setIfInBounds_toArray, List.set_cons_zero, List.set_cons_succ]
                  refine wpAnyH_take (i := 4) (oi := _) (v := (.int .i64 1)) rfl (by kernel_rfl) (by kernel_rfl) (by kernel_rfl) (fun _ _ _ h => h) (Or.inl ⟨by rfl, fun w' _ => by go_simp⟩) hHeld ?_
                  try simp only [Act.put, List.getElem_toArray, List.getElem_cons_succ, List.getElem_cons_zero, List.setIfInBounds_toArray, List.set_cons_zero, List.set_cons_succ]
                  refine wpAnyH_take (i := 5) (oi := _) (v := (.pointer (some ⟨gd, 1, none⟩))) rfl (by kernel_rfl) (by kernel_rfl) (by kernel_rfl) (fun _ _ _ h => h) (Or.inl ⟨by rfl, fun w' _ => by go_simp⟩) hHeld ?_
                  try simp only [Act.put, List.getElem_toArray, List.getElem_cons_succ, List.getElem_cons_zero, List.setIfInBounds_toArray, List.set_cons_zero, List.set_cons_succ]
                  refine wpAnyH_take (i := 6) (oi := _) (v := (.string (ss 1))) rfl (by kernel_rfl) (by kernel_rfl) (by kernel_rfl) (fun _ _ _ h => h) (Or.inl ⟨by rfl, fun w' hSw => by have h1 := hSw.cellS 1 (by omega); go_simp⟩) hHeld ?_
                  try simp only [Act.put, List.getElem_toArray, List.getElem_cons_succ, List.getElem_cons_zero, List.setIfInBounds_toArray, List.set_cons_zero, List.set_cons_succ]
                  refine wpAnyH_take (i := 7) (oi := _) (v := (.int .i64 (ss 1).size)) rfl (by kernel_rfl) (by kernel_rfl) (by kernel_rfl) (fun _ _ _ h => h) (Or.inl ⟨by rfl, fun w' _ => by go_simp⟩) hHeld ?_
                  try simp only [Act.put, List.getElem_toArray, List.getElem_cons_succ, List.getElem_cons_zero, List.setIfInBounds_toArray, List.set_cons_zero, List.set_cons_succ]
                  refine wpAnyH_ready (rs := [3]) (by kernel_rfl) (by simp) ?_
                  refine AllReadyH.cons (o := _) rfl (fun K hK => ?_) AllReadyH.nil
                  rw [if_pos (by rfl)]
                  go_simp
                  go_at_call 26
                  refine (size_any (ps 1) _ _ (hHeld.st 1 (by omega))).mono ?_
                  rintro e w5 ⟨rfl, rfl⟩
                  rw [nb_length]
                  refine hK.out _ _ hHeld (fun hHeld => ?_)
                  clear hK K
                  try dsimp only
                  try simp only [Act.put, List.getElem_toArray, List.getElem_cons_succ, List.getElem_cons_zero, List.setIfInBounds_toArray, List.set_cons_zero, List.set_cons_succ]
                  refine wpAnyH_take (i := 8) (oi := _) (v := (.bool false)) rfl (by kernel_rfl) (by kernel_rfl) (by kernel_rfl) (fun _ _ _ h => h) (Or.inl ⟨by rfl, fun w' _ => by go_simp⟩) hHeld ?_
                  try simp only [Act.put, List.getElem_toArray, List.getElem_cons_succ, List.getElem_cons_zero, List.setIfInBounds_toArray, List.set_cons_zero, List.set_cons_succ]
                  refine wpAnyH_take (i := 9) (oi := _) (v := (.bool false)) rfl (by kernel_rfl) (by kernel_rfl) (by kernel_rfl) (fun _ _ _ h => h) (Or.inl ⟨by rfl, fun w' _ => by go_simp⟩) hHeld ?_
                  try simp only [Act.put, List.getElem_toArray, List.getElem_cons_succ, List.getElem_cons_zero, List.setIfInBounds_toArray, List.set_cons_zero, List.set_cons_succ]
                  refine wpAnyH_take (i := 10) (oi := _) (v := (.pointer (some ⟨ps 1, 0, none⟩))) rfl (by kernel_rfl) (by kernel_rfl) (by kernel_rfl) (fun _ _ _ h => h) (Or.inl ⟨by rfl, fun w' _ => by go_simp⟩) hHeld ?_
                  try simp only [Act.put, List.getElem_toArray, List.getElem_cons_succ, List.getElem_cons_zero, List.setIfInBounds_toArray, List.set_cons_zero, List.set_cons_succ]
                  refine wpAnyH_take (i := 12) (oi := _) (v := (.int .i64 1)) rfl (by kernel_rfl) (by kernel_rfl) (by kernel_rfl) (fun _ _ _ h => h) (Or.inl ⟨by rfl, fun w' _ => by go_simp⟩) hHeld ?_
                  try simp only [Act.put, List.getElem_toArray, List.getElem_cons_succ, List.getElem_cons_zero, List.setIfInBounds_toArray, List.set_cons_zero, List.set_cons_succ]
                  refine wpAnyH_take (i := 13) (oi := _) (v := (.pointer (some ⟨gd, 1, none⟩))) rfl (by kernel_rfl) (by kernel_rfl) (by kernel_rfl) (fun _ _ _ h => h) (Or.inl ⟨by rfl, fun w' _ => by go_simp⟩) hHeld ?_
                  try simp only [Act.put, List.getElem_toArray, List.getElem_cons_succ, List.getElem_cons_zero, List.setIfInBounds_toArray, List.set_cons_zero, List.set_cons_succ]
                  refine wpAnyH_take (i := 14) (oi := _) (v := (.string (ss 1))) rfl (by kernel_rfl) (by kernel_rfl) (by kernel_rfl) (fun _ _ _ h => h) (Or.inl ⟨by rfl, fun w' hSw => by have h1 := hSw.cellS 1 (by omega); go_simp⟩) hHeld ?_
                  try simp only [Act.put, List.getElem_toArray, List.getElem_cons_succ, List.getElem_cons_zero, List.setIfInBounds_toArray, List.set_cons_zero, List.set_cons_succ]
                  refine wpAnyH_ready (rs := [11]) (by kernel_rfl) (by simp) ?_
                  refine AllReadyH.cons (o := _) rfl (fun K hK => ?_) AllReadyH.nil
                  rw [if_pos (by rfl)]
                  go_simp
                  go_at_call 25
                  refine (sum_any (ps 1) _ _ (hHeld.st 1 (by omega)) hHeld.tab (by rw [nb_length]; have := hHeld.siz 1 (by omega); have := HTS.out; have := HTL.out; omega)).mono ?_
                  rintro e w6 ⟨rfl, hb6⟩
                  refine hK.out _ _ (hHeld.later hb6) (fun hHeld => ?_)
                  clear hK K hb6
                  try dsimp only
                  try simp only [Act.put, List.getElem_toArray, List.getElem_cons_succ, List.getElem_cons_zero, List.setIfInBounds_toArray, List.set_cons_zero, List.set_cons_succ]
                  refine wpAnyH_ready (rs := [15]) (by kernel_rfl) (by simp) ?_
                  refine AllReadyH.cons (o := _) rfl (fun K hK => ?_) AllReadyH.nil
                  rw [if_pos (by rfl)]
                  go_simp
                  go_at_call 17
                  refine (rof_any (ss 1) _ (by have := hHeld.siz 1 (by omega); have := HTS.out; have := HTL.out; omega)).mono ?_
                  rintro e w7 ⟨rfl, hb7⟩
                  refine hK.out _ _ (hHeld.later hb7) (fun hHeld => ?_)
                  clear hK K hb7
                  try dsimp only
                  try simp only [Act.put, List.getElem_toArray, List.getElem_cons_succ, List.getElem_cons_zero, List.setIfInBounds_toArray, List.set_cons_zero, List.set_cons_succ]
                  refine wpAnyH_take (i := 16) (oi := _) (v := (.bool false)) rfl (by kernel_rfl) (by kernel_rfl) (by kernel_rfl) (fun _ _ _ h => h) (Or.inl ⟨by rfl, fun w' _ => by go_simp⟩) hHeld ?_
                  try simp only [Act.put, List.getElem_toArray, List.getElem_cons_succ, List.getElem_cons_zero, List.setIfInBounds_toArray, List.set_cons_zero, List.set_cons_succ]
                  refine wpAnyH_take (i := 17) (oi := _) (v := (.bool false)) rfl (by kernel_rfl) (by kernel_rfl) (by kernel_rfl) (fun _ _ _ h => h) (Or.inl ⟨by rfl, fun w' _ => by go_simp⟩) hHeld ?_
                  try simp only [Act.put, List.getElem_toArray, List.getElem_cons_succ, List.getElem_cons_zero, List.setIfInBounds_toArray, List.set_cons_zero, List.set_cons_succ]
                  refine wpAnyH_done (by kernel_rfl) ?_ _
                  refine NoPanic.normal ?_
                  have H8 := Lib.hid hHeld
                  clear hHeld
                  go_wp2_with fail
                  go_roundw
                  case rel => exact ⟨2, by omega, by go_num, H8.out⟩
                  case measure => simp [intOf]
                · rw [show ((2 : Nat) : Int) = 2 from rfl]
                  go_wp2_with fail
                  refine wp_region_noPanic ?_
                  refine wp_region_held_drew (S := fun w' => PlB w w' gl gd 3 ps ss ss (tsum f k)) (by kernel_rfl) HP.out.drew (fun hHeld => ?_)
                  clear HP
                  refine wpAnyH_take (i := 0) (oi := _) (v := (.pointer (some ⟨ps 2, 0, none⟩))) rfl (by kernel_rfl) (by kernel_rfl) (by kernel_rfl) (fun _ _ _ h => h) (Or.inl ⟨by rfl, fun w' _ => by go_simp⟩) hHeld ?_
                  try simp only [Act.put, List.getElem_toArray, List.getElem_cons_succ, List.getElem_cons_zero, List.setIfInBounds_toArray, List.set_cons_zero, List.set_cons_succ]
                  refine wpAnyH_take (i := 1) (oi := _) (v := (.pointer (some ⟨ps 2, 0, none⟩))) rfl (by kernel_rfl) (by kernel_rfl) (by kernel_rfl) (fun _ _ _ h => h) (Or.inl ⟨by rfl, fun w' _ => by go_simp⟩) hHeld ?_
                  try simp only [Act.put, List.getElem_toArray, List.getElem_cons_succ, List.getElem_cons_zero, List.setIfInBounds_toArray, List.set_cons_zero, List.set_cons_succ]
                  refine wpAnyH_take (i := 2) (oi := _) (v := (.pointer (some ⟨ps 2, 0, none⟩))) rfl (by kernel_rfl) (by kernel_rfl) (by kernel_rfl) (fun _ _ _ h => h) (Or.inl ⟨by rfl, fun w' _ => by go_simp⟩) hHeld ?_
                  try simp only [Act.put, List.getElem_toArray, List.getElem_cons_succ, List.getElem_cons_zero, List.setIfInBounds_toArray, List.set_cons_zero, List.set_cons_succ]
                  refine wpAnyH_take (i := 4) (oi := _) (v := (.int .i64 2)) rfl (by kernel_rfl) (by kernel_rfl) (by kernel_rfl) (fun _ _ _ h => h) (Or.inl ⟨by rfl, fun w' _ => by go_simp⟩) hHeld ?_
                  try simp only [Act.put, List.getElem_toArray, List.getElem_cons_succ, List.getElem_cons_zero, List.setIfInBounds_toArray, List.set_cons_zero, List.set_cons_succ]
                  refine wpAnyH_take (i := 5) (oi := _) (v := (.pointer (some ⟨gd, 2, none⟩))) rfl (by kernel_rfl) (by kernel_rfl) (by kernel_rfl) (fun _ _ _ h => h) (Or.inl ⟨by rfl, fun w' _ => by go_simp⟩) hHeld ?_
                  try simp only [Act.put, List.getElem_toArray, List.getElem_cons_succ, List.getElem_cons_zero, List.setIfInBounds_toArray, List.set_cons_zero, List.set_cons_succ]
                  refine wpAnyH_take (i := 6) (oi := _) (v := (.string (ss 2))) rfl (by kernel_rfl) (by kernel_rfl) (by kernel_rfl) (fun _ _ _ h => h) (Or.inl ⟨by rfl, fun w' hSw => by have h1 := hSw.cellS 2 (by omega); go_simp⟩) hHeld ?_
                  try simp only [Act.put, List.getElem_toArray, List.getElem_cons_succ, List.getElem_cons_zero, List.setIfInBounds_toArray, List.set_cons_zero, List.set_cons_succ]
                  refine wpAnyH_take (i := 7) (oi := _) (v := (.int .i64 (ss 2).size)) rfl (by kernel_rfl) (by kernel_rfl) (by kernel_rfl) (fun _ _ _ h => h) (Or.inl ⟨by rfl, fun w' _ => by go_simp⟩) hHeld ?_
                  try simp only [Act.put, List.getElem_toArray, List.getElem_cons_succ, List.getElem_cons_zero, List.setIfInBounds_toArray, List.set_cons_zero, List.set_cons_succ]
                  refine wpAnyH_ready (rs := [3]) (by kernel_rfl) (by simp) ?_
                  refine AllReadyH.cons (o := _) rfl (fun K hK => ?_) AllReadyH.nil
                  rw [if_pos (by rfl)]
                  go_simp
                  go_at_call 26
                  refine (size_any (ps 2) _ _ (hHeld.st 2 (by omega))).mono ?_
                  rintro e w5 ⟨rfl, rfl⟩
                  rw [nb_length]
                  refine hK.out _ _ hHeld (fun hHeld => ?_)
                  clear hK K
                  try dsimp only
                  try simp only [Act.put, List.getElem_toArray, List.getElem_cons_succ, List.getElem_cons_zero, List.setIfInBounds_toArray, List.set_cons_zero, List.set_cons_succ]
                  refine wpAnyH_take (i := 8) (oi := _) (v := (.bool false)) rfl (by kernel_rfl) (by kernel_rfl) (by kernel_rfl) (fun _ _ _ h => h) (Or.inl ⟨by rfl, fun w' _ => by go_simp⟩) hHeld ?_
                  try simp only [Act.put, List.getElem_toArray, List.getElem_cons_succ, List.getElem_cons_zero, List.setIfInBounds_toArray, List.set_cons_zero, List.set_cons_succ]
                  refine wpAnyH_take (i := 9) (oi := _) (v := (.bool false)) rfl (by kernel_rfl) (by kernel_rfl) (by kernel_rfl) (fun _ _ _ h => h) (Or.inl ⟨by rfl, fun w' _ => by go_simp⟩) hHeld ?_
                  try simp only [Act.put, List.getElem_toArray, List.getElem_cons_succ, List.getElem_cons_zero, List.setIfInBounds_toArray, List.set_cons_zero, List.set_cons_succ]
                  refine wpAnyH_take (i := 10) (oi := _) (v := (.pointer (some ⟨ps 2, 0, none⟩))) rfl (by kernel_rfl) (by kernel_rfl) (by kernel_rfl) (fun _ _ _ h => h) (Or.inl ⟨by rfl, fun w' _ => by go_simp⟩) hHeld ?_
                  try simp only [Act.put, List.getElem_toArray, List.getElem_cons_succ, List.getElem_cons_zero, List.setIfInBounds_toArray, List.set_cons_zero, List.set_cons_succ]
                  refine wpAnyH_take (i := 12) (oi := _) (v := (.int .i64 2)) rfl (by kernel_rfl) (by kernel_rfl) (by kernel_rfl) (fun _ _ _ h => h) (Or.inl ⟨by rfl, fun w' _ => by go_simp⟩) hHeld ?_
                  try simp only [Act.put, List.getElem_toArray, List.getElem_cons_succ, List.getElem_cons_zero, List.setIfInBounds_toArray, List.set_cons_zero, List.set_cons_succ]
                  refine wpAnyH_take (i := 13) (oi := _) (v := (.pointer (some ⟨gd, 2, none⟩))) rfl (by kernel_rfl) (by kernel_rfl) (by kernel_rfl) (fun _ _ _ h => h) (Or.inl ⟨by rfl, fun w' _ => by go_simp⟩) hHeld ?_
                  try simp only [Act.put, List.getElem_toArray, List.getElem_cons_succ, List.getElem_cons_zero, List.setIfInBounds_toArray, List.set_cons_zero, List.set_cons_succ]
                  refine wpAnyH_take (i := 14) (oi := _) (v := (.string (ss 2))) rfl (by kernel_rfl) (by kernel_rfl) (by kernel_rfl) (fun _ _ _ h => h) (Or.inl ⟨by rfl, fun w' hSw => by have h1 := hSw.cellS 2 (by omega); go_simp⟩) hHeld ?_
                  try simp only [Act.put, List.getElem_toArray, List.getElem_cons_succ, List.getElem_cons_zero, List.setIfInBounds_toArray, List.set_cons_zero, List.set_cons_succ]
                  refine wpAnyH_ready (rs := [11]) (by kernel_rfl) (by simp) ?_
                  refine AllReadyH.cons (o := _) rfl (fun K hK => ?_) AllReadyH.nil
                  rw [if_pos (by rfl)]
                  go_simp
                  go_at_call 25
                  refine (sum_any (ps 2) _ _ (hHeld.st 2 (by omega)) hHeld.tab (by rw [nb_length]; have := hHeld.siz 2 (by omega); have := HTS.out; have := HTL.out; omega)).mono ?_
                  rintro e w6 ⟨rfl, hb6⟩
                  refine hK.out _ _ (hHeld.later hb6) (fun hHeld => ?_)
                  clear hK K hb6
                  try dsimp only
                  try simp only [Act.put, List.getElem_toArray, List.getElem_cons_succ, List.getElem_cons_zero, List.setIfInBounds_toArray, List.set_cons_zero, List.set_cons_succ]
                  refine wpAnyH_ready (rs := [15]) (by kernel_rfl) (by simp) ?_
                  refine AllReadyH.cons (o := _) rfl (fun K hK => ?_) AllReadyH.nil
                  rw [if_pos (by rfl)]
                  go_simp
                  go_at_call 17
                  refine (rof_any (ss 2) _ (by have := hHeld.siz 2 (by omega); have := HTS.out; have := HTL.out; omega)).mono ?_
                  rintro e w7 ⟨rfl, hb7⟩
                  refine hK.out _ _ (hHeld.later hb7) (fun hHeld => ?_)
                  clear hK K hb7
                  try dsimp only
                  try simp only [Act.put, List.getElem_toArray, List.getElem_cons_succ, List.getElem_cons_zero, List.setIfInBounds_toArray, List.set_cons_zero, List.set_cons_succ]
                  refine wpAnyH_take (i := 16) (oi := _) (v := (.bool false)) rfl (by kernel_rfl) (by kernel_rfl) (by kernel_rfl) (fun _ _ _ h => h) (Or.inl ⟨by rfl, fun w' _ => by go_simp⟩) hHeld ?_
                  try simp only [Act.put, List.getElem_toArray, List.getElem_cons_succ, List.getElem_cons_zero, List.setIfInBounds_toArray, List.set_cons_zero, List.set_cons_succ]
                  refine wpAnyH_take (i := 17) (oi := _) (v := (.bool false)) rfl (by kernel_rfl) (by kernel_rfl) (by kernel_rfl) (fun _ _ _ h => h) (Or.inl ⟨by rfl, fun w' _ => by go_simp⟩) hHeld ?_
                  try simp only [Act.put, List.getElem_toArray, List.getElem_cons_succ, List.getElem_cons_zero, List.setIfInBounds_toArray, List.set_cons_zero, List.set_cons_succ]
                  refine wpAnyH_done (by kernel_rfl) ?_ _
                  refine NoPanic.normal ?_
                  have H8 := Lib.hid hHeld
                  clear hHeld
                  go_wp2_with fail
                  go_roundw
                  case rel => exact ⟨3, by omega, by go_num, H8.out⟩
                  case measure => simp [intOf]
              · obtain rfl : n = 3 := by omega
                rw [show ((3 : Nat) : Int) = 3 from rfl]
                go_wp2_with fail
                go_ret
                exact ⟨rfl, HP.out.below⟩
end Go.Proofs.YtemioilfedpohaaDoor

