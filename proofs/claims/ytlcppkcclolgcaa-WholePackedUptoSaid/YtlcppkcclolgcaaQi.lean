/- The walk of pieces: a text cut. -/
import Derived.Test.YtlcppkcclolgcaaQh
namespace Go.Proofs.Ytlcppkcclolgcaa
set_option linter.unusedVariables false
set_option linter.unusedSimpArgs false
open Go.RowKit
def IsRow (k : IntKind) (w : World) (a : Option Addr) (len cap : Nat) (zs : List Int) : Prop :=
  (a = none ∧ len = 0 ∧ cap = 0 ∧ zs = []) ∨
  ∃ x, a = some x ∧ len ≤ cap ∧ cap ≤ maxLen ∧ zs.length = cap ∧ (∀ i, i < zs.length → w.cell? (x.add i) = some (.int k (zs.getD i 0))) ∧ ∀ n ∈ zs, (Lit.int k n).wf = true
theorem IsRow.at_ {k : IntKind} {w : World} {a : Option Addr} {len cap : Nat} {zs : List Int} (h : IsRow k w a len cap zs) (h0 : 0 < len) :
    ∃ x, a = some x ∧ x.block < w.heap.size ∧ len ≤ zs.length ∧ (∀ i, i < len → w.cell? (x.add i) = some (.int k (zs.getD i 0))) ∧ ∀ n ∈ zs, (Lit.int k n).wf = true := by
  rcases h with ⟨_, rfl, _, _⟩ | ⟨x, rfl, h1, _, h2, h3, h4⟩
  · omega
  · have hc := h3 0 (by omega)
    have hb : (x.add 0).block = x.block := block_add x 0
    exact ⟨x, rfl, by have := block_lt_of_cell hc; rwa [hb] at this, by omega, fun i hi => h3 i (by omega), h4⟩
theorem nb_extract (s : ByteArray) (a b : Nat) (h : b ≤ s.size) : nb (s.extract a b) = ((nb s).drop a).take (b - a) := by
  unfold nb
  rw [ByteArray.data_extract, Array.toList_extract, List.extract_eq_take_drop, List.map_take, List.map_drop]
theorem take_more (T : List Nat) (a m : Nat) : T.take a ++ (T.drop a).take m = T.take (a + m) := by rw [List.take_add]
/-- the pieces so far -/
structure PcS (w0 : World) (w : World) (v : Value) (s : ByteArray) (p : Nat) (pcs : List ByteArray) : Prop where
  own : w.ownsRow w0.heap.size 9 1 v pcs.length (pcs.map Value.string)
  txt : (pcs.map nb).flatten = (nb s).take p
  bel : Below w0.heap.size w0 w
theorem str_one (s : ByteArray) : ∀ u ∈ [Value.string s], u.oneCell' = true := by
  intro u hu
  simp only [List.mem_cons, List.not_mem_nil, or_false] at hu
  rw [hu]; rfl
theorem PcS.next {w0 w w' : World} {v v' : Value} {s e : ByteArray} {p m : Nat} {pcs : List ByteArray} (H : PcS w0 w v s p pcs) (he : s.extract p (p + m) = e) (hm : p + m ≤ s.size)
    (ho : w'.ownsRow w0.heap.size 9 1 v' (pcs.length + 1) (pcs.map Value.string ++ [.string e])) (hb : Below w0.heap.size w w') : PcS w0 w' v' s (p + m) (pcs ++ [e]) := by
  refine ⟨?_, ?_, H.bel.trans hb⟩
  · rw [List.length_append, List.map_append]
    exact ho
  · rw [List.map_append, List.flatten_append, H.txt, ← take_more, ← he]
    simp only [List.map_cons, List.map_nil, List.flatten_cons, List.flatten_nil, List.append_nil]
    rw [nb_extract s p (p + m) hm, show p + m - p = m by omega]
def PcP (w0 : World) (s : ByteArray) (len : Nat) (e : Ending) (w' : World) : Prop := ∃ v pcs, e = .returned v ∧ PcS w0 w' v s s.size pcs ∧ pcs.length = len + 1
set_option maxRecDepth 100000 in
set_option maxHeartbeats 4000000 in
theorem pieces_any (s : ByteArray) (hs : s.size ≤ 140737488351232) (a : Option Addr) (len cap : Nat) (zs : List Int) (w : World) (hrow : IsRow .i64 w a len cap zs) (hlen : len ≤ 1048576) :
    Calls Try.prog 9 #[.string s, .slice a len cap] w fun e w' => PcP w s len e w' := by
  have HROW := Lib.hid hrow
  have hlI : (len : Int) ≤ 1048576 := by omega
  have hl0 : (0 : Int) ≤ len := by omega
  clear hrow
  obtain ⟨i0, hi0, hz0, hz1, hz2⟩ := info_parts (show (Try.prog.info? 9).map (fun i => (i.zero, i.size, i.bytes)) = some (some (.string ⟨#[]⟩), 1, 16) by kernel_rfl)
  go_enter Try.func9, Try.ntmps9
  go_wp2_with fail
  go_loopw [5, 6, 11] (fun x5 x6 x11 wr => ∃ (k p : Nat) (pcs : List ByteArray), x6 = .int .i64 (p : Nat) ∧ x11 = .int .i64 (k : Nat) ∧ k ≤ len ∧ p ≤ s.size ∧ pcs.length = k ∧ PcS w wr x5 s p pcs) (fun _ _ x11 _ => len - (intOf x11).toNat)
  case atStart => exact ⟨0, 0, [], rfl, rfl, Nat.zero_le _, Nat.zero_le _, rfl, World.ownsRow_nil _ _ _ _, rfl, Below.refl _ _⟩
  case round =>
    obtain ⟨k, p, pcs, rfl, rfl, hk, hp, hpk, hP⟩ := hrel
    have HP := Lib.hid hP
    clear hP
    have hk0 : (0 : Int) ≤ k := by omega
    have hpI : (p : Int) ≤ s.size := by omega
    have hp0 : (0 : Int) ≤ p := by omega
    have hsI : (s.size : Int) ≤ 140737488351232 := by omega
    by_cases hlt : k < len
    · obtain ⟨x, rfl, hxb, hzl, hcells, hwf⟩ := HROW.out.at_ (by omega)
      have c0 : wr.cell? (x.add k) = some (.int .i64 (zs.getD k 0)) := by
        rw [HP.out.bel.cell (by rw [block_add]; exact hxb)]
        exact hcells k hlt
      have hwz : -9223372036854775808 ≤ zs.getD k 0 ∧ zs.getD k 0 ≤ 9223372036854775807 := by
        have h := hwf (zs.getD k 0) (by rw [List.getD_eq_getElem?_getD, List.getElem?_eq_getElem (by omega)]; exact List.getElem_mem _)
        generalize zs.getD k 0 = c at h
        simp [Lit.wf, IntKind.min, IntKind.max, IntKind.signed, IntKind.bits] at h
        omega
      generalize zs.getD k 0 = c at *
      clear hcells hwf
      have hkI : (k : Int) < len := by omega
      obtain ⟨m, hm, hcase⟩ : ∃ m, p + m ≤ s.size ∧ ((c < 0 ∧ (s.size : Int) - p = m) ∨ (¬ c < 0 ∧ c > (s.size : Int) - p ∧ (s.size : Int) - p = m) ∨ (¬ c < 0 ∧ ¬ c > (s.size : Int) - p ∧ c = m)) := by
        by_cases h1 : c < 0
        · exact ⟨s.size - p, by omega, .inl ⟨h1, by omega⟩⟩
        · by_cases h2 : c > (s.size : Int) - p
          · exact ⟨s.size - p, by omega, .inr (.inl ⟨h1, h2, by omega⟩)⟩
          · exact ⟨c.toNat, by omega, .inr (.inr ⟨h1, h2, by omega⟩)⟩
      obtain ⟨e, he⟩ : ∃ e, s.extract p (p + m) = e := ⟨_, rfl⟩
      have hq1 : (p : Int) + m ≤ s.size := by omega
      have hq2 : (p : Int) ≤ (p : Int) + m := by omega
      have hbA : Below wr.heap.size wr (wr.alloc (.cells #[.string e] 9)) := (Below.refl _ _).alloc (Nat.le_refl _) _
      have hown := owns_kept (w' := wr.alloc (.cells #[.string e] 9)) HP.out.own (fun b hb _ => hbA.block b hb)
      have hnew := news_cells wr [Value.string e] 9
      have hbase : w.heap.size ≤ (wr.alloc (.cells #[.string e] 9)).heap.size := by
        have := HP.out.bel.size
        simp
        omega
      have hm63 : pcs.length + 1 ≤ maxLen := by unfold maxLen; omega
      have hm47 : (pcs.length + 1) * 16 ≤ 140737488355328 := by omega
      have HOWN := Lib.hid hown
      have HNEW := Lib.hid hnew
      have HBB := Lib.hid hbase
      have HBA := Lib.hid hbA
      clear hown hnew hbase hbA
      rcases hcase with ⟨h1, h2⟩ | ⟨h1, h2, h3⟩ | ⟨h1, h2, rfl⟩
      · have d1 : decide (c < 0) = true := by simpa using h1
        go_upto_region 8 with fail
        go_wp2_with (at_builtin; refine wpList_append_own _ rfl (.tmp 29) (.tmp 36) 35 rfl w.heap.size 9 i0 (.string ⟨#[]⟩) 1 16 Try.underlying35 hi0 hz0 hz1 hz2 rfl (by decide) u5 pcs.length (pcs.map Value.string) rfl HOWN.out ⟨wr.heap.size, 0, none⟩ 1 1 [.string e] rfl rfl HNEW.out (str_one e) hm63 hm47 HBB.out ?_; intro v5 w5 ho5 hg5 ha5; have HO5 := Lib.hid ho5; have HG5 := Lib.hid hg5; clear ho5 hg5 ha5)
        have HN := Lib.hid (HP.out.next he hm HO5.out ((HBA.out.mono HP.out.bel.size).grown HG5.out HBB.out (fun b hb => (HP.out.own.lt b hb).1)))
        go_roundw
        case rel => exact ⟨k + 1, p + m, _, by go_num, by go_num, by omega, hm, by rw [List.length_append, hpk]; rfl, HN.out⟩
        case measure => simp [intOf]; omega
      · have d1 : decide (c < 0) = false := by simpa using h1
        have d2 : decide ((m : Int) < c) = true := by simp; omega
        go_upto_region 8 with fail
        go_wp2_with (at_builtin; refine wpList_append_own _ rfl (.tmp 29) (.tmp 36) 35 rfl w.heap.size 9 i0 (.string ⟨#[]⟩) 1 16 Try.underlying35 hi0 hz0 hz1 hz2 rfl (by decide) u5 pcs.length (pcs.map Value.string) rfl HOWN.out ⟨wr.heap.size, 0, none⟩ 1 1 [.string e] rfl rfl HNEW.out (str_one e) hm63 hm47 HBB.out ?_; intro v5 w5 ho5 hg5 ha5; have HO5 := Lib.hid ho5; have HG5 := Lib.hid hg5; clear ho5 hg5 ha5)
        have HN := Lib.hid (HP.out.next he hm HO5.out ((HBA.out.mono HP.out.bel.size).grown HG5.out HBB.out (fun b hb => (HP.out.own.lt b hb).1)))
        go_roundw
        case rel => exact ⟨k + 1, p + m, _, by go_num, by go_num, by omega, hm, by rw [List.length_append, hpk]; rfl, HN.out⟩
        case measure => simp [intOf]; omega
      · have d1 : decide ((m : Int) < 0) = false := by simp
        have d2 : decide ((s.size : Int) - p < m) = false := by simp; omega
        go_upto_region 8 with fail
        go_wp2_with (at_builtin; refine wpList_append_own _ rfl (.tmp 29) (.tmp 36) 35 rfl w.heap.size 9 i0 (.string ⟨#[]⟩) 1 16 Try.underlying35 hi0 hz0 hz1 hz2 rfl (by decide) u5 pcs.length (pcs.map Value.string) rfl HOWN.out ⟨wr.heap.size, 0, none⟩ 1 1 [.string e] rfl rfl HNEW.out (str_one e) hm63 hm47 HBB.out ?_; intro v5 w5 ho5 hg5 ha5; have HO5 := Lib.hid ho5; have HG5 := Lib.hid hg5; clear ho5 hg5 ha5)
        have HN := Lib.hid (HP.out.next he hm HO5.out ((HBA.out.mono HP.out.bel.size).grown HG5.out HBB.out (fun b hb => (HP.out.own.lt b hb).1)))
        go_roundw
        case rel => exact ⟨k + 1, p + m, _, by go_num, by go_num, by omega, hm, by rw [List.length_append, hpk]; rfl, HN.out⟩
        case measure => simp [intOf]; omega
    · have hkI : ¬ (k : Int) < len := by omega
      obtain ⟨e, he⟩ : ∃ e, s.extract p s.size = e := ⟨_, rfl⟩
      have he2 : s.extract p (p + (s.size - p)) = e := by rw [← he]; congr 1; omega
      have hbA : Below wr.heap.size wr (wr.alloc (.cells #[.string e] 9)) := (Below.refl _ _).alloc (Nat.le_refl _) _
      have hown := owns_kept (w' := wr.alloc (.cells #[.string e] 9)) HP.out.own (fun b hb _ => hbA.block b hb)
      have hnew := news_cells wr [Value.string e] 9
      have hbase : w.heap.size ≤ (wr.alloc (.cells #[.string e] 9)).heap.size := by
        have := HP.out.bel.size
        simp
        omega
      have hm63 : pcs.length + 1 ≤ maxLen := by unfold maxLen; omega
      have hm47 : (pcs.length + 1) * 16 ≤ 140737488355328 := by omega
      have HOWN := Lib.hid hown
      have HNEW := Lib.hid hnew
      have HBB := Lib.hid hbase
      have HBA := Lib.hid hbA
      clear hown hnew hbase hbA
      go_wp2_with (at_builtin; refine wpList_append_own _ rfl (.tmp 42) (.tmp 46) 35 rfl w.heap.size 9 i0 (.string ⟨#[]⟩) 1 16 Try.underlying35 hi0 hz0 hz1 hz2 rfl (by decide) u5 pcs.length (pcs.map Value.string) rfl HOWN.out ⟨wr.heap.size, 0, none⟩ 1 1 [.string e] rfl rfl HNEW.out (str_one e) hm63 hm47 HBB.out ?_; intro v5 w5 ho5 hg5 ha5; have HO5 := Lib.hid ho5; have HG5 := Lib.hid hg5; clear ho5 hg5 ha5)
      go_ret
      have hn := HP.out.next he2 (by omega) HO5.out ((HBA.out.mono HP.out.bel.size).grown HG5.out HBB.out (fun b hb => (HP.out.own.lt b hb).1))
      rw [show p + (s.size - p) = s.size by omega] at hn
      exact ⟨v5, _, rfl, hn, by rw [List.length_append, hpk]; show k + 1 = len + 1; omega⟩
end Go.Proofs.Ytlcppkcclolgcaa

