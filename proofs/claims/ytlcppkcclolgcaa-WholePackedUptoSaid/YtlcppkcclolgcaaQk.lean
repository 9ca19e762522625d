/- The walk of WholeBytes, up to the second tree. -/
import Derived.Test.YtlcppkcclolgcaaQj
namespace Go.Proofs.Ytlcppkcclolgcaa
set_option linter.unusedVariables false
set_option linter.unusedSimpArgs false
open Go.RowKit
theorem IsRow.later {k : IntKind} {w w' : World} {a : Option Addr} {len cap : Nat} {zs : List Int} (h : IsRow k w a len cap zs) (hb : Below w.heap.size w w') : IsRow k w' a len cap zs := by
  rcases h with h | ⟨x, rfl, h1, h2, h3, h4, h5⟩
  · exact .inl h
  · refine .inr ⟨x, rfl, h1, h2, h3, fun i hi => ?_, h5⟩
    have hc := h4 i hi
    exact (hb.cell (block_lt_of_cell hc)).trans hc
theorem PcS.at_ {w0 w : World} {v : Value} {s : ByteArray} {p : Nat} {pcs : List ByteArray} (H : PcS w0 w v s p pcs) (h : 0 < pcs.length) :
    ∃ g c, v = .slice (some ⟨g, 0, none⟩) pcs.length c ∧ w0.heap.size ≤ g ∧ g < w.heap.size ∧ ∀ j, j < pcs.length → w.cell? ⟨g, j, none⟩ = some (.string (pcs.getD j emp)) := by
  have ho := H.own
  obtain ⟨_, ⟨_, h0⟩ | ⟨g, cap, cur, rfl, hb, hg, _⟩⟩ := H.own
  · omega
  · refine ⟨g, cap, rfl, hb, (ho.lt g rfl).2, fun j hj => ?_⟩
    have h1 := ho.cellAt j (by omega)
    rw [h1, List.getElem?_map, List.getElem?_eq_getElem hj, List.getD_eq_getElem?_getD, List.getElem?_eq_getElem hj]
    rfl
theorem pieces_at (s : ByteArray) (hs : s.size ≤ 140737488351232) (a : Option Addr) (len cap : Nat) (zs : List Int) (w : World) (hrow : IsRow .i64 w a len cap zs) (hlen : len ≤ 1048576) :
    Calls Try.prog 9 #[.string s, .slice a len cap] w fun e w' => ∃ (pcs : List ByteArray) (g gc : Nat), e = .returned (.slice (some ⟨g, 0, none⟩) pcs.length gc) ∧ PcS w w' (.slice (some ⟨g, 0, none⟩) pcs.length gc) s s.size pcs ∧ pcs.length = len + 1 ∧ w.heap.size ≤ g ∧ g < w'.heap.size ∧ (∀ j, j < pcs.length → w'.cell? ⟨g, j, none⟩ = some (.string (pcs.getD j emp))) := by
  refine (pieces_any s hs a len cap zs w hrow hlen).mono ?_
  rintro e w' ⟨v, pcs, rfl, hpc, hpl⟩
  obtain ⟨g, gc, rfl, hg1, hg2, hcells⟩ := hpc.at_ (by omega)
  exact ⟨pcs, g, gc, rfl, hpc, hpl, hg1, hg2, hcells⟩
/-- the parser has been fed the first k pieces -/
def fedK (pcs : List ByteArray) (k : Nat) : PS := PS.new.feed ((pcs.take k).map nb).flatten
theorem fedK_zero (pcs : List ByteArray) : fedK pcs 0 = PS.new := rfl
theorem fedK_succ (pcs : List ByteArray) (k : Nat) (h : k < pcs.length) : (fedK pcs k).feed (nb (pcs.getD k emp)) = fedK pcs (k + 1) := by
  unfold fedK
  rw [← feed_append, List.take_add_one, List.getElem?_eq_getElem h, List.getD_eq_getElem?_getD, List.getElem?_eq_getElem h, List.map_append, List.flatten_append]
  simp only [Option.toList_some, List.map_cons, List.map_nil, List.flatten_cons, List.flatten_nil, List.append_nil, Option.getD_some]
theorem fedK_all {w0 w : World} {v : Value} {s : ByteArray} {pcs : List ByteArray} (H : PcS w0 w v s s.size pcs) : fedK pcs pcs.length = prs s := by
  unfold fedK prs
  rw [List.take_length, H.txt, List.take_of_length_le (by rw [nb_length]; omega)]
theorem fedK_inv (pcs : List ByteArray) (k : Nat) : PInv (fedK pcs k) ((pcs.take k).map nb).flatten := new_inv (fun x hx => by
  obtain ⟨l, hl, hx⟩ := List.mem_flatten.1 hx
  obtain ⟨t, _, rfl⟩ := List.mem_map.1 hl
  exact nb_bytes t x hx)
theorem piece_le {w0 w : World} {v : Value} {s : ByteArray} {pcs : List ByteArray} (H : PcS w0 w v s s.size pcs) (k : Nat) (h : k < pcs.length) : (pcs.getD k emp).size ≤ s.size := by
  have h1 : nb (pcs.getD k emp) ∈ pcs.map nb := by
    rw [List.getD_eq_getElem?_getD, List.getElem?_eq_getElem h]
    exact List.mem_map_of_mem (List.getElem_mem h)
  have h2 := (List.sublist_flatten_of_mem h1).length_le
  rw [H.txt, nb_length, List.length_take, nb_length] at h2
  omega
theorem close_code0 {s : ByteArray} (h : clC (prs s) = 0) : (prs s).code = 0 ∧ (prs s).x.whole = true := by
  unfold clC PS.close at h
  have hs := (prs_inv s).shut
  by_cases hc : (prs s).shut = false ∧ (prs s).x.whole = false ∧ (prs s).code = 0
  · rw [if_pos hc] at h
    exact absurd h (by show (4 : Int) ≠ 0; decide)
  · rw [if_neg hc] at h
    refine ⟨h, ?_⟩
    cases hw : (prs s).x.whole with
    | true => rfl
    | false => exact absurd ⟨hs, hw, h⟩ hc
theorem clN_good {s : ByteArray} (h : clC (prs s) = 0) : serE (clN (prs s)) = 0 ∧ arc (clN (prs s)) = nb s := by
  obtain ⟨h1, h2⟩ := close_code0 h
  have h3 := parse_sound (nb_bytes s) h1 h2
  have e : clN (prs s) = (prs s).x.root := by unfold clN; exact if_pos h
  rw [e]
  exact h3
theorem clN_bad {s : ByteArray} (h : clC (prs s) ≠ 0) : clN (prs s) = .leaf 0 false emp := by unfold clN; exact if_neg h
theorem clN_cnts (s : ByteArray) : (clN (prs s)).cnts 1048576 := by
  by_cases h : clC (prs s) = 0
  · exact (serE_small (clN_good h).1).cnts
  · rw [clN_bad h]
    exact trivial
theorem clN_small (s : ByteArray) : (clN (prs s)).small 1048576 := by
  by_cases h : clC (prs s) = 0
  · exact serE_small (clN_good h).1
  · rw [clN_bad h]
    exact Nat.zero_le _
theorem serT_good {s : ByteArray} (h : clC (prs s) = 0) : serT (clN (prs s)) = s := by
  unfold serT
  rw [if_pos (clN_good h).1, (clN_good h).2, strOf_nb]
theorem serT_is {s : ByteArray} {o : ND} (h : serE o = 0) (ht : serT o = s) : clN (prs s) = o ∧ clC (prs s) = 0 := by
  unfold serT at ht
  rw [if_pos h] at ht
  obtain ⟨h1, h2, _⟩ := prs_arc h
  rw [ht] at h1 h2
  exact ⟨h1, h2⟩
theorem clA_le (s : ByteArray) : clA (prs s) ≤ s.size := by
  have hi := prs_inv s
  have h1 := hi.bad
  have h2 := hi.len
  rw [nb_length] at h1 h2
  have h3 : (prs s).close.fat = (prs s).fat ∨ (prs s).close.fat = (prs s).at_ := by
    unfold PS.close
    split
    · exact .inr rfl
    · exact .inl rfl
  unfold clA
  split
  · exact Nat.zero_le _
  · rcases h3 with h3 | h3
    · rw [h3]; exact h1
    · rw [h3]; exact h2
set_option maxRecDepth 100000 in
set_option maxHeartbeats 8000000 in
theorem bytes_law (s : ByteArray) (hs : s.size ≤ 1048576) (a : Option Addr) (len cap : Nat) (zs : List Int) (o : ND) (oa : Option Addr) (oc : Nat) (w : World) (hrow : IsRow .i64 w a len cap zs) (hlen : len ≤ 1048576) (hin : o.In w.heap.size w oa) (hsm : o.small 1048576) :
    Calls Try.prog 3 #[.string s, .slice a len cap, .agg #[.int .i64 o.kind, .bool o.exec, .string o.text, .slice oa o.cnt oc]] w fun e w' => e = .returned (.bool true) ∧ Below w.heap.size w w' := by
  obtain ⟨n, hn⟩ : ∃ n, clN (prs s) = n := ⟨_, rfl⟩
  obtain ⟨q, hq⟩ : ∃ q, clC (prs s) = q := ⟨_, rfl⟩
  obtain ⟨t, ht⟩ : ∃ t, clA (prs s) = t := ⟨_, rfl⟩
  obtain ⟨wA, hwA⟩ : ∃ wA, wA = w.alloc (.cells #[.int .i64 o.kind, .bool o.exec, .string o.text, .slice oa o.cnt oc] 26) := ⟨_, rfl⟩
  have hbA : Below w.heap.size w wA := by rw [hwA]; exact (Below.refl _ _).alloc (Nat.le_refl _) _
  have hrA : wA.heap[w.heap.size]? = some (.cells #[.int .i64 o.kind, .bool o.exec, .string o.text, .slice oa o.cnt oc] 26 (0, 0)) := by rw [hwA]; exact heap_alloc_new w _
  have hpar : ∀ w1 : World, Calls Try.prog 7 #[.string s] w1 fun e w' => ∃ a c, e = .returned (.tuple #[.agg #[.int .i64 n.kind, .bool n.exec, .string n.text, .slice a n.cnt c], .agg #[.int .i64 q, .int .i64 (t : Int)]]) ∧ n.InS (fun b => w1.heap.size ≤ b) w' a ∧ Below w1.heap.size w1 w' := fun w1 => by
    refine (parse_any s w1 (by omega)).mono ?_
    rintro e w' ⟨a, c, he, hi, hb⟩
    rw [hn, hq, ht] at he
    rw [hn] at hi
    exact ⟨a, c, he, hi, hb⟩
  have hsI : (s.size : Int) ≤ 1048576 := by omega
  have hs0 : (0 : Int) ≤ s.size := by omega
  have hlI : (len : Int) ≤ 1048576 := by omega
  have hl0 : (0 : Int) ≤ len := by omega
  have HS := Lib.hid hs
  have HROW := Lib.hid hrow
  have HIN := Lib.hid hin
  have HSM := Lib.hid hsm
  have HN := Lib.hid hn
  have HQ := Lib.hid hq
  have HT := Lib.hid ht
  have HWA := Lib.hid hwA
  have HBA := Lib.hid hbA
  have HRA := Lib.hid hrA
  have HPAR := Lib.hid hpar
  clear hs hrow hin hsm hn hq ht hwA hbA hrA hpar
  go_enter Try.func3, Try.ntmps3
  go_upto_region 1 with fail
  rw [← HWA.out]
  go_upto_region 3 with (go_at_call 6; refine (small_any wA).mono ?_; rintro e w1 ⟨rfl, h1⟩; have HB1 := Lib.hid h1; clear h1)
  go_upto_region 4 with (go_at_call 7; refine (HPAR.out w1).mono ?_; rintro e w2 ⟨a2, c2, rfl, hi2, h2⟩; have HI2 := Lib.hid hi2; have HB2 := Lib.hid h2; clear hi2 h2)
  have hr1 : ((w2.alloc (.cells #[.int .i64 n.kind, .bool n.exec, .string n.text, .slice a2 n.cnt c2] 26)).alloc (.cells #[.int .i64 q, .int .i64 (t : Int)] 30)).heap[w2.heap.size]? = some (.cells #[.int .i64 n.kind, .bool n.exec, .string n.text, .slice a2 n.cnt c2] 26 (0, 0)) := row_past (heap_alloc_new w2 _) _
  have hr2 : ((w2.alloc (.cells #[.int .i64 n.kind, .bool n.exec, .string n.text, .slice a2 n.cnt c2] 26)).alloc (.cells #[.int .i64 q, .int .i64 (t : Int)] 30)).heap[w2.heap.size + 1]? = some (.cells #[.int .i64 q, .int .i64 (t : Int)] 30 (0, 0)) := alloc_new2 w2 _ _ _
  have hb3 : Below w2.heap.size w2 ((w2.alloc (.cells #[.int .i64 n.kind, .bool n.exec, .string n.text, .slice a2 n.cnt c2] 26)).alloc (.cells #[.int .i64 q, .int .i64 (t : Int)] 30)) := ((Below.refl _ _).alloc (Nat.le_refl _) _).alloc (by simp) _
  generalize (w2.alloc (.cells #[.int .i64 n.kind, .bool n.exec, .string n.text, .slice a2 n.cnt c2] 26)).alloc (.cells #[.int .i64 q, .int .i64 (t : Int)] 30) = w3 at *
  have HR1 := Lib.hid hr1
  have HR2 := Lib.hid hr2
  have HB3 := Lib.hid hb3
  clear hr1 hr2 hb3
  go_upto_region 7 with (go_at_call 8; refine (newp_any w3).mono ?_; rintro e w4 ⟨gp, rfl, h4⟩; have HP4 := Lib.hid h4; clear h4)
  obtain ⟨fl, gf0, sv0, rv0, hps4⟩ := HP4.out
  have hb4 : Below w3.heap.size w3 w4 := hps4.paw.away.below (Nat.le_refl _) (fun k h => h.elim)
  have hbw4 : Below w.heap.size w w4 := HBA.out.trans (((below_trans2 (below_trans2 (below_trans2 HB1.out HB2.out) HB3.out) hb4)).mono HBA.out.size)
  have hrow4 : IsRow .i64 w4 a len cap zs := HROW.out.later hbw4
  have HPS4 := Lib.hid hps4
  have HB4 := Lib.hid hb4
  have HPC := Lib.hid (pieces_at s (by have := HS.out; omega) a len cap zs w4 hrow4 (by omega))
  have HBW4 := Lib.hid hbw4
  clear hps4 hb4 hbw4 hrow4 HP4
  go_wp2_with (go_at_call 9; refine HPC.out.mono ?_; rintro e w5 ⟨pcs, g, gc, rfl, hpc, hpl, hg1, hg2, hcells⟩; have hplI : (pcs.length : Int) = len + 1 := (by omega); have HPCS := Lib.hid hpc; clear hpc)
  have HCELLS := Lib.hid hcells
  have HG1 := Lib.hid hg1
  have HG2 := Lib.hid hg2
  have HPL := Lib.hid hpl
  clear hcells hg1 hg2 hpl
  have hps5 := (HPS4.out.later HPCS.out.bel).rebase
  have hfg : ¬ fl g ≠ 0 := fun h => by
    have h1 := (HPS4.out.paw.hB g h).2
    have h2 := HG1.out
    omega
  have HFG := Lib.hid hfg
  have HPS5 := Lib.hid hps5
  clear hps5 hfg
  go_loopw [32] (fun x32 wr => ∃ k : Nat, x32 = .int .i64 (k : Int) ∧ k ≤ pcs.length ∧ PaX w5 (fun j => fl j ≠ 0) wr w3.heap.size gp (fedK pcs k)) (fun x32 _ => pcs.length - (intOf x32).toNat)
  case atStart => exact ⟨0, rfl, Nat.zero_le _, fl, gf0, sv0, rv0, HPS5.out⟩
  case round =>
    obtain ⟨k, rfl, hk, hX⟩ := hrel
    have hk0 : (0 : Int) ≤ k := by omega
    have HX := Lib.hid hX
    clear hX
    by_cases hlt : k < pcs.length
    · have hltI : (k : Int) < pcs.length := by omega
      have c0 : wr.cell? ⟨g, k, none⟩ = some (.string (pcs.getD k emp)) := by
        obtain ⟨fl1, gf1, sv1, rv1, h1⟩ := HX.out
        exact (World.cell?_of_block (a := ⟨g, k, none⟩) (h1.paw.away.block g HG2.out HFG.out)).trans (HCELLS.out k hlt)
      have hle := piece_le HPCS.out k hlt
      have hnext := fedK_succ pcs k hlt
      generalize pcs.getD k emp = x at *
      have hxI : (x.size : Int) ≤ 1048576 := by omega
      have hx0 : (0 : Int) ≤ x.size := by omega
      have hcv := fun W => Lib.run_convert_string_bytes (P := Try.prog) W 9 38 5 x Try.underlying9 Try.underlying38 Try.underlying5
      have CF := fun cap hc => pfeed_conv w5 (fun j => fl j ≠ 0) w3.heap.size gp cap x (fedK pcs k) _ wr HX.out (fedK_inv pcs k) (by omega) hc
      rw [hnext] at CF
      have HGE := Lib.hid (grownCap_ge wr x.size 0 5)
      have HCF := Lib.hid CF
      clear CF hnext hle
      go_wp2_with (go_at_call 10; refine (HCF.out _ HGE.out).mono ?_; rintro e w6 ⟨rfl, h6⟩; have H6 := Lib.hid h6; clear h6)
      go_roundw
      case rel => exact ⟨k + 1, by go_num, by omega, H6.out⟩
      case measure => simp [intOf]; omega
    · have hltI : ¬ (k : Int) < pcs.length := by omega
      have hkk : k = pcs.length := by omega
      have hX := HX.out
      rw [hkk, fedK_all HPCS.out] at hX
      obtain ⟨fl6, gf6, sv6, rv6, hps⟩ := hX
      have hcl : Calls Try.prog 11 #[.pointer (some ⟨gp, 0, none⟩)] wr fun e w' => ∃ a c, e = .returned (.tuple #[.agg #[.int .i64 n.kind, .bool n.exec, .string n.text, .slice a n.cnt c], .agg #[.int .i64 q, .int .i64 (t : Int)]]) ∧ n.InS (fun b => w3.heap.size ≤ b) w' a ∧ Below w3.heap.size w5 w' := by
        refine (pshut_any _ _ _ gp fl6 (prs s) gf6 sv6 rv6 wr hps.paw (prs_inv s).shut (prs_small s)).mono ?_
        rintro e w' ⟨a', c', he, hi, fl7, gf7, sv7, rv7, hp7⟩
        rw [HN.out, HQ.out, HT.out] at he
        rw [HN.out] at hi
        exact ⟨a', c', he, hi, hp7.away.below (Nat.le_trans HB4.out.size HPCS.out.bel.size) (fun j hj => (HPS4.out.paw.hB j hj).1)⟩
      have HCL := Lib.hid hcl
      clear hps HX hkk hcl
      go_upto_region 12 with fail
      go_upto_region 13 with (go_at_call 11; refine HCL.out.mono ?_; rintro e w6 ⟨a6, c6, rfl, hi6, hb6⟩; have HI6 := Lib.hid hi6; have HB6 := Lib.hid hb6; clear hi6 hb6)
      have h36 : Below w3.heap.size w3 w6 := HB4.out.trans ((HPCS.out.bel.mono HB4.out.size).trans HB6.out)
      have s1 : ((w6.alloc (.cells #[.int .i64 n.kind, .bool n.exec, .string n.text, .slice a6 n.cnt c6] 26)).alloc (.cells #[.int .i64 q, .int .i64 (t : Int)] 30)).heap[w6.heap.size]? = some (.cells #[.int .i64 n.kind, .bool n.exec, .string n.text, .slice a6 n.cnt c6] 26 (0, 0)) := row_past (heap_alloc_new w6 _) _
      have s2 : ((w6.alloc (.cells #[.int .i64 n.kind, .bool n.exec, .string n.text, .slice a6 n.cnt c6] 26)).alloc (.cells #[.int .i64 q, .int .i64 (t : Int)] 30)).heap[w6.heap.size + 1]? = some (.cells #[.int .i64 q, .int .i64 (t : Int)] 30 (0, 0)) := alloc_new2 w6 _ _ _
      have h67 : Below w6.heap.size w6 ((w6.alloc (.cells #[.int .i64 n.kind, .bool n.exec, .string n.text, .slice a6 n.cnt c6] 26)).alloc (.cells #[.int .i64 q, .int .i64 (t : Int)] 30)) := ((Below.refl _ _).alloc (Nat.le_refl _) _).alloc (by simp) _
      generalize (w6.alloc (.cells #[.int .i64 n.kind, .bool n.exec, .string n.text, .slice a6 n.cnt c6] 26)).alloc (.cells #[.int .i64 q, .int .i64 (t : Int)] 30) = w7 at *
      have h37 : Below w3.heap.size w3 w7 := below_trans2 h36 h67
      have hA3 : Below wA.heap.size wA w3 := below_trans2 (below_trans2 HB1.out HB2.out) HB3.out
      have hA7 := below_trans2 hA3 h37
      have hin7 : o.In w7.heap.size w7 oa := HIN.out.up (HBA.out.trans (hA7.mono HBA.out.size))
      have hn2 : n.In w7.heap.size w7 a2 := HI2.out.in_.up (below_trans2 HB3.out h37)
      have hn6 : n.In w7.heap.size w7 a6 := HI6.out.in_.up h67
      have r0 := (hA7.block w.heap.size (lt_of_row HRA.out)).trans HRA.out
      have r1 := (h37.block w2.heap.size (lt_of_row HR1.out)).trans HR1.out
      have r2 := (h37.block (w2.heap.size + 1) (lt_of_row HR2.out)).trans HR2.out
      have hw7 : Below w.heap.size w w7 := HBA.out.trans (hA7.mono HBA.out.size)
      have HIN7 := Lib.hid hin7
      have HN2 := Lib.hid hn2
      have HN6 := Lib.hid hn6
      have HR0 := Lib.hid r0
      have HR1 := Lib.hid r1
      have HR2 := Lib.hid r2
      have HS1 := Lib.hid s1
      have HS2 := Lib.hid s2
      have HW7 := Lib.hid hw7
      clear h36 h67 h37 hA3 hA7 hin7 hn2 hn6 r0 r1 r2 s1 s2 hw7 HB1 HB2 HB3 HB4 HB6 HI2 HI6 HCL HPS4 HPS5 HCELLS HPCS HG1 HG2 HFG HBA HRA HWA HIN HBW4 HPC HPAR
      generalize hmm : w.heap.size = m at *
      have HMM := Lib.hid hmm
      clear hmm
      generalize w2.heap.size = b at *
      generalize w6.heap.size = d at *
      have l2 := fun i => cell_of_row w7 (b + 1) i _ _ _ HR2.out
      have x0 := l2 0
      have x1 := l2 1
      have y0 := cell_of_row w7 (d + 1) 0 _ _ _ HS2.out
      have y1 := cell_of_row w7 (d + 1) 1 _ _ _ HS2.out
      have n0' := cell_of_row w7 b 0 _ _ _ HR1.out
      have n1' := cell_of_row w7 b 1 _ _ _ HR1.out
      have n2' := cell_of_row w7 b 2 _ _ _ HR1.out
      have n3' := cell_of_row w7 b 3 _ _ _ HR1.out
      have m0' := cell_of_row w7 d 0 _ _ _ HS1.out
      have m1' := cell_of_row w7 d 1 _ _ _ HS1.out
      have m2' := cell_of_row w7 d 2 _ _ _ HS1.out
      have m3' := cell_of_row w7 d 3 _ _ _ HS1.out
      clear l2
      have hsz7 := lt_of_row HR0.out
      have hszb := lt_of_row HR1.out
      have hszb1 := lt_of_row HR2.out
      have heq1 : Calls Try.prog 12 #[.agg #[.int .i64 n.kind, .bool n.exec, .string n.text, .slice a6 n.cnt c6], .agg #[.int .i64 n.kind, .bool n.exec, .string n.text, .slice a2 n.cnt c2]] w7 fun e w' => e = .returned (.bool true) ∧ Below w7.heap.size w7 w' := by
        have h := equal_any n.sz n (Nat.le_refl _) n a6 a2 c6 c2 w7 HN6.out HN2.out (by rw [← HN.out]; exact clN_cnts s)
        refine h.mono ?_
        rintro e w' ⟨he, hb⟩
        rw [eqN_true rfl] at he
        exact ⟨he, hb⟩
      have HEQ1 := Lib.hid heq1
      clear heq1
      go_upto_region 15 with (go_at_call 12; refine HEQ1.out.mono ?_; rintro e w8 ⟨rfl, hb8⟩; have HB8 := Lib.hid hb8; clear hb8)
      have r0 := (HB8.out.block m hsz7).trans HR0.out
      have r1 := (HB8.out.block b hszb).trans HR1.out
      have r2 := (HB8.out.block (b + 1) hszb1).trans HR2.out
      have hin8 := HIN7.out.up HB8.out
      have hn8 := HN2.out.up HB8.out
      have hw8 := HW7.out.trans (HB8.out.mono (by rw [← HMM.out]; exact HW7.out.size))
      have hser : Calls Try.prog 13 #[.agg #[.int .i64 o.kind, .bool o.exec, .string o.text, .slice oa o.cnt oc]] w8 fun e w' => e = .returned (.tuple #[.string (serT o), .int .i64 (serE o)]) ∧ Below w8.heap.size w8 w' := serial_any o oa oc w8 HSM.out hin8
      have HSER := Lib.hid hser
      have p0 := cell_of_row w8 m 0 _ _ _ r0
      have p1 := cell_of_row w8 m 1 _ _ _ r0
      have p2 := cell_of_row w8 m 2 _ _ _ r0
      have p3 := cell_of_row w8 m 3 _ _ _ r0
      clear hser x0 x1 y0 y1 n0' n1' n2' n3' m0' m1' m2' m3'
      go_upto_region 16 with (go_at_call 13; refine HSER.out.mono ?_; rintro e w9 ⟨rfl, hb9⟩; have HB9 := Lib.hid hb9; clear hb9)
      have t0 := (HB9.out.block m (lt_of_row r0)).trans r0
      have t1 := (HB9.out.block b (lt_of_row r1)).trans r1
      have t2 := (HB9.out.block (b + 1) (lt_of_row r2)).trans r2
      have hin9 := hin8.up HB9.out
      have hn9 := hn8.up HB9.out
      have hw9 := hw8.trans (HB9.out.mono (by rw [← HMM.out]; exact hw8.size))
      have o0 := cell_of_row w9 m 0 _ _ _ t0
      have o1 := cell_of_row w9 m 1 _ _ _ t0
      have o2 := cell_of_row w9 m 2 _ _ _ t0
      have o3 := cell_of_row w9 m 3 _ _ _ t0
      have b0 := cell_of_row w9 b 0 _ _ _ t1
      have b1 := cell_of_row w9 b 1 _ _ _ t1
      have b2 := cell_of_row w9 b 2 _ _ _ t1
      have b3 := cell_of_row w9 b 3 _ _ _ t1
      have f0 := cell_of_row w9 (b + 1) 0 _ _ _ t2
      have f1 := cell_of_row w9 (b + 1) 1 _ _ _ t2
      have HT0 := Lib.hid t0
      have HT1 := Lib.hid t1
      have HT2 := Lib.hid t2
      have HIN9 := Lib.hid hin9
      have HN9 := Lib.hid hn9
      have HW9 := Lib.hid hw9
      clear p0 p1 p2 p3 r0 r1 r2 t0 t1 t2 hin8 hn8 hw8 hin9 hn9 hw9 HSER HEQ1 HN2 HN6 HR0 HR1 HR2 HS1 HS2 HIN7 HW7 HB8 HB9 hsz7 hszb hszb1
      by_cases hq0 : q = 0
      · have hqI : (q != 0) = false := by simp [hq0]
        have hqc : clC (prs s) = 0 := by rw [HQ.out]; exact hq0
        have hser2 : Calls Try.prog 13 #[.agg #[.int .i64 n.kind, .bool n.exec, .string n.text, .slice a2 n.cnt c2]] w9 fun e w' => e = .returned (.tuple #[.string s, .int .i64 0]) ∧ Below w9.heap.size w9 w' := by
          have h := serial_any n a2 c2 w9 (by rw [← HN.out]; exact clN_small s) HN9.out
          rw [← HN.out, serT_good hqc, (clN_good hqc).1, HN.out] at h
          exact h
        have HSER2 := Lib.hid hser2
        have hss : (s.toList == s.toList) = true := toList_beq rfl
        have lm := lt_of_row HT0.out
        have lb := lt_of_row HT1.out
        clear hser2
        go_upto_region 19 with (go_at_call 13; refine HSER2.out.mono ?_; rintro e w10 ⟨rfl, hb10⟩; have HB10 := Lib.hid hb10; clear hb10)
        have t0 := (HB10.out.block m lm).trans HT0.out
        have t1 := (HB10.out.block b lb).trans HT1.out
        have o0 := cell_of_row w10 m 0 _ _ _ t0
        have o1 := cell_of_row w10 m 1 _ _ _ t0
        have o2 := cell_of_row w10 m 2 _ _ _ t0
        have o3 := cell_of_row w10 m 3 _ _ _ t0
        have b0 := cell_of_row w10 b 0 _ _ _ t1
        have b1 := cell_of_row w10 b 1 _ _ _ t1
        have b2 := cell_of_row w10 b 2 _ _ _ t1
        have b3 := cell_of_row w10 b 3 _ _ _ t1
        have HW10 := Lib.hid (HW9.out.trans (HB10.out.mono (by rw [← HMM.out]; exact HW9.out.size)))
        have HIN10 := Lib.hid (HIN9.out.up HB10.out)
        have HN10 := Lib.hid (HN9.out.up HB10.out)
        clear t0 t1
        by_cases hE : serE o = 0
        · have hEI : (serE o != 0) = false := by simp [hE]
          by_cases hT : serT o = s
          · have hTb := toList_beq hT
            have heq3 : Calls Try.prog 12 #[.agg #[.int .i64 o.kind, .bool o.exec, .string o.text, .slice oa o.cnt oc], .agg #[.int .i64 n.kind, .bool n.exec, .string n.text, .slice a2 n.cnt c2]] w10 fun e w' => e = .returned (.bool true) ∧ Below w10.heap.size w10 w' := by
              have h := equal_any o.sz o (Nat.le_refl _) n oa a2 oc c2 w10 HIN10.out HN10.out HSM.out.cnts
              refine h.mono ?_
              rintro e w' ⟨he, hb⟩
              rw [eqN_true (by rw [← HN.out]; exact (serT_is hE hT).1.symm)] at he
              exact ⟨he, hb⟩
            have HEQ3 := Lib.hid heq3
            have HE0 := Lib.hid hE
            have HT00 := Lib.hid hT
            clear heq3 hE hT
            generalize serT o = T at *
            go_wp2_with (go_at_call 12; refine HEQ3.out.mono ?_; rintro e w11 ⟨rfl, hb11⟩; have HB11 := Lib.hid hb11; clear hb11)
            go_ret
            exact ⟨rfl, by rw [HMM.out]; exact HW10.out.trans (HB11.out.mono (by rw [← HMM.out]; exact HW10.out.size))⟩
          · have hTb := toList_bne hT
            have HT00 := Lib.hid hT
            have HE0 := Lib.hid hE
            clear hT hE
            go_wp2_with fail
            go_ret
            exact ⟨rfl, by rw [HMM.out]; exact HW10.out⟩
        · have hEI : (serE o != 0) = true := by simpa using hE
          go_wp2_with fail
          go_ret
          exact ⟨rfl, by rw [HMM.out]; exact HW10.out⟩
      · have hqI : (q != 0) = true := by simpa using hq0
        have hqc : clC (prs s) ≠ 0 := by rw [HQ.out]; exact hq0
        have hnl : n = .leaf 0 false emp := by rw [← HN.out]; exact clN_bad hqc
        have htI : (t : Int) ≤ s.size := by have := clA_le s; rw [HT.out] at this; omega
        have ht0 : (0 : Int) ≤ t := by omega
        subst hnl
        have heq2 : Calls Try.prog 12 #[.agg #[.int .i64 0, .bool false, .string ⟨#[]⟩, .slice a2 0 c2], .agg #[.int .i64 0, .bool false, .string ⟨#[]⟩, .slice none 0 0]] w9 fun e w' => e = .returned (.bool true) ∧ Below w9.heap.size w9 w' := by
          have h := equal_any 5 (.leaf 0 false emp) (by decide) (.leaf 0 false emp) a2 none c2 0 w9 (.inl rfl) (.inl rfl) trivial
          refine h.mono ?_
          rintro e w' ⟨he, hb⟩
          rw [eqN_true rfl] at he
          exact ⟨he, hb⟩
        have HEQ2 := Lib.hid heq2
        clear heq2
        have hl2 := lt_of_row HT2.out
        by_cases hE : serE o = 0
        · have hTn : serT o ≠ s := fun h => hqc (serT_is hE h).2
          have hTb := toList_bne hTn
          have hEI : (serE o != 0) = false := by simp [hE]
          have HX0 := Lib.hid hE
          clear hE hTn
          go_wp2_with (go_at_call 12; refine HEQ2.out.mono ?_; rintro e w10 ⟨rfl, hb10⟩; have g2 := (hb10.block (b + 1) hl2).trans HT2.out; have f1 := cell_of_row w10 (b + 1) 1 _ _ _ g2; have HB10 := Lib.hid hb10; clear hb10 g2)
          go_ret
          exact ⟨rfl, by rw [HMM.out]; exact HW9.out.trans (HB10.out.mono (by rw [← HMM.out]; exact HW9.out.size))⟩
        · have hEI : (serE o != 0) = true := by simpa using hE
          go_wp2_with (go_at_call 12; refine HEQ2.out.mono ?_; rintro e w10 ⟨rfl, hb10⟩; have g2 := (hb10.block (b + 1) hl2).trans HT2.out; have f1 := cell_of_row w10 (b + 1) 1 _ _ _ g2; have HB10 := Lib.hid hb10; clear hb10 g2)
          go_ret
          exact ⟨rfl, by rw [HMM.out]; exact HW9.out.trans (HB10.out.mono (by rw [← HMM.out]; exact HW9.out.size))⟩
end Go.Proofs.Ytlcppkcclolgcaa

