/- The walk of the law PackPlays. -/
import Derived.Test.YtikbbofjkchppaaPlp
namespace Go.Proofs.Ytikbbofjkchppaa
set_option linter.unusedVariables false
set_option linter.unusedSimpArgs false
open Go.RowKit

theorem PlU.c0 {w0 w : World} {gu gg : Nat} {vo vt : Value} {u : US} {all : ByteArray} {sh : Bool} {T : ByteArray} {Wh : Bool} {n : Nat} (H : PlU w0 w gu gg vo vt u all sh T Wh n) : w.cell? ⟨gg, 0, none⟩ = some (.string T) := cell_of_row _ gg 0 _ _ _ H.row
theorem PlU.c1 {w0 w : World} {gu gg : Nat} {vo vt : Value} {u : US} {all : ByteArray} {sh : Bool} {T : ByteArray} {Wh : Bool} {n : Nat} (H : PlU w0 w gu gg vo vt u all sh T Wh n) : w.cell? ⟨gg, 1, none⟩ = some (.bool Wh) := cell_of_row _ gg 1 _ _ _ H.row
theorem PlU.c2 {w0 w : World} {gu gg : Nat} {vo vt : Value} {u : US} {all : ByteArray} {sh : Bool} {T : ByteArray} {Wh : Bool} {n : Nat} (H : PlU w0 w gu gg vo vt u all sh T Wh n) : w.cell? ⟨gg, 2, none⟩ = some (.int .i64 (u.code : Nat)) := cell_of_row _ gg 2 _ _ _ H.row
theorem PlU.c3 {w0 w : World} {gu gg : Nat} {vo vt : Value} {u : US} {all : ByteArray} {sh : Bool} {T : ByteArray} {Wh : Bool} {n : Nat} (H : PlU w0 w gu gg vo vt u all sh T Wh n) : w.cell? ⟨gg, 3, none⟩ = some (.int .i64 (u.at_ : Nat)) := cell_of_row _ gg 3 _ _ _ H.row
theorem PlU.c4 {w0 w : World} {gu gg : Nat} {vo vt : Value} {u : US} {all : ByteArray} {sh : Bool} {T : ByteArray} {Wh : Bool} {n : Nat} (H : PlU w0 w gu gg vo vt u all sh T Wh n) : w.cell? ⟨gg, 4, none⟩ = some (.int .i64 (u.taken : Nat)) := cell_of_row _ gg 4 _ _ _ H.row

theorem set_row5 {w : World} {g : Nat} {a b c d e : Value} {t : TypeId} (h : w.heap[g]? = some (.cells #[a, b, c, d, e] t (0, 0))) (a' b' c' d' e' : Value) :
    (((((w.setCell ⟨g, 0, none⟩ a').setCell ⟨g, 1, none⟩ b').setCell ⟨g, 2, none⟩ c').setCell ⟨g, 3, none⟩ d').setCell ⟨g, 4, none⟩ e').heap[g]? = some (.cells #[a', b', c', d', e'] t (0, 0)) := by
  have h1 : (w.setCell ⟨g, 0, none⟩ a').heap[g]? = some (.cells #[a', b, c, d, e] t (0, 0)) := (heap_setCell_same w g 0 _ _ _ h).trans rfl
  have h2 : ((w.setCell ⟨g, 0, none⟩ a').setCell ⟨g, 1, none⟩ b').heap[g]? = some (.cells #[a', b', c, d, e] t (0, 0)) := (heap_setCell_same _ g 1 _ _ _ h1).trans rfl
  have h3 : (((w.setCell ⟨g, 0, none⟩ a').setCell ⟨g, 1, none⟩ b').setCell ⟨g, 2, none⟩ c').heap[g]? = some (.cells #[a', b', c', d, e] t (0, 0)) := (heap_setCell_same _ g 2 _ _ _ h2).trans rfl
  have h4 : ((((w.setCell ⟨g, 0, none⟩ a').setCell ⟨g, 1, none⟩ b').setCell ⟨g, 2, none⟩ c').setCell ⟨g, 3, none⟩ d').heap[g]? = some (.cells #[a', b', c', d', e] t (0, 0)) := (heap_setCell_same _ g 3 _ _ _ h3).trans rfl
  exact (heap_setCell_same _ g 4 _ _ _ h4).trans rfl
theorem set_row2 {w : World} {g : Nat} {a b c d e : Value} {t : TypeId} (h : w.heap[g]? = some (.cells #[a, b, c, d, e] t (0, 0))) (c' d' : Value) :
    ((w.setCell ⟨g, 2, none⟩ c').setCell ⟨g, 3, none⟩ d').heap[g]? = some (.cells #[a, b, c', d', e] t (0, 0)) := by
  have h3 : (w.setCell ⟨g, 2, none⟩ c').heap[g]? = some (.cells #[a, b, c', d, e] t (0, 0)) := (heap_setCell_same _ g 2 _ _ _ h).trans rfl
  exact (heap_setCell_same _ g 3 _ _ _ h3).trans rfl
theorem PlU.closing0 {w0 w : World} {gu gg : Nat} {vo vt : Value} {u : US} {all : ByteArray} {sh : Bool} {T : ByteArray} {Wh : Bool} {n : Nat} (H : PlU w0 w gu gg vo vt u all sh T Wh n) (hn : sh = true ∨ u.whole = true ∨ u.code ≠ 0) (hc : u.code = 0) (ai : Int) (ha : ((u.at_ : Nat) : Int) = ai) :
    Calls Try.prog 22 #[.pointer (some ⟨gu, 0, none⟩)] w fun e w' => e = .returned (.tuple #[.string T, .agg #[.int .i64 0, .int .i64 ai]]) ∧ PlU w0 w' gu gg vo vt u.close all true T Wh n ∧ ((u.close.code : Nat) : Int) = 0 ∧ ((u.close.at_ : Nat) : Int) = ai := by
  refine (close_any w (Mine gu vo vt) gu vo vt u w H.uk.rebase H.sane).mono ?_
  rintro e w' ⟨rfl, h⟩
  obtain ⟨h1, h2, h3, h4, h5⟩ := H.closed hn h
  have hs := close_says u T h1.zero (fun _ => h5 hc)
  have hc2 : u.close.code = 0 := h2.trans hc
  rw [hs.1 hc2, hs.2.2.1, hs.2.2.2, hc2, h3, ha]
  exact ⟨rfl, h1, rfl, rfl⟩
theorem PlU.closing1 {w0 w : World} {gu gg : Nat} {vo vt : Value} {u : US} {all : ByteArray} {sh : Bool} {T : ByteArray} {Wh : Bool} {n : Nat} (H : PlU w0 w gu gg vo vt u all sh T Wh n) (hc : u.code ≠ 0) (ci ai : Int) (hci : ((u.code : Nat) : Int) = ci) (ha : ((u.at_ : Nat) : Int) = ai) :
    Calls Try.prog 22 #[.pointer (some ⟨gu, 0, none⟩)] w fun e w' => e = .returned (.tuple #[.string ⟨#[]⟩, .agg #[.int .i64 ci, .int .i64 ai]]) ∧ PlU w0 w' gu gg vo vt u.close all true T Wh n ∧ ((u.close.code : Nat) : Int) = ci ∧ ((u.close.at_ : Nat) : Int) = ai := by
  refine (close_any w (Mine gu vo vt) gu vo vt u w H.uk.rebase H.sane).mono ?_
  rintro e w' ⟨rfl, h⟩
  obtain ⟨h1, h2, h3, h4, h5⟩ := H.closed (.inr (.inr hc)) h
  have hs := close_says u T h1.zero (fun q => absurd (h2.symm.trans q) hc)
  rw [hs.2.1 (fun q => hc (h2.symm.trans q)), hs.2.2.1, hs.2.2.2, h2, h3, hci, ha]
  exact ⟨rfl, h1, rfl, rfl⟩
theorem PlU.closing2 {w0 w : World} {gu gg : Nat} {vo vt : Value} {u : US} {all : ByteArray} {T : ByteArray} {Wh : Bool} {n : Nat} (H : PlU w0 w gu gg vo vt u all false T Wh n) (hw : u.whole = false) (hc : u.code = 0) :
    Calls Try.prog 22 #[.pointer (some ⟨gu, 0, none⟩)] w fun e w' => e = .returned (.tuple #[.string ⟨#[]⟩, .agg #[.int .i64 4, .int .i64 (u.taken : Nat)]]) ∧ UkS w0 (fun _ => False) w' gu vo vt u.close ∧ w'.heap[gg]? = some (.cells (gcells T Wh u) 60 (0, 0)) := by
  refine (close_any w (Mine gu vo vt) gu vo vt u w H.uk.rebase H.sane).mono ?_
  rintro e w' ⟨rfl, h⟩
  obtain ⟨h1, h2, h3⟩ := H.moved h
  have e := close_part H.shut hw hc
  have hs := close_says u T (by rw [e]; exact (fun q => (by cases q))) (by rw [e]; exact (fun q => (by cases q)))
  refine ⟨?_, h1, h2⟩
  rw [hs.2.1 (by rw [e]; exact (fun q => (by cases q))), hs.2.2.1, hs.2.2.2, e]
  rfl

set_option maxRecDepth 100000 in
set_option maxHeartbeats 4000000 in
theorem plays_law (a : Option Addr) (len cap : Nat) (f : Nat → PCall) (w : World) (hops : IsPOps w a len cap f) (hlen : len ≤ 1048576) (hsum : psum f len ≤ 1048576) :
    Calls Try.prog 11 #[.slice a len cap] w fun e w' => e = .returned (.bool true) ∧ Below w.heap.size w w' := by
  have HOPS := Lib.hid hops
  have hread0 : ∀ W, Calls Try.prog 24 #[.string ⟨#[]⟩] W fun e w' => e = .returned (.agg #[.string ⟨#[]⟩, .bool false, .int .i64 0, .int .i64 0, .int .i64 0]) ∧ Below W.heap.size W w' := fun W => by
    have h := read_any ⟨#[]⟩ (by decide) W
    rw [show nb ⟨#[]⟩ = [] from rfl, feed_nil, whole_new] at h
    exact h
  have HREAD0 := Lib.hid hread0
  have HSUM := Lib.hid hsum
  clear hops hread0 hsum
  go_enter Try.func11, Try.ntmps11
  go_upto_region 6 with (first | (go_at_call 20; refine (new_any _).mono ?_; rintro e w1 ⟨rfl, h1⟩; have H1 := Lib.hid h1; clear h1) | (go_at_call 15; refine (awake_any _).mono ?_; rintro e w2 ⟨rfl, h2⟩; have H2 := Lib.hid h2; clear h2) | (go_at_call 24; refine (HREAD0.out _).mono ?_; rintro e w3 ⟨rfl, h3⟩; have H3 := Lib.hid h3; clear h3))
  have K0 : PlU w (w3.alloc (.cells #[.string ⟨#[]⟩, .bool false, .int .i64 0, .int .i64 0, .int .i64 0] 60)) w.heap.size w3.heap.size (.slice none 0 0) (.slice none 0 0) US.new ⟨#[]⟩ false ⟨#[]⟩ false (psum f 0) := by
    have h3 := (H1.out.later H2.out).later H3.out
    have hk := h3.later ((Below.refl w3.heap.size w3).alloc (Nat.le_refl _) (.cells #[.string ⟨#[]⟩, .bool false, .int .i64 0, .int .i64 0, .int .i64 0] 60))
    refine ⟨hk, heap_alloc_new _ _, fun h => Nat.lt_irrefl _ (h3.mine h).1, fun _ => fine_new, sane_new, rfl, fun _ => ⟨rfl, rfl, rfl⟩, (fun h => (by cases h)), fun _ => rfl, Nat.le_refl _, Nat.le_refl _⟩
  have HK0 := Lib.hid K0
  have hgb : w.heap.size ≤ w3.heap.size := by
    have a1 := H1.out.far.size
    have a2 := H2.out.size
    have a3 := H3.out.size
    omega
  have HGB := Lib.hid hgb
  clear K0 H1 H2 H3 hgb
  generalize w3.alloc (.cells #[.string ⟨#[]⟩, .bool false, .int .i64 0, .int .i64 0, .int .i64 0] 60) = wi at *
  generalize w3.heap.size = gg at *
  obtain ⟨gu, hgu⟩ : ∃ gu, gu = w.heap.size := ⟨_, rfl⟩
  rw [← hgu]
  rw [← hgu] at HK0
  clear hgu
  go_wp2_with fail
  go_loopw [4, 5, 24] (fun x4 x5 x24 wr => ∃ (k : Nat) (all : ByteArray) (sh : Bool) (vo vt : Value) (u : US) (T : ByteArray) (Wh : Bool), k ≤ len ∧ x4 = .string all ∧ x5 = .bool sh ∧ x24 = .int .i64 k ∧ PlU w wr gu gg vo vt u all sh T Wh (psum f k)) (fun _ _ i _ => len - (intOf i).toNat)
  case atStart => exact ⟨0, ⟨#[]⟩, false, _, _, _, _, _, Nat.zero_le _, rfl, rfl, rfl, HK0.out⟩
  case round =>
    clear HK0
    obtain ⟨k, all, sh, vo, vt, u, T, Wh, hk, rfl, rfl, rfl, hp⟩ := hrel
    have hk0 : (0 : Int) ≤ k := by omega
    by_cases hlt : k < len
    · obtain ⟨x, rfl, hxb, hcells⟩ := HOPS.out.at_ (by omega)
      obtain ⟨c0, c1⟩ := hcells k hlt
      have hbl := hp.uk.far.below
      rw [← hbl.cell (by rw [block_add]; exact hxb)] at c0 c1
      rw [add_next2 _ _ _ (by omega)] at c1
      have hk1 : (k : Int) < len := by omega
      obtain ⟨cl, hcl⟩ : ∃ cl, (f k).shut = cl := ⟨_, rfl⟩
      obtain ⟨t, ht⟩ : ∃ t, (f k).text = t := ⟨_, rfl⟩
      rw [hcl] at c0
      rw [ht] at c1
      have hts : psum f k + t.size = psum f (k + 1) := by rw [← ht]; rfl
      have htl := Nat.le_trans (psum_mono f (show k + 1 ≤ len by omega)) HSUM.out
      have HTS := Lib.hid hts
      have HTL := Lib.hid htl
      have HP := Lib.hid hp
      clear hp hcells hbl hcl ht hts htl hxb
      go_upto_region 9 with fail
      have HO := Lib.hid (HP.out.later ((Below.refl wr.heap.size wr).alloc (Nat.le_refl _) (.cells #[.bool cl, .string t] 63)))
      have ho := heap_alloc_new wr (.cells #[.bool cl, .string t] 63)
      have o0 := cell_of_row _ _ 0 _ _ _ ho
      have o1 := cell_of_row _ _ 1 _ _ _ ho
      have HGO := Lib.hid (show ¬ Mine gu vo vt wr.heap.size from fun h => Nat.lt_irrefl _ (HP.out.uk.mine h).1)
      have HGL := Lib.hid (show wr.heap.size < (wr.alloc (.cells #[.bool cl, .string t] 63)).heap.size by simp)
      clear HP c0 c1 ho
      generalize wr.alloc (.cells #[.bool cl, .string t] 63) = W at *
      generalize wr.heap.size = go at *
      go_upto_if 29 with fail
      go_cut [4, 5, 9, 10, 11, 12] from 25 to 129 (fun x4 x5 x9 x10 x11 x12 wx => ∃ (all : ByteArray) (sh : Bool) (vo vt : Value) (u : US) (T : ByteArray) (Wh : Bool), x4 = .string all ∧ x5 = .bool sh ∧ PlU w wx gu gg vo vt u all sh T Wh (psum f (k + 1)))
      case first =>
        cases cl with
        | false =>
          have hcv := fun W => Lib.run_convert_string_bytes (P := Try.prog) W 9 43 5 t Try.underlying9 Try.underlying43 Try.underlying5
          have g4 := HO.out.c4
          have hroom : u.taken + t.size ≤ 4000000000000000000 := by have := HO.out.small; have := HTS.out; have := HTL.out; omega
          cases sh with
          | true =>
            have hfeed : ∀ cp, Calls Try.prog 21 #[.pointer (some ⟨gu, 0, none⟩), .slice (some ⟨W.heap.size, 0, none⟩) t.size cp] (Lib.bytesWorld W 5 t) fun e w' => e = .returned (.int .i64 0) ∧ ∃ vo' vt', PlU w w' gu gg vo' vt' u all true T Wh (psum f (k + 1)) := fun cp => by
              refine (feed_conv W (Mine gu vo vt) gu cp t vo vt u W HO.out.uk.rebase HO.out.fine hroom).mono ?_
              rintro e w' ⟨rfl, vo', vt', h⟩
              obtain ⟨h1, h2⟩ := HO.out.idle h
              rw [HTS.out] at h2
              rw [h1]
              exact ⟨rfl, vo', vt', h2⟩
            obtain ⟨ut, hut⟩ : ∃ ut, u.taken = ut := ⟨_, rfl⟩
            rw [hut] at g4
            have HUT := Lib.hid hut
            have HFEED := Lib.hid hfeed
            clear hfeed hroom HO hut
            go_upto_region 18 with (go_at_call 21; refine (HFEED.out _).mono ?_; rintro e w4 ⟨rfl, h4⟩; have H4 := Lib.hid h4; clear h4)
            obtain ⟨vo4, vt4, h4⟩ := H4.out
            have g44 := h4.c4
            rw [HUT.out] at g44
            have HP4 := Lib.hid h4
            clear h4 H4 hcv HFEED o0 o1 g4
            go_wp2_with fail
            go_meet
            exact ⟨all, true, vo4, vt4, u, T, Wh, rfl, rfl, HP4.out⟩
          | false =>
            obtain ⟨V, hV⟩ : ∃ V, u.feed (nb t) = V := ⟨_, rfl⟩
            obtain ⟨T2, hT2⟩ : ∃ T2, (if V.whole = true then strOf V.out else ⟨#[]⟩) = T2 := ⟨_, rfl⟩
            obtain ⟨b2, hb2⟩ : ∃ b2, V.whole = b2 := ⟨_, rfl⟩
            have hmono := (fine_feed (nb t) u HO.out.fine (nb_bytes t)).2.2.1
            rw [hV] at hmono
            obtain ⟨d, hd⟩ : ∃ d, V.taken - u.taken = d := ⟨_, rfl⟩
            have hfeed : ∀ cp, Calls Try.prog 21 #[.pointer (some ⟨gu, 0, none⟩), .slice (some ⟨W.heap.size, 0, none⟩) t.size cp] (Lib.bytesWorld W 5 t) fun e w' => e = .returned (.int .i64 (d : Int)) ∧ ∃ vo' vt', UkS w (fun _ => False) w' gu vo' vt' V ∧ w'.heap[gg]? = some (.cells (gcells T Wh u) 60 (0, 0)) ∧ ¬ Mine gu vo' vt' gg ∧ w'.cell? ⟨go, 1, none⟩ = some (.string t) := fun cp => by
              refine (feed_conv W (Mine gu vo vt) gu cp t vo vt u W HO.out.uk.rebase HO.out.fine hroom).mono ?_
              rintro e w' ⟨rfl, vo', vt', h⟩
              rw [hV] at h
              rw [hV, hd]
              obtain ⟨m1, m2, m3⟩ := HO.out.moved h
              exact ⟨rfl, vo', vt', m1, m2, m3, (World.cell?_of_block (h.far.block go HGL.out HGO.out)).trans o1⟩
            have hread : ∀ W', Calls Try.prog 24 #[.string (all ++ t)] W' fun e w' => e = .returned (.agg #[.string T2, .bool b2, .int .i64 (V.code : Nat), .int .i64 (V.at_ : Nat), .int .i64 (V.taken : Nat)]) ∧ Below W'.heap.size W' w' := fun W' => by
              have h := read_any (all ++ t) (by rw [ByteArray.size_append]; have := HO.out.size; have := HTS.out; have := HTL.out; omega) W'
              rw [nb_append, feed_append, ← (HO.out.op rfl).1, hV] at h
              unfold gotV at h
              rw [hT2, hb2] at h
              exact h
            have hnext : ∀ (w' : World) (vo' vt' : Value), UkS w (fun _ => False) w' gu vo' vt' V → ¬ Mine gu vo' vt' gg → w'.heap[gg]? = some (.cells (gcells T2 b2 V) 60 (0, 0)) → PlU w w' gu gg vo' vt' V (all ++ t) false T2 b2 (psum f (k + 1)) := fun w' vo' vt' h1 h2 h3 => by
              have h := HO.out.fed (t := t) (w' := w') (vo' := vo') (vt' := vt') (by rw [hV]; exact h1) h2 (by rw [hV, hT2, hb2]; exact h3)
              rw [hV, hT2, hb2, HTS.out] at h
              exact h
            have hssz : all.size + t.size ≤ 9223372036854775807 := by have := HO.out.size; have := HTS.out; have := HTL.out; omega
            obtain ⟨ut, hut⟩ : ∃ ut, u.taken = ut := ⟨_, rfl⟩
            obtain ⟨vtk, hvt⟩ : ∃ x, V.taken = x := ⟨_, rfl⟩
            rw [hut] at g4 hmono hd
            rw [hvt] at hmono hd hread
            have hdI : (vtk : Int) - ut = d := by omega
            have HVT := Lib.hid hvt
            have HFEED := Lib.hid hfeed
            have HREAD := Lib.hid hread
            have HNEXT := Lib.hid hnext
            have hvts : vtk ≤ 4000000000000000000 := by
              have h := (fine_feed (nb t) u HO.out.fine (nb_bytes t)).2.2.2.1
              rw [hV, nb_length, hvt] at h
              omega
            have hvtI : (vtk : Int) ≤ 4000000000000000000 := by omega
            clear hfeed hroom HO hut hread hnext hvt hd hT2 hb2 hV hvts
            go_upto_region 18 with (go_at_call 21; refine (HFEED.out _).mono ?_; rintro e w4 ⟨rfl, h4⟩; have H4 := Lib.hid h4; clear h4)
            obtain ⟨vo4, vt4, hu4, hr4, hm4, ho4⟩ := H4.out
            have HU4 := Lib.hid hu4
            have HR4 := Lib.hid hr4
            have HM4 := Lib.hid hm4
            clear H4 hcv HFEED o0 o1 g4 hu4 hr4 hm4
            go_upto_region 20 with fail
            go_wp2_with (go_at_call 24; refine (HREAD.out _).mono ?_; rintro e w5 ⟨rfl, h5⟩; have hr5 := (h5.block _ (lt_of_row HR4.out)).trans HR4.out; have f50 := frozen_of_row _ gg 0 _ _ hr5; have f51 := frozen_of_row _ gg 1 _ _ hr5; have f52 := frozen_of_row _ gg 2 _ _ hr5; have f53 := frozen_of_row _ gg 3 _ _ hr5; have f54 := frozen_of_row _ gg 4 _ _ hr5; have q50 : w5.cell? ⟨gg, 0, none⟩ = some (.string T) := cell_of_row _ gg 0 _ _ _ hr5; have q51 : w5.cell? ⟨gg, 1, none⟩ = some (.bool Wh) := cell_of_row _ gg 1 _ _ _ hr5; have q52 : w5.cell? ⟨gg, 2, none⟩ = some (.int .i64 (u.code : Nat)) := cell_of_row _ gg 2 _ _ _ hr5; have q53 : w5.cell? ⟨gg, 3, none⟩ = some (.int .i64 (u.at_ : Nat)) := cell_of_row _ gg 3 _ _ _ hr5; have q54 : w5.cell? ⟨gg, 4, none⟩ = some (.int .i64 (u.taken : Nat)) := cell_of_row _ gg 4 _ _ _ hr5; have HR5 := Lib.hid hr5; have HU5 := Lib.hid (HU4.out.later h5); clear h5 hr5)
            go_meet
            refine ⟨all ++ t, false, vo4, vt4, V, T2, b2, rfl, rfl, HNEXT.out _ _ _ (((((HU5.out.other HGB.out HM4.out).other HGB.out HM4.out).other HGB.out HM4.out).other HGB.out HM4.out).other HGB.out HM4.out) HM4.out ?_⟩
            rw [← HVT.out]
            exact set_row5 HR5.out _ _ _ _ _
        | true =>
          clear o1
          cases sh with
          | true =>
            by_cases hc : u.code = 0
            · have hclose := HO.out.closing0 (.inl rfl) hc _ rfl
              generalize ((u.at_ : Nat) : Int) = ai at hclose
              clear hc
              have HCLOSE := Lib.hid hclose
              clear hclose HO
              go_upto_region 11 with (go_at_call 22; refine HCLOSE.out.mono ?_; rintro e w2 ⟨rfl, h2⟩; have H2 := Lib.hid h2; clear h2)
              have hn := heap_alloc_new w2 (.cells #[.int .i64 0, .int .i64 ai] 38)
              obtain ⟨h2, h2c, h2a⟩ := H2.out
              have h3 := h2.later ((Below.refl w2.heap.size w2).alloc (Nat.le_refl _) (.cells #[.int .i64 0, .int .i64 ai] 38))
              have r0 : (w2.alloc (.cells #[.int .i64 0, .int .i64 ai] 38)).cell? ⟨w2.heap.size, 0, none⟩ = some (.int .i64 0) := cell_of_row _ _ 0 _ _ _ hn
              have r1 : (w2.alloc (.cells #[.int .i64 0, .int .i64 ai] 38)).cell? ⟨w2.heap.size, 1, none⟩ = some (.int .i64 ai) := cell_of_row _ _ 1 _ _ _ hn
              have k0 := h3.c0
              have k1 := h3.c1
              have k2 := h3.c2
              have k3 := h3.c3
              rw [h2c] at k2
              rw [h2a] at k3
              have HP3 := Lib.hid h3
              clear hn h2 h2c h2a h3 H2 HCLOSE
              generalize w2.alloc (.cells #[.int .i64 0, .int .i64 ai] 38) = w3 at *
              generalize w2.heap.size = f10 at *
              go_wp2_with fail
              go_meet
              exact ⟨all, true, vo, vt, u.close, T, _, rfl, rfl, HP3.out.more (by have := HTS.out; omega)⟩
            · have hclose := HO.out.closing1 hc _ _ rfl rfl
              have hcI : ¬ ((u.code : Nat) : Int) = 0 := by omega
              generalize ((u.at_ : Nat) : Int) = ai at hclose
              generalize ((u.code : Nat) : Int) = ci at hclose hcI
              have hcb : (ci == 0) = false := by simpa using hcI
              clear hc
              have HCLOSE := Lib.hid hclose
              clear hclose HO
              go_upto_region 11 with (go_at_call 22; refine HCLOSE.out.mono ?_; rintro e w2 ⟨rfl, h2⟩; have H2 := Lib.hid h2; clear h2)
              have hn := heap_alloc_new w2 (.cells #[.int .i64 ci, .int .i64 ai] 38)
              obtain ⟨h2, h2c, h2a⟩ := H2.out
              have h3 := h2.later ((Below.refl w2.heap.size w2).alloc (Nat.le_refl _) (.cells #[.int .i64 ci, .int .i64 ai] 38))
              have r0 : (w2.alloc (.cells #[.int .i64 ci, .int .i64 ai] 38)).cell? ⟨w2.heap.size, 0, none⟩ = some (.int .i64 ci) := cell_of_row _ _ 0 _ _ _ hn
              have r1 : (w2.alloc (.cells #[.int .i64 ci, .int .i64 ai] 38)).cell? ⟨w2.heap.size, 1, none⟩ = some (.int .i64 ai) := cell_of_row _ _ 1 _ _ _ hn
              have k0 := h3.c0
              have k1 := h3.c1
              have k2 := h3.c2
              have k3 := h3.c3
              rw [h2c] at k2
              rw [h2a] at k3
              have HP3 := Lib.hid h3
              clear hn h2 h2c h2a h3 H2 HCLOSE
              generalize w2.alloc (.cells #[.int .i64 ci, .int .i64 ai] 38) = w3 at *
              generalize w2.heap.size = f10 at *
              go_wp2_with fail
              go_meet
              exact ⟨all, true, vo, vt, u.close, T, _, rfl, rfl, HP3.out.more (by have := HTS.out; omega)⟩
          | false =>
            have hop := (HO.out.op rfl).2.1
            cases Wh with
            | true =>
              have hw := hop.symm
              clear hop
              by_cases hc : u.code = 0
              · have hclose := HO.out.closing0 (.inr (.inl hw)) hc _ rfl
                generalize ((u.at_ : Nat) : Int) = ai at hclose
                clear hc
                clear hw
                have HCLOSE := Lib.hid hclose
                clear hclose HO
                go_upto_region 11 with (go_at_call 22; refine HCLOSE.out.mono ?_; rintro e w2 ⟨rfl, h2⟩; have H2 := Lib.hid h2; clear h2)
                have hn := heap_alloc_new w2 (.cells #[.int .i64 0, .int .i64 ai] 38)
                obtain ⟨h2, h2c, h2a⟩ := H2.out
                have h3 := h2.later ((Below.refl w2.heap.size w2).alloc (Nat.le_refl _) (.cells #[.int .i64 0, .int .i64 ai] 38))
                have r0 : (w2.alloc (.cells #[.int .i64 0, .int .i64 ai] 38)).cell? ⟨w2.heap.size, 0, none⟩ = some (.int .i64 0) := cell_of_row _ _ 0 _ _ _ hn
                have r1 : (w2.alloc (.cells #[.int .i64 0, .int .i64 ai] 38)).cell? ⟨w2.heap.size, 1, none⟩ = some (.int .i64 ai) := cell_of_row _ _ 1 _ _ _ hn
                have k0 := h3.c0
                have k1 := h3.c1
                have k2 := h3.c2
                have k3 := h3.c3
                rw [h2c] at k2
                rw [h2a] at k3
                have HP3 := Lib.hid h3
                clear hn h2 h2c h2a h3 H2 HCLOSE
                generalize w2.alloc (.cells #[.int .i64 0, .int .i64 ai] 38) = w3 at *
                generalize w2.heap.size = f10 at *
                go_wp2_with fail
                go_meet
                exact ⟨all, true, vo, vt, u.close, T, _, rfl, rfl, HP3.out.more (by have := HTS.out; omega)⟩
              · have hclose := HO.out.closing1 hc _ _ rfl rfl
                have hcI : ¬ ((u.code : Nat) : Int) = 0 := by omega
                generalize ((u.at_ : Nat) : Int) = ai at hclose
                generalize ((u.code : Nat) : Int) = ci at hclose hcI
                have hcb : (ci == 0) = false := by simpa using hcI
                clear hc
                clear hw
                have HCLOSE := Lib.hid hclose
                clear hclose HO
                go_upto_region 11 with (go_at_call 22; refine HCLOSE.out.mono ?_; rintro e w2 ⟨rfl, h2⟩; have H2 := Lib.hid h2; clear h2)
                have hn := heap_alloc_new w2 (.cells #[.int .i64 ci, .int .i64 ai] 38)
                obtain ⟨h2, h2c, h2a⟩ := H2.out
                have h3 := h2.later ((Below.refl w2.heap.size w2).alloc (Nat.le_refl _) (.cells #[.int .i64 ci, .int .i64 ai] 38))
                have r0 : (w2.alloc (.cells #[.int .i64 ci, .int .i64 ai] 38)).cell? ⟨w2.heap.size, 0, none⟩ = some (.int .i64 ci) := cell_of_row _ _ 0 _ _ _ hn
                have r1 : (w2.alloc (.cells #[.int .i64 ci, .int .i64 ai] 38)).cell? ⟨w2.heap.size, 1, none⟩ = some (.int .i64 ai) := cell_of_row _ _ 1 _ _ _ hn
                have k0 := h3.c0
                have k1 := h3.c1
                have k2 := h3.c2
                have k3 := h3.c3
                rw [h2c] at k2
                rw [h2a] at k3
                have HP3 := Lib.hid h3
                clear hn h2 h2c h2a h3 H2 HCLOSE
                generalize w2.alloc (.cells #[.int .i64 ci, .int .i64 ai] 38) = w3 at *
                generalize w2.heap.size = f10 at *
                go_wp2_with fail
                go_meet
                exact ⟨all, true, vo, vt, u.close, T, _, rfl, rfl, HP3.out.more (by have := HTS.out; omega)⟩
            | false =>
              have hw := hop.symm
              clear hop
              by_cases hc : u.code = 0
              · have hclose := HO.out.closing2 hw hc
                have hpart := fun w' => HO.out.part (w' := w') hw hc
                have hkc : ((u.code : Nat) : Int) = 0 := by omega
                obtain ⟨ut, hut⟩ : ∃ ut, u.taken = ut := ⟨_, rfl⟩
                rw [hut] at hclose hpart
                have HUT := Lib.hid hut
                have HKC := Lib.hid hkc
                have HCLOSE := Lib.hid hclose
                have HPART := Lib.hid hpart
                have HM4 := Lib.hid HO.out.mine
                clear hclose hpart HO hw hc hut hkc
                go_upto_region 11 with (go_at_call 22; refine HCLOSE.out.mono ?_; rintro e w2 ⟨rfl, h2⟩; have H2 := Lib.hid h2; clear h2)
                obtain ⟨h2, hr2⟩ := H2.out
                have hba := (Below.refl w2.heap.size w2).alloc (Nat.le_refl _) (.cells #[.int .i64 4, .int .i64 (ut : Int)] 38)
                have hn := heap_alloc_new w2 (.cells #[.int .i64 4, .int .i64 (ut : Int)] 38)
                have r0 : (w2.alloc (.cells #[.int .i64 4, .int .i64 (ut : Int)] 38)).cell? ⟨w2.heap.size, 0, none⟩ = some (.int .i64 4) := cell_of_row _ _ 0 _ _ _ hn
                have r1 : (w2.alloc (.cells #[.int .i64 4, .int .i64 (ut : Int)] 38)).cell? ⟨w2.heap.size, 1, none⟩ = some (.int .i64 (ut : Int)) := cell_of_row _ _ 1 _ _ _ hn
                have hgf : gg ≠ w2.heap.size := Nat.ne_of_lt (lt_of_row hr2)
                have h3 := h2.later hba
                have hr3 := (hba.block _ (lt_of_row hr2)).trans hr2
                clear hba hn h2 hr2 H2 HCLOSE
                generalize w2.alloc (.cells #[.int .i64 4, .int .i64 (ut : Int)] 38) = w3 at *
                generalize w2.heap.size = f10 at *
                have k0 : w3.cell? ⟨gg, 0, none⟩ = some (.string T) := cell_of_row _ gg 0 _ _ _ hr3
                have k1 : w3.cell? ⟨gg, 1, none⟩ = some (.bool false) := cell_of_row _ gg 1 _ _ _ hr3
                have k2 : w3.cell? ⟨gg, 2, none⟩ = some (.int .i64 (u.code : Nat)) := cell_of_row _ gg 2 _ _ _ hr3
                have k3 : w3.cell? ⟨gg, 3, none⟩ = some (.int .i64 (u.at_ : Nat)) := cell_of_row _ gg 3 _ _ _ hr3
                have k4 : w3.cell? ⟨gg, 4, none⟩ = some (.int .i64 (u.taken : Nat)) := cell_of_row _ gg 4 _ _ _ hr3
                rw [HKC.out] at k2
                rw [HUT.out] at k4
                have f2 := frozen_of_row _ gg 2 _ _ hr3
                have f3 := frozen_of_row _ gg 3 _ _ hr3
                have HU3 := Lib.hid h3
                have HR3 := Lib.hid hr3
                clear h3 hr3
                have hgf2 : ¬ f10 = gg := fun h => hgf h.symm
                go_wp2_with fail
                go_meet
                refine ⟨all, true, vo, vt, u.close, T, false, rfl, rfl, (HPART.out _ ((HU3.out.other HGB.out HM4.out).other HGB.out HM4.out) ?_).more (by have := HTS.out; omega)⟩
                rw [set_row2 HR3.out, HUT.out]
              · have hclose := HO.out.closing1 hc _ _ rfl rfl
                have hcI : ¬ ((u.code : Nat) : Int) = 0 := by omega
                generalize ((u.at_ : Nat) : Int) = ai at hclose
                generalize ((u.code : Nat) : Int) = ci at hclose hcI
                have hcb : (ci == 0) = false := by simpa using hcI
                clear hc hw
                have HCLOSE := Lib.hid hclose
                clear hclose HO
                go_upto_region 11 with (go_at_call 22; refine HCLOSE.out.mono ?_; rintro e w2 ⟨rfl, h2⟩; have H2 := Lib.hid h2; clear h2)
                have hn := heap_alloc_new w2 (.cells #[.int .i64 ci, .int .i64 ai] 38)
                obtain ⟨h2, h2c, h2a⟩ := H2.out
                have h3 := h2.later ((Below.refl w2.heap.size w2).alloc (Nat.le_refl _) (.cells #[.int .i64 ci, .int .i64 ai] 38))
                have r0 : (w2.alloc (.cells #[.int .i64 ci, .int .i64 ai] 38)).cell? ⟨w2.heap.size, 0, none⟩ = some (.int .i64 ci) := cell_of_row _ _ 0 _ _ _ hn
                have r1 : (w2.alloc (.cells #[.int .i64 ci, .int .i64 ai] 38)).cell? ⟨w2.heap.size, 1, none⟩ = some (.int .i64 ai) := cell_of_row _ _ 1 _ _ _ hn
                have k0 := h3.c0
                have k1 := h3.c1
                have k2 := h3.c2
                have k3 := h3.c3
                rw [h2c] at k2
                rw [h2a] at k3
                have HP3 := Lib.hid h3
                clear hn h2 h2c h2a h3 H2 HCLOSE
                generalize w2.alloc (.cells #[.int .i64 ci, .int .i64 ai] 38) = w3 at *
                generalize w2.heap.size = f10 at *
                go_wp2_with fail
                go_meet
                exact ⟨all, true, vo, vt, u.close, T, _, rfl, rfl, HP3.out.more (by have := HTS.out; omega)⟩
      case rest =>
        obtain ⟨all, sh, vo, vt, u, T, Wh, rfl, rfl, hp⟩ := hcut
        have HP := Lib.hid hp
        clear hp o0 o1 HO
        go_upto_region 24 with (go_at_call 25; refine (fault_any HP.out.uk).mono ?_; rintro e w4 ⟨rfl, h4⟩; have H4 := Lib.hid h4; clear h4)
        have hn := heap_alloc_new w4 (.cells #[.int .i64 (u.code : Nat), .int .i64 (u.at_ : Nat)] 38)
        have hp5 := (HP.out.later H4.out).later ((Below.refl w4.heap.size w4).alloc (Nat.le_refl _) (.cells #[.int .i64 (u.code : Nat), .int .i64 (u.at_ : Nat)] 38))
        have c5 : (w4.alloc (.cells #[.int .i64 (u.code : Nat), .int .i64 (u.at_ : Nat)] 38)).cell? ⟨w4.heap.size, 0, none⟩ = some (.int .i64 (u.code : Nat)) := cell_of_row _ _ 0 _ _ _ hn
        have c6 : (w4.alloc (.cells #[.int .i64 (u.code : Nat), .int .i64 (u.at_ : Nat)] 38)).cell? ⟨w4.heap.size, 1, none⟩ = some (.int .i64 (u.at_ : Nat)) := cell_of_row _ _ 1 _ _ _ hn
        clear HP H4 hn
        generalize w4.alloc (.cells #[.int .i64 (u.code : Nat), .int .i64 (u.at_ : Nat)] 38) = w5 at *
        generalize w4.heap.size = f4 at *
        refine wp_region_noPanic ?_
        refine wp_region_held_drew (S := fun w' => PlU w w' gu gg vo vt u all sh T Wh (psum f (k + 1)) ∧ w'.cell? ⟨f4, 0, none⟩ = some (.int .i64 (u.code : Nat)) ∧ w'.cell? ⟨f4, 1, none⟩ = some (.int .i64 (u.at_ : Nat))) (by kernel_rfl) ⟨hp5.later (Below.refl _ _).drew, c5, c6⟩ (fun hHeld => ?_)
        clear hp5 c5 c6
        refine wpAnyH_take (i := 0) (oi := _) (v := (.pointer (some ⟨f4, 0, none⟩))) rfl (by kernel_rfl) (by kernel_rfl) (by kernel_rfl) (fun _ _ _ h => h) (Or.inl ⟨by rfl, fun w' _ => by go_simp⟩) hHeld ?_
        try simp only [Act.put, List.getElem_toArray, List.getElem_cons_succ, List.getElem_cons_zero, List.setIfInBounds_toArray, List.set_cons_zero, List.set_cons_succ]
        refine wpAnyH_take (i := 1) (oi := _) (v := (.int .i64 (u.code : Nat))) rfl (by kernel_rfl) (by kernel_rfl) (by kernel_rfl) (fun _ _ _ h => h) (Or.inl ⟨by rfl, fun w' hSw => by have h1 := hSw.2.1; go_simp⟩) hHeld ?_
        try simp only [Act.put, List.getElem_toArray, List.getElem_cons_succ, List.getElem_cons_zero, List.setIfInBounds_toArray, List.set_cons_zero, List.set_cons_succ]
        refine wpAnyH_take (i := 2) (oi := _) (v := (.pointer (some ⟨gg, 2, none⟩))) rfl (by kernel_rfl) (by kernel_rfl) (by kernel_rfl) (fun _ _ _ h => h) (Or.inl ⟨by rfl, fun w' _ => by go_simp⟩) hHeld ?_
        try simp only [Act.put, List.getElem_toArray, List.getElem_cons_succ, List.getElem_cons_zero, List.setIfInBounds_toArray, List.set_cons_zero, List.set_cons_succ]
        refine wpAnyH_take (i := 3) (oi := _) (v := (.int .i64 (u.code : Nat))) rfl (by kernel_rfl) (by kernel_rfl) (by kernel_rfl) (fun _ _ _ h => h) (Or.inl ⟨by rfl, fun w' hSw => by have h1 := hSw.1.c2; go_simp⟩) hHeld ?_
        try simp only [Act.put, List.getElem_toArray, List.getElem_cons_succ, List.getElem_cons_zero, List.setIfInBounds_toArray, List.set_cons_zero, List.set_cons_succ]
        refine wpAnyH_take (i := 4) (oi := _) (v := (.bool false)) rfl (by kernel_rfl) (by kernel_rfl) (by kernel_rfl) (fun _ _ _ h => h) (Or.inl ⟨by rfl, fun w' _ => by go_simp⟩) hHeld ?_
        try simp only [Act.put, List.getElem_toArray, List.getElem_cons_succ, List.getElem_cons_zero, List.setIfInBounds_toArray, List.set_cons_zero, List.set_cons_succ]
        refine wpAnyH_take (i := 5) (oi := _) (v := (.bool false)) rfl (by kernel_rfl) (by kernel_rfl) (by kernel_rfl) (fun _ _ _ h => h) (Or.inl ⟨by rfl, fun w' _ => by go_simp⟩) hHeld ?_
        try simp only [Act.put, List.getElem_toArray, List.getElem_cons_succ, List.getElem_cons_zero, List.setIfInBounds_toArray, List.set_cons_zero, List.set_cons_succ]
        refine wpAnyH_take (i := 6) (oi := _) (v := (.pointer (some ⟨f4, 1, none⟩))) rfl (by kernel_rfl) (by kernel_rfl) (by kernel_rfl) (fun _ _ _ h => h) (Or.inl ⟨by rfl, fun w' _ => by go_simp⟩) hHeld ?_
        try simp only [Act.put, List.getElem_toArray, List.getElem_cons_succ, List.getElem_cons_zero, List.setIfInBounds_toArray, List.set_cons_zero, List.set_cons_succ]
        refine wpAnyH_take (i := 7) (oi := _) (v := (.int .i64 (u.at_ : Nat))) rfl (by kernel_rfl) (by kernel_rfl) (by kernel_rfl) (fun _ _ _ h => h) (Or.inl ⟨by rfl, fun w' hSw => by have h1 := hSw.2.2; go_simp⟩) hHeld ?_
        try simp only [Act.put, List.getElem_toArray, List.getElem_cons_succ, List.getElem_cons_zero, List.setIfInBounds_toArray, List.set_cons_zero, List.set_cons_succ]
        refine wpAnyH_take (i := 8) (oi := _) (v := (.pointer (some ⟨gg, 3, none⟩))) rfl (by kernel_rfl) (by kernel_rfl) (by kernel_rfl) (fun _ _ _ h => h) (Or.inl ⟨by rfl, fun w' _ => by go_simp⟩) hHeld ?_
        try simp only [Act.put, List.getElem_toArray, List.getElem_cons_succ, List.getElem_cons_zero, List.setIfInBounds_toArray, List.set_cons_zero, List.set_cons_succ]
        refine wpAnyH_take (i := 9) (oi := _) (v := (.int .i64 (u.at_ : Nat))) rfl (by kernel_rfl) (by kernel_rfl) (by kernel_rfl) (fun _ _ _ h => h) (Or.inl ⟨by rfl, fun w' hSw => by have h1 := hSw.1.c3; go_simp⟩) hHeld ?_
        try simp only [Act.put, List.getElem_toArray, List.getElem_cons_succ, List.getElem_cons_zero, List.setIfInBounds_toArray, List.set_cons_zero, List.set_cons_succ]
        refine wpAnyH_take (i := 10) (oi := _) (v := (.bool false)) rfl (by kernel_rfl) (by kernel_rfl) (by kernel_rfl) (fun _ _ _ h => h) (Or.inl ⟨by rfl, fun w' _ => by go_simp⟩) hHeld ?_
        try simp only [Act.put, List.getElem_toArray, List.getElem_cons_succ, List.getElem_cons_zero, List.setIfInBounds_toArray, List.set_cons_zero, List.set_cons_succ]
        refine wpAnyH_take (i := 11) (oi := _) (v := (.bool false)) rfl (by kernel_rfl) (by kernel_rfl) (by kernel_rfl) (fun _ _ _ h => h) (Or.inl ⟨by rfl, fun w' _ => by go_simp⟩) hHeld ?_
        try simp only [Act.put, List.getElem_toArray, List.getElem_cons_succ, List.getElem_cons_zero, List.setIfInBounds_toArray, List.set_cons_zero, List.set_cons_succ]
        refine wpAnyH_take (i := 12) (oi := _) (v := (.bool false)) rfl (by kernel_rfl) (by kernel_rfl) (by kernel_rfl) (fun _ _ _ h => h) (Or.inl ⟨by rfl, fun w' _ => by go_simp⟩) hHeld ?_
        try simp only [Act.put, List.getElem_toArray, List.getElem_cons_succ, List.getElem_cons_zero, List.setIfInBounds_toArray, List.set_cons_zero, List.set_cons_succ]
        refine wpAnyH_take (i := 13) (oi := _) (v := (.pointer (some ⟨gu, 0, none⟩))) rfl (by kernel_rfl) (by kernel_rfl) (by kernel_rfl) (fun _ _ _ h => h) (Or.inl ⟨by rfl, fun w' _ => by go_simp⟩) hHeld ?_
        try simp only [Act.put, List.getElem_toArray, List.getElem_cons_succ, List.getElem_cons_zero, List.setIfInBounds_toArray, List.set_cons_zero, List.set_cons_succ]
        refine wpAnyH_take (i := 14) (oi := _) (v := (.pointer (some ⟨gu, 0, none⟩))) rfl (by kernel_rfl) (by kernel_rfl) (by kernel_rfl) (fun _ _ _ h => h) (Or.inl ⟨by rfl, fun w' _ => by go_simp⟩) hHeld ?_
        try simp only [Act.put, List.getElem_toArray, List.getElem_cons_succ, List.getElem_cons_zero, List.setIfInBounds_toArray, List.set_cons_zero, List.set_cons_succ]
        refine wpAnyH_take (i := 15) (oi := _) (v := (.pointer (some ⟨gu, 0, none⟩))) rfl (by kernel_rfl) (by kernel_rfl) (by kernel_rfl) (fun _ _ _ h => h) (Or.inl ⟨by rfl, fun w' _ => by go_simp⟩) hHeld ?_
        try simp only [Act.put, List.getElem_toArray, List.getElem_cons_succ, List.getElem_cons_zero, List.setIfInBounds_toArray, List.set_cons_zero, List.set_cons_succ]
        refine wpAnyH_take (i := 17) (oi := _) (v := (.pointer (some ⟨gg, 4, none⟩))) rfl (by kernel_rfl) (by kernel_rfl) (by kernel_rfl) (fun _ _ _ h => h) (Or.inl ⟨by rfl, fun w' _ => by go_simp⟩) hHeld ?_
        try simp only [Act.put, List.getElem_toArray, List.getElem_cons_succ, List.getElem_cons_zero, List.setIfInBounds_toArray, List.set_cons_zero, List.set_cons_succ]
        refine wpAnyH_take (i := 18) (oi := _) (v := (.int .i64 (u.taken : Nat))) rfl (by kernel_rfl) (by kernel_rfl) (by kernel_rfl) (fun _ _ _ h => h) (Or.inl ⟨by rfl, fun w' hSw => by have h1 := hSw.1.c4; go_simp⟩) hHeld ?_
        try simp only [Act.put, List.getElem_toArray, List.getElem_cons_succ, List.getElem_cons_zero, List.setIfInBounds_toArray, List.set_cons_zero, List.set_cons_succ]
        refine wpAnyH_ready (rs := [16]) (by kernel_rfl) (by simp) ?_
        refine AllReadyH.cons (o := _) rfl (fun K hK => ?_) AllReadyH.nil
        rw [if_pos (by rfl)]
        go_simp
        go_at_call 23
        refine (taken_any hHeld.1.uk).mono ?_
        rintro e w6 ⟨rfl, rfl⟩
        refine hK.out _ _ hHeld (fun hHeld => ?_)
        clear hK K
        try dsimp only
        try simp only [Act.put, List.getElem_toArray, List.getElem_cons_succ, List.getElem_cons_zero, List.setIfInBounds_toArray, List.set_cons_zero, List.set_cons_succ]
        refine wpAnyH_take (i := 19) (oi := _) (v := (.bool false)) rfl (by kernel_rfl) (by kernel_rfl) (by kernel_rfl) (fun _ _ _ h => h) (Or.inl ⟨by rfl, fun w' _ => by go_simp⟩) hHeld ?_
        try simp only [Act.put, List.getElem_toArray, List.getElem_cons_succ, List.getElem_cons_zero, List.setIfInBounds_toArray, List.set_cons_zero, List.set_cons_succ]
        refine wpAnyH_take (i := 20) (oi := _) (v := (.bool false)) rfl (by kernel_rfl) (by kernel_rfl) (by kernel_rfl) (fun _ _ _ h => h) (Or.inl ⟨by rfl, fun w' _ => by go_simp⟩) hHeld ?_
        try simp only [Act.put, List.getElem_toArray, List.getElem_cons_succ, List.getElem_cons_zero, List.setIfInBounds_toArray, List.set_cons_zero, List.set_cons_succ]
        refine wpAnyH_done (by kernel_rfl) ?_ _
        refine NoPanic.normal ?_
        have HP6 := Lib.hid hHeld.1
        clear hHeld
        go_wp2_with fail
        go_roundw
        case rel => exact ⟨k + 1, all, sh, vo, vt, u, T, Wh, by omega, rfl, rfl, by go_num, HP6.out⟩
        case measure => simp [intOf]; omega
    · have hk1 : ¬ (k : Int) < len := by omega
      have HB := Lib.hid hp.uk.far.below
      clear hp
      go_wp2_with fail
      go_ret
      exact ⟨rfl, HB.out⟩
end Go.Proofs.Ytikbbofjkchppaa

