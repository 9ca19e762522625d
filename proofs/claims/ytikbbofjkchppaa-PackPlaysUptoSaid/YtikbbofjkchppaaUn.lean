/- The walk of Unpack. -/
import Derived.Test.YtikbbofjkchppaaUz
namespace Go.Proofs.Ytikbbofjkchppaa
set_option linter.unusedVariables false
set_option linter.unusedSimpArgs false
open Go.RowKit

theorem feed_conv (w0 : World) (S : Nat → Prop) (g cap : Nat) (s : ByteArray) (vo vt : Value) (u : US) (w : World) (H : UkS w0 S w g vo vt u) (hf : u.code = 0 → Fine u) (hl : u.taken + s.size ≤ 4000000000000000000) :
    Calls Try.prog 21 #[.pointer (some ⟨g, 0, none⟩), .slice (some ⟨w.heap.size, 0, none⟩) s.size cap] (Lib.bytesWorld w 5 s) fun e w' => e = .returned (.int .i64 (((u.feed (nb s)).taken - u.taken : Nat) : Int)) ∧ ∃ vo' vt', UkS w0 S w' g vo' vt' (u.feed (nb s)) := by
  have hb : Below w.heap.size w (Lib.bytesWorld w 5 s) := below_conv w w s (Below.refl _ _) (Nat.le_refl _)
  have H1 := H.later hb
  have hrd : Rd (Lib.bytesWorld w 5 s) (Mine g vo vt) w.heap.size (nb s) := by
    refine ⟨by rw [Lib.bytesWorld_size]; omega, fun h => Nat.lt_irrefl _ (H.mine h).1, fun j hj => ?_⟩
    rw [nb_length] at hj
    rw [Lib.bytesWorld_cell w 5 s j hj, getD_nb s j hj]
    congr 3
    simp [List.getD_eq_getElem?_getD, hj]
    rfl
  have hfd := feed_any _ _ g w.heap.size cap (nb s) vo vt u _ H1.rebase hf (nb_bytes s) hrd (by rw [nb_length]; exact hl)
  rw [nb_length] at hfd
  refine hfd.mono ?_
  rintro e w' ⟨he, vo', vt', h⟩
  exact ⟨he, vo', vt', H1.join h⟩

set_option maxRecDepth 100000 in
set_option maxHeartbeats 4000000 in
theorem unpack_any (s : ByteArray) (w : World) (hs : s.size ≤ 140737488351232) :
    Calls Try.prog 18 #[.string s] w fun e w' => e = .returned (.tuple #[.string (closeText (US.new.feed (nb s))), .agg #[.int .i64 (closeCode (US.new.feed (nb s)) : Nat), .int .i64 (closeAt (US.new.feed (nb s)) : Nat)]]) ∧ Below w.heap.size w w' := by
  obtain ⟨U, hU⟩ : ∃ U, US.new.feed (nb s) = U := ⟨_, rfl⟩
  rw [hU]
  have hsane := sane_feed (nb s) US.new sane_new (nb_bytes s)
  rw [hU] at hsane
  have HS := Lib.hid hsane
  have HU := Lib.hid hU
  obtain ⟨rt, hrt⟩ : ∃ x, closeText U = x := ⟨_, rfl⟩
  obtain ⟨rc, hrc⟩ : ∃ x, closeCode U = x := ⟨_, rfl⟩
  obtain ⟨ra, hra⟩ : ∃ x, closeAt U = x := ⟨_, rfl⟩
  rw [hrt, hrc, hra]
  have HRT := Lib.hid hrt
  have HRC := Lib.hid hrc
  have HRA := Lib.hid hra
  have hb0 : Below w.heap.size w (w.alloc (.cells #[.int .i64 0, .int .i64 0] 38)) := (Below.refl _ _).alloc (Nat.le_refl _) _
  have hrow := heap_alloc_new w (.cells #[.int .i64 0, .int .i64 0] 38)
  have hlt : w.heap.size < (w.alloc (.cells #[.int .i64 0, .int .i64 0] 38)).heap.size := by simp
  have hcv := fun W => Lib.run_convert_string_bytes (P := Try.prog) W 9 43 5 s Try.underlying9 Try.underlying43 Try.underlying5
  have HB0 := Lib.hid hb0
  clear hU hsane hrt hrc hra hb0
  go_enter Try.func18, Try.ntmps18
  go_upto_region 1 with fail
  generalize hg : w.heap.size = rb at *
  generalize w.alloc (.cells #[.int .i64 0, .int .i64 0] 38) = W1 at *
  have HG := Lib.hid hg
  have HROW := Lib.hid hrow
  have HLT := Lib.hid hlt
  clear hg hrow hlt
  go_upto_region 3 with (first | (go_at_call 20; refine (new_any _).mono ?_; rintro e w2 ⟨rfl, h2⟩; have H2 := Lib.hid h2; clear h2) | (go_at_call 21; refine (feed_conv _ _ _ _ s _ _ _ _ H2.out (fun _ => fine_new) (by show 0 + _ ≤ _; omega)).mono ?_; rintro e w3 ⟨rfl, h3⟩; have H3 := Lib.hid h3; clear h3))
  obtain ⟨vo, vt, h3⟩ := H3.out
  rw [HU.out] at h3
  have H3' := Lib.hid h3
  clear h3 H3
  have hgr : ∀ (W : World) (x y : Value) (u : US) (g : Nat), UkS W1 (fun _ => False) W g x y u → W.heap[rb]? = some (.cells #[.int .i64 0, .int .i64 0] 38 (0, 0)) := fun W x y u g h => (h.far.block rb HLT.out id).trans HROW.out
  have HGR := Lib.hid hgr
  clear hgr hcv
  go_upto_region 4 with (go_at_call 22; refine (close_any _ _ _ vo vt U _ H3'.out HS.out).mono ?_; rintro e w4 ⟨rfl, h4⟩; rw [HRT.out, HRC.out, HRA.out]; have H4 := Lib.hid h4; have hr4 := HGR.out _ _ _ _ _ h4; have r0 := cell_of_row _ rb 0 _ _ _ hr4; have r1 := cell_of_row _ rb 1 _ _ _ hr4; have g0 := frozen_of_row _ rb 0 _ _ hr4; have g1 := frozen_of_row _ rb 1 _ _ hr4; clear h4 hr4)
  have hfin : Below rb w ((w4.setCell ⟨rb, 0, none⟩ (.int .i64 (rc : Int))).setCell ⟨rb, 1, none⟩ (.int .i64 (ra : Int))) := by
    have h1 : Below rb w w4 := by
      have h2 := H4.out.far.below
      have h3 := HB0.out
      refine ⟨h2.os.trans h3.os, h2.tape.trans h3.tape, h2.output.trans h3.output, Nat.le_trans h3.size h2.size, fun k hk => (h2.block k ?_).trans (h3.block k hk)⟩
      have := HLT.out
      omega
    exact (h1.setCell (Nat.le_refl _) _).setCell (Nat.le_refl _) _
  have HFIN := Lib.hid hfin
  clear hfin
  go_wp2_with fail
  exact bodyPost_ret (v := .tuple #[.string rt, .agg #[.int .i64 (rc : Int), .int .i64 (ra : Int)]]) (by simp [results, Try.results18, go_sem, r0, r1]) rfl ⟨rfl, by rw [HG.out]; exact HFIN.out⟩
end Go.Proofs.Ytikbbofjkchppaa

