/- The walks of the reference's Unpack and of the law PackReads. -/
import Derived.Test.YtikbbofjkchppaaRe
namespace Go.Proofs.Ytikbbofjkchppaa
set_option linter.unusedVariables false
set_option linter.unusedSimpArgs false
open Go.RowKit

theorem feed_shut (bs : List Nat) (hb : Bytes bs) : (US.new.feed bs).shut = false := (fine_feed bs US.new (fun _ => fine_new) hb).2.1

set_option maxRecDepth 100000 in
set_option maxHeartbeats 3000000 in
theorem runpack_any (s : ByteArray) (hs : s.size ≤ 140737488351232) (w : World) : Calls Try.prog 19 #[.string s] w fun e w' => e = .returned (.tuple #[.string (closeText (US.new.feed (nb s))), .int .i64 (closeCode (US.new.feed (nb s)) : Nat), .int .i64 (closeAt (US.new.feed (nb s)) : Nat)]) ∧ Below w.heap.size w w' := by
  have hsh := feed_shut (nb s) (nb_bytes s)
  have hread := fun W => read_any s hs W
  obtain ⟨U, hU⟩ : ∃ U, US.new.feed (nb s) = U := ⟨_, rfl⟩
  rw [hU] at hsh ⊢
  simp only [hU] at hread
  by_cases hc : U.code = 0
  · cases hw : U.whole with
    | true =>
      have h1 : closeText U = strOf U.out ∧ closeCode U = 0 ∧ closeAt U = 0 := by
        have hcl : U.close = { U with shut := true } := close_shut _ (fun q => by rw [hw] at q; simp at q)
        exact ⟨by rw [closeText, hcl, if_pos hc], by rw [closeCode, hcl]; exact hc, by rw [closeAt, hcl, if_pos hc]⟩
      rw [h1.1, h1.2.1, h1.2.2]
      simp only [gotV_whole hw, hc] at hread
      generalize strOf U.out = gt at *
      generalize (U.at_ : Nat) = ga at *
      generalize U.taken = gk at *
      have HRD := Lib.hid hread
      clear hread hsh hU hc hw h1
      go_enter Try.func19, Try.ntmps19
      go_wp2_with (go_at_call 24; refine (HRD.out _).mono ?_; rintro e w1 ⟨rfl, h1⟩; have H1 := Lib.hid h1; clear h1)
      go_ret3
      exact ⟨rfl, bl_alloc H1.out _⟩
    | false =>
      have h1 := close_short U hsh hc hw
      rw [h1.1, h1.2.1, h1.2.2]
      simp only [gotV_part hw, hc] at hread
      generalize (U.at_ : Nat) = ga at *
      generalize U.taken = gk at *
      have HRD := Lib.hid hread
      clear hread hsh hU hc hw h1
      go_enter Try.func19, Try.ntmps19
      go_upto_region 3 with (go_at_call 24; refine (HRD.out _).mono ?_; rintro e w1 ⟨rfl, h1⟩; have H1 := Lib.hid h1; clear h1)
      go_quiet (fail)
      go_wp2_with fail
      go_ret3
      exact ⟨rfl, (bl_alloc H1.out _).trans ⟨rfl, rfl, rfl, Nat.le_refl _, fun _ _ => rfl⟩⟩
  · have h1 := close_code U hc
    rw [h1.1, h1.2.1, h1.2.2]
    obtain ⟨R, gt, gw, hR⟩ : ∃ R gt gw, gotV U = R ∧ R = .agg #[.string gt, .bool gw, .int .i64 (U.code : Nat), .int .i64 (U.at_ : Nat), .int .i64 (U.taken : Nat)] := ⟨_, _, _, rfl, rfl⟩
    simp only [hR.1, hR.2] at hread
    obtain ⟨gc, hgc⟩ : ∃ gc, U.code = gc := ⟨_, rfl⟩
    rw [hgc] at hc
    simp only [hgc] at hread ⊢
    generalize (U.at_ : Nat) = ga at *
    generalize U.taken = gk at *
    have hz : ((gc : Int) == 0) = false := by simp; omega
    have hz2 : ((gc : Int) != 0) = true := by simp; omega
    have HRD := Lib.hid hread
    clear hread hsh hU hc h1 hR hgc
    go_enter Try.func19, Try.ntmps19
    go_upto_region 5 with (go_at_call 24; refine (HRD.out _).mono ?_; rintro e w1 ⟨rfl, h1⟩; have H1 := Lib.hid h1; clear h1)
    go_quiet (fail)
    go_wp2_with fail
    go_ret3
    exact ⟨rfl, (bl_alloc H1.out _).trans ⟨rfl, rfl, rfl, Nat.le_refl _, fun _ _ => rfl⟩⟩

set_option maxRecDepth 100000 in
set_option maxHeartbeats 3000000 in
theorem reads_law (s : ByteArray) (hs : s.size ≤ 140737488351232) (w : World) : Calls Try.prog 5 #[.string s] w fun e w' => e = .returned (.bool true) ∧ Below w.heap.size w w' := by
  have hu := fun W => unpack_any s W hs
  have hr := fun W => runpack_any s hs W
  generalize closeText (US.new.feed (nb s)) = rt at *
  generalize closeCode (US.new.feed (nb s)) = rc at *
  generalize closeAt (US.new.feed (nb s)) = ra at *
  have HU := Lib.hid hu
  have HR := Lib.hid hr
  clear hu hr
  go_enter Try.func5, Try.ntmps5
  go_upto_region 4 with (first | (go_at_call 15; refine (awake_any _).mono ?_; rintro e w1 ⟨rfl, h1⟩; have H1 := Lib.hid h1; clear h1) | (go_at_call 18; refine (HU.out _).mono ?_; rintro e w2 ⟨rfl, h2⟩; have H2 := Lib.hid h2; clear h2))
  have ha5 := heap_alloc_new w2 (.cells #[.int .i64 (rc : Int), .int .i64 (ra : Int)] 38)
  have hlt5 : w2.heap.size < (w2.alloc (.cells #[.int .i64 (rc : Int), .int .i64 (ra : Int)] 38)).heap.size := by simp
  have HB := Lib.hid (bl_alloc (bl_step H1.out H2.out) (.cells #[.int .i64 (rc : Int), .int .i64 (ra : Int)] 38))
  have HA5 := Lib.hid ha5
  have HLT5 := Lib.hid hlt5
  clear ha5 hlt5
  generalize w2.heap.size = f5 at *
  generalize w2.alloc (.cells #[.int .i64 (rc : Int), .int .i64 (ra : Int)] 38) = w3 at *
  go_upto_region 5 with (go_at_call 19; refine (HR.out _).mono ?_; rintro e w4 ⟨rfl, h4⟩; have H4 := Lib.hid h4; clear h4)
  have hr5 := (H4.out.block f5 HLT5.out).trans HA5.out
  have r50 := cell_of_row w4 f5 0 _ _ _ hr5
  have r51 := cell_of_row w4 f5 1 _ _ _ hr5
  clear hr5
  go_wp2_with fail
  go_ret
  exact ⟨rfl, bl_step HB.out H4.out⟩
end Go.Proofs.Ytikbbofjkchppaa

