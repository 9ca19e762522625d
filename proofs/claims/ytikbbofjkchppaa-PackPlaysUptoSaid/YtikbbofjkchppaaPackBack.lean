/- The walk of the law PackBack. -/
import Derived.Test.YtikbbofjkchppaaAw
namespace Go.Proofs.Ytikbbofjkchppaa
set_option linter.unusedVariables false
set_option linter.unusedSimpArgs false
open Go.RowKit

/-- packed and unpacked again -/
theorem pack_unpack (s : ByteArray) (hs : s.size ≤ 1048576) : closeText (US.new.feed (nb (strOf (packL (nb s))))) = s ∧ closeCode (US.new.feed (nb (strOf (packL (nb s))))) = 0 ∧ closeAt (US.new.feed (nb (strOf (packL (nb s))))) = 0 := by
  rw [nb_strOf _ (packL_bytes _ (nb_bytes s))]
  obtain ⟨a, b⟩ := feed_packL (nb s) (by rw [nb_length]; exact hs)
  obtain ⟨hw, ho⟩ := at_whole a
  obtain ⟨h1, h2, h3, h4, h5, h6, h7⟩ := a
  have hc : (US.new.feed (packL (nb s))).close.code = 0 := by
    rw [close_shut _ (fun q => by rw [hw] at q; simp at q)]
    exact h2
  refine ⟨?_, hc, ?_⟩
  · rw [closeText, if_pos hc, ho]
    apply nb_inj
    rw [nb_strOf _ (nb_bytes s)]
  · rw [closeAt, if_pos hc]

set_option maxRecDepth 100000 in
set_option maxHeartbeats 4000000 in
theorem back_law (s : ByteArray) (hs : s.size ≤ 140737488351232) (w : World) : Calls Try.prog 6 #[.string s] w fun e w' => e = .returned (.bool true) ∧ Below w.heap.size w w' := by
  by_cases hsm : s.size ≤ 1048576
  · obtain ⟨p, hp⟩ : ∃ p, strOf (packL (nb s)) = p := ⟨_, rfl⟩
    obtain ⟨u1, u2, u3⟩ := pack_unpack s hsm
    have hroom := packL_room (nb s)
    have hps : p.size = (packL (nb s)).length := by rw [← hp, strOf_size]
    rw [nb_length] at hroom
    rw [← hps] at hroom
    rw [hp] at u1 u2 u3
    have hpp : ∀ W, Calls Try.prog 16 #[.string s] W fun e w' => e = .returned (.tuple #[.string p, .int .i64 0]) ∧ Below W.heap.size W w' := fun W => by
      have h := pack_any s W hsm
      rw [hp] at h
      exact h
    have huu : ∀ W, Calls Try.prog 18 #[.string p] W fun e w' => e = .returned (.tuple #[.string s, .agg #[.int .i64 0, .int .i64 0]]) ∧ Below W.heap.size W w' := fun W => by
      have h := unpack_any p W (by omega)
      rw [u1, u2, u3] at h
      exact h
    have hsI : (s.size : Int) ≤ 1048576 := by omega
    have hs0 : (0 : Int) ≤ s.size := by omega
    have hp0 : (0 : Int) ≤ p.size := by omega
    have hroomI : (p.size : Int) ≤ 8 + s.size + (s.size + 127) / 128 := by omega
    have HP := Lib.hid hpp
    have HU := Lib.hid huu
    clear hp u1 u2 u3 hps hpp huu hroom hsm hs
    go_enter Try.func6, Try.ntmps6
    go_upto_region 7 with (first | (go_at_call 15; refine (awake_any _).mono ?_; rintro e w1 ⟨rfl, h1⟩; have H1 := Lib.hid h1; clear h1) | (go_at_call 16; refine (HP.out _).mono ?_; rintro e w2 ⟨rfl, h2⟩; have H2 := Lib.hid h2; clear h2) | (go_at_call 18; refine (HU.out _).mono ?_; rintro e w3 ⟨rfl, h3⟩; have H3 := Lib.hid h3; clear h3))
    go_wp2_with fail
    go_ret
    exact ⟨rfl, ((H1.out.trans (H2.out.mono H1.out.size)).trans (H3.out.mono (by have h1 := H1.out.size; have h2 := H2.out.size; omega))).alloc (by have h1 := H1.out.size; have h2 := H2.out.size; have h3 := H3.out.size; omega) _⟩
  · have hsI : (1048576 : Int) < s.size := by omega
    have HP := Lib.hid (fun W => pack_big s W hsm)
    clear hsm
    go_enter Try.func6, Try.ntmps6
    go_wp2_with (first | (go_at_call 15; refine (awake_any _).mono ?_; rintro e w1 ⟨rfl, h1⟩; have H1 := Lib.hid h1; clear h1) | (go_at_call 16; refine (HP.out _).mono ?_; rintro e w2 ⟨rfl, h2⟩; have H2 := Lib.hid h2; clear h2))
    go_ret
    exact ⟨rfl, H1.out.trans (H2.out.mono H1.out.size)⟩
end Go.Proofs.Ytikbbofjkchppaa

