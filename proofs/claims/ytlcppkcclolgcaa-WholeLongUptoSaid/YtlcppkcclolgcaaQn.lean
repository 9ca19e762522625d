/- The walk of WholeLong. -/
import Derived.Test.YtlcppkcclolgcaaQm
namespace Go.Proofs.Ytlcppkcclolgcaa
set_option linter.unusedVariables false
set_option linter.unusedSimpArgs false
open Go.RowKit
theorem fr_mod (k : Nat) : fr k % 8 = 0 := by unfold fr; omega
theorem frSum_mod (ws : List ByteArray) : frSum ws % 8 = 0 := by
  induction ws with
  | nil => rfl
  | cons s r ih =>
    have h := fr_mod s.size
    have e : frSum (s :: r) = fr s.size + frSum r := by simp [frSum]
    omega
theorem long_plain {n : ND} (h : serE n = 0) {A : Nat} (hA : A < (arc n).length) (L : Nat) (hL : 1048576 < L) (hL2 : L < 18446744073709551616) :
    (PS.new.feed ((arc n).take A)).at_ = A ∧ ((PS.new.feed ((arc n).take A)).start = A → ((PS.new.feed ((arc n).take A)).feed (le8 L)).code = 6 ∧ ((PS.new.feed ((arc n).take A)).feed (le8 L)).fat = A ∧ ((PS.new.feed ((arc n).take A)).feed (le8 L)).at_ = A + 7) := by
  have e : arc n = (arc n).take A ++ (arc n).drop A := (List.take_append_drop A _).symm
  have hl : ((arc n).take A).length = A := by rw [List.length_take]; omega
  have hd : (arc n).drop A ≠ [] := by
    intro h9
    have := congrArg List.length h9
    rw [List.length_drop] at this
    simp at this
    omega
  obtain ⟨h0, h1, h2⟩ := parse_pre h e
  rw [hl] at h1
  have hba : Bytes ((arc n).take A) := fun x hx => arc_bytes n x (List.mem_of_mem_take hx)
  have hi := new_inv hba
  refine ⟨h1, fun hs => ?_⟩
  obtain ⟨ws, g1, g2, g3, g4, g5, g6⟩ := hi.good h0
  have hw : (PS.new.feed ((arc n).take A)).ws = [] := List.length_eq_zero_iff.1 (by omega)
  rw [hw, List.append_nil] at g2
  have hm1 : A % 8 = 0 := by
    have := congrArg List.length g2
    rw [hl, frames_length] at this
    rw [this]
    exact frSum_mod ws
  have hm2 : (arc n).length % 8 = 0 := by
    show (frames _).length % 8 = 0
    rw [frames_length]
    exact frSum_mod _
  have hmx := (serE_ok.1 h).2
  have hf := long_fault (p := PS.new.feed ((arc n).take A)) L hi.shut h0 hw (h2 hd) (by omega) (by omega) hL hL2
  rw [h1] at hf
  exact hf
theorem PaX.later {w0 w w' : World} {S : Nat → Prop} {B gp : Nat} {p : PS} (H : PaX w0 S w B gp p) (hb : Below w.heap.size w w') : PaX w0 S w' B gp p := by
  obtain ⟨fl, gf, sv, rv, h⟩ := H
  exact ⟨fl, gf, sv, rv, h.later hb⟩
theorem PaX.paw {w0 w : World} {S : Nat → Prop} {B gp : Nat} {p : PS} (H : PaX w0 S w B gp p) : ∃ fl gf sv rv, PaW w0 S w B gp fl p gf sv rv := by
  obtain ⟨fl, gf, sv, rv, h⟩ := H
  exact ⟨fl, gf, sv, rv, h.paw⟩
theorem PaX.below {w0 w : World} {gp : Nat} {p : PS} (H : PaX w0 (fun _ => False) w w0.heap.size gp p) : Below w0.heap.size w0 w := by
  obtain ⟨fl, gf, sv, rv, h⟩ := H
  exact h.paw.away.below (B := w0.heap.size) (Nat.le_refl _) (fun k h => h.elim)
/-- a text fed to a parser through a conversion, the place behind it named -/
theorem pfeed_to (w0 : World) (S : Nat → Prop) (B gp cap : Nat) (s : ByteArray) (p p' : PS) (bs : List Nat) (w : World) (H : PaX w0 S w B gp p) (hi : PInv p bs) (hl : s.size ≤ 1000000000) (hcap : s.size ≤ cap) (hp : p.feed (nb s) = p') (a : Int) (ha : ((p'.at_ : Nat) : Int) - (p.at_ : Nat) = a) :
    Calls Try.prog 10 #[.pointer (some ⟨gp, 0, none⟩), .slice (some ⟨w.heap.size, 0, none⟩) s.size cap] (Lib.bytesWorld w 5 s) fun e w' => e = .returned (.int .i64 a) ∧ PaX w0 S w' B gp p' := by
  have h := pfeed_conv w0 S B gp cap s p bs w H hi hl hcap
  rw [hp, ha] at h
  exact h
set_option maxRecDepth 100000 in
set_option maxHeartbeats 8000000 in
theorem long_law (n : ND) (na : Option Addr) (nc : Nat) (at_ : Int) (L : Nat) (w : World) (hat : -9223372036854775808 ≤ at_ ∧ at_ ≤ 9223372036854775807) (hL2 : L < 18446744073709551616) (hin : n.In w.heap.size w na) (hsm : n.small 1048576) :
    Calls Try.prog 4 #[.agg #[.int .i64 n.kind, .bool n.exec, .string n.text, .slice na n.cnt nc], .int .i64 at_, .int .u64 (L : Int)] w fun e w' => e = .returned (.bool true) ∧ Below w.heap.size w w' := by
  obtain ⟨wA, hwA⟩ : ∃ wA, wA = w.alloc (.cells #[.int .i64 n.kind, .bool n.exec, .string n.text, .slice na n.cnt nc] 26) := ⟨_, rfl⟩
  have hbA : Below w.heap.size w wA := by rw [hwA]; exact (Below.refl _ _).alloc (Nat.le_refl _) _
  have hrA : wA.heap[w.heap.size]? = some (.cells #[.int .i64 n.kind, .bool n.exec, .string n.text, .slice na n.cnt nc] 26 (0, 0)) := by rw [hwA]; exact heap_alloc_new w _
  have HIN := Lib.hid hin
  have HSM := Lib.hid hsm
  have HWA := Lib.hid hwA
  have HBA := Lib.hid hbA
  have HRA := Lib.hid hrA
  clear hin hsm hwA hbA hrA
  go_enter Try.func4, Try.ntmps4
  go_upto_region 1 with fail
  rw [← HWA.out]
  go_upto_region 3 with (go_at_call 6; refine (small_any wA).mono ?_; rintro e w1 ⟨rfl, h1⟩; have HB1 := Lib.hid h1; clear h1)
  have r1 := (HB1.out.block w.heap.size (lt_of_row HRA.out)).trans HRA.out
  have p0 := cell_of_row w1 w.heap.size 0 _ _ _ r1
  have p1 := cell_of_row w1 w.heap.size 1 _ _ _ r1
  have p2 := cell_of_row w1 w.heap.size 2 _ _ _ r1
  have p3 := cell_of_row w1 w.heap.size 3 _ _ _ r1
  have hbw1 := HBA.out.trans (HB1.out.mono HBA.out.size)
  have hin1 := HIN.out.up hbw1
  have HBW1 := Lib.hid hbw1
  clear r1 hbw1
  by_cases hE : serE n = 0
  · have hser : Calls Try.prog 13 #[.agg #[.int .i64 n.kind, .bool n.exec, .string n.text, .slice na n.cnt nc]] w1 fun e w' => e = .returned (.tuple #[.string (strOf (arc n)), .int .i64 0]) ∧ Below w1.heap.size w1 w' := by
      have h := serial_any n na nc w1 HSM.out hin1
      unfold serT at h
      rw [if_pos hE, hE] at h
      exact h
    have HSER := Lib.hid hser
    have HE := Lib.hid hE
    have hTn : nb (strOf (arc n)) = arc n := nb_strOf _ (arc_bytes n)
    have hTs : (strOf (arc n)).size ≤ 1048576 := by rw [strOf_size]; exact (serE_ok.1 hE).2
    generalize strOf (arc n) = T at *
    have HTN := Lib.hid hTn
    have hTI : (T.size : Int) ≤ 1048576 := by omega
    have hT0 : (0 : Int) ≤ T.size := by omega
    have HTS := Lib.hid hTs
    clear hser hE hin1 hTn hTs
    go_upto_region 4 with (go_at_call 13; refine HSER.out.mono ?_; rintro e w2 ⟨rfl, h2⟩; have HB2 := Lib.hid h2; clear h2)
    have HBW2 := Lib.hid (HBW1.out.trans (HB2.out.mono HBW1.out.size))
    clear p0 p1 p2 p3
    by_cases hL : L ≤ 1048576
    · have d1 : decide ((L : Int) ≤ 1048576) = true := by simp; omega
      go_wp2_with fail
      go_ret
      exact ⟨rfl, HBW2.out⟩
    · have d1 : decide ((L : Int) ≤ 1048576) = false := by simp; omega
      go_upto_region 7 with (go_at_call 8; refine (newp_any w2).mono ?_; rintro e w4 ⟨gp, rfl, h4⟩; have HP4 := Lib.hid h4; clear h4)
      have HBW4 := Lib.hid (HBW2.out.trans (HP4.out.below.mono HBW2.out.size))
      by_cases hn : at_ < 0
      · have d2 : decide (at_ < 0) = true := by simpa using hn
        go_wp2_with fail
        go_ret
        exact ⟨rfl, HBW4.out⟩
      · by_cases hg : (T.size : Int) ≤ at_
        · have d2 : decide (at_ < 0) = false := by simpa using hn
          have d3 : decide ((T.size : Int) ≤ at_) = true := by simpa using hg
          go_wp2_with fail
          go_ret
          exact ⟨rfl, HBW4.out⟩
        · obtain ⟨A, rfl⟩ : ∃ A : Nat, at_ = (A : Int) := ⟨at_.toNat, by omega⟩
          have hA0 : (0 : Int) ≤ A := by omega
          have hAI : (A : Int) < T.size := by omega
          have hAI2 : (A : Int) ≤ T.size := by omega
          have d2 : decide ((A : Int) < 0) = false := by simp
          have d3 : decide ((T.size : Int) ≤ A) = false := by simpa using hg
          obtain ⟨hat1, hat2⟩ := long_plain HE.out (A := A) (by rw [← HTN.out, nb_length]; omega) L (by omega) hL2
          rw [← HTN.out] at hat1 hat2
          obtain ⟨x, hx⟩ : ∃ x, T.extract 0 A = x := ⟨_, rfl⟩
          have hxn : nb x = (nb T).take A := by rw [← hx, nb_extract _ _ _ (by omega)]; simp
          have hxs : x.size = A := by
            have h := congrArg List.length hxn
            rw [nb_length, List.length_take, nb_length] at h
            omega
          rw [← hxn] at hat1 hat2
          have hiv := new_inv (nb_bytes x)
          have hst := hiv.st
          rw [hat1] at hst
          have CF := fun cap hc => pfeed_to w2 (fun _ => False) w2.heap.size gp cap x PS.new _ [] w4 HP4.out PInv.new (by omega) hc rfl (A : Int) (by rw [hat1]; show (A : Int) - ((0 : Nat) : Int) = A; omega)
          generalize PS.new.feed (nb x) = p1 at *
          have HGE := Lib.hid (grownCap_ge w4 x.size 0 5)
          have HCF := Lib.hid CF
          have HAT := Lib.hid hat1
          have HAT2 := Lib.hid hat2
          have HIV := Lib.hid hiv
          have HXS := Lib.hid hxs
          have hcv := fun W => Lib.run_convert_string_bytes (P := Try.prog) W 9 38 5 x Try.underlying9 Try.underlying38 Try.underlying5
          have hxI : (x.size : Int) ≤ 1048576 := by omega
          have hx0 : (0 : Int) ≤ x.size := by omega
          clear CF hat1 hat2 hiv hxs hxn
          go_upto_region 10 with (go_at_call 10; refine (HCF.out _ HGE.out).mono ?_; rintro e w5 ⟨rfl, h5⟩; have HP5 := Lib.hid h5; clear h5)
          clear HCF HGE hcv hxI hx0
          obtain ⟨fl5, gf5, sv5, rv5, h5⟩ := HP5.out.paw
          have hle : p1.at_ ≤ 1048576 := by rw [HAT.out]; omega
          have hsI : (p1.start : Int) ≤ A := by omega
          have hs0 : (0 : Int) ≤ p1.start := by omega
          by_cases hs : p1.start = A
          · have hheld : Calls Try.prog 14 #[.pointer (some ⟨gp, 0, none⟩)] w5 fun e w' => e = .returned (.int .i64 0) ∧ PaX w2 (fun _ => False) w' w2.heap.size gp p1 := by
              refine (held_any _ _ _ gp fl5 p1 gf5 sv5 rv5 w5 h5 (by rw [HAT.out]; omega) hle).mono ?_
              rintro e w' ⟨he, hb⟩
              rw [HAT.out, hs, Int.sub_self] at he
              exact ⟨he, HP5.out.later hb⟩
            have HHELD := Lib.hid hheld
            obtain ⟨y, hy⟩ : ∃ y, strOf (le8 L) = y := ⟨_, rfl⟩
            have hyn : nb y = le8 L := by rw [← hy]; exact nb_strOf _ (fl8_bytes L 8)
            have hys : y.size = 8 := by
              have h := congrArg List.length hyn
              rw [nb_length] at h
              rw [h]
              exact fl8_length L 8
            have hint : ∀ W : World, Calls Try.prog 15 #[.int .u64 (L : Int)] W fun e w' => e = .returned (.string y) ∧ Below W.heap.size W w' := fun W => by
              have h := wint_any L hL2 W
              rw [hy] at h
              exact h
            have HINT := Lib.hid hint
            obtain ⟨f1, f2, f3⟩ := HAT2.out hs
            rw [← hyn] at f1 f2 f3
            obtain ⟨p2, hp2⟩ : ∃ p2, p1.feed (nb y) = p2 := ⟨_, rfl⟩
            rw [hp2] at f1 f2 f3
            have CF2 := fun w7 (H7 : PaX w2 (fun _ => False) w7 w2.heap.size gp p1) cap hc => pfeed_to w2 (fun _ => False) w2.heap.size gp cap y p1 p2 _ w7 H7 HIV.out (by omega) hc hp2 7 (by rw [f3, HAT.out]; omega)
            have HCF2 := Lib.hid CF2
            have HGE2 := fun w7 => Lib.hid (grownCap_ge w7 y.size 0 5)
            have F1 := Lib.hid f1
            have F2 := Lib.hid f2
            have F3 := Lib.hid f3
            have hcv := fun W => Lib.run_convert_string_bytes (P := Try.prog) W 9 38 5 y Try.underlying9 Try.underlying38 Try.underlying5
            have hyI : (y.size : Int) = 8 := by omega
            have hflt : ∀ W : World, PaX w2 (fun _ => False) W w2.heap.size gp p2 → Calls Try.prog 16 #[.pointer (some ⟨gp, 0, none⟩)] W fun e w' => e = .returned (.agg #[.int .i64 6, .int .i64 (A : Int)]) ∧ PaX w2 (fun _ => False) w' w2.heap.size gp p2 := fun W HW => by
              obtain ⟨fl, gf, sv, rv, h⟩ := HW.paw
              refine (fault_any _ _ _ gp fl p2 gf sv rv W h).mono ?_
              rintro e w' ⟨he, hb⟩
              rw [F1.out, F2.out] at he
              exact ⟨he, HW.later hb⟩
            have htak : ∀ W : World, PaX w2 (fun _ => False) W w2.heap.size gp p2 → Calls Try.prog 17 #[.pointer (some ⟨gp, 0, none⟩)] W fun e w' => e = .returned (.int .i64 ((A : Int) + 7)) ∧ PaX w2 (fun _ => False) w' w2.heap.size gp p2 := fun W HW => by
              obtain ⟨fl, gf, sv, rv, h⟩ := HW.paw
              refine (taken_any _ _ _ gp fl p2 gf sv rv W h).mono ?_
              rintro e w' ⟨he, hb⟩
              rw [F3.out] at he
              exact ⟨by rw [he]; rfl, HW.later hb⟩
            have HFLT := Lib.hid hflt
            have HTAK := Lib.hid htak
            clear hheld hint f1 f2 f3 CF2 hflt htak hy hyn hys hp2 h5 hle hs hsI hs0
            go_wp2_with (first
              | (go_at_call 14; refine HHELD.out.mono ?_; rintro e w6 ⟨rfl, h6⟩; have HP6 := Lib.hid h6; clear h6)
              | (go_at_call 15; refine (HINT.out _).mono ?_; rintro e w7 ⟨rfl, h7⟩; have HP7 := Lib.hid (HP6.out.later h7); clear h7)
              | (go_at_call 10; refine (HCF2.out _ HP7.out _ (HGE2 _).out).mono ?_; rintro e w8 ⟨rfl, h8⟩; have HP8 := Lib.hid h8; clear h8)
              | (go_at_call 16; refine (HFLT.out _ HP8.out).mono ?_; rintro e w9 ⟨rfl, h9⟩; have HP9 := Lib.hid h9; clear h9)
              | (go_at_call 17; refine (HTAK.out _ HP9.out).mono ?_; rintro e w10 ⟨rfl, h10⟩; have HP10 := Lib.hid h10; clear h10))
            go_ret
            exact ⟨rfl, HBW2.out.trans (HP10.out.below.mono HBW2.out.size)⟩
          · have hneI : ((A : Int) - p1.start != 0) = true := by simp; omega
            have hheld : Calls Try.prog 14 #[.pointer (some ⟨gp, 0, none⟩)] w5 fun e w' => e = .returned (.int .i64 ((A : Int) - p1.start)) ∧ PaX w2 (fun _ => False) w' w2.heap.size gp p1 := by
              refine (held_any _ _ _ gp fl5 p1 gf5 sv5 rv5 w5 h5 (by rw [HAT.out]; omega) hle).mono ?_
              rintro e w' ⟨he, hb⟩
              rw [HAT.out] at he
              exact ⟨he, HP5.out.later hb⟩
            have HHELD := Lib.hid hheld
            clear hheld h5 hle
            go_wp2_with (go_at_call 14; refine HHELD.out.mono ?_; rintro e w6 ⟨rfl, h6⟩; have HP6 := Lib.hid h6; clear h6)
            go_ret
            exact ⟨rfl, HBW2.out.trans (HP6.out.below.mono HBW2.out.size)⟩
  · have hser : Calls Try.prog 13 #[.agg #[.int .i64 n.kind, .bool n.exec, .string n.text, .slice na n.cnt nc]] w1 fun e w' => e = .returned (.tuple #[.string ⟨#[]⟩, .int .i64 (serE n)]) ∧ Below w1.heap.size w1 w' := by
      have h := serial_any n na nc w1 HSM.out hin1
      unfold serT at h
      rw [if_neg hE] at h
      exact h
    have HSER := Lib.hid hser
    have e1 : (serE n != 0) = true := by simpa using hE
    have e2 : (serE n == 0) = false := by simpa using hE
    clear hser hin1
    go_wp2_with (go_at_call 13; refine HSER.out.mono ?_; rintro e w2 ⟨rfl, h2⟩; have HB2 := Lib.hid h2; clear h2)
    go_ret
    exact ⟨rfl, HBW1.out.trans (HB2.out.mono HBW1.out.size)⟩
end Go.Proofs.Ytlcppkcclolgcaa

