/- The walks of the laws GaugeParts, GaugeMakes and GaugeTurns. -/
import Derived.Test.YtfecgfefchdapaaDoorGc
namespace Go.Proofs.YtfecgfefchdapaaDoor
set_option linter.unusedVariables false
set_option linter.unusedSimpArgs false
open Go.RowKit FL Go.Shelf Ieee Go.Proofs.YtfecgfefchdapaaDoorW.PrintWords

theorem fb_nat (b : Nat) : ∀ w, (callFunc 11 #[.int .u64 (b : Int)]).run Tryd.prog w = .ok (.value (.float .f64 b)) w := fun w => by
  have := frombits (b : Int) w
  rwa [show (b : Int).toNat = b by omega] at this
theorem grown_trans {a b c : World} (h : Grown a b) (k : Grown b c) : Grown a c :=
  ⟨World.keptBut_trans h.1 k.1, fun x => (k.2.1 x).trans (h.2.1 x), Nat.le_trans h.2.2 k.2.2⟩
theorem law_parts (b : Nat) (hb : b < 18446744073709551616) (wd : World) (hT : TabAt 1 Lib.deBruijn64tab wd) :
    Calls Tryd.prog 3 #[.int .u64 (b : Int)] wd fun e w' => e = .returned (.bool true) ∧ Grown wd w' := by
  have C1 := awake_any wd hT
  have C2 := parts_any b hb wd hT
  have C3 := rparts_any b hb wd
  have fb := fb_nat b
  generalize ptV b = p at *
  obtain ⟨p1, p2, p3⟩ := p
  clear hT hb
  go_enter Tryd.func3, Tryd.ntmps3
  go_wp2_with (first | (go_at_call 9; refine C1.mono ?_; rintro e w' ⟨rfl, rfl⟩) | (go_at_call 10; refine C2.mono ?_; rintro e w' ⟨rfl, rfl⟩) | (go_at_call 12; refine C3.mono ?_; rintro e w' ⟨rfl, hd⟩))
  go_ret
  exact ⟨rfl, hd.grown⟩
theorem mkV_lt (m x : Int) : mkV m x < 18446744073709551616 := by
  unfold mkV word
  have := rung_le m.natAbs x
  split <;> omega
theorem law_makes (m x : Int) (hm : -9223372036854775808 ≤ m ∧ m < 9223372036854775808) (wd : World) (hT : TabAt 1 Lib.deBruijn64tab wd) :
    Calls Tryd.prog 4 #[.int .i64 m, .int .i64 x] wd fun e w' => e = .returned (.bool true) ∧ Grown wd w' := by
  have C1 := awake_any wd hT
  have C2 := make_any m x hm wd
  have C3 := rmake_any m x hm wd
  have C4 := fun wd => same_own (mkV m x) (mkV_lt m x) wd
  generalize mkV m x = W at *
  clear hT hm
  go_enter Tryd.func4, Tryd.ntmps4
  go_wp2_with (first | (go_at_call 9; refine C1.mono ?_; rintro e w' ⟨rfl, rfl⟩) | (go_at_call 14; refine C2.mono ?_; rintro e w' ⟨rfl, rfl⟩) | (go_at_call 15; refine C3.mono ?_; rintro e w1 ⟨rfl, hd⟩) | (go_at_call 13; refine (C4 _).mono ?_; rintro e w' ⟨rfl, rfl⟩))
  go_ret
  exact ⟨rfl, hd.grown⟩
theorem word_lt (s : Bool) (m : Nat) (e : Int) : word s (rung m e) < 18446744073709551616 := by
  unfold word
  have := rung_le m e
  split <;> omega
theorem law_turns (n : Int) (b : Nat) (hn : -9223372036854775808 ≤ n ∧ n < 9223372036854775808) (hb : b < 18446744073709551616) (wd : World) (hT : TabAt 1 Lib.deBruijn64tab wd) :
    Calls Tryd.prog 6 #[.int .i64 n, .int .u64 (b : Int)] wd fun e w' => e = .returned (.bool true) ∧ Grown wd w' := by
  have C1 := awake_any wd hT
  have C2 := toInt_any b hb wd
  have C3 := rtoint_any b hb wd
  have C4 := fun wd => ofInt_any n wd
  have C5 := fun wd => rofint_any n hn wd
  have C6 := fun wd => same_own _ (word_lt (decide (n < 0)) n.natAbs 0) wd
  have fb := fb_nat b
  generalize word (decide (n < 0)) (rung n.natAbs 0) = W at *
  generalize toIV b = p at *
  obtain ⟨p1, p2⟩ := p
  clear hT hb hn
  go_enter Tryd.func6, Tryd.ntmps6
  go_wp2_with (first | (go_at_call 9; refine C1.mono ?_; rintro e w' ⟨rfl, rfl⟩) | (go_at_call 16; refine C2.mono ?_; rintro e w' ⟨rfl, rfl⟩) | (go_at_call 17; refine C3.mono ?_; rintro e w1 ⟨rfl, hd⟩) | (go_at_call 18; refine (C4 _).mono ?_; rintro e w' ⟨rfl, rfl⟩) | (go_at_call 19; refine (C5 _).mono ?_; rintro e w2 ⟨rfl, hd2⟩) | (go_at_call 13; refine (C6 _).mono ?_; rintro e w' ⟨rfl, rfl⟩))
  go_ret
  exact ⟨rfl, grown_trans hd.grown hd2.grown⟩
theorem parts_row (a : Int) (h : 0 ≤ a ∧ a ≤ 18446744073709551615) (wd : World) (hT : TabAt 1 Lib.deBruijn64tab wd) :
    Calls Tryd.prog 3 #[.int .u64 a] wd fun e w' => e = .returned (.bool true) ∧ Grown wd w' := by
  obtain ⟨b, rfl⟩ : ∃ b : Nat, a = b := ⟨a.toNat, by omega⟩
  exact law_parts b (by omega) wd hT
theorem makes_row (a : Int) (h : -9223372036854775808 ≤ a ∧ a ≤ 9223372036854775807) (x : Int) (hx : -9223372036854775808 ≤ x ∧ x ≤ 9223372036854775807) (wd : World) (hT : TabAt 1 Lib.deBruijn64tab wd) :
    Calls Tryd.prog 4 #[.int .i64 a, .int .i64 x] wd fun e w' => e = .returned (.bool true) ∧ Grown wd w' :=
  law_makes a x (by omega) wd hT
theorem turns_row (n : Int) (hn : -9223372036854775808 ≤ n ∧ n ≤ 9223372036854775807) (a : Int) (h : 0 ≤ a ∧ a ≤ 18446744073709551615) (wd : World) (hT : TabAt 1 Lib.deBruijn64tab wd) :
    Calls Tryd.prog 6 #[.int .i64 n, .int .u64 a] wd fun e w' => e = .returned (.bool true) ∧ Grown wd w' := by
  obtain ⟨b, rfl⟩ : ∃ b : Nat, a = b := ⟨a.toNat, by omega⟩
  exact law_turns n b (by omega) (by omega) wd hT
end Go.Proofs.YtfecgfefchdapaaDoor

