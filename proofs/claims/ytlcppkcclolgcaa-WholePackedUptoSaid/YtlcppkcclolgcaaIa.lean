/- The walks of strings.IndexAny, strings.ContainsAny and name.Check. -/
import Derived.Test.YtlcppkcclolgcaaIr
import Derived.Lib.OthersKept
import Derived.Test.YtlcppkcclolgcaaFld
namespace Go.Proofs.Ytlcppkcclolgcaa
set_option linter.unusedVariables false
set_option linter.unusedSimpArgs false
open Go.RowKit

/-- IndexAny over a short string, rune by rune -/
def anyR (s : ByteArray) : Nat → Nat → Int
  | 0, _ => -1
  | f + 1, i => if i < s.size then (if 0 ≤ irV ((Utf8.decode s i).1 : Int) then (i : Int) else anyR s f (i + (Utf8.decode s i).2)) else -1
theorem dec_pos (s : ByteArray) (i : Nat) (h : i < s.size) : 1 ≤ (Utf8.decode s i).2 := by
  by_cases ha : (s[i]'h).toNat < 128
  · rw [decode_ascii s i h ha]
    exact Nat.le_refl 1
  · exact (decode_high s i h (by omega)).2
theorem iterAt_below {w w1 : World} {k i j : Nat} {s : ByteArray} (hb : Below k w w1) : Below k w (w1.iterAt k s j) := by
  refine ⟨hb.os, hb.tape, hb.output, ?_, fun b hbk => ?_⟩
  · simpa [World.iterAt] using hb.size
  · rw [← hb.block b hbk]
    simp [World.iterAt, Array.getElem?_setIfInBounds]
    omega
set_option maxRecDepth 100000 in
set_option maxHeartbeats 1000000 in
theorem short_any (s : ByteArray) (h8 : s.size ≤ 8) (w : World) :
    Calls Try.prog 78 #[.string s, .string Cc] w fun e w' => e = .returned (.int .i64 (anyR s 9 0)) ∧ Below w.heap.size w w' := by
  have h8z : decide ((8 : Int) < (s.size : Int)) = false := decide_eq_false (by omega)
  have CU : ∀ w, Calls Try.prog 85 #[.int .i64 (s.size : Int)] w fun e w' => e = .returned (.bool false) ∧ w' = w := fun w => by
    have h := Try.strings_shouldUseASCIISet (s.size : Int) w
    rw [h8z] at h
    exact h
  have KU := Lib.hid CU
  have KI : Hid (∀ (c : Int) w, 0 ≤ c → c ≤ 2147483647 → Calls Try.prog 84 #[.string ⟨#[47, 0]⟩, .int .i32 c] w fun e w' => e = .returned (.int .i64 (irV c)) ∧ Below w.heap.size w w') := Lib.hid fun c w h h2 => ir_any c h h2 w
  have HA : ∃ R, anyR s 9 0 = R := ⟨_, rfl⟩
  obtain ⟨R, hR⟩ := HA
  rw [hR]
  have HR := Lib.hid hR
  clear CU hR h8z
  have hc2 : ((2 : Int) == 1) = false := rfl
  unfold Cc
  go_enter Try.func78, Try.ntmps78
  go_wp2_with (go_at_call 85; refine (KU.out _).mono ?_; rintro e w' ⟨rfl, rfl⟩)
  go_loopg [9, 10] 9 (fun g _ _ wx => ∃ i : Nat, wx.heap[w'.heap.size]? = some (.stringIter s i) ∧ Below w'.heap.size w' wx ∧ s.size < i + g ∧ anyR s g i = R)
  case atStart => exact ⟨0, World.iter_heap _ _ _, (Below.refl _ _).alloc (Nat.le_refl _) _, by omega, HR.out⟩
  case round =>
    obtain ⟨i, hk, hb, hg, hr⟩ := hrel
    have HK := Lib.hid hk
    have HB := Lib.hid hb
    have HV := Lib.hid hr
    clear hr hb
    cases gk with
    | zero =>
      have hnx := fun ty => Lib.run_next_end_at (P := Try.prog) wr w'.heap.size s i ty hk (by omega)
      clear hk
      have e : R = -1 := HV.out.symm
      subst e
      go_wp2_with fail
      go_ret
      exact ⟨rfl, HB.out⟩
    | succ g =>
      by_cases hi : i < s.size
      · have hnx := fun ty => Lib.run_next_any_at (P := Try.prog) wr w'.heap.size s i ty hk hi
        have hd1 := decode_le s i
        have hd2 := dec_pos s i hi
        have hvr := HV.out
        unfold anyR at hvr
        rw [if_pos hi] at hvr
        have hk2 := Lib.iterAt_heap wr w'.heap.size s i (i + (Utf8.decode s i).2) hk
        have hb2 : Below w'.heap.size w' (wr.iterAt w'.heap.size s (i + (Utf8.decode s i).2)) := iterAt_below (i := i) HB.out
        generalize wr.iterAt w'.heap.size s (i + (Utf8.decode s i).2) = wn at *
        generalize (Utf8.decode s i).2 = d2 at *
        generalize (Utf8.decode s i).1 = d1 at *
        have hd10 : (0 : Int) ≤ (d1 : Int) := by omega
        have hd11 : (d1 : Int) ≤ 2147483647 := by omega
        have HD := Lib.hid hd2
        have HK2 := Lib.hid hk2
        have HB2 := Lib.hid hb2
        clear hk hk2 hb2 HB HK hd1
        by_cases hh : 0 ≤ irV (d1 : Int)
        · rw [if_pos hh] at hvr
          subst hvr
          go_wp2_with (go_at_call 84; refine (KI.out _ _ hd10 hd11).mono ?_; rintro e w3 ⟨rfl, h3⟩)
          go_ret
          exact ⟨rfl, HB2.out.trans (h3.mono HB2.out.size)⟩
        · rw [if_neg hh] at hvr
          have HVR := Lib.hid hvr
          have hh2 : decide (0 ≤ irV (d1 : Int)) = false := decide_eq_false hh
          clear hvr
          go_wp2_with (go_at_call 84; refine (KI.out _ _ hd10 hd11).mono ?_; rintro e w3 ⟨rfl, h3⟩)
          go_roundg g
          case measure => omega
          case rel => exact ⟨i + d2, (h3.block _ (by have := HK2.out; exact (Array.getElem?_eq_some_iff.1 this).1)).trans HK2.out, HB2.out.trans (h3.mono HB2.out.size), by have := HD.out; omega, HVR.out⟩
      · have hnx := fun ty => Lib.run_next_end_at (P := Try.prog) wr w'.heap.size s i ty hk hi
        have e : R = -1 := by
          have h := HV.out
          unfold anyR at h
          rw [if_neg hi] at h
          exact h.symm
        subst e
        clear hk
        go_wp2_with fail
        go_ret
        exact ⟨rfl, HB.out⟩
/-- does a string hold one of the two bytes, as the program finds it -/
def anyV (s : ByteArray) : Int := if 8 < s.size then Lib.indexAny s.data.toList Cc.data.toList else anyR s 9 0
theorem any_any (s : ByteArray) (hs : s.size ≤ 1048576) (w : World) :
    Calls Try.prog 78 #[.string s, .string Cc] w fun e w' => e = .returned (.int .i64 (anyV s)) ∧ Below w.heap.size w w' := by
  unfold anyV
  by_cases h8 : 8 < s.size
  · rw [if_pos h8]
    refine (Try.strings_IndexAny_long (zero_of_info (n := 256) (by kernel_rfl)).1 s Cc w (by decide) h8 (by omega) (by decide) ?_).mono ?_
    · intro j b hj
      have h : b ∈ Cc.data.toList := List.mem_of_getElem? hj
      simp only [Cc, List.mem_cons, List.not_mem_nil, or_false] at h
      rcases h with rfl | rfl <;> decide
    · rintro e w' ⟨h1, rfl⟩
      exact ⟨h1, ((Below.refl _ _).alloc (Nat.le_refl _) _).alloc (by simp) _⟩
  · rw [if_neg h8]
    exact short_any s (by omega) w
set_option maxRecDepth 100000 in
theorem contains_any (s : ByteArray) (hs : s.size ≤ 1048576) (w : World) :
    Calls Try.prog 66 #[.string s, .string Cc] w fun e w' => e = .returned (.bool (decide (0 ≤ anyV s))) ∧ Below w.heap.size w w' := by
  have KA := Lib.hid (fun w => any_any s hs w)
  go_enter Try.func66, Try.ntmps66
  go_wp2_with (go_at_call 78; refine (KA.out _).mono ?_; rintro e w' ⟨rfl, hw⟩)
  go_ret
  exact ⟨rfl, hw⟩
/-- what name.Check answers -/
def nm (s : ByteArray) : Int :=
  if s.size = 0 then 50 else if 255 < s.size then 6 else if 0 ≤ anyV s then 51 else if (s.toList == [46] || s.toList == [46, 46]) = true then 52 else 0
set_option maxRecDepth 100000 in
set_option maxHeartbeats 1000000 in
theorem name_any (s : ByteArray) (w : World) (hs : s.size ≤ 1048576) :
    Calls Try.prog 58 #[.string s] w fun e w' => e = .returned (.int .i64 (nm s)) ∧ Below w.heap.size w w' := by
  have KA : Hid (∀ w, Calls Try.prog 66 #[.string s, .string ⟨#[47, 0]⟩] w fun e w' => e = .returned (.bool (decide (0 ≤ anyV s))) ∧ Below w.heap.size w w') := Lib.hid (fun w => contains_any s hs w)
  unfold nm
  by_cases h0 : s.size = 0
  · rw [if_pos h0]
    have e0 := toList_emp
    obtain rfl : s = ⟨#[]⟩ := by
      apply ByteArray.ext
      exact Array.eq_empty_of_size_eq_zero h0
    go_enter Try.func58, Try.ntmps58
    go_wp2_with fail
    go_ret
    exact ⟨rfl, Below.refl _ _⟩
  · rw [if_neg h0]
    have e0 := toList_ne s (fun e => h0 (by rw [e]; rfl))
    by_cases h1 : 255 < s.size
    · rw [if_pos h1]
      have h1I : (255 : Int) < s.size := by omega
      go_enter Try.func58, Try.ntmps58
      go_wp2_with fail
      go_ret
      exact ⟨rfl, Below.refl _ _⟩
    · rw [if_neg h1]
      have h1I : ¬ (255 : Int) < s.size := by omega
      by_cases h2 : 0 ≤ anyV s
      · rw [if_pos h2]
        go_enter Try.func58, Try.ntmps58
        go_wp2_with (go_at_call 66; refine (KA.out _).mono ?_; rintro e w' ⟨rfl, hw⟩)
        go_ret
        exact ⟨rfl, hw⟩
      · rw [if_neg h2]
        have h2d : decide (0 ≤ anyV s) = false := decide_eq_false h2
        cases ht1 : (s.toList == [46])
        · cases ht2 : (s.toList == [46, 46])
          · go_enter Try.func58, Try.ntmps58
            go_wp2_with (go_at_call 66; refine (KA.out _).mono ?_; rintro e w' ⟨rfl, hw⟩)
            go_ret
            exact ⟨rfl, hw⟩
          · go_enter Try.func58, Try.ntmps58
            go_wp2_with (go_at_call 66; refine (KA.out _).mono ?_; rintro e w' ⟨rfl, hw⟩)
            go_ret
            exact ⟨rfl, hw⟩
        · go_enter Try.func58, Try.ntmps58
          go_wp2_with (go_at_call 66; refine (KA.out _).mono ?_; rintro e w' ⟨rfl, hw⟩)
          go_ret
          exact ⟨rfl, hw⟩
end Go.Proofs.Ytlcppkcclolgcaa

