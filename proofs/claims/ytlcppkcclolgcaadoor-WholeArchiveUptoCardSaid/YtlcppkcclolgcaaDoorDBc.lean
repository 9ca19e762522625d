/- The walks of strings.IndexRune over the two bytes that no name holds, of strings.IndexAny and name.Check. The walks of strings.IndexAny, strings.ContainsAny and name.Check. The walks of strings.Builder inside nar's writer: copyCheck, WriteString. The walks of strings.Builder's String inside nar's writer, and of the writer's words. The walk of nar's writer over a node. What the walk counts is the archive's length; the walk of nar.Serial. -/
import Derived.Laws.RangeAny
import Derived.WalkMore
import Derived.Laws.Runes
import Derived.BigQuiet
import Derived.Deep.QuietTactic
import Derived.Test.YtlcppkcclolgcaaDoorDBa
import Derived.Test.YtlcppkcclolgcaaDoorDBa
import Derived.Lib.OthersKept
import Derived.Test.YtlcppkcclolgcaaDoorDBb
import Derived.Lib.Builder
import Derived.Lib.UnsafeStr
import Derived.RegionTactic
import Derived.BigRegion
import Derived.Deep.RegionWith
namespace Go.Proofs.YtlcppkcclolgcaaDoor
set_option linter.unusedVariables false
set_option linter.unusedSimpArgs false
open Go.RowKit

def Cc : ByteArray := ⟨#[47, 0]⟩
theorem enc_two (c : Int) (h : 128 ≤ c) (hv : Utf8.valid c = true) (h2 : c < 2048) : ∃ b0 b1 : UInt8, Utf8.encode c = ⟨#[b0, b1]⟩ ∧ 128 ≤ b1.toNat := by
  refine ⟨UInt8.ofNat (0xC0 + c.toNat / 64), UInt8.ofNat (0x80 + c.toNat % 64), ?_, ?_⟩
  · have h1 : ¬ c.toNat < 128 := by omega
    have h3 : c.toNat < 2048 := by omega
    unfold Utf8.encode
    simp only [hv, if_true, h1, if_false, h3]
  · simp; omega
theorem enc_more (c : Int) (hv : Utf8.valid c = true) (h2 : 2048 ≤ c) : 3 ≤ (Utf8.encode c).size := by
  have h1 : ¬ c.toNat < 128 := by omega
  have h3 : ¬ c.toNat < 2048 := by omega
  unfold Utf8.encode
  simp only [hv, if_true, h1, if_false, h3]
  split
  · show 3 ≤ 3; omega
  · show 3 ≤ 4; omega
set_option maxRecDepth 100000 in
set_option maxHeartbeats 1000000 in
theorem ir_bad (c : Int) (h : 128 ≤ c) (h2 : c ≤ 2147483647) (hne : c ≠ 65533) (hv : Lib.validRune c = false) (w : World) :
    Calls Tryd.prog 79 #[.string Cc, .int .i32 c] w fun e w' => e = .returned (.int .i64 (-1)) ∧ Below w.heap.size w w' := by
  have h0 : (0 : Int) ≤ c := by omega
  have h1 : ¬ c < (128 : Int) := by omega
  have CV : ∀ w, Calls Tryd.prog 84 #[.int .i32 c] w fun e w' => e = .returned (.bool false) ∧ w' = w := fun w => by
    have h := Tryd.utf8_ValidRune c w
    rw [hv] at h
    exact h
  have KV := Lib.hid CV
  clear CV hv
  go_enter Tryd.func79, Tryd.ntmps79
  go_wp2_with (go_at_call 84; refine (KV.out _).mono ?_; rintro e w' ⟨rfl, rfl⟩)
  go_ret
  exact ⟨rfl, Below.refl _ _⟩
set_option maxRecDepth 100000 in
set_option maxHeartbeats 1000000 in
theorem ir_two (c : Int) (h : 128 ≤ c) (h2 : c ≤ 2147483647) (hne : c ≠ 65533) (hv : Lib.validRune c = true) (b0 b1 : UInt8) (he : Utf8.encode c = ⟨#[b0, b1]⟩) (hb : 128 ≤ b1.toNat) (w : World) :
    Calls Tryd.prog 79 #[.string Cc, .int .i32 c] w fun e w' => e = .returned (.int .i64 (-1)) ∧ Below w.heap.size w w' := by
  have h0 : (0 : Int) ≤ c := by omega
  have h1 : ¬ c < (128 : Int) := by omega
  have CV : ∀ w, Calls Tryd.prog 84 #[.int .i32 c] w fun e w' => e = .returned (.bool true) ∧ w' = w := fun w => by
    have h := Tryd.utf8_ValidRune c w
    rw [hv] at h
    exact h
  have KV := Lib.hid CV
  have hbn : ¬ ((0 : Int) = (b1.toNat : Int)) := by omega
  have hbn2 : ((b1.toNat : Int) == 0) = false := by simp; omega
  clear CV hv
  unfold Cc
  go_enter Tryd.func79, Tryd.ntmps79
  go_wp2_with (go_at_call 84; refine (KV.out _).mono ?_; rintro e w' ⟨rfl, rfl⟩)

  go_step3
  go_wp2_with fail
  go_loopw [9] (fun x9 wr => x9 = .int .i64 1 ∧ wr = w') (fun _ _ => 1)
  case atStart => exact ⟨rfl, rfl⟩
  case round =>
    obtain ⟨rfl, rfl⟩ := hrel
    have KB := Lib.hid (fun s n w => Tryd.strings_IndexByte s n w)
    have ht : ∀ g1 g2, ((((⟨#[47, 0]⟩ : ByteArray)[1]'g1).toNat : Int) != (((⟨#[b0, b1]⟩ : ByteArray)[1]'g2).toNat : Int)) = true := by
      intro g1 g2
      show ((0 : Int) != (b1.toNat : Int)) = true
      simp; omega
    go_wp2_with fail
    go_step3
    go_wp2_with fail
    go_quiet (fail)
    go_wp2_with fail
    have hw2 : IntKind.i64.wrap 2 = 2 := by decide +kernel
    have hq : Below wr.heap.size wr (wr.drewN nq) := ⟨rfl, rfl, rfl, Nat.le_refl _, fun _ _ => rfl⟩
    generalize wr.drewN nq = wq at *
    go_quiet ((go_at_call 60; exact Calls.quiet_of_same (KB.out _ _ _)))
    have hz : ∀ x : UInt8, Lib.indexByte (ByteArray.empty).data.toList x = -1 := fun x => by rfl
    have hq2 : Below wr.heap.size wr (wq.drewN nq) := ⟨hq.os, hq.tape, hq.output, hq.size, hq.block⟩
    go_wp2_with fail
    show bodyPost Tryd.prog Tryd.f79 (fun e w' => e = .returned (.int .i64 (-1)) ∧ Below wr.heap.size wr w') Exit.ret _ _
    go_ret
    exact ⟨rfl, hq2⟩
set_option maxRecDepth 100000 in
set_option maxHeartbeats 1000000 in
theorem ir_more (c : Int) (h : 128 ≤ c) (h2 : c ≤ 2147483647) (hne : c ≠ 65533) (hv : Lib.validRune c = true) (n : Nat) (he : (Utf8.encode c).size = n) (hn : 3 ≤ n) (hn2 : n ≤ 4) (w : World) :
    Calls Tryd.prog 79 #[.string Cc, .int .i32 c] w fun e w' => e = .returned (.int .i64 (-1)) ∧ Below w.heap.size w w' := by
  have h0 : (0 : Int) ≤ c := by omega
  have h1 : ¬ c < (128 : Int) := by omega
  have CV : ∀ w, Calls Tryd.prog 84 #[.int .i32 c] w fun e w' => e = .returned (.bool true) ∧ w' = w := fun w => by
    have h := Tryd.utf8_ValidRune c w
    rw [hv] at h
    exact h
  have KV := Lib.hid CV
  have hnI : ¬ ((n : Int) - 1 < 2) := by omega
  have hnJ : (3 : Int) ≤ n := by omega
  have hnK : (n : Int) ≤ 4 := by omega
  have hnL : decide ((n : Int) - 1 < 2) = false := by simp; omega
  clear CV hv
  generalize hg : Utf8.encode c = rs at *
  unfold Cc
  go_enter Tryd.func79, Tryd.ntmps79
  go_wp2_with (go_at_call 84; refine (KV.out _).mono ?_; rintro e w' ⟨rfl, rfl⟩)
  go_step3
  go_wp2_with fail
  go_loopw [9] (fun x9 wr => x9 = .int .i64 ((n : Int) - 1) ∧ wr = w') (fun _ _ => 1)
  case atStart => exact ⟨rfl, rfl⟩
  case round =>
    obtain ⟨rfl, rfl⟩ := hrel
    go_wp2_with fail
    show bodyPost Tryd.prog Tryd.f79 (fun e w' => e = .returned (.int .i64 (-1)) ∧ Below wr.heap.size wr w') Exit.ret _ _
    go_ret
    exact ⟨rfl, Below.refl _ _⟩
set_option maxRecDepth 100000 in
set_option maxHeartbeats 1000000 in
theorem ir_err (w : World) :
    Calls Tryd.prog 79 #[.string Cc, .int .i32 65533] w fun e w' => e = .returned (.int .i64 (-1)) ∧ Below w.heap.size w w' := by
  have n0 : ∀ ty, (Instr.next (.pointer (some ⟨w.heap.size, 0, none⟩)) true ty).run Tryd.prog (w.iter (⟨#[47, 0]⟩ : ByteArray) 0) = .ok (.tuple #[.bool true, .int .i64 0, .int .i32 47]) (w.iter (⟨#[47, 0]⟩ : ByteArray) 1) := fun ty => run_next_ascii (P := Tryd.prog) w (⟨#[47, 0]⟩ : ByteArray) 0 ty (by decide) (by decide)
  have n1 : ∀ ty, (Instr.next (.pointer (some ⟨w.heap.size, 0, none⟩)) true ty).run Tryd.prog (w.iter (⟨#[47, 0]⟩ : ByteArray) 1) = .ok (.tuple #[.bool true, .int .i64 1, .int .i32 0]) (w.iter (⟨#[47, 0]⟩ : ByteArray) 2) := fun ty => run_next_ascii (P := Tryd.prog) w (⟨#[47, 0]⟩ : ByteArray) 1 ty (by decide) (by decide)
  have n2 := fun ty => run_next_end (P := Tryd.prog) w (⟨#[47, 0]⟩ : ByteArray) 2 ty (by decide)
  unfold Cc
  go_enter Tryd.func79, Tryd.ntmps79
  go_wp2_with fail
  go_loopw [5, 6] (fun _ _ wr => ∃ i, i ≤ 2 ∧ wr = w.iter (⟨#[47, 0]⟩ : ByteArray) i) (fun _ _ wr => 2 - wr.iterPos w.heap.size)
  case atStart => exact ⟨0, by omega, rfl⟩
  case round =>
    obtain ⟨i, hi, rfl⟩ := hrel
    obtain rfl | rfl | rfl : i = 0 ∨ i = 1 ∨ i = 2 := by omega
    · go_wp2_with fail
      go_roundw
      case rel => exact ⟨1, by omega, rfl⟩
      case measure => simp
    · go_wp2_with fail
      go_roundw
      case rel => exact ⟨2, by omega, rfl⟩
      case measure => simp
    · go_wp2_with fail
      go_ret
      exact ⟨rfl, (Below.refl _ _).alloc (Nat.le_refl _) _⟩
/-- where the two bytes hold a rune -/
def irV (c : Int) : Int := if c < 128 then Lib.indexByte Cc.data.toList c.toNat.toUInt8 else -1
theorem ir_any (c : Int) (h : 0 ≤ c) (h2 : c ≤ 2147483647) (w : World) :
    Calls Tryd.prog 79 #[.string Cc, .int .i32 c] w fun e w' => e = .returned (.int .i64 (irV c)) ∧ Below w.heap.size w w' := by
  unfold irV
  by_cases h1 : c < 128
  · rw [if_pos h1]
    exact (Tryd.strings_IndexRune_ascii Cc c w h h1).mono fun e w' ⟨e1, e2⟩ => ⟨e1, e2 ▸ Below.refl _ _⟩
  · rw [if_neg h1]
    by_cases hne : c = 65533
    · subst hne; exact ir_err w
    · cases hv : Lib.validRune c with
      | false => exact ir_bad c (by omega) h2 hne hv w
      | true =>
        have hv2 : Utf8.valid c = true := (validRune_eq c).trans hv
        by_cases hc : c < 2048
        · obtain ⟨b0, b1, he, hb⟩ := enc_two c (by omega) hv2 hc
          exact ir_two c (by omega) h2 hne hv b0 b1 he hb w
        · have h3 := enc_more c hv2 (by omega)
          have h4 := (encode_facts c hv2 (by omega)).2.1
          exact ir_more c (by omega) h2 hne hv _ rfl h3 h4 w
end Go.Proofs.YtlcppkcclolgcaaDoor

namespace Go.Proofs.YtlcppkcclolgcaaDoor
set_option linter.unusedVariables false
set_option linter.unusedSimpArgs false
open Go.RowKit

/-- IndexAny over a short string, rune by rune -/
def anyR (s : ByteArray) : Nat → Nat → Int
  | 0, _ => -1
  | f + 1, i => if i < s.size then (if 0 ≤ irV ((Utf8.decode s i).1 : Int) then (i : Int) else anyR s f (i + (Utf8.decode s i).2)) else -1
theorem dec_pos (s : ByteArray) (i : Nat) (h : i < s.size) : 1 ≤ (Utf8.decode s i).2 := by
  by_cases ha : (s[i]'h).toNat < 128
  · rw [decode_ascii s i h ha]
    exact Nat.le_refl 1
  · exact (decode_high s i h (by omega)).2
theorem iterAt_below {w w1 : World} {k i j : Nat} {s : ByteArray} (hb : Below k w w1) : Below k w (w1.iterAt k s j) := by
  refine ⟨hb.os, hb.tape, hb.output, ?_, fun b hbk => ?_⟩
  · simpa [World.iterAt] using hb.size
  · rw [← hb.block b hbk]
    simp [World.iterAt, Array.getElem?_setIfInBounds]
    omega
set_option maxRecDepth 100000 in
set_option maxHeartbeats 1000000 in
theorem short_any (s : ByteArray) (h8 : s.size ≤ 8) (w : World) :
    Calls Tryd.prog 75 #[.string s, .string Cc] w fun e w' => e = .returned (.int .i64 (anyR s 9 0)) ∧ Below w.heap.size w w' := by
  have h8z : decide ((8 : Int) < (s.size : Int)) = false := decide_eq_false (by omega)
  have CU : ∀ w, Calls Tryd.prog 80 #[.int .i64 (s.size : Int)] w fun e w' => e = .returned (.bool false) ∧ w' = w := fun w => by
    have h := Tryd.strings_shouldUseASCIISet (s.size : Int) w
    rw [h8z] at h
    exact h
  have KU := Lib.hid CU
  have KI : Hid (∀ (c : Int) w, 0 ≤ c → c ≤ 2147483647 → Calls Tryd.prog 79 #[.string ⟨#[47, 0]⟩, .int .i32 c] w fun e w' => e = .returned (.int .i64 (irV c)) ∧ Below w.heap.size w w') := Lib.hid fun c w h h2 => ir_any c h h2 w
  have HA : ∃ R, anyR s 9 0 = R := ⟨_, rfl⟩
  obtain ⟨R, hR⟩ := HA
  rw [hR]
  have HR := Lib.hid hR
  clear CU hR h8z
  have hc2 : ((2 : Int) == 1) = false := rfl
  unfold Cc
  go_enter Tryd.func75, Tryd.ntmps75
  go_wp2_with (go_at_call 80; refine (KU.out _).mono ?_; rintro e w' ⟨rfl, rfl⟩)
  go_loopg [9, 10] 9 (fun g _ _ wx => ∃ i : Nat, wx.heap[w'.heap.size]? = some (.stringIter s i) ∧ Below w'.heap.size w' wx ∧ s.size < i + g ∧ anyR s g i = R)
  case atStart => exact ⟨0, World.iter_heap _ _ _, (Below.refl _ _).alloc (Nat.le_refl _) _, by omega, HR.out⟩
  case round =>
    obtain ⟨i, hk, hb, hg, hr⟩ := hrel
    have HK := Lib.hid hk
    have HB := Lib.hid hb
    have HV := Lib.hid hr
    clear hr hb
    cases gk with
    | zero =>
      have hnx := fun ty => Lib.run_next_end_at (P := Tryd.prog) wr w'.heap.size s i ty hk (by omega)
      clear hk
      have e : R = -1 := HV.out.symm
      subst e
      go_wp2_with fail
      go_ret
      exact ⟨rfl, HB.out⟩
    | succ g =>
      by_cases hi : i < s.size
      · have hnx := fun ty => Lib.run_next_any_at (P := Tryd.prog) wr w'.heap.size s i ty hk hi
        have hd1 := decode_le s i
        have hd2 := dec_pos s i hi
        have hvr := HV.out
        unfold anyR at hvr
        rw [if_pos hi] at hvr
        have hk2 := Lib.iterAt_heap wr w'.heap.size s i (i + (Utf8.decode s i).2) hk
        have hb2 : Below w'.heap.size w' (wr.iterAt w'.heap.size s (i + (Utf8.decode s i).2)) := iterAt_below (i := i) HB.out
        generalize wr.iterAt w'.heap.size s (i + (Utf8.decode s i).2) = wn at *
        generalize (Utf8.decode s i).2 = d2 at *
        generalize (Utf8.decode s i).1 = d1 at *
        have hd10 : (0 : Int) ≤ (d1 : Int) := by omega
        have hd11 : (d1 : Int) ≤ 2147483647 := by omega
        have HD := Lib.hid hd2
        have HK2 := Lib.hid hk2
        have HB2 := Lib.hid hb2
        clear hk hk2 hb2 HB HK hd1
        by_cases hh : 0 ≤ irV (d1 : Int)
        · rw [if_pos hh] at hvr
          subst hvr
          go_wp2_with (go_at_call 79; refine (KI.out _ _ hd10 hd11).mono ?_; rintro e w3 ⟨rfl, h3⟩)
          go_ret
          exact ⟨rfl, HB2.out.trans (h3.mono HB2.out.size)⟩
        · rw [if_neg hh] at hvr
          have HVR := Lib.hid hvr
          have hh2 : decide (0 ≤ irV (d1 : Int)) = false := decide_eq_false hh
          clear hvr
          go_wp2_with (go_at_call 79; refine (KI.out _ _ hd10 hd11).mono ?_; rintro e w3 ⟨rfl, h3⟩)
          go_roundg g
          case measure => omega
          case rel => exact ⟨i + d2, (h3.block _ (by have := HK2.out; exact (Array.getElem?_eq_some_iff.1 this).1)).trans HK2.out, HB2.out.trans (h3.mono HB2.out.size), by have := HD.out; omega, HVR.out⟩
      · have hnx := fun ty => Lib.run_next_end_at (P := Tryd.prog) wr w'.heap.size s i ty hk hi
        have e : R = -1 := by
          have h := HV.out
          unfold anyR at h
          rw [if_neg hi] at h
          exact h.symm
        subst e
        clear hk
        go_wp2_with fail
        go_ret
        exact ⟨rfl, HB.out⟩
/-- does a string hold one of the two bytes, as the program finds it -/
def anyV (s : ByteArray) : Int := if 8 < s.size then Lib.indexAny s.data.toList Cc.data.toList else anyR s 9 0
theorem any_any (s : ByteArray) (hs : s.size ≤ 1048576) (w : World) :
    Calls Tryd.prog 75 #[.string s, .string Cc] w fun e w' => e = .returned (.int .i64 (anyV s)) ∧ Below w.heap.size w w' := by
  unfold anyV
  by_cases h8 : 8 < s.size
  · rw [if_pos h8]
    refine (Tryd.strings_IndexAny_long (zero_of_info (n := 256) (by kernel_rfl)).1 s Cc w (by decide) h8 (by omega) (by decide) ?_).mono ?_
    · intro j b hj
      have h : b ∈ Cc.data.toList := List.mem_of_getElem? hj
      simp only [Cc, List.mem_cons, List.not_mem_nil, or_false] at h
      rcases h with rfl | rfl <;> decide
    · rintro e w' ⟨h1, rfl⟩
      exact ⟨h1, ((Below.refl _ _).alloc (Nat.le_refl _) _).alloc (by simp) _⟩
  · rw [if_neg h8]
    exact short_any s (by omega) w
set_option maxRecDepth 100000 in
theorem contains_any (s : ByteArray) (hs : s.size ≤ 1048576) (w : World) :
    Calls Tryd.prog 68 #[.string s, .string Cc] w fun e w' => e = .returned (.bool (decide (0 ≤ anyV s))) ∧ Below w.heap.size w w' := by
  have KA := Lib.hid (fun w => any_any s hs w)
  go_enter Tryd.func68, Tryd.ntmps68
  go_wp2_with (go_at_call 75; refine (KA.out _).mono ?_; rintro e w' ⟨rfl, hw⟩)
  go_ret
  exact ⟨rfl, hw⟩
/-- what name.Check answers -/
def nm (s : ByteArray) : Int :=
  if s.size = 0 then 50 else if 255 < s.size then 6 else if 0 ≤ anyV s then 51 else if (s.toList == [46] || s.toList == [46, 46]) = true then 52 else 0
set_option maxRecDepth 100000 in
set_option maxHeartbeats 1000000 in
theorem name_any (s : ByteArray) (w : World) (hs : s.size ≤ 1048576) :
    Calls Tryd.prog 58 #[.string s] w fun e w' => e = .returned (.int .i64 (nm s)) ∧ Below w.heap.size w w' := by
  have KA : Hid (∀ w, Calls Tryd.prog 68 #[.string s, .string ⟨#[47, 0]⟩] w fun e w' => e = .returned (.bool (decide (0 ≤ anyV s))) ∧ Below w.heap.size w w') := Lib.hid (fun w => contains_any s hs w)
  unfold nm
  by_cases h0 : s.size = 0
  · rw [if_pos h0]
    have e0 := toList_emp
    obtain rfl : s = ⟨#[]⟩ := by
      apply ByteArray.ext
      exact Array.eq_empty_of_size_eq_zero h0
    go_enter Tryd.func58, Tryd.ntmps58
    go_wp2_with fail
    go_ret
    exact ⟨rfl, Below.refl _ _⟩
  · rw [if_neg h0]
    have e0 := toList_ne s (fun e => h0 (by rw [e]; rfl))
    by_cases h1 : 255 < s.size
    · rw [if_pos h1]
      have h1I : (255 : Int) < s.size := by omega
      go_enter Tryd.func58, Tryd.ntmps58
      go_wp2_with fail
      go_ret
      exact ⟨rfl, Below.refl _ _⟩
    · rw [if_neg h1]
      have h1I : ¬ (255 : Int) < s.size := by omega
      by_cases h2 : 0 ≤ anyV s
      · rw [if_pos h2]
        go_enter Tryd.func58, Tryd.ntmps58
        go_wp2_with (go_at_call 68; refine (KA.out _).mono ?_; rintro e w' ⟨rfl, hw⟩)
        go_ret
        exact ⟨rfl, hw⟩
      · rw [if_neg h2]
        have h2d : decide (0 ≤ anyV s) = false := decide_eq_false h2
        cases ht1 : (s.toList == [46])
        · cases ht2 : (s.toList == [46, 46])
          · go_enter Tryd.func58, Tryd.ntmps58
            go_wp2_with (go_at_call 68; refine (KA.out _).mono ?_; rintro e w' ⟨rfl, hw⟩)
            go_ret
            exact ⟨rfl, hw⟩
          · go_enter Tryd.func58, Tryd.ntmps58
            go_wp2_with (go_at_call 68; refine (KA.out _).mono ?_; rintro e w' ⟨rfl, hw⟩)
            go_ret
            exact ⟨rfl, hw⟩
        · go_enter Tryd.func58, Tryd.ntmps58
          go_wp2_with (go_at_call 68; refine (KA.out _).mono ?_; rintro e w' ⟨rfl, hw⟩)
          go_ret
          exact ⟨rfl, hw⟩
end Go.Proofs.YtlcppkcclolgcaaDoor

namespace Go.Proofs.YtlcppkcclolgcaaDoor
set_option linter.unusedVariables false
set_option linter.unusedSimpArgs false
open Go.RowKit

/-- the writer in block g holds the bytes xs in the row r -/
structure Bld (w : World) (B g : Nat) (xs : List Nat) (r : Option Nat) : Prop where
  hB : B ≤ g
  at_ : ∃ p v, (p = .pointer none ∨ p = .pointer (some ⟨g, 0, none⟩)) ∧ w.heap[g]? = some (.cells #[p, v] 64 (0, 0)) ∧ OwnB w B v xs ∧ v.ownBlock = r
  ne : r ≠ some g
/-- nothing has changed but block g, the row r and what is new; the row is r' now -/
structure Kp (w w' : World) (g : Nat) (r r' : Option Nat) : Prop where
  os : w'.os = w.os
  tape : w'.tape = w.tape
  output : w'.output = w.output
  size : w.heap.size ≤ w'.heap.size
  block : ∀ i, i < w.heap.size → i ≠ g → some i ≠ r → w'.heap[i]? = w.heap[i]?
  row : r' = r ∨ ∃ k, r' = some k ∧ w.heap.size ≤ k
theorem Kp.refl (w : World) (g : Nat) (r : Option Nat) : Kp w w g r r := ⟨rfl, rfl, rfl, Nat.le_refl _, fun _ _ _ _ => rfl, .inl rfl⟩
theorem Kp.trans {w w1 w2 : World} {g : Nat} {r r1 r2 : Option Nat} (h : Kp w w1 g r r1) (h2 : Kp w1 w2 g r1 r2) : Kp w w2 g r r2 := by
  refine ⟨h2.os.trans h.os, h2.tape.trans h.tape, h2.output.trans h.output, Nat.le_trans h.size h2.size, fun i hi hg hr => ?_, ?_⟩
  · rw [h2.block i (Nat.lt_of_lt_of_le hi h.size) hg ?_, h.block i hi hg hr]
    rcases h.row with e | ⟨k, e, hk⟩
    · rw [e]; exact hr
    · rw [e]; intro e2; injection e2 with e2; omega
  · rcases h2.row with e | ⟨k, e, hk⟩
    · rw [e]; exact h.row
    · exact .inr ⟨k, e, Nat.le_trans h.size hk⟩
theorem Kp.below {w w1 : World} {g : Nat} {r : Option Nat} (h : Below w.heap.size w w1) : Kp w w1 g r r := ⟨h.os, h.tape, h.output, h.size, fun i hi _ _ => h.block i hi, .inl rfl⟩
theorem Kp.set {w : World} {g : Nat} {r : Option Nat} (i : Nat) (v : Value) : Kp w (w.setCell ⟨g, i, none⟩ v) g r r :=
  ⟨rfl, rfl, rfl, by simp [World.setCell], fun k _ hk _ => Below.heap_setCell _ _ _ _ hk, .inl rfl⟩
theorem Bld.lt {w : World} {B g : Nat} {xs : List Nat} {r : Option Nat} (h : Bld w B g xs r) : g < w.heap.size := by
  obtain ⟨p, v, _, h1, _⟩ := h.at_
  exact lt_of_row h1
theorem Bld.low {w : World} {B g : Nat} {xs : List Nat} {r : Option Nat} (h : Bld w B g xs r) : ∀ k, r = some k → B ≤ k ∧ k < w.heap.size := by
  obtain ⟨p, v, _, _, h2, h3⟩ := h.at_
  intro k hk
  exact h2.lt k (h3.trans hk)
theorem Bld.later {w w' : World} {B g : Nat} {xs : List Nat} {r : Option Nat} (h : Bld w B g xs r) (hb : Below w.heap.size w w') : Bld w' B g xs r := by
  obtain ⟨p, v, hp, h1, h2, h3⟩ := h.at_
  exact ⟨h.hB, ⟨p, v, hp, (hb.block g (lt_of_row h1)).trans h1, h2.later hb, h3⟩, h.ne⟩
/-- all that has changed lies at B or above -/
theorem Kp.above {w0 w w' : World} {B g : Nat} {xs : List Nat} {r r' : Option Nat} (h : Bld w B g xs r) (hb : Below B w0 w) (hB : B ≤ w.heap.size) (hk : Kp w w' g r r') : Below B w0 w' :=
  ⟨hk.os.trans hb.os, hk.tape.trans hb.tape, hk.output.trans hb.output, Nat.le_trans hb.size hk.size, fun i hi => (hk.block i (by omega) (by have := h.hB; omega) (fun e => by have := (h.low i e.symm).1; omega)).trans (hb.block i hi)⟩
set_option maxRecDepth 100000 in
set_option maxHeartbeats 1000000 in
theorem copyCheck_any (w : World) (B g : Nat) (xs : List Nat) (r : Option Nat) (H : Bld w B g xs r) :
    Calls Tryd.prog 51 #[.pointer (some ⟨g, 0, none⟩)] w fun e w' => e = .returned (.tuple #[]) ∧ Bld w' B g xs r ∧ Kp w w' g r r := by
  obtain ⟨p, v, hp, h1, h2, h3⟩ := H.at_
  have c0 := cell_of_row w g 0 _ _ _ h1
  have f0 := frozen_of_row w g 0 _ _ h1
  rcases hp with rfl | rfl
  · have hB2 : Bld (w.setCell ⟨g, 0, none⟩ (.pointer (some ⟨g, 0, none⟩))) B g xs r := by
      refine ⟨H.hB, ⟨.pointer (some ⟨g, 0, none⟩), v, .inr rfl, (heap_setCell_same w g 0 _ _ _ h1).trans rfl, ?_, h3⟩, H.ne⟩
      exact h2.kept (only_setG (World.grownBy.refl w (some g)) 0 _) (by rw [h3]; exact .inr H.ne)
    have hsh : w.shape? g = some (64, 2) := by simp [World.shape?, h1]
    have hi82 : ∃ j, Tryd.prog.info? 62 = some j ∧ j.size ≠ 0 := by
      obtain ⟨j, hj, hjs⟩ := Option.map_eq_some_iff.1 (show (Tryd.prog.info? 62).map (·.size) = some 2 by kernel_rfl)
      exact ⟨j, hj, by rw [hjs]; decide⟩
    obtain ⟨j, hj, hjs⟩ := hi82
    have hu80 := Tryd.underlying60
    have hu143 := Tryd.underlying138
    have hto : ∀ q, (convert 60 138 (.pointer (some ⟨g, 0, none⟩))).run Tryd.prog q = (convert 60 138 (.pointer (some ⟨g, 0, none⟩))).run Tryd.prog q := fun _ => rfl
    have r1 : (convert 60 138 (.pointer (some ⟨g, 0, none⟩))).run Tryd.prog w = .ok (.pointer (some ⟨g, 0, none⟩)) w := Lib.run_to_unsafe w ⟨g, 0, none⟩ hu80 hu143 hj hjs hsh (Nat.zero_lt_succ 1)
    have r2 : (convert 138 60 (.pointer (some ⟨g, 0, none⟩))).run Tryd.prog w = .ok (.pointer (some ⟨g, 0, none⟩)) w := Lib.run_from_unsafe w ⟨g, 0, none⟩ hu143 hu80 hj hsh (by kernel_rfl)
    have HB2 := Lib.hid hB2
    clear hB2 h1 h2 h3 H hsh hto
    go_enter Tryd.func51, Tryd.ntmps51
    go_wp2_with fail
    rw [run_callFunc_extern Tryd.func63 (by kernel_rfl) (by kernel_rfl) (by kernel_rfl) (e := Extern.AbiNoEscape.same) (by kernel_rfl)]
    rw [Lib.run_noEscape]
    simp only [Result.andThen]
    rw [Oper.upon_value]
    go_wp2_with fail
    go_end0
    exact ⟨rfl, HB2.out, Kp.set 0 _⟩
  · have hne := fun q => Lib.run_neq_ptr_same (P := Tryd.prog) q (tp := 60) (te := 62) (j := Classical.choose (Option.isSome_iff_exists.1 (show (Tryd.prog.info? 62).isSome = true by kernel_rfl))) ⟨g, 0, none⟩ Tryd.underlying60 (Classical.choose_spec (Option.isSome_iff_exists.1 (show (Tryd.prog.info? 62).isSome = true by kernel_rfl)))
    have HH := Lib.hid H
    clear H h1 h2 h3
    go_enter Tryd.func51, Tryd.ntmps51
    go_wp2_with fail
    go_end0
    exact ⟨rfl, HH.out, Kp.refl _ _ _⟩
theorem run_app_str5 (w : World) (base : Nat) (v : Value) (xs : List Nat) (hown : OwnB w base v xs) (s : ByteArray) (ty : TypeId) (hl : xs.length + s.size ≤ 140737488355328) (hbase : base ≤ w.heap.size) :
    ∃ v' w', (Builtin.append_ #[38, 9] ty #[v, .string s]).run Tryd.prog w = .ok v' w' ∧ OwnB w' base v' (xs ++ nb s) ∧ w.grownBy w' v.ownBlock ∧ (v'.ownBlock = v.ownBlock ∨ ∃ k, v'.ownBlock = some k ∧ w.heap.size ≤ k) := by
  obtain ⟨i0, hi, hz, hs1, hb1⟩ := u8_info
  have hcs : Lib.strCells s = cl .u8 (nb s) := by
    unfold Lib.strCells cl nb
    rw [List.map_map]
    rfl
  have hml : xs.length + s.size ≤ maxLen := by simp only [maxLen]; omega
  rcases hown with ⟨rfl, rfl⟩ | ⟨g, cap, cur, fz, rfl, hb, hg, hc, hcap, hm, hs, ht⟩
  · obtain ⟨v', w', h1, h2, h3, _⟩ := Lib.run_append_own_string (P := Tryd.prog) w w.heap.size 38 9 ty 5 i0 Tryd.underlying38 Tryd.underlying9 hi hz hs1 hb1 (.slice none 0 0) 0 [] (World.ownsRow_nil _ _ _ _) s (by simpa using hml) (by simpa using hl) (Nat.le_refl _)
    have ho : OwnB w' w.heap.size v' ([] ++ nb s) := by
      refine OwnB.of ?_
      rw [List.nil_append, nb_length, ← hcs]
      simpa using h2
    refine ⟨v', w', h1, ho.mono hbase, h3, ?_⟩
    cases hv : v'.ownBlock with
    | none => exact .inl rfl
    | some k => exact .inr ⟨k, rfl, (ho.lt k hv).1⟩
  · by_cases hroom : xs.length + s.size ≤ cap
    · have hf := Lib.run_firstCells_string (P := Tryd.prog) w 1 s
      have hst := store_ahead Tryd.prog g xs.length 5 fz (Lib.strCells s) 0 cur w hg hc (by rw [Lib.strCells_length]; omega) (Lib.strCells_oneCell s)
      simp only [Nat.add_zero, Lib.strCells_length] at hst
      have hr : (Builtin.append_ #[38, 9] ty #[.slice (some ⟨g, 0, none⟩) xs.length cap, .string s]).run Tryd.prog w =
          .ok (.slice (some ⟨g, 0, none⟩) (xs.length + s.size) cap) (w.setRow g (cur.toList.take xs.length ++ Lib.strCells s ++ cur.toList.drop (xs.length + s.size)).toArray) := by
        simp [Builtin.append_, run_underlying Tryd.underlying38, run_underlying Tryd.underlying9, sizeOf, typeInfo, hi, hs1, Builtin.lenOf, hroom, hf, Addr.add_lit, hst]
      refine ⟨_, _, hr, ?_, grown_setRow w g _, .inl rfl⟩
      have h2 := OwnB.room w (ys := nb s) hb hg hc (by rw [nb_length]; exact hroom) hm hs ht
      rw [nb_length, ← hcs] at h2
      exact h2
    · have holds := OwnB.cells (w := w) (base := base) (xs := xs) (.inr ⟨g, cap, cur, fz, rfl, hb, hg, hc, hcap, hm, hs, ht⟩) (g := g) rfl
      have hr := Lib.run_append_grow_string (P := Tryd.prog) w 38 9 ty 5 i0 (.int .u8 0) Tryd.underlying38 Tryd.underlying9 hi hz ⟨g, 0, none⟩ xs.length cap (cl .u8 xs) (by rw [hs1, cl_length]; omega) holds s (by omega) (by omega) (by rw [hb1]; exact growslice_fits (by omega) (by omega))
      have hge := grownCap_ge w (xs.length + s.size) cap 5
      refine ⟨_, _, hr, ?_, ⟨rfl, rfl, rfl, by simp, fun k hk _ => Below.heap_alloc w.drew _ k hk⟩, .inr ⟨_, rfl, Nat.le_refl _⟩⟩
      refine .inr ⟨w.heap.size, _, _, (0, 0), by rw [List.length_append, nb_length], hbase, heap_alloc_new w.drew _, .inl rfl, by rw [List.length_append, nb_length]; exact hge, grownCap_le_maxLen w _ _ _ hml, ?_, ?_⟩
      · have hz1 : (Value.int IntKind.u8 0).cells.size = 1 := rfl
        simp only [Array.size_append, List.size_toArray, size_zeroCells, hz1, cl_length, Lib.strCells_length]
        omega
      · rw [hcs]
        have e : cl .u8 (xs ++ nb s) = cl .u8 xs ++ cl .u8 (nb s) := by simp [cl]
        simp only [Array.toList_append, List.append_assoc]
        rw [← List.append_assoc, ← cl_length .u8 (xs ++ nb s), e]
        exact List.take_left
theorem wpList_app_str5 (w : World) {ops : Array Oper} {rest : List Oper} {o : Oper} {a : Act} {Q : Exit → Act → World → Prop} (hgd : o.guard = none) (sl x : Operand)
    (ho : o.op = .call { callee := .builtin .append, args := #[sl, x], argTypes := #[38, 9] })
    (base : Nat) (v : Value) (xs : List Nat) (hs : a.eval sl = v) (hown : OwnB w base v xs) (s : ByteArray) (hx : a.eval x = .string s) (hl : xs.length + s.size ≤ 140737488355328) (hbase : base ≤ w.heap.size)
    (h : ∀ v' w', OwnB w' base v' (xs ++ nb s) → w.grownBy w' v.ownBlock → (v'.ownBlock = v.ownBlock ∨ ∃ k, v'.ownBlock = some k ∧ w.heap.size ≤ k) → wpList Tryd.prog ops Q rest (a.put o.dst v') w') : wpList Tryd.prog ops Q (o :: rest) a w :=
  wpList_plain hgd fun K hK => by
    obtain ⟨v', w', hr, h2, h3, h4⟩ := run_app_str5 w base v xs hown s o.type hl hbase
    unfold Oper.wp execOp
    simp only [ho, resolve, invoke, builtin, Sem.run_bind, Sem.run_pure, Result.andThen_ok, List.map_toArray, List.map_cons, List.map_nil, hs, hx, hr]
    exact hK _ _ (h v' w' h2 h3 h4)
set_option maxRecDepth 100000 in
set_option maxHeartbeats 1000000 in
theorem write_any (w : World) (B g : Nat) (xs : List Nat) (r : Option Nat) (s : ByteArray) (hl : xs.length + s.size ≤ 140737488355328) (hB : B ≤ w.heap.size) (H : Bld w B g xs r) :
    Calls Tryd.prog 34 #[.pointer (some ⟨g, 0, none⟩), .string s] w fun e w' => e = .returned (.tuple #[.int .i64 (s.size : Int), .nilIface]) ∧ ∃ r', Bld w' B g (xs ++ nb s) r' ∧ Kp w w' g r r' := by
  have KC := Lib.hid (copyCheck_any w B g xs r H)
  clear H
  go_enter Tryd.func34, Tryd.ntmps34
  go_upto_region 2 with (go_at_call 51; refine KC.out.mono ?_; rintro e w1 ⟨rfl, H1, K1⟩)
  obtain ⟨p, v, hp, h1, h2, h3⟩ := H1.at_
  have c1 := cell_of_row w1 g 1 _ _ _ h1
  have hB1 : B ≤ w1.heap.size := Nat.le_trans hB K1.size
  go_wp2_with (at_builtin; refine wpList_app_str5 _ rfl (.tmp 12) (.tmp 13) rfl B _ xs rfl h2 s rfl hl hB1 ?_; intro v2 w2 ho2 hg2 hr2; obtain ⟨A2, k2, hv2⟩ := ho2.slice; generalize (xs ++ nb s).length = l2 at hv2; subst hv2; have hx2 : w2.heap[g]? = some (.cells #[p, v] 64 (0, 0)) := (hg2.block g (lt_of_row h1) (by show some g ≠ v.ownBlock; rw [h3]; exact fun e => H1.ne e.symm)).trans h1; have f1 := frozen_of_row w2 g 1 _ _ hx2; have d1 := cell_of_row w2 g 1 _ _ _ hx2; have HX2 := Lib.hid hx2; have HG2 : Hid (w1.grownBy w2 v.ownBlock) := Lib.hid hg2; have HR2 : Hid ((Value.slice A2 l2 k2).ownBlock = v.ownBlock ∨ ∃ k, (Value.slice A2 l2 k2).ownBlock = some k ∧ w1.heap.size ≤ k) := Lib.hid hr2; have HO2 := Lib.hid ho2; clear hx2 hg2 hr2 ho2)
  go_ret2
  have ht := HG2.out
  have hne : ∀ k, (Value.slice A2 l2 k2).ownBlock = some k → k ≠ g := by
    intro k hk e
    subst e
    rcases HR2.out with h | ⟨k', h, hk'⟩
    · exact H1.ne (by rw [← h3, ← h, hk])
    · have := lt_of_row h1
      rw [hk] at h
      injection h with h
      omega
  refine ⟨rfl, (Value.slice A2 l2 k2).ownBlock, ⟨H1.hB, ⟨p, _, hp, (heap_setCell_same w2 g 1 _ _ _ HX2.out).trans rfl, ?_, rfl⟩, ?_⟩, K1.trans ⟨ht.os, ht.tape, ht.output, by simpa [World.setCell] using ht.size, fun i hi hig hir => ?_, ?_⟩⟩
  · exact HO2.out.kept (only_setG (World.grownBy.refl w2 (some g)) 1 _) (by
      cases hk : (Value.slice A2 l2 k2).ownBlock with
      | none => exact .inl rfl
      | some k => exact .inr (fun e => hne k hk (by injection e)))
  · intro e
    exact hne g e rfl
  · rw [Below.heap_setCell _ _ _ _ hig, ht.block i hi (by rw [h3]; exact hir)]
  · rw [← h3]
    exact HR2.out
end Go.Proofs.YtlcppkcclolgcaaDoor

namespace Go.Proofs.YtlcppkcclolgcaaDoor
set_option linter.unusedVariables false
set_option linter.unusedSimpArgs false
open Go.RowKit

theorem fr_le {n : Nat} (h : n ≤ 1048576) : 8 + (n + 7) / 8 * 8 ≤ 1048592 := by omega
set_option maxRecDepth 100000 in
set_option maxHeartbeats 2000000 in
theorem string_any (w : World) (B g : Nat) (xs : List Nat) (r : Option Nat) (hx : Bytes xs) (h0 : xs ≠ []) (H : Bld w B g xs r) :
    Calls Tryd.prog 22 #[.pointer (some ⟨g, 0, none⟩)] w fun e w' => e = .returned (.string (strOf xs)) ∧ Below B w w' := by
  obtain ⟨p, v, hp, h1, h2, h3⟩ := H.at_
  have h2' := h2
  rcases h2 with ⟨_, rfl⟩ | ⟨gr, cap, cur, fz, rfl, hb, hg, hc, hcap, hm, hs, ht⟩
  · exact absurd rfl h0
  have hl0 : xs.length ≠ 0 := by simpa using h0
  have hL : (xs.map UInt8.ofNat).length = xs.length := by simp
  have hL0 : xs.map UInt8.ofNat ≠ [] := by simpa using h0
  have c1 : w.drew.cell? ⟨g, 1, none⟩ = some (.slice (some ⟨gr, 0, none⟩) xs.length cap) := cell_of_row w.drew g 1 _ _ _ h1
  have hSD : (Builtin.unsafeSliceData_ #[38] 105 #[.slice (some ⟨gr, 0, none⟩) xs.length cap]).run Tryd.prog w.drew = .ok (.pointer (some ⟨gr, 0, none⟩)) w.drew :=
    Lib.run_unsafeSliceData_row _ _ _ _ _ _ (by omega)
  have hUS : (Builtin.unsafeString_ #[105, 3] 9 #[.pointer (some ⟨gr, 0, none⟩), .int .i64 (xs.length : Int)]).run Tryd.prog w.drew = .ok (.string (strOf xs)) (w.drew.freeze ⟨gr, 0, none⟩ xs.length) := by
    have h := Lib.run_unsafeString_row (P := Tryd.prog) w.drew 105 3 9 5 Tryd.underlying105 (by kernel_rfl) gr cur.size (by have hg' : w.drew.heap[gr]? = some (.cells cur 5 fz) := hg; simp [World.shape?, hg']) (xs.map UInt8.ofNat) hL0 (by rw [hL]; omega) (by rw [hL]; unfold maxLen at hm; omega) ?_
    · rw [hL] at h
      exact h
    · intro j x hj
      have hxj : xs[j]? = some x.toNat := by
        rw [List.getElem?_map] at hj
        cases hq : xs[j]? with
        | none => rw [hq] at hj; cases hj
        | some y =>
          rw [hq] at hj
          injection hj with hj
          have hy : y < 256 := hx y (List.mem_of_getElem? hq)
          rw [← hj]
          simp
          omega
      have hcl : (cl .u8 xs)[j]? = some (.int .u8 (x.toNat : Int)) := by
        unfold cl
        rw [List.getElem?_map, hxj]
        rfl
      exact h2'.cells (g := gr) rfl j _ hcl
  have HB : Below B w (w.drew.freeze ⟨gr, 0, none⟩ xs.length) := Lib.below_freeze (Below.drew (Below.refl B w)) (p := ⟨gr, 0, none⟩) hb _
  have HH := Lib.hid HB
  clear HB H h1 h2' hg hx ht hL0 hL hp h0
  go_enter Tryd.func22, Tryd.ntmps22
  go_wp2_with fail
  go_region
  all_goals (go_wp2_with fail; go_ret; exact ⟨rfl, HH.out⟩)
set_option maxRecDepth 100000 in
set_option maxHeartbeats 4000000 in
theorem words_any (ss : List ByteArray) (B g blk len cap : Nat) (xs : List Nat) (r : Option Nat) (t : TypeId) (w : World) (H : Bld w B g xs r) (hB : B ≤ w.heap.size) (hrow : w.heap[blk]? = some (.cells (strs ss) t (0, 0))) (hbg : blk ≠ g) (hbr : some blk ≠ r)
    (hs : ∀ s ∈ ss, s.size ≤ 1048576) (hl : ss.length ≤ 10) (hlen : len = ss.length) (hx : xs.length ≤ 100000000) :
    Calls Tryd.prog 20 #[.pointer (some ⟨g, 0, none⟩), .slice (some ⟨blk, 0, none⟩) len cap] w fun e w' => e = .returned (.tuple #[]) ∧ ∃ r', Bld w' B g (xs ++ frames ss) r' ∧ Kp w w' g r r' := by
  have HS := Lib.hid hs
  have HL := Lib.hid hlen
  have HH := Lib.hid H
  have HROW := Lib.hid hrow
  have hl2 : len ≤ 10 := by omega
  clear hrow hs hlen H
  go_enter Tryd.func20, Tryd.ntmps20
  go_wp2_with fail
  go_loopw [8] (fun x8 wr => ∃ (i : Nat) (ri : Option Nat), i ≤ len ∧ x8 = .int .i64 (i : Int) ∧ Bld wr B g (xs ++ frames (ss.take i)) ri ∧ Kp w wr g r ri) (fun x8 _ => len - (intOf x8).toNat)
  case atStart => exact ⟨0, r, Nat.zero_le _, rfl, by simpa [frames] using HH.out, Kp.refl _ _ _⟩
  case round =>
    obtain ⟨i, ri, hi, rfl, hbl, hkp⟩ := hrel
    have hi0 : (0 : Int) ≤ i := by omega
    by_cases hlt : i < len
    · have hlt2 : i < ss.length := by rw [← HL.out]; exact hlt
      have hrw : wr.heap[blk]? = some (.cells (strs ss) t (0, 0)) := (hkp.block blk (lt_of_row HROW.out) hbg hbr).trans HROW.out
      have c0 := (cell_of_row wr blk i _ _ _ hrw).trans (strs_get ss i hlt2)
      have hsz := HS.out ss[i] (List.getElem_mem _)
      have hfr : (frames (ss.take i)).length ≤ 10 * 1048592 := by
        rw [frames_length]
        have h := frSum_le (ss.take i) fun s hm => HS.out s (List.mem_of_mem_take hm)
        rw [List.length_take] at h
        exact Nat.le_trans h (Nat.mul_le_mul_right _ (by omega))
      have hnx : frames (ss.take (i + 1)) = frames (ss.take i) ++ frameL (nb ss[i]) := by
        rw [List.take_add_one, frames_append, List.getElem?_eq_getElem hlt2]
        simp [frames]
      have CT := Lib.hid (fun w => text_any ss[i] (by omega) w)
      have hnb : nb (strOf (frameL (nb ss[i]))) = frameL (nb ss[i]) := nb_strOf _ (frameL_bytes _ (nb_bytes _))
      have hfl : (strOf (frameL (nb ss[i]))).size ≤ 1048592 := by
        rw [strOf_size, frameL_length, nb_length]
        exact fr_le hsz
      have hltI : (i : Int) < len := by omega
      generalize ss[i] = s at *
      have CW : Hid (∀ wq, Bld wq B g (xs ++ frames (ss.take i)) ri → B ≤ wq.heap.size → Calls Tryd.prog 34 #[.pointer (some ⟨g, 0, none⟩), .string (strOf (frameL (nb s)))] wq fun e w' => e = .returned (.tuple #[.int .i64 ((strOf (frameL (nb s))).size : Int), .nilIface]) ∧ ∃ r', Bld w' B g ((xs ++ frames (ss.take i)) ++ nb (strOf (frameL (nb s)))) r' ∧ Kp wq w' g ri r') :=
        Lib.hid fun wq hb hBw => write_any wq B g _ ri _ (by rw [List.length_append]; omega) hBw hb
      rw [hnb] at CW
      have HBL := Lib.hid hbl
      have HKP := Lib.hid hkp
      have HNX := Lib.hid hnx
      have HSZ := Lib.hid hB
      clear hlt2 hrw hnb hfl hnx hfr hbl hkp hsz
      go_upto_region 3 with (fail)
      go_region_with (first | (go_at_call 35; refine (CT.out _).mono ?_; rintro e w5 ⟨rfl, h5⟩; have h6 : Below wr.heap.size wr w5 := ⟨h5.os, h5.tape, h5.output, h5.size, h5.block⟩; clear h5) | (go_at_call 34; refine (CW.out _ (HBL.out.later h6) (Nat.le_trans HSZ.out (Nat.le_trans HKP.out.size h6.size))).mono ?_; rintro e w6 ⟨rfl, r6, hb6, hk6⟩))
      go_wp2_with fail
      go_roundw
      case rel => exact ⟨i + 1, r6, by omega, by go_num, by rw [HNX.out, ← List.append_assoc]; exact hb6, HKP.out.trans ((Kp.below h6).trans hk6)⟩
      case measure => simp [intOf]; omega
    · have hltI : ¬ (i : Int) < len := by omega
      have hfin : ss.take i = ss := List.take_of_length_le (by rw [← HL.out]; omega)
      rw [hfin] at hbl
      have HBL := Lib.hid hbl
      have HKP := Lib.hid hkp
      clear hbl hkp
      go_wp2_with fail
      go_end0
      exact ⟨rfl, ri, HBL.out, HKP.out⟩
end Go.Proofs.YtlcppkcclolgcaaDoor

namespace Go.Proofs.YtlcppkcclolgcaaDoor
set_option linter.unusedVariables false
set_option linter.unusedSimpArgs false
open Go.RowKit

/-- the writer on its way: since w0 nothing below B has changed; since w1 nothing but what is the writer's -/
structure Wst (w0 w1 : World) (B g : Nat) (r1 : Option Nat) (xs : List Nat) (wx : World) : Prop where
  bel : Below B w0 wx
  size : B ≤ wx.heap.size
  st : ∃ rx, Bld wx B g xs rx ∧ Kp w1 wx g r1 rx
section
variable {w0 w1 wx : World} {B g : Nat} {r1 : Option Nat} {xs : List Nat}
theorem Wst.row (S : Wst w0 w1 B g r1 xs wx) {k : Nat} {o : Obj} (h : w1.heap[k]? = some o) (hg : k ≠ g) (hr : some k ≠ r1) : wx.heap[k]? = some o := by
  obtain ⟨rx, hb, hk⟩ := S.st
  refine (hk.block k ?_ hg hr).trans h
  rcases Nat.lt_or_ge k w1.heap.size with h' | h'
  · exact h'
  · rw [Array.getElem?_eq_none_iff.2 h'] at h; cases h
theorem Wst.later {w' : World} (S : Wst w0 w1 B g r1 xs wx) (h : Below wx.heap.size wx w') : Wst w0 w1 B g r1 xs w' := by
  obtain ⟨rx, hb, hk⟩ := S.st
  exact ⟨S.bel.trans (h.mono S.size), Nat.le_trans S.size h.size, rx, hb.later h, hk.trans (Kp.below h)⟩
/-- a new start -/
theorem Wst.start (S : Wst w0 w1 B g r1 xs wx) : ∃ rx, Wst w0 wx B g rx xs wx ∧ g < wx.heap.size ∧ (∀ k, rx = some k → k < wx.heap.size) ∧ ∀ xs' w', Wst w0 wx B g rx xs' w' → Wst w0 w1 B g r1 xs' w' := by
  obtain ⟨rx, hb, hk⟩ := S.st
  refine ⟨rx, ⟨S.bel, S.size, rx, hb, Kp.refl _ _ _⟩, hb.lt, fun k h => (hb.low k h).2, fun xs' w' S' => ?_⟩
  obtain ⟨ry, hb', hk'⟩ := S'.st
  exact ⟨S'.bel, S'.size, ry, hb', hk.trans hk'⟩
theorem words_st (ss : List ByteArray) (S : Wst w0 w1 B g r1 xs wx) (hx : xs.length ≤ 100000000) (hs : ∀ s ∈ ss, s.size ≤ 1048576) (hl : ss.length ≤ 10) (cap k : Nat) (hkk : k = wx.heap.size) :
    Calls Tryd.prog 20 #[.pointer (some ⟨g, 0, none⟩), .slice (some ⟨k, 0, none⟩) ss.length cap] (wx.alloc (.cells (strs ss) 9)) fun e w' => e = .returned (.tuple #[]) ∧ Wst w0 w1 B g r1 (xs ++ frames ss) w' := by
  subst hkk
  have hba : Below wx.heap.size wx (wx.alloc (.cells (strs ss) 9)) := (Below.refl _ _).alloc (Nat.le_refl _) _
  have S2 := S.later hba
  obtain ⟨rx, hb, hk⟩ := S2.st
  have hb0 := S.st
  obtain ⟨r0, hb0, hk0⟩ := hb0
  have hlt := hb0.lt
  have e : rx = r0 := by
    obtain ⟨p, v, _, h1, _, h3⟩ := hb0.at_
    obtain ⟨p', v', _, h1', _, h3'⟩ := hb.at_
    rw [hba.block g hlt, h1] at h1'
    injection h1' with h1'
    injection h1' with h1'
    have : v = v' := by
      have h4 := congrArg (fun a : Array Value => a[1]?) h1'
      simpa using h4
    rw [← h3, ← h3', this]
  subst e
  refine (words_any ss B g wx.heap.size ss.length cap xs rx 9 _ hb S2.size (heap_alloc_new _ _) (by omega) (fun h => ?_) hs hl rfl hx).mono ?_
  · have := (hb0.low _ h.symm).2; omega
  · rintro e w' ⟨h1, r', hb', hk'⟩
    exact ⟨h1, hk'.above hb S2.bel S2.size, Nat.le_trans S2.size hk'.size, r', hb', hk.trans hk'⟩
end
theorem sz_list {ss : List ByteArray} (h : ss.all (fun s => decide (s.size ≤ 1048576)) = true) : ∀ s ∈ ss, s.size ≤ 1048576 := by
  intro s hs
  have := List.all_eq_true.1 h s hs
  simpa using this
theorem sz_snoc {ss : List ByteArray} {t : ByteArray} (h : ss.all (fun s => decide (s.size ≤ 1048576)) = true) (ht : t.size ≤ 1048576) : ∀ s ∈ ss ++ [t], s.size ≤ 1048576 := by
  intro s hs
  rcases List.mem_append.1 hs with h' | h'
  · exact sz_list h s h'
  · rw [List.mem_singleton.1 h']; exact ht
theorem fl_le {ss : List ByteArray} (h : ∀ s ∈ ss, s.size ≤ 1048576) (hl : ss.length ≤ 10) : (frames ss).length ≤ 10485920 := by
  rw [frames_length]
  exact Nat.le_trans (frSum_le ss h) (Nat.mul_le_mul_right _ hl)
theorem Wst.boxed {w0 w1 w : World} {B g : Nat} {r1 r0 : Option Nat} {xs : List Nat} (H : Wst w0 w1 B g r1 xs w) (S0 : Wst w0 w B g r0 xs w) (hf : ∀ xs' w', Wst w0 w B g r0 xs' w' → Wst w0 w1 B g r1 xs' w') (o : Obj) :
    Wst w0 (w.alloc o) B g r0 xs (w.alloc o) ∧ ∀ xs' w', Wst w0 (w.alloc o) B g r0 xs' w' → Wst w0 w1 B g r1 xs' w' := by
  have hba : Below w.heap.size w (w.alloc o) := (Below.refl _ _).alloc (Nat.le_refl _) o
  obtain ⟨rx, hb, hk⟩ := S0.st
  have e : rx = r0 := by
    rcases hk.row with h | ⟨k, h, hk2⟩
    · exact h
    · have := (hb.low k h).2; omega
  subst e
  refine ⟨⟨S0.bel.trans (hba.mono S0.size), Nat.le_trans S0.size hba.size, rx, hb.later hba, Kp.refl _ _ _⟩, fun xs' w' S' => hf xs' w' ?_⟩
  obtain ⟨ry, hb', hk'⟩ := S'.st
  exact ⟨S'.bel, S'.size, ry, hb', (Kp.below hba).trans hk'⟩
set_option maxRecDepth 100000 in
set_option maxHeartbeats 4000000 in
theorem wr_file (w0 w1 : World) (B g : Nat) (r1 : Option Nat) (xs : List Nat) (t : ByteArray) (x : Bool) (a : Option Addr) (len cap : Nat) (w : World) (H : Wst w0 w1 B g r1 xs w) (ht : t.size ≤ 1048576) (hx : xs.length ≤ 2000000) :
    Calls Tryd.prog 21 #[.pointer (some ⟨g, 0, none⟩), .agg #[.int .i64 1, .bool x, .string t, .slice a len cap]] w
      fun e w' => e = .returned (.tuple #[]) ∧ Wst w0 w1 B g r1 (xs ++ frames ([wOpen, wType] ++ ([wRegular] ++ (if x then [wExec, wEmpty] else []) ++ [wContents, t]) ++ [wClose])) w' := by
  obtain ⟨r0, S0, hg0, hr0, hf0⟩ := H.start
  have SB : Wst w0 (w.alloc (.cells #[.int .i64 1, .bool x, .string t, .slice a len cap] 25)) B g r0 xs (w.alloc (.cells #[.int .i64 1, .bool x, .string t, .slice a len cap] 25)) ∧ ∀ xs' w', Wst w0 (w.alloc (.cells #[.int .i64 1, .bool x, .string t, .slice a len cap] 25)) B g r0 xs' w' → Wst w0 w1 B g r1 xs' w' := Wst.boxed H S0 hf0 _
  obtain ⟨SB, hfB⟩ := SB
  have hX := heap_alloc_new w (.cells #[.int .i64 1, .bool x, .string t, .slice a len cap] 25)
  have HS0 := Lib.hid SB
  have HF := Lib.hid hfB
  have HX := Lib.hid hX
  have HN1 : Hid (w.heap.size ≠ g) := Lib.hid (by omega)
  have HN2 : Hid (some w.heap.size ≠ r0) := Lib.hid (fun h => by have := hr0 _ h.symm; omega)
  have KW := Lib.hid (fun ss xs w1 r1 wx (S : Wst w0 w1 B g r1 xs wx) hx hs hl cap k hk => words_st ss S hx hs hl cap k hk)
  have l1 := fl_le (ss := [wOpen, wType]) (sz_list (by decide)) (by decide)
  have l2 := fl_le (ss := [wRegular]) (sz_list (by decide)) (by decide)
  have l3 := fl_le (ss := [wExec, wEmpty]) (sz_list (by decide)) (by decide)
  have l4 := fl_le (ss := [wContents, t]) (sz_snoc (ss := [wContents]) (by decide) ht) (by simp)
  have HLS := Lib.hid (And.intro hx (And.intro l1 (And.intro l2 (And.intro l3 l4))))
  have HT := Lib.hid ht
  clear H S0 hg0 hr0 hf0 SB hfB hX l1 l2 l3 l4 hx ht
  cases x
  · go_enter Tryd.func21, Tryd.ntmps21
    go_upto_region 2 with (go_at_call 20; refine (KW.out [wOpen, wType] _ _ _ _ HS0.out (by exact Nat.le_trans HLS.out.1 (by decide)) (sz_list (by decide)) (by simp) _ _ (by simp)).mono ?_; rintro e w1 ⟨rfl, hs1⟩; have HS1 := Lib.hid hs1; have hx1 := HS1.out.row HX.out HN1.out HN2.out; have b0 := cell_of_row w1 _ 0 _ _ _ hx1; have b1 := cell_of_row w1 _ 1 _ _ _ hx1; have b2 := cell_of_row w1 _ 2 _ _ _ hx1; have b3 := cell_of_row w1 _ 3 _ _ _ hx1; have b2' := cell_past b2; clear hs1 hx1)
    go_upto_region 13 with (go_at_call 20; refine (KW.out [wRegular] _ _ _ _ HS1.out (by simp only [List.length_append]; have := HLS.out; omega) (sz_list (by decide)) (by simp) _ _ (by simp)).mono ?_; rintro e w2 ⟨rfl, hs2⟩; have HS2 := Lib.hid hs2; have hx2 := HS2.out.row HX.out HN1.out HN2.out; have b0 := cell_of_row w2 _ 0 _ _ _ hx2; have b1 := cell_of_row w2 _ 1 _ _ _ hx2; have b2 := cell_of_row w2 _ 2 _ _ _ hx2; have b3 := cell_of_row w2 _ 3 _ _ _ hx2; have b2' := cell_past b2; clear hs2 hx2; clear b0)
    go_upto_region 18 with (go_at_call 20; refine (KW.out [wContents, t] _ _ _ _ HS2.out (by simp only [List.length_append]; have := HLS.out; omega) (sz_snoc (ss := [wContents]) (by decide) HT.out) (by simp) _ _ (by simp)).mono ?_; rintro e w3 ⟨rfl, hs3⟩; have HS3 := Lib.hid hs3; have hx3 := HS3.out.row HX.out HN1.out HN2.out; have b0 := cell_of_row w3 _ 0 _ _ _ hx3; have b1 := cell_of_row w3 _ 1 _ _ _ hx3; have b2 := cell_of_row w3 _ 2 _ _ _ hx3; have b3 := cell_of_row w3 _ 3 _ _ _ hx3; have b2' := cell_past b2; clear hs3 hx3)
    go_wp2_with (go_at_call 20; refine (KW.out [wClose] _ _ _ _ HS3.out (by simp only [List.length_append]; have := HLS.out; omega) (sz_list (by decide)) (by simp) _ _ (by simp)).mono ?_; rintro e w4 ⟨rfl, hs4⟩)
    go_end0
    refine ⟨rfl, HF.out _ _ ?_⟩
    simpa [frames] using hs4
  · go_enter Tryd.func21, Tryd.ntmps21
    go_upto_region 2 with (go_at_call 20; refine (KW.out [wOpen, wType] _ _ _ _ HS0.out (by exact Nat.le_trans HLS.out.1 (by decide)) (sz_list (by decide)) (by simp) _ _ (by simp)).mono ?_; rintro e w1 ⟨rfl, hs1⟩; have HS1 := Lib.hid hs1; have hx1 := HS1.out.row HX.out HN1.out HN2.out; have b0 := cell_of_row w1 _ 0 _ _ _ hx1; have b1 := cell_of_row w1 _ 1 _ _ _ hx1; have b2 := cell_of_row w1 _ 2 _ _ _ hx1; have b3 := cell_of_row w1 _ 3 _ _ _ hx1; have b2' := cell_past b2; clear hs1 hx1)
    go_upto_region 13 with (go_at_call 20; refine (KW.out [wRegular] _ _ _ _ HS1.out (by simp only [List.length_append]; have := HLS.out; omega) (sz_list (by decide)) (by simp) _ _ (by simp)).mono ?_; rintro e w2 ⟨rfl, hs2⟩; have HS2 := Lib.hid hs2; have hx2 := HS2.out.row HX.out HN1.out HN2.out; have b0 := cell_of_row w2 _ 0 _ _ _ hx2; have b1 := cell_of_row w2 _ 1 _ _ _ hx2; have b2 := cell_of_row w2 _ 2 _ _ _ hx2; have b3 := cell_of_row w2 _ 3 _ _ _ hx2; have b2' := cell_past b2; clear hs2 hx2)
    go_upto_region 15 with (go_at_call 20; refine (KW.out [wExec, wEmpty] _ _ _ _ HS2.out (by simp only [List.length_append]; have := HLS.out; omega) (sz_list (by decide)) (by simp) _ _ (by simp)).mono ?_; rintro e w3 ⟨rfl, hs3⟩; have HS3 := Lib.hid hs3; have hx3 := HS3.out.row HX.out HN1.out HN2.out; have b0 := cell_of_row w3 _ 0 _ _ _ hx3; have b1 := cell_of_row w3 _ 1 _ _ _ hx3; have b2 := cell_of_row w3 _ 2 _ _ _ hx3; have b3 := cell_of_row w3 _ 3 _ _ _ hx3; have b2' := cell_past b2; clear hs3 hx3)
    go_upto_region 18 with (go_at_call 20; refine (KW.out [wContents, t] _ _ _ _ HS3.out (by simp only [List.length_append]; have := HLS.out; omega) (sz_snoc (ss := [wContents]) (by decide) HT.out) (by simp) _ _ (by simp)).mono ?_; rintro e w4 ⟨rfl, hs4⟩; have HS4 := Lib.hid hs4; have hx4 := HS4.out.row HX.out HN1.out HN2.out; have b0 := cell_of_row w4 _ 0 _ _ _ hx4; have b1 := cell_of_row w4 _ 1 _ _ _ hx4; have b2 := cell_of_row w4 _ 2 _ _ _ hx4; have b3 := cell_of_row w4 _ 3 _ _ _ hx4; have b2' := cell_past b2; clear hs4 hx4)
    go_wp2_with (go_at_call 20; refine (KW.out [wClose] _ _ _ _ HS4.out (by simp only [List.length_append]; have := HLS.out; omega) (sz_list (by decide)) (by simp) _ _ (by simp)).mono ?_; rintro e w5 ⟨rfl, hs5⟩)
    go_end0
    refine ⟨rfl, HF.out _ _ ?_⟩
    simpa [frames] using hs5
set_option maxRecDepth 100000 in
set_option maxHeartbeats 4000000 in
theorem wr_link (w0 w1 : World) (B g : Nat) (r1 : Option Nat) (xs : List Nat) (t : ByteArray) (x : Bool) (a : Option Addr) (len cap : Nat) (w : World) (H : Wst w0 w1 B g r1 xs w) (ht : t.size ≤ 1048576) (hx : xs.length ≤ 2000000) :
    Calls Tryd.prog 21 #[.pointer (some ⟨g, 0, none⟩), .agg #[.int .i64 2, .bool x, .string t, .slice a len cap]] w
      fun e w' => e = .returned (.tuple #[]) ∧ Wst w0 w1 B g r1 (xs ++ frames ([wOpen, wType] ++ [wSymlink, wTarget, t] ++ [wClose])) w' := by
  obtain ⟨r0, S0, hg0, hr0, hf0⟩ := H.start
  have SB : Wst w0 (w.alloc (.cells #[.int .i64 2, .bool x, .string t, .slice a len cap] 25)) B g r0 xs (w.alloc (.cells #[.int .i64 2, .bool x, .string t, .slice a len cap] 25)) ∧ ∀ xs' w', Wst w0 (w.alloc (.cells #[.int .i64 2, .bool x, .string t, .slice a len cap] 25)) B g r0 xs' w' → Wst w0 w1 B g r1 xs' w' := Wst.boxed H S0 hf0 _
  obtain ⟨SB, hfB⟩ := SB
  have hX := heap_alloc_new w (.cells #[.int .i64 2, .bool x, .string t, .slice a len cap] 25)
  have HS0 := Lib.hid SB
  have HF := Lib.hid hfB
  have HX := Lib.hid hX
  have HN1 : Hid (w.heap.size ≠ g) := Lib.hid (by omega)
  have HN2 : Hid (some w.heap.size ≠ r0) := Lib.hid (fun h => by have := hr0 _ h.symm; omega)
  have KW := Lib.hid (fun ss xs w1 r1 wx (S : Wst w0 w1 B g r1 xs wx) hx hs hl cap k hk => words_st ss S hx hs hl cap k hk)
  have l1 := fl_le (ss := [wOpen, wType]) (sz_list (by decide)) (by decide)
  have l4 := fl_le (ss := [wSymlink, wTarget, t]) (sz_snoc (ss := [wSymlink, wTarget]) (by decide) ht) (by simp)
  have HLS := Lib.hid (And.intro hx (And.intro l1 l4))
  have HT := Lib.hid ht
  clear H S0 hg0 hr0 hf0 SB hfB hX l1 l4 hx ht
  go_enter Tryd.func21, Tryd.ntmps21
  go_upto_region 2 with (go_at_call 20; refine (KW.out [wOpen, wType] _ _ _ _ HS0.out (by exact Nat.le_trans HLS.out.1 (by decide)) (sz_list (by decide)) (by simp) _ _ (by simp)).mono ?_; rintro e w1 ⟨rfl, hs1⟩; have HS1 := Lib.hid hs1; have hx1 := HS1.out.row HX.out HN1.out HN2.out; have b0 := cell_of_row w1 _ 0 _ _ _ hx1; have b1 := cell_of_row w1 _ 1 _ _ _ hx1; have b2 := cell_of_row w1 _ 2 _ _ _ hx1; have b3 := cell_of_row w1 _ 3 _ _ _ hx1; have b2' := cell_past b2; clear hs1 hx1)
  go_upto_region 18 with (go_at_call 20; refine (KW.out [wSymlink, wTarget, t] _ _ _ _ HS1.out (by simp only [List.length_append]; have := HLS.out; omega) (sz_snoc (ss := [wSymlink, wTarget]) (by decide) HT.out) (by simp) _ _ (by simp)).mono ?_; rintro e w2 ⟨rfl, hs2⟩; have HS2 := Lib.hid hs2; have hx2 := HS2.out.row HX.out HN1.out HN2.out; have b0 := cell_of_row w2 _ 0 _ _ _ hx2; have b1 := cell_of_row w2 _ 1 _ _ _ hx2; have b2 := cell_of_row w2 _ 2 _ _ _ hx2; have b3 := cell_of_row w2 _ 3 _ _ _ hx2; have b2' := cell_past b2; clear hs2 hx2)
  go_wp2_with (go_at_call 20; refine (KW.out [wClose] _ _ _ _ HS2.out (by simp only [List.length_append]; have := HLS.out; omega) (sz_list (by decide)) (by simp) _ _ (by simp)).mono ?_; rintro e w3 ⟨rfl, hs3⟩)
  go_end0
  refine ⟨rfl, HF.out _ _ ?_⟩
  simpa [frames] using hs3
theorem ws_five (t : ByteArray) (ht : t.size ≤ 1048576) : ∀ s ∈ [wEntry, wOpen, wName, t, wNode], s.size ≤ 1048576 := by
  intro s hs
  simp only [List.mem_cons, List.not_mem_nil, or_false] at hs
  rcases hs with rfl | rfl | rfl | rfl | rfl
  all_goals first | exact ht | decide
theorem ND.kwords_pre : ∀ (n : ND) (i : Nat), i ≤ n.cnt → ∃ rest, n.kwords = (n.pre i).kwords ++ rest := by
  intro n
  induction n with
  | leaf => intro i _; exact ⟨[], by simp [ND.pre, ND.kwords]⟩
  | add p s c ih _ =>
    intro i h
    unfold ND.pre
    split
    · rename_i h2
      obtain ⟨rest, e⟩ := ih i h2
      exact ⟨rest ++ [wEntry, wOpen, wName, s, wNode] ++ c.wordsOf c.kwords ++ [wClose], by simp only [ND.kwords]; rw [e]; simp only [List.append_assoc]⟩
    · exact ⟨[], by simp⟩
theorem ND.pre_zero (n : ND) : (n.pre 0).kwords = [] := by
  induction n with
  | leaf => rfl
  | add p s c ih _ => unfold ND.pre; rw [if_pos (Nat.zero_le _)]; exact ih
/-- what is claimed of a node -/
def NodeW (w0 : World) (B g : Nat) (c : ND) : Prop :=
  ∀ (w1 : World) (r1 : Option Nat) (xs : List Nat) (a : Option Addr) (cap : Nat) (w : World), Wst w0 w1 B g r1 xs w → c.In B w0 a → c.small 1048576 → xs.length + frSum c.words ≤ 2000000 →
    Calls Tryd.prog 21 #[.pointer (some ⟨g, 0, none⟩), c.val a cap] w fun e w' => e = .returned (.tuple #[]) ∧ Wst w0 w1 B g r1 (xs ++ frames c.words) w'
theorem len_le {xs : List Nat} {a : List ByteArray} {n m : Nat} (h : xs.length + frSum a ≤ n) (hm : n ≤ m) : (xs ++ frames a).length ≤ m := by
  rw [List.length_append, frames_length]; omega
set_option maxRecDepth 100000 in
set_option maxHeartbeats 8000000 in
theorem wr_dir (w0 w1 : World) (B g : Nat) (r1 : Option Nat) (xs : List Nat) (kd : Int) (t : ByteArray) (x : Bool) (a : Option Addr) (len cap : Nat) (n : ND) (w : World) (H : Wst w0 w1 B g r1 xs w) (hk1 : kd ≠ 1) (hk2 : kd ≠ 2) (hlen : len = n.cnt) (hsm : n.small 1048576) (hin : n.In B w0 a) (hcn : n.cnt ≤ 1048576)
    (hx : xs.length + frSum ([wOpen, wType] ++ ([wDirectory] ++ n.kwords) ++ [wClose]) ≤ 2000000) (ih : ∀ c : ND, c.sz < n.sz → NodeW w0 B g c) :
    Calls Tryd.prog 21 #[.pointer (some ⟨g, 0, none⟩), .agg #[.int .i64 kd, .bool x, .string t, .slice a len cap]] w
      fun e w' => e = .returned (.tuple #[]) ∧ Wst w0 w1 B g r1 (xs ++ frames ([wOpen, wType] ++ ([wDirectory] ++ n.kwords) ++ [wClose])) w' := by
  obtain ⟨r0, S0, hg0, hr0, hf0⟩ := H.start
  have SB : Wst w0 (w.alloc (.cells #[.int .i64 kd, .bool x, .string t, .slice a len cap] 25)) B g r0 xs (w.alloc (.cells #[.int .i64 kd, .bool x, .string t, .slice a len cap] 25)) ∧ ∀ xs' w', Wst w0 (w.alloc (.cells #[.int .i64 kd, .bool x, .string t, .slice a len cap] 25)) B g r0 xs' w' → Wst w0 w1 B g r1 xs' w' := Wst.boxed H S0 hf0 _
  obtain ⟨SB, hfB⟩ := SB
  have hX := heap_alloc_new w (.cells #[.int .i64 kd, .bool x, .string t, .slice a len cap] 25)
  have HS0 := Lib.hid SB
  have HF := Lib.hid hfB
  have HX := Lib.hid hX
  have HN1 : Hid (w.heap.size ≠ g) := Lib.hid (by omega)
  have HN2 : Hid (some w.heap.size ≠ r0) := Lib.hid (fun h => by have := hr0 _ h.symm; omega)
  have KW := Lib.hid (fun ss xs w1 r1 wx (S : Wst w0 w1 B g r1 xs wx) hx hs hl cap k hk => words_st ss S hx hs hl cap k hk)
  have kb1 : (kd == 1) = false := by simpa using hk1
  have kb2 : (kd == 2) = false := by simpa using hk2
  have HX0 := Lib.hid hx
  have HL := Lib.hid hlen
  have HIN := Lib.hid hin
  have HSM := Lib.hid hsm
  have HI := Lib.hid ih
  have l1 := fl_le (ss := [wOpen, wType]) (sz_list (by decide)) (by decide)
  have hx2 : xs.length ≤ 2000000 := by omega
  have HLS := Lib.hid (And.intro hx2 l1)
  have hlm : (len : Int) ≤ 1048576 := by omega
  clear H S0 hg0 hr0 hf0 SB hfB hX hx hx2 hlen hin hsm ih l1 hk1 hk2 hcn
  go_enter Tryd.func21, Tryd.ntmps21
  go_upto_region 2 with (go_at_call 20; refine (KW.out [wOpen, wType] _ _ _ _ HS0.out (by exact Nat.le_trans HLS.out.1 (by decide)) (sz_list (by decide)) (by simp) _ _ (by simp)).mono ?_; rintro e w1 ⟨rfl, hs1⟩; have HS1 := Lib.hid hs1; have hx1 := HS1.out.row HX.out HN1.out HN2.out; have b0 := cell_of_row w1 _ 0 _ _ _ hx1; have b1 := cell_of_row w1 _ 1 _ _ _ hx1; have b2 := cell_of_row w1 _ 2 _ _ _ hx1; have b3 := cell_of_row w1 _ 3 _ _ _ hx1; have b2' := cell_past b2; clear hs1 hx1)
  go_upto_region 4 with (go_at_call 20; refine (KW.out [wDirectory] _ _ _ _ HS1.out (by simp only [List.length_append]; have := HLS.out; omega) (sz_list (by decide)) (by simp) _ _ (by simp)).mono ?_; rintro e w2 ⟨rfl, hs2⟩; have HS2 := Lib.hid hs2; have hx2 := HS2.out.row HX.out HN1.out HN2.out; have b0 := cell_of_row w2 _ 0 _ _ _ hx2; have b1 := cell_of_row w2 _ 1 _ _ _ hx2; have b2 := cell_of_row w2 _ 2 _ _ _ hx2; have b3 := cell_of_row w2 _ 3 _ _ _ hx2; have b2' := cell_past b2; clear hs2 hx2)
  clear b0 b1 b2 b2'
  go_wp2_with fail
  go_loopw [17] (fun x17 wr => ∃ i : Nat, x17 = .int .i64 (i : Int) ∧ i ≤ len ∧ Wst w0 (w.alloc (.cells #[.int .i64 kd, .bool x, .string t, .slice a len cap] 25)) B g r0 (xs ++ frames ([wOpen, wType, wDirectory] ++ (n.pre i).kwords)) wr) (fun x17 _ => len - (intOf x17).toNat)
  case atStart =>
    refine ⟨0, rfl, Nat.zero_le _, ?_⟩
    rw [ND.pre_zero]
    simpa [frames] using HS2.out
  case round =>
    obtain ⟨i, rfl, hi, hst⟩ := hrel
    clear b3
    have HST := Lib.hid hst
    have hi0 : (0 : Int) ≤ i := by omega
    by_cases hlt : i < len
    · have hltI : (i : Int) < len := by omega
      obtain ⟨y, rfl, hat⟩ : ∃ y, a = some y ∧ n.At B w0 y := by
        rcases HIN.out with h | h
        · have := HL.out; omega
        · exact h
      obtain ⟨s, c, e1, e2, e3, e4, ka, kcap, c0, c1, c2, c3, c4, hc⟩ := hat.kid (i := i) (by have := HL.out; omega)
      have hkk : ∀ q : Addr, q.block = y.block → wr.cell? q = w0.cell? q := fun q e => hst.bel.cell (by rw [e]; exact e4)
      replace c0 := (hkk (y.add (i * 5)) (block_add _ _)).trans c0
      replace c1 := (hkk ⟨(y.add (i * 5)).block, (y.add (i * 5)).off + 1, none⟩ (block_add _ _)).trans c1
      replace c2 := (hkk ⟨(y.add (i * 5)).block, (y.add (i * 5)).off + 2, none⟩ (block_add _ _)).trans c2
      replace c3 := (hkk ⟨(y.add (i * 5)).block, (y.add (i * 5)).off + 3, none⟩ (block_add _ _)).trans c3
      replace c4 := (hkk ⟨(y.add (i * 5)).block, (y.add (i * 5)).off + 4, none⟩ (block_add _ _)).trans c4
      obtain ⟨rest, hrest⟩ := n.kwords_pre (i + 1) (by have := HL.out; omega)
      rw [e1] at hrest
      simp only [ND.kwords] at hrest
      have hsum : xs.length + (frSum ([wOpen, wType, wDirectory] ++ (n.pre i).kwords) + frSum [wEntry, wOpen, wName, s, wNode] + frSum c.words) ≤ 2000000 := by
        have h := HX0.out
        rw [hrest] at h
        simp only [frSum_append] at h ⊢
        have e9 : frSum [wOpen, wType, wDirectory] = frSum [wOpen, wType] + frSum [wDirectory] := by rw [← frSum_append]; rfl
        rw [e9]
        unfold ND.words
        omega
      have hss := (e3 _ HSM.out).1
      have hsc := (e3 _ HSM.out).2
      obtain ⟨r2, S2, hg2, hr2, hf2⟩ := hst.start
      obtain ⟨SE, hfE⟩ := Wst.boxed hst S2 hf2 (.cells #[.string s, .int .i64 c.kind, .bool c.exec, .string c.text, .slice ka c.cnt kcap] 95)
      have hE := heap_alloc_new wr (.cells #[.string s, .int .i64 c.kind, .bool c.exec, .string c.text, .slice ka c.cnt kcap] 95)
      have HE := Lib.hid hE
      have HSE := Lib.hid SE
      have HFE := Lib.hid hfE
      have HM1 : Hid (wr.heap.size ≠ g) := Lib.hid (by omega)
      have HM2 : Hid (some wr.heap.size ≠ r2) := Lib.hid (fun h => by have := hr2 _ h.symm; omega)
      have HSUM := Lib.hid hsum
      have HSS := Lib.hid hss
      have HE1 := Lib.hid e1
      have CR : Hid (∀ w1 r1 xs w, Wst w0 w1 B g r1 xs w → xs.length + frSum c.words ≤ 2000000 → Calls Tryd.prog 21 #[.pointer (some ⟨g, 0, none⟩), .agg #[.int .i64 c.kind, .bool c.exec, .string c.text, .slice ka c.cnt kcap]] w fun e w' => e = .returned (.tuple #[]) ∧ Wst w0 w1 B g r1 (xs ++ frames c.words) w') :=
        Lib.hid fun w1 r1 xs w S hx => HI.out c e2 w1 r1 xs ka kcap w S hc hsc hx
      clear hst hat hkk e1 e2 e3 e4 hc hrest hsum hss hsc S2 hg2 hr2 hf2 SE hfE hE
      go_upto_region 7 with (fail)
      go_upto_region 8 with (go_at_call 20; refine (KW.out [wEntry, wOpen, wName, s, wNode] _ _ _ _ HSE.out (by have h := HSUM.out; rw [List.length_append, frames_length]; omega) (ws_five s HSS.out) (by simp) _ _ (by simp)).mono ?_; rintro e w7 ⟨rfl, hs7⟩; have hx7 := hs7.row HE.out HM1.out HM2.out; have q1 := cell_of_row w7 _ 1 _ _ _ hx7; have q2 := cell_of_row w7 _ 2 _ _ _ hx7; have q3 := cell_of_row w7 _ 3 _ _ _ hx7; have q4 := cell_of_row w7 _ 4 _ _ _ hx7; have H7 := Lib.hid hs7; clear hs7 hx7)
      go_upto_region 9 with (go_at_call 21; refine (CR.out _ _ _ _ H7.out (by have h := HSUM.out; rw [List.length_append, List.length_append, frames_length, frames_length]; omega)).mono ?_; rintro e w8 ⟨rfl, hs8⟩; have H8 := Lib.hid hs8; clear hs8)
      go_wp2_with (go_at_call 20; refine (KW.out [wClose] _ _ _ _ H8.out (by have h := HSUM.out; simp only [List.length_append, frames_length]; omega) (sz_list (by decide)) (by simp) _ _ (by simp)).mono ?_; rintro e w9 ⟨rfl, hs9⟩)
      go_roundw
      case rel =>
        refine ⟨i + 1, by go_num, by omega, ?_⟩
        rw [HE1.out]
        have h := HFE.out _ _ hs9
        simpa [frames, ND.kwords, ND.words] using h
      case measure => simp [intOf]; omega
    · have hltI : ¬ (i : Int) < len := by omega
      have hpre : n.pre i = n := by rw [show i = n.cnt from by have := HL.out; omega]; exact n.pre_all
      rw [hpre] at HST
      have hq : (xs ++ frames ([wOpen, wType, wDirectory] ++ n.kwords)).length ≤ 100000000 := by
        have h := HX0.out
        simp only [frSum_append] at h
        have e9 : frSum [wOpen, wType, wDirectory] = frSum [wOpen, wType] + frSum [wDirectory] := by rw [← frSum_append]; rfl
        rw [List.length_append, frames_length, frSum_append, e9]
        omega
      have HQ := Lib.hid hq
      clear hq
      go_wp2_with (go_at_call 20; refine (KW.out [wClose] _ _ _ _ HST.out HQ.out (sz_list (by decide)) (by simp) _ _ (by simp)).mono ?_; rintro e w9 ⟨rfl, hs9⟩)
      go_end0
      refine ⟨rfl, HF.out _ _ ?_⟩
      simpa [frames] using hs9
theorem wr_any (w0 : World) (B g : Nat) : ∀ (k : Nat) (n : ND), n.sz ≤ k → NodeW w0 B g n := by
  intro k
  induction k with
  | zero => intro n h; cases n <;> simp [ND.sz] at h
  | succ k ih =>
    intro n hk w1 r1 xs a cap w H hin hsm hx
    have htx : n.text.size ≤ 1048576 := small_text (m := 1048576) hsm
    have hct : n.cnt ≤ 1048576 := small_cnt (m := 1048576) hsm
    unfold ND.words ND.wordsOf at hx ⊢
    by_cases h1 : n.kind = 1
    · have ev : n.val a cap = .agg #[.int .i64 1, .bool n.exec, .string n.text, .slice a n.cnt cap] := by unfold ND.val; rw [h1]
      rw [if_pos h1] at hx ⊢
      rw [ev]
      exact wr_file w0 w1 B g r1 xs n.text n.exec a n.cnt cap w H htx (by omega)
    · by_cases h2 : n.kind = 2
      · have ev : n.val a cap = .agg #[.int .i64 2, .bool n.exec, .string n.text, .slice a n.cnt cap] := by unfold ND.val; rw [h2]
        rw [if_neg h1, if_pos h2] at hx ⊢
        rw [ev]
        exact wr_link w0 w1 B g r1 xs n.text n.exec a n.cnt cap w H htx (by omega)
      · rw [if_neg h1, if_neg h2] at hx ⊢
        exact wr_dir w0 w1 B g r1 xs n.kind n.text n.exec a n.cnt cap n w H h1 h2 rfl hsm hin hct hx (fun c hc => ih c (by omega))
end Go.Proofs.YtlcppkcclolgcaaDoor

namespace Go.Proofs.YtlcppkcclolgcaaDoor
set_option linter.unusedVariables false
set_option linter.unusedSimpArgs false
open Go.RowKit

theorem fld_ne {n : ND} : n.fldE ≠ 0 ∨ (n.kind = 1 ∨ n.kind = 2 ∨ n.kind = 3) := by
  by_cases h : n.fldE = 0
  · exact .inr (fld_kind h)
  · exact .inl h
theorem addC_ok {b n b' : Nat} (h : addC b n = .ok b') : b' = b + n ∧ b' ≤ 1048576 := by
  unfold addC at h
  split at h
  · injection h with h; omega
  · cases h
theorem addC_err {b n : Nat} {q : Int} (h : addC b n = .error q) : q = 2 ∧ 1048576 < b + n := by
  unfold addC at h
  split at h
  · cases h
  · injection h with h; exact ⟨h.symm, by omega⟩
theorem bind_ok {x : Except Int Nat} {K : Nat → Except Int Nat} {b' : Nat} (h : x.bind K = .ok b') : ∃ b, x = .ok b ∧ K b = .ok b' := by
  cases x with
  | error q => cases h
  | ok b => exact ⟨b, rfl, h⟩
theorem bind_err {x : Except Int Nat} {K : Nat → Except Int Nat} {q : Int} (h : x.bind K = .error q) : x = .error q ∨ ∃ b, x = .ok b ∧ K b = .error q := by
  cases x with
  | error q' => left; injection h with h; rw [h]
  | ok b => exact .inr ⟨b, rfl, h⟩
def ND.PS (nm : ByteArray → Int) (n : ND) : Prop := ∀ d b b', n.nodeC (fun b3 => n.kidsC nm d b3) d b = .ok b' → b' = b + frSum n.words ∧ b' ≤ 1048576
def ND.KS (nm : ByteArray → Int) (n : ND) : Prop := ∀ d b b', b ≤ 1048576 → n.kidsC nm d b = .ok b' → b' = b + frSum n.kwords ∧ b' ≤ 1048576
theorem PS_of (nm : ByteArray → Int) (n : ND) (h : n.KS nm) : n.PS nm := by
  intro d b b' e
  have q1 := q_exec
  have q2 : frSum [wOpen, wType, wDirectory, wClose] = 72 := by decide +kernel
  unfold ND.nodeC at e
  split at e
  · cases e
  split at e
  · cases e
  rename_i hf
  have hk := fld_kind (Classical.not_not.1 hf)
  unfold ND.words ND.wordsOf
  split at e
  · rename_i h1
    rw [if_pos h1]
    obtain ⟨e1, e2⟩ := addC_ok e
    refine ⟨?_, e2⟩
    rw [e1]
    cases n.exec
    · simp [frSum]
    · simp only [frSum, if_true] at q1 ⊢
      simp [List.map_cons, List.map_nil, List.sum_cons, List.sum_nil] at q1 ⊢
      omega
  · rename_i h1
    rw [if_neg h1]
    split at e
    · rename_i h2
      rw [if_pos h2]
      obtain ⟨e1, e2⟩ := addC_ok e
      refine ⟨?_, e2⟩
      rw [e1]
      simp [frSum]
    · rename_i h2
      rw [if_neg h2]
      obtain ⟨b3, e1, e2⟩ := bind_ok e
      obtain ⟨e3, e4⟩ := addC_ok e1
      obtain ⟨e5, e6⟩ := h d b3 b' e4 e2
      refine ⟨?_, e6⟩
      rw [e5, e3]
      have e9 : frSum ([wOpen, wType] ++ ([wDirectory] ++ n.kwords) ++ [wClose]) = frSum [wOpen, wType, wDirectory, wClose] + frSum n.kwords := by
        simp [frSum]
        omega
      rw [e9, q2]
      omega
theorem KS_all (nm : ByteArray → Int) : ∀ n : ND, n.KS nm := by
  intro n
  induction n with
  | leaf k x t =>
    intro d b b' hb e
    injection e with e
    subst e
    exact ⟨by simp [ND.kwords, frSum], hb⟩
  | add p s c ihp ihc =>
    intro d b b' hb e
    unfold ND.kidsC at e
    obtain ⟨b1, e1, e2⟩ := bind_ok e
    obtain ⟨h1, h2⟩ := ihp d b b1 hb e1
    split at e2
    · cases e2
    split at e2
    · cases e2
    obtain ⟨b2, e3, e4⟩ := bind_ok e2
    obtain ⟨h3, h4⟩ := addC_ok e3
    obtain ⟨h5, h6⟩ := PS_of nm c ihc _ _ _ e4
    refine ⟨?_, h6⟩
    rw [h5, h3, h1]
    have e9 : frSum (ND.add p s c).kwords = frSum p.kwords + frSum [wEntry, wOpen, wName, s, wNode, wClose] + frSum c.words := by
      simp [ND.kwords, ND.words, frSum]
      omega
    rw [e9]
    omega
/-- the walk of a tree that has an archive counts the archive -/
theorem walk_sum {nm : ByteArray → Int} {n : ND} {b : Nat} (h : n.walkC nm = .ok b) : b = (arc n).length ∧ b ≤ 1048576 ∧ b = 24 + frSum n.words := by
  obtain ⟨h1, h2⟩ := PS_of nm n (KS_all nm n) _ _ _ h
  have q : fr wMagic.size = 24 := by decide +kernel
  refine ⟨?_, h2, h1⟩
  rw [h1]
  unfold arc
  rw [frames_length]
  simp only [frSum, List.map_cons, List.sum_cons]
  rw [q]
theorem nm_ne {n : ND} {nm : ByteArray → Int} : ∀ d b q, (n.nodeC (fun b3 => n.kidsC nm d b3) d b = .error q → q ≠ 0) ∧ (n.kidsC nm d b = .error q → q ≠ 0) := by
  induction n with
  | leaf k x t =>
    intro d b q
    have hk : (ND.leaf k x t).kidsC nm d b = .error q → q ≠ 0 := fun h => by cases h
    refine ⟨fun h => ?_, hk⟩
    unfold ND.nodeC at h
    split at h
    · injection h with h; omega
    split at h
    · rename_i hf; injection h with h; rw [← h]; exact hf
    split at h
    · rw [(addC_err h).1]; decide
    split at h
    · rw [(addC_err h).1]; decide
    rcases bind_err h with h | ⟨b3, _, h⟩
    · rw [(addC_err h).1]; decide
    · cases h
  | add p s c ihp ihc =>
    intro d b q
    have hk : ∀ b, (ND.add p s c).kidsC nm d b = .error q → q ≠ 0 := fun b h => by
      unfold ND.kidsC at h
      rcases bind_err h with h | ⟨b1, _, h⟩
      · exact (ihp d b q).2 h
      split at h
      · rename_i hn; injection h with h; rw [← h]; exact hn
      split at h
      · injection h with h; omega
      rcases bind_err h with h | ⟨b2, _, h⟩
      · rw [(addC_err h).1]; decide
      · exact (ihc (d + 1) b2 q).1 h
    refine ⟨fun h => ?_, hk b⟩
    unfold ND.nodeC at h
    split at h
    · injection h with h; omega
    split at h
    · rename_i hf; injection h with h; rw [← h]; exact hf
    split at h
    · rw [(addC_err h).1]; decide
    split at h
    · rw [(addC_err h).1]; decide
    rcases bind_err h with h | ⟨b3, _, h⟩
    · rw [(addC_err h).1]; decide
    · exact hk b3 h
theorem errC_zero {n : ND} {nm : ByteArray → Int} : errC (n.walkC nm) = 0 ↔ ∃ b, n.walkC nm = .ok b := by
  constructor
  · intro h
    cases e : n.walkC nm with
    | ok b => exact ⟨b, rfl⟩
    | error q =>
      rw [e] at h
      exact absurd h ((nm_ne _ _ q).1 e)
  · rintro ⟨b, h⟩
    rw [h]; rfl
/-- what Serial answers -/
def serE (n : ND) : Int := errC (n.walkC nm)
def serT (n : ND) : ByteArray := if serE n = 0 then strOf (arc n) else ⟨#[]⟩
theorem serE_len {n : ND} (h : serE n = 0) : (arc n).length ≤ 1048576 ∧ (arc n).length = 24 + frSum n.words := by
  obtain ⟨b, hb⟩ := errC_zero.1 h
  obtain ⟨h1, h2, h3⟩ := walk_sum hb
  omega
set_option maxRecDepth 100000 in
set_option maxHeartbeats 4000000 in
theorem serial_any (n : ND) (a : Option Addr) (cap : Nat) (w : World) (hsm : n.small 1048576) (hin : n.In w.heap.size w a) :
    Calls Tryd.prog 5 #[n.val a cap] w fun e w' => e = .returned (.tuple #[.string (serT n), .int .i64 (serE n)]) ∧ Below w.heap.size w w' := by
  have CK : ∀ wq, Below w.heap.size w wq → Calls Tryd.prog 6 #[n.val a cap] wq fun e w' => ∃ p : ByteArray, e = .returned (.tuple #[.string p, .int .i64 (serE n)]) ∧ Below wq.heap.size wq w' :=
    fun wq h => Check_any nm n a cap wq hsm (hin.up h) (fun s w hs => name_any s w hs)
  by_cases h0 : serE n = 0
  · obtain ⟨hlen, hlen2⟩ := serE_len h0
    have CN : ∀ g w1 r1 xs wq, Wst w w1 w.heap.size g r1 xs wq → xs.length ≤ 24 → Calls Tryd.prog 21 #[.pointer (some ⟨g, 0, none⟩), n.val a cap] wq fun e w' => e = .returned (.tuple #[]) ∧ Wst w w1 w.heap.size g r1 (xs ++ frames n.words) w' :=
      fun g w1 r1 xs wq S hx => wr_any w w.heap.size g n.sz n (Nat.le_refl _) w1 r1 xs a cap wq S hin hsm (by omega)
    have hT : serT n = strOf (frames [wMagic] ++ frames n.words) := by
      unfold serT
      rw [if_pos h0]
      unfold arc
      rw [frames_cons]
      simp [frames]
    have hTb : Bytes (frames [wMagic] ++ frames n.words) := by rw [← frames_append]; exact frames_bytes _
    rw [h0] at CK ⊢
    rw [hT]
    unfold ND.val at CK CN ⊢
    generalize n.words = ws at *
    generalize n.kind = kd at *
    generalize n.exec = ex at *
    generalize n.text = tx at *
    generalize n.cnt = ct at *
    have KK := Lib.hid CK
    have KN := Lib.hid CN
    have KB := Lib.hid hTb
    have KW := Lib.hid (fun g ss xs w1 r1 wx (S : Wst w w1 w.heap.size g r1 xs wx) hx hs hl cap k hk => words_st ss S hx hs hl cap k hk)
    clear CK CN hT hTb hlen hlen2 hsm hin h0
    go_enter Tryd.func5, Tryd.ntmps5
    go_upto_region 4 with (go_at_call 6; refine (KK.out _ ((Below.refl _ _).alloc (Nat.le_refl _) _)).mono ?_; rintro e w3 ⟨p, rfl, h3⟩)
    have hx3 := box_later h3
    have hb3 : Below w.heap.size w w3 := ((Below.refl _ _).alloc (Nat.le_refl _) _).trans (h3.mono (by simp))
    have hlt3 : w.heap.size < w3.heap.size := lt_of_row hx3
    have hba : Below w3.heap.size w3 (w3.alloc (.cells #[.pointer none, .slice none 0 0] 64)) := (Below.refl _ _).alloc (Nat.le_refl _) _
    have S0 : Wst w (w3.alloc (.cells #[.pointer none, .slice none 0 0] 64)) w.heap.size w3.heap.size none [] (w3.alloc (.cells #[.pointer none, .slice none 0 0] 64)) :=
      ⟨hb3.trans (hba.mono hb3.size), Nat.le_trans hb3.size hba.size, none, ⟨hb3.size, ⟨_, _, .inl rfl, heap_alloc_new _ _, OwnB.nil _ _, rfl⟩, by simp⟩, Kp.refl _ _ _⟩
    have hx4 := row_past hx3 (.cells #[.pointer none, .slice none 0 0] 64)
    have HX := Lib.hid hx4
    have HS0 := Lib.hid S0
    have HN1 : Hid (w.heap.size ≠ w3.heap.size) := Lib.hid (by omega)
    have HN2 : Hid (some w.heap.size ≠ none) := Lib.hid (by simp)
    clear hx3 hb3 hba S0 hx4 h3
    go_upto_region 6 with (go_at_call 20; refine (KW.out _ [wMagic] _ _ _ _ HS0.out (by decide) (sz_list (by decide)) (by simp) _ _ (by simp)).mono ?_; rintro e w5 ⟨rfl, hs5⟩; have hx5 := hs5.row HX.out HN1.out HN2.out; have b0 := cell_of_row w5 _ 0 _ _ _ hx5; have b1 := cell_of_row w5 _ 1 _ _ _ hx5; have b2 := cell_of_row w5 _ 2 _ _ _ hx5; have b3 := cell_of_row w5 _ 3 _ _ _ hx5; have H5 := Lib.hid hs5; clear hs5 hx5)
    go_upto_region 7 with (go_at_call 21; refine (KN.out _ _ _ _ _ H5.out (by decide +kernel)).mono ?_; rintro e w6 ⟨rfl, hs6⟩; have H6 := Lib.hid hs6; clear hs6)
    obtain ⟨hbel, hsz, r6, hb6, hk6⟩ := H6.out
    have hB6 := KB.out
    have hne : [] ++ frames [wMagic] ++ frames ws ≠ [] := by
      have h : (frames [wMagic]).length = 24 := by decide +kernel
      intro e
      have e2 := congrArg List.length e
      simp only [List.length_append, h, List.length_nil] at e2
      omega
    have KS := Lib.hid (string_any w6 w.heap.size w3.heap.size _ r6 hB6 hne hb6)
    clear hne
    have HBEL := Lib.hid hbel
    clear hbel hb6 hk6 hB6 hsz
    go_wp2_with (go_at_call 22; refine KS.out.mono ?_; rintro e w7 ⟨rfl, h7⟩)
    go_ret2
    exact ⟨rfl, HBEL.out.trans h7⟩
  · have hT : serT n = ⟨#[]⟩ := by unfold serT; rw [if_neg h0]
    rw [hT]
    generalize serE n = q at *
    unfold ND.val at CK ⊢
    generalize n.kind = kd at *
    generalize n.exec = ex at *
    generalize n.text = tx at *
    generalize n.cnt = ct at *
    have KK := Lib.hid CK
    have hq : (q == 0) = false := by simpa using h0
    clear CK hT hsm hin
    go_enter Tryd.func5, Tryd.ntmps5
    go_wp2_with (go_at_call 6; refine (KK.out _ ((Below.refl _ _).alloc (Nat.le_refl _) _)).mono ?_; rintro e w3 ⟨p, rfl, h3⟩)
    go_ret2
    exact ⟨rfl, ((Below.refl _ _).alloc (Nat.le_refl _) _).trans (h3.mono (by simp))⟩
end Go.Proofs.YtlcppkcclolgcaaDoor
