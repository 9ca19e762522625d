/- The walk of the unpacker's take. -/
import Derived.Test.YtikbbofjkchppaaUc
import Derived.Laws.BitsAllLaws
namespace Go.Proofs.Ytikbbofjkchppaa
set_option linter.unusedVariables false
set_option linter.unusedSimpArgs false
open Go.RowKit
open Go.Proofs.YtikbbofjkchppaaW.PrintLast

theorem or_high (s c h : Nat) (hs : s < 2 ^ h) : s ||| c * 2 ^ h = s + c * 2 ^ h := by
  have := Nat.two_pow_add_eq_or_of_lt hs c
  rw [Nat.or_comm, Nat.mul_comm c, ← this, Nat.add_comm]

set_option maxRecDepth 100000 in
set_option maxHeartbeats 4000000 in
/-- a byte of the head -/
theorem take_head (w0 : World) (S : Nat → Prop) (g c : Nat) (vo vt : Value) (u : US) (w : World) (H : UkS w0 S w g vo vt u) (hf : Fine u) (hc : c < 256) (hh : u.head < 8) :
    Calls Try.prog 36 #[.pointer (some ⟨g, 0, none⟩), .int .u8 (c : Int)] w fun e w' => e = .returned (.bool (u.take c).2) ∧ ∃ vo' vt', UkS w0 S w' g vo' vt' (u.take c).1 := by
  obtain ⟨r, hr⟩ : ∃ r, u.take c = r := ⟨_, rfl⟩
  rw [hr]
  rw [US.take, if_pos hh] at hr
  have hs := (hf.pre hh).2.2.2
  obtain ⟨h, hhe⟩ : ∃ h, h = u.head := ⟨_, rfl⟩
  obtain ⟨s, hse⟩ : ∃ s, s = u.size := ⟨_, rfl⟩
  rw [← hhe, ← hse] at hs hr
  rw [← hhe] at hh
  obtain ⟨y, hy⟩ : ∃ y, y = c * 2 ^ (8 * h) := ⟨_, rfl⟩
  have hp : 2 ^ (8 * h) ≤ 2 ^ 56 := Nat.pow_le_pow_right (by omega) (by omega)
  have hp0 : 0 < 2 ^ (8 * h) := Nat.pow_pos (by omega)
  have hyb : y ≤ 255 * 2 ^ 56 := by rw [hy]; exact Nat.mul_le_mul (by omega) hp
  have hor : bits .or .u64 (s : Int) (y : Int) = ((s + y : Nat) : Int) := by
    rw [u64_or_nat s y (by omega) (by omega), hy, or_high s c _ hs]
  rw [← hy] at hr
  obtain ⟨s2, hs2⟩ : ∃ s2, s2 = s + y := ⟨_, rfl⟩
  rw [← hs2] at hr hor
  have hs2b : s2 < 18446744073709551616 := by omega
  have HR := Lib.hid hr
  have c4 := H.c4
  have c5 := H.c5
  rw [← hse] at c4
  rw [← hhe] at c5
  have h0 : (0 : Int) ≤ h := by omega
  have h8 : (h : Int) < 8 := by omega
  have b0 : (0 : Int) ≤ s := by omega
  have b2 : (0 : Int) ≤ s2 := by omega
  have b3 : (s2 : Int) < 18446744073709551616 := by omega
  have by0 : (0 : Int) ≤ y := by omega
  have by1 : (y : Int) < 18446744073709551616 := by omega
  have bc0 : (0 : Int) ≤ c := by omega
  have bc1 : (c : Int) < 256 := by omega
  have e1 : ((8 : Int) * (h : Int)).toNat = 8 * h := by omega
  have e2 : (c : Int) * 2 ^ (8 * h) = (y : Int) := by rw [hy, Int.natCast_mul, Int.natCast_pow]; rfl
  have e3 : (0 : Int) ≤ 8 * (h : Int) := by omega
  have e4 : (8 : Int) * (h : Int) < 64 := by omega
  have HH := Lib.hid H
  have HHE := Lib.hid hhe
  have HSE := Lib.hid hse
  have f4 := H.free 4
  have w8 : IntKind.i64.wrap ((8 : Int) * h) = 8 * h := IntWalk.i64_in _ (by omega)
  have wy : IntKind.u64.wrap (y : Int) = y := IntWalk.u64_in _ (by omega)
  have wc : IntKind.u64.wrap (c : Int) = c := IntWalk.u64_in _ (by omega)
  clear H hf hs hp hp0 hyb hy hs2 hs2b hr hhe hse hh hc
  go_enter Try.func36, Try.ntmps36
  go_upto_region 3 with fail
  refine wp_region_noPanic ?_
  refine wp_region_last_drew (S := fun w' => w'.cell? ⟨g, 4, none⟩ = some (.int .u64 (s : Int)) ∧ w'.cell? ⟨g, 5, none⟩ = some (.int .i64 (h : Int))) (ds := [15]) (by kernel_rfl) ⟨c4, c5⟩ (fun hHeld => ?_)
  refine last_pure (i := 0) (oi := _) (v := (.pointer (some ⟨g, 0, none⟩))) rfl (by kernel_rfl) (by kernel_rfl) (by kernel_rfl) (fun _ _ _ h => h) (Or.inl ⟨by rfl, fun w' => by go_simp⟩) ?_
  try simp only [Act.put, List.getElem_toArray, List.getElem_cons_succ, List.getElem_cons_zero, List.setIfInBounds_toArray, List.set_cons_zero, List.set_cons_succ]
  refine wpAnyLast_take (i := 1) (oi := _) (v := (.pointer (some ⟨g, 0, none⟩))) rfl (by kernel_rfl) (by kernel_rfl) (by kernel_rfl) (by kernel_rfl) (by kernel_rfl) (fun _ _ _ h => h) (Or.inl ⟨by rfl, fun w' _ => by go_simp⟩) hHeld ?_
  try simp only [Act.put, List.getElem_toArray, List.getElem_cons_succ, List.getElem_cons_zero, List.setIfInBounds_toArray, List.set_cons_zero, List.set_cons_succ]
  refine wpAnyLast_take (i := 2) (oi := _) (v := (.pointer (some ⟨g, 4, none⟩))) rfl (by kernel_rfl) (by kernel_rfl) (by kernel_rfl) (by kernel_rfl) (by kernel_rfl) (fun _ _ _ h => h) (Or.inl ⟨by rfl, fun w' _ => by go_simp⟩) hHeld ?_
  try simp only [Act.put, List.getElem_toArray, List.getElem_cons_succ, List.getElem_cons_zero, List.setIfInBounds_toArray, List.set_cons_zero, List.set_cons_succ]
  refine wpAnyLast_take (i := 3) (oi := _) (v := (.int .u64 (s : Int))) rfl (by kernel_rfl) (by kernel_rfl) (by kernel_rfl) (by kernel_rfl) (by kernel_rfl) (fun _ _ _ h => h) (Or.inl ⟨by rfl, fun w' hSw => by have h1 := hSw.1; go_simp⟩) hHeld ?_
  try simp only [Act.put, List.getElem_toArray, List.getElem_cons_succ, List.getElem_cons_zero, List.setIfInBounds_toArray, List.set_cons_zero, List.set_cons_succ]
  refine wpAnyLast_take (i := 4) (oi := _) (v := (.int .u8 (c : Int))) rfl (by kernel_rfl) (by kernel_rfl) (by kernel_rfl) (by kernel_rfl) (by kernel_rfl) (fun _ _ _ h => h) (Or.inl ⟨by rfl, fun w' _ => by go_simp⟩) hHeld ?_
  try simp only [Act.put, List.getElem_toArray, List.getElem_cons_succ, List.getElem_cons_zero, List.setIfInBounds_toArray, List.set_cons_zero, List.set_cons_succ]
  refine wpAnyLast_take (i := 5) (oi := _) (v := (.int .u64 (c : Int))) rfl (by kernel_rfl) (by kernel_rfl) (by kernel_rfl) (by kernel_rfl) (by kernel_rfl) (fun _ _ _ h => h) (Or.inl ⟨by rfl, fun w' _ => by go_simp⟩) hHeld ?_
  try simp only [Act.put, List.getElem_toArray, List.getElem_cons_succ, List.getElem_cons_zero, List.setIfInBounds_toArray, List.set_cons_zero, List.set_cons_succ]
  refine wpAnyLast_take (i := 6) (oi := _) (v := (.pointer (some ⟨g, 0, none⟩))) rfl (by kernel_rfl) (by kernel_rfl) (by kernel_rfl) (by kernel_rfl) (by kernel_rfl) (fun _ _ _ h => h) (Or.inl ⟨by rfl, fun w' _ => by go_simp⟩) hHeld ?_
  try simp only [Act.put, List.getElem_toArray, List.getElem_cons_succ, List.getElem_cons_zero, List.setIfInBounds_toArray, List.set_cons_zero, List.set_cons_succ]
  refine wpAnyLast_take (i := 7) (oi := _) (v := (.pointer (some ⟨g, 0, none⟩))) rfl (by kernel_rfl) (by kernel_rfl) (by kernel_rfl) (by kernel_rfl) (by kernel_rfl) (fun _ _ _ h => h) (Or.inl ⟨by rfl, fun w' _ => by go_simp⟩) hHeld ?_
  try simp only [Act.put, List.getElem_toArray, List.getElem_cons_succ, List.getElem_cons_zero, List.setIfInBounds_toArray, List.set_cons_zero, List.set_cons_succ]
  refine wpAnyLast_take (i := 8) (oi := _) (v := (.pointer (some ⟨g, 5, none⟩))) rfl (by kernel_rfl) (by kernel_rfl) (by kernel_rfl) (by kernel_rfl) (by kernel_rfl) (fun _ _ _ h => h) (Or.inl ⟨by rfl, fun w' _ => by go_simp⟩) hHeld ?_
  try simp only [Act.put, List.getElem_toArray, List.getElem_cons_succ, List.getElem_cons_zero, List.setIfInBounds_toArray, List.set_cons_zero, List.set_cons_succ]
  refine wpAnyLast_take (i := 9) (oi := _) (v := (.int .i64 (h : Int))) rfl (by kernel_rfl) (by kernel_rfl) (by kernel_rfl) (by kernel_rfl) (by kernel_rfl) (fun _ _ _ h => h) (Or.inl ⟨by rfl, fun w' hSw => by have h1 := hSw.2; go_simp⟩) hHeld ?_
  try simp only [Act.put, List.getElem_toArray, List.getElem_cons_succ, List.getElem_cons_zero, List.setIfInBounds_toArray, List.set_cons_zero, List.set_cons_succ]
  refine wpAnyLast_take (i := 10) (oi := _) (v := (.int .i64 (8 * (h : Int)))) rfl (by kernel_rfl) (by kernel_rfl) (by kernel_rfl) (by kernel_rfl) (by kernel_rfl) (fun _ _ _ h => h) (Or.inl ⟨by rfl, fun w' _ => by go_simp⟩) hHeld ?_
  try simp only [Act.put, List.getElem_toArray, List.getElem_cons_succ, List.getElem_cons_zero, List.setIfInBounds_toArray, List.set_cons_zero, List.set_cons_succ]
  refine wpAnyLast_take (i := 11) (oi := _) (v := (.int .u64 (y : Int))) rfl (by kernel_rfl) (by kernel_rfl) (by kernel_rfl) (by kernel_rfl) (by kernel_rfl) (fun _ _ _ h => h) (Or.inl ⟨by rfl, fun w' _ => by go_simp⟩) hHeld ?_
  try simp only [Act.put, List.getElem_toArray, List.getElem_cons_succ, List.getElem_cons_zero, List.setIfInBounds_toArray, List.set_cons_zero, List.set_cons_succ]
  refine wpAnyLast_take (i := 12) (oi := _) (v := (.int .u64 (s2 : Int))) rfl (by kernel_rfl) (by kernel_rfl) (by kernel_rfl) (by kernel_rfl) (by kernel_rfl) (fun _ _ _ h => h) (Or.inl ⟨by rfl, fun w' _ => by go_simp⟩) hHeld ?_
  try simp only [Act.put, List.getElem_toArray, List.getElem_cons_succ, List.getElem_cons_zero, List.setIfInBounds_toArray, List.set_cons_zero, List.set_cons_succ]
  refine last_pure (i := 13) (oi := _) (v := (.pointer (some ⟨g, 0, none⟩))) rfl (by kernel_rfl) (by kernel_rfl) (by kernel_rfl) (fun _ _ _ h => h) (Or.inl ⟨by rfl, fun w' => by go_simp⟩) ?_
  try simp only [Act.put, List.getElem_toArray, List.getElem_cons_succ, List.getElem_cons_zero, List.setIfInBounds_toArray, List.set_cons_zero, List.set_cons_succ]
  refine last_pure (i := 14) (oi := _) (v := (.pointer (some ⟨g, 4, none⟩))) rfl (by kernel_rfl) (by kernel_rfl) (by kernel_rfl) (fun _ _ _ h => h) (Or.inl ⟨by rfl, fun w' => by go_simp⟩) ?_
  try simp only [Act.put, List.getElem_toArray, List.getElem_cons_succ, List.getElem_cons_zero, List.setIfInBounds_toArray, List.set_cons_zero, List.set_cons_succ]
  refine wpAnyLast_ready (rs := [15]) (by kernel_rfl) (by simp) ?_
  refine AllReadyL.cons_last (o := _) rfl (by decide) (fun K hK => ?_) AllReadyL.nil
  rw [if_pos (by rfl)]
  go_simp
  refine hK.out _ _ ?_
  clear hK K
  try dsimp only
  try simp only [Act.put, List.getElem_toArray, List.getElem_cons_succ, List.getElem_cons_zero, List.setIfInBounds_toArray, List.set_cons_zero, List.set_cons_succ]
  refine wpAnyLast_done (by kernel_rfl) ?_ _
  refine NoPanic.normal ?_
  have hu1 := (HH.out.put 4 (.int .u64 (s2 : Int)) { u with size := s2 } rfl rfl rfl).drew
  have HS1 := Lib.hid hu1
  clear hu1 c4 c5 f4 HH w8 wy wc e1 e2 e3 e4 hor by0 by1 b0 b3 hHeld
  generalize (w.setCell ⟨g, 4, none⟩ (.int .u64 (s2 : Int))).drew = w1 at *
  have c4 := HS1.out.c4
  have c5 := HS1.out.c5
  simp only [← HHE.out] at c4 c5
  by_cases h7 : h = 7
  · have h7I : ((h : Int) == 7) = true := by simp; omega
    by_cases hbig : 1048576 < s2
    · have hbI : (1048576 : Int) < s2 := by omega
      have hr := HR.out
      rw [if_pos ⟨h7, hbig⟩] at hr
      have HR2 := Lib.hid hr
      clear hr h7 hbig
      go_wp2_with (go_at_call 37; refine (fail_any w0 S g 2 0 vo vt _ _ HS1.out).mono ?_; rintro e w3 ⟨rfl, hf⟩; have HF := Lib.hid hf; clear hf)
      go_ret
      rw [← HR2.out]
      exact ⟨rfl, _, _, HHE.out ▸ HF.out⟩
    · have hbI : ¬ (1048576 : Int) < s2 := by omega
      have hr := HR.out
      rw [if_neg (fun e => hbig e.2)] at hr
      have hu2 := HS1.out.put 5 (.int .i64 ((h + 1 : Nat) : Int)) { u with size := s2, head := h + 1 } rfl rfl rfl
      rw [Int.natCast_add] at hu2
      have f5 := HS1.out.free 5
      have HR2 := Lib.hid hr
      have HS2 := Lib.hid hu2
      clear hr h7 hbig hu2
      go_wp2_with fail
      go_ret
      rw [← HR2.out]
      exact ⟨rfl, _, _, HS2.out⟩
  · have h7I : ((h : Int) == 7) = false := by simp; omega
    have hr := HR.out
    rw [if_neg (fun e => h7 e.1)] at hr
    have hu2 := HS1.out.put 5 (.int .i64 ((h + 1 : Nat) : Int)) { u with size := s2, head := h + 1 } rfl rfl rfl
    rw [Int.natCast_add] at hu2
    have f5 := HS1.out.free 5
    have HR2 := Lib.hid hr
    have HS2 := Lib.hid hu2
    clear hr h7 hu2
    go_wp2_with fail
    go_ret
    rw [← HR2.out]
    exact ⟨rfl, _, _, HS2.out⟩

set_option maxRecDepth 100000 in
set_option maxHeartbeats 4000000 in
/-- a byte behind the head -/
theorem take_rest (w0 : World) (S : Nat → Prop) (g c : Nat) (vo vt : Value) (u : US) (w : World) (H : UkS w0 S w g vo vt u) (hf : Fine u) (hc : c < 256) (hh : ¬ u.head < 8) :
    Calls Try.prog 36 #[.pointer (some ⟨g, 0, none⟩), .int .u8 (c : Int)] w fun e w' => e = .returned (.bool (u.take c).2) ∧ ∃ vo' vt', UkS w0 S w' g vo' vt' (u.take c).1 := by
  obtain ⟨r, hr⟩ : ∃ r, u.take c = r := ⟨_, rfl⟩
  rw [hr]
  rw [US.take, if_neg hh] at hr
  have h8 : u.head = 8 := by have := hf.early; omega
  have hsz := hf.size h8
  have hroom := hf.room h8
  have htok := hf.tok
  have htokb := hf.tokb
  have htokp := hf.tokp
  have hhI : ¬ (u.head : Int) < 8 := by omega
  have c5 := H.c5
  have c9 := H.c9
  obtain ⟨A6, k6, hv6⟩ := H.oo.slice
  obtain ⟨A8, k8, hv8⟩ := H.ot.slice
  obtain ⟨lo, hlo⟩ : ∃ lo, u.out.length = lo := ⟨_, rfl⟩
  obtain ⟨lt, hlt⟩ : ∃ lt, u.token.length = lt := ⟨_, rfl⟩
  rw [hlo] at hv6 hroom hr
  rw [hlt] at hv8 htok hr
  have c6 := H.c6
  have c8 := H.c8
  rw [hv6] at c6
  rw [hv8] at c8
  have HH := Lib.hid H
  have HV6 := Lib.hid hv6
  have HV8 := Lib.hid hv8
  have HLO := Lib.hid hlo
  have HLT := Lib.hid hlt
  have HTP := Lib.hid htokp
  have HTB := Lib.hid htokb
  clear H hv6 hv8 hlo hlt htokp htokb h8 hh hf
  by_cases hp : 0 < u.plain
  · have hpI : (0 : Int) < u.plain := by omega
    rw [if_pos hp] at hr
    have HR := Lib.hid hr
    clear hr
    have HPA := Lib.hid (HH.out.later ((Below.refl w.heap.size w).alloc (Nat.le_refl _) (.cells #[.int .u8 (c : Int)] 5)))
    have HNEW := Lib.hid (one_byte w c 5)
    have hbt : u.out.length + [c].length ≤ 140737488355328 := by rw [HLO.out]; simp only [List.length_cons, List.length_nil]; omega
    have HBT := Lib.hid hbt
    clear hbt
    go_enter Try.func36, Try.ntmps36
    go_upto_region 9 with (at_builtin; refine wpList_app_bytes _ rfl (.tmp 60) (.tmp 62) rfl 0 vo u.out (by first | exact HV6.out.symm | rfl) HPA.out.oo ⟨w.heap.size, 0, none⟩ [c] 1 rfl HNEW.out HBT.out (Nat.zero_le _) ?_; intro v5 w5 ho5 hg5 ha5; obtain ⟨A5, k5, hv5⟩ := ho5.slice; generalize (u.out ++ [c]).length = l5 at hv5; subst hv5; have hrow5 := (hg5.block _ HPA.out.lt (fun e => HPA.out.vog e.symm)).trans HPA.out.row; have c65 := cell_of_row w5 g 6 _ _ _ hrow5; have f65 := frozen_of_row w5 g 6 _ _ hrow5; have hst := HPA.out.putOut ho5 hg5 ha5; have HS5 := Lib.hid hst; clear ho5 hg5 ha5 hrow5 hst)
    generalize w5.setCell ⟨g, 6, none⟩ (.slice A5 l5 k5) = w6 at *
    have c9' := HS5.out.c9
    have f9 := HS5.out.free 9
    simp only at c9'
    have hu2 := HS5.out.put 9 (.int .i64 ((u.plain - 1 : Nat) : Int)) { u with out := u.out ++ [c], plain := u.plain - 1 } rfl rfl rfl
    rw [show ((u.plain - 1 : Nat) : Int) = (u.plain : Int) - 1 by omega] at hu2
    have HS2 := Lib.hid hu2
    clear hu2 c65 f65
    go_wp2_with fail
    go_ret
    rw [← HR.out]
    exact ⟨rfl, _, _, HS2.out⟩
  · have hpI : ¬ (0 : Int) < u.plain := by omega
    rw [if_neg hp] at hr
    by_cases ht : 0 < lt
    · have htI : (0 : Int) < lt := by omega
      rw [if_pos ht] at hr
      have HR := Lib.hid hr
      clear hr
      have HPA := Lib.hid (HH.out.later ((Below.refl w.heap.size w).alloc (Nat.le_refl _) (.cells #[.int .u8 (c : Int)] 5)))
      have HNEW := Lib.hid (one_byte w c 5)
      have hbt : u.token.length + [c].length ≤ 140737488355328 := by rw [HLT.out]; simp only [List.length_cons, List.length_nil]; omega
      have HBT := Lib.hid hbt
      clear hbt
      go_enter Try.func36, Try.ntmps36
      go_upto_region 12 with (at_builtin; refine wpList_app_bytes _ rfl (.tmp 84) (.tmp 86) rfl 0 vt u.token (by first | exact HV8.out.symm | rfl) HPA.out.ot ⟨w.heap.size, 0, none⟩ [c] 1 rfl HNEW.out HBT.out (Nat.zero_le _) ?_; intro v5 w5 ho5 hg5 ha5; obtain ⟨A5, k5, hv5⟩ := ho5.slice; rw [show (u.token ++ [c]).length = lt + 1 by rw [List.length_append, HLT.out]; rfl] at hv5; generalize hl5 : lt + 1 = l5 at hv5; have HL5 := Lib.hid hl5; clear hl5; subst hv5; have hrow5 := (hg5.block _ HPA.out.lt (fun e => HPA.out.vtg e.symm)).trans HPA.out.row; have c85 := cell_of_row w5 g 8 _ _ _ hrow5; have f85 := frozen_of_row w5 g 8 _ _ hrow5; have hst := HPA.out.putTok ho5 hg5 ha5; have HS5 := Lib.hid hst; clear ho5 hg5 ha5 hrow5 hst)
      generalize w5.setCell ⟨g, 8, none⟩ (.slice A5 l5 k5) = w6 at *
      have c8' := HS5.out.c8
      have HLI := HL5.out
      clear c85 f85
      have htl : (u.token ++ [c]).length = l5 := by rw [List.length_append, HLT.out, ← HLI]; rfl
      by_cases h3 : lt + 1 = 3
      · have h3I : ((l5 : Int) == 3) = true := by simp; omega
        have hr2 := HR.out
        rw [if_pos h3] at hr2
        have HR2 := Lib.hid hr2
        have htn : u.token ≠ [] := by intro e; have h1 := HLT.out; rw [e] at h1; simp at h1; omega
        have h128 : 128 ≤ (u.token ++ [c]).getD 0 0 := by
          have h1 := (HTP.out htn).2.1
          obtain ⟨t, q, e⟩ : ∃ t q, u.token = t :: q := by
            cases e : u.token with
            | nil => exact absurd e htn
            | cons t q => exact ⟨t, q, rfl⟩
          rw [e] at h1 ⊢
          exact h1
        have hbb : Bytes (u.token ++ [c]) := by
          intro x hx
          simp only [List.mem_append, List.mem_cons, List.not_mem_nil, or_false] at hx
          rcases hx with hx | hx
          · exact HTB.out x hx
          · omega
        have hcp := copy_any w0 S g vo (.slice A5 l5 k5) { u with token := u.token ++ [c] } w6 HS5.out (by simp only; omega) hbb h128 (by simp only; rw [HLO.out]; omega)
        have HCP := Lib.hid hcp
        clear hr2 htn h128 hbb hcp h3 HLI htl
        go_wp2_with (go_at_call 42; refine HCP.out.mono ?_; rintro e w7 ⟨rfl, hf⟩; have HF := Lib.hid hf; clear hf)
        go_ret
        rw [← HR2.out]
        exact ⟨rfl, HF.out⟩
      · have h3I : ((l5 : Int) == 3) = false := by simp; omega
        have hr2 := HR.out
        rw [if_neg h3] at hr2
        have HR2 := Lib.hid hr2
        clear hr2 h3 HLI htl
        go_wp2_with fail
        go_ret
        rw [← HR2.out]
        exact ⟨rfl, _, _, HS5.out⟩
    · have htI : ¬ (0 : Int) < lt := by omega
      rw [if_neg ht] at hr
      have c4 := HH.out.c4
      have hsI : (u.size : Int) ≤ 1048576 := by omega
      have hs0 : (0 : Int) ≤ u.size := by omega
      have ho0 : (0 : Int) ≤ lo := by omega
      have htlen : u.token.length < 3 := by rw [HLT.out]; omega
      have holen : u.out.length ≤ u.size := by rw [HLO.out]; omega
      by_cases hos : lo = u.size
      · have hoI : ((lo : Int) == (u.size : Int)) = true := by simp; omega
        rw [if_pos hos] at hr
        have HR := Lib.hid hr
        clear hr hos
        go_enter Try.func36, Try.ntmps36
        go_upto_region 14 with fail
        go_quiet (fail)
        have HQ := Lib.hid (HH.out.drewN nq)
        generalize w.drewN nq = w2 at *
        have c0 := HQ.out.c0
        go_wp2_with (go_at_call 37; refine (fail_any w0 S g 5 u.taken vo vt _ _ HQ.out).mono ?_; rintro e w3 ⟨rfl, hf⟩; have HF := Lib.hid hf; clear hf)
        go_ret
        rw [← HR.out]
        exact ⟨rfl, _, _, HF.out⟩
      · have hoI : ((lo : Int) == (u.size : Int)) = false := by simp; omega
        rw [if_neg hos] at hr
        have HR := Lib.hid hr
        have HSZ := Lib.hid hsz
        have HOL := Lib.hid holen
        have HTL := Lib.hid htlen
        have HC := Lib.hid hc
        clear hr hos htlen holen
        go_enter Try.func36, Try.ntmps36
        go_upto_region 14 with fail
        go_quiet (fail)
        have HQ := Lib.hid (HH.out.drewN nq)
        generalize w.drewN nq = w2 at *
        go_wp2_with (go_at_call 43; refine (begin_any w0 S g c vo vt u _ HQ.out HC.out HSZ.out HOL.out HTL.out).mono ?_; rintro e w3 ⟨rfl, hf⟩; rw [HR.out] at hf ⊢; have HF := Lib.hid hf; clear hf)
        go_ret
        exact ⟨rfl, HF.out⟩
theorem take_any (w0 : World) (S : Nat → Prop) (g c : Nat) (vo vt : Value) (u : US) (w : World) (H : UkS w0 S w g vo vt u) (hf : Fine u) (hc : c < 256) :
    Calls Try.prog 36 #[.pointer (some ⟨g, 0, none⟩), .int .u8 (c : Int)] w fun e w' => e = .returned (.bool (u.take c).2) ∧ ∃ vo' vt', UkS w0 S w' g vo' vt' (u.take c).1 := by
  by_cases hh : u.head < 8
  · exact take_head w0 S g c vo vt u w H hf hc hh
  · exact take_rest w0 S g c vo vt u w H hf hc hh
end Go.Proofs.Ytikbbofjkchppaa

