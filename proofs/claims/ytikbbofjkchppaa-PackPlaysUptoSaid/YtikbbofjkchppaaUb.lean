/- The walk of the unpacker's begin. -/
import Derived.Test.YtikbbofjkchppaaUk
import Derived.Deep.DeepCutAuto
namespace Go.Proofs.Ytikbbofjkchppaa
set_option linter.unusedVariables false
set_option linter.unusedSimpArgs false
open Go.RowKit

theorem UkS.drewN {w0 w : World} {S : Nat → Prop} {g : Nat} {vo vt : Value} {u : US} (H : UkS w0 S w g vo vt u) (n : Nat) : UkS w0 S (w.drewN n) g vo vt u :=
  H.later ⟨rfl, rfl, rfl, Nat.le_refl _, fun _ _ => rfl⟩
theorem one_byte (w : World) (c : Nat) (t : TypeId) : ∀ j u, (cl .u8 [c])[j]? = some u → (w.alloc (.cells #[.int .u8 (c : Int)] t)).cell? ((⟨w.heap.size, 0, none⟩ : Addr).add j) = some u := news_bytes w [c] t

set_option maxRecDepth 100000 in
set_option maxHeartbeats 4000000 in
theorem begin_any (w0 : World) (S : Nat → Prop) (g c : Nat) (vo vt : Value) (u : US) (w : World) (H : UkS w0 S w g vo vt u) (hc : c < 256) (hs : u.size ≤ 1048576) (ho : u.out.length ≤ u.size) (ht : u.token.length < 3) :
    Calls Try.prog 43 #[.pointer (some ⟨g, 0, none⟩), .int .u8 (c : Int)] w fun e w' => e = .returned (.bool (u.begin c).2) ∧ ∃ vo' vt', UkS w0 S w' g vo' vt' (u.begin c).1 := by
  obtain ⟨r, hr⟩ : ∃ r, u.begin c = r := ⟨_, rfl⟩
  rw [hr]
  have HR := Lib.hid hr
  clear hr
  obtain ⟨lo, hlo⟩ : ∃ lo, u.out.length = lo := ⟨_, rfl⟩
  obtain ⟨A6, k6, hv6⟩ := H.oo.slice
  rw [hlo] at hv6 ho
  have H1 := H.put 7 (.int .i64 (u.taken : Nat)) { u with start := u.taken } rfl rfl rfl
  have c0 := H.c0
  have c7 := H.c7
  have f7 := H.free 7
  have HS1 := Lib.hid H1
  have HLO := Lib.hid hlo
  have HV6 := Lib.hid hv6
  clear H1 H hlo hv6
  go_enter Try.func43, Try.ntmps43
  go_upto_region 2 with fail
  generalize w.setCell ⟨g, 7, none⟩ (.int .i64 (u.taken : Nat)) = w1 at *
  clear c0 c7 f7
  have c4 := HS1.out.c4
  have c6 := HS1.out.c6
  rw [HV6.out] at c6
  simp only at c4
  have hsI : (u.size : Int) ≤ 1048576 := by omega
  have hs0 : (0 : Int) ≤ u.size := by omega
  have ho0 : (0 : Int) ≤ lo := by omega
  have hoI : (lo : Int) ≤ u.size := by omega
  have hc0 : (0 : Int) ≤ c := by omega
  have hcI : (c : Int) < 256 := by omega
  by_cases h8 : 128 ≤ c
  · have h8I : (128 : Int) ≤ c := by omega
    have hl := lenOf_hi h8
    have HL := Lib.hid hl
    clear hl
    by_cases hn : u.size - lo < c - 124
    · have hnI : (u.size : Int) - lo < c - 128 + 4 := by omega
      have hres : r = (({ u with start := u.taken } : US).fail 101 u.taken, false) := by
        rw [← HR.out, US.begin, HL.out, HLO.out, if_pos hn]
      have HRES := Lib.hid hres
      clear hres
      go_upto_region 5 with fail
      go_quiet (fail)
      have HQ := Lib.hid (HS1.out.drewN nq)
      generalize w1.drewN nq = w2 at *
      have c7 := HQ.out.c7
      go_wp2_with (go_at_call 37; refine (fail_any w0 S g 101 u.taken vo vt _ _ HQ.out).mono ?_; rintro e w3 ⟨rfl, hf⟩; have HF := Lib.hid hf; clear hf)
      go_ret
      rw [HRES.out]
      exact ⟨rfl, _, _, HF.out⟩
    · have hnI : ¬ (u.size : Int) - lo < c - 128 + 4 := by omega
      have hres : r = ({ u with start := u.taken, token := u.token ++ [c] }, true) := by
        rw [← HR.out, US.begin, HL.out, HLO.out, if_neg hn, if_pos h8]
      have HRES := Lib.hid hres
      clear hres
      go_upto_region 5 with fail
      go_quiet (fail)
      have HQ := Lib.hid (HS1.out.drewN nq)
      generalize w1.drewN nq = w2 at *
      have hot := HQ.out.ot.later ((Below.refl w2.heap.size w2).alloc (Nat.le_refl _) (.cells #[.int .u8 (c : Int)] 5))
      have hqa := HQ.out.later ((Below.refl w2.heap.size w2).alloc (Nat.le_refl _) (.cells #[.int .u8 (c : Int)] 5))
      have hbt : u.token.length + [c].length ≤ 140737488355328 := by simp only [List.length_cons, List.length_nil]; omega
      have hnew := one_byte w2 c 5
      obtain ⟨A8, k8, hv8⟩ := HQ.out.ot.slice
      simp only at hv8
      generalize hl8 : u.token.length = l8 at hv8
      have c8 := HQ.out.c8
      rw [hv8] at c8
      have HOT := Lib.hid hot
      have HQA := Lib.hid hqa
      have HBT := Lib.hid hbt
      have HNEW := Lib.hid hnew
      have HV8 := Lib.hid hv8
      have HL8 := Lib.hid hl8
      clear hot hqa hbt hnew hv8 hl8
      go_wp2_with (at_builtin; refine wpList_app_bytes _ rfl (.tmp 48) (.tmp 50) rfl 0 vt u.token (by first | exact HV8.out.symm | rfl) HOT.out ⟨w2.heap.size, 0, none⟩ [c] 1 rfl HNEW.out HBT.out (Nat.zero_le _) ?_; intro v5 w5 ho5 hg5 ha5; obtain ⟨A5, k5, hv5⟩ := ho5.slice; generalize (u.token ++ [c]).length = l5 at hv5; subst hv5; have hrow5 := (hg5.block _ HQA.out.lt (fun e => HQA.out.vtg e.symm)).trans HQA.out.row; have c85 := cell_of_row w5 g 8 _ _ _ hrow5; have f85 := frozen_of_row w5 g 8 _ _ hrow5; have hst := HQA.out.putTok ho5 hg5 ha5; have HS5 := Lib.hid hst; clear ho5 hg5 ha5 hrow5 hst)
      go_ret
      rw [HRES.out]
      exact ⟨rfl, _, _, HS5.out⟩
  · have h8I : ¬ (128 : Int) ≤ c := by omega
    have hl := lenOf_lo (c := c) (by omega)
    have HL := Lib.hid hl
    clear hl
    by_cases hn : u.size - lo < c + 1
    · have hnI : (u.size : Int) - lo < c + 1 := by omega
      have hres : r = (({ u with start := u.taken } : US).fail 101 u.taken, false) := by
        rw [← HR.out, US.begin, HL.out, HLO.out, if_pos hn]
      have HRES := Lib.hid hres
      clear hres
      go_upto_region 5 with fail
      go_quiet (fail)
      have HQ := Lib.hid (HS1.out.drewN nq)
      generalize w1.drewN nq = w2 at *
      have c7 := HQ.out.c7
      go_wp2_with (go_at_call 37; refine (fail_any w0 S g 101 u.taken vo vt _ _ HQ.out).mono ?_; rintro e w3 ⟨rfl, hf⟩; have HF := Lib.hid hf; clear hf)
      go_ret
      rw [HRES.out]
      exact ⟨rfl, _, _, HF.out⟩
    · have hnI : ¬ (u.size : Int) - lo < c + 1 := by omega
      have hres : r = ({ u with start := u.taken, plain := c + 1 }, true) := by
        rw [← HR.out, US.begin, HL.out, HLO.out, if_neg hn, if_neg h8]
      have HRES := Lib.hid hres
      clear hres
      go_upto_region 5 with fail
      go_quiet (fail)
      have HQ := Lib.hid (HS1.out.drewN nq)
      generalize w1.drewN nq = w2 at *
      have hst := HQ.out.put 9 (.int .i64 ((c + 1 : Nat) : Int)) { u with start := u.taken, plain := c + 1 } rfl rfl rfl
      rw [Int.natCast_add] at hst
      have c9 := HQ.out.c9
      have f9 := HQ.out.free 9
      have HS5 := Lib.hid hst
      clear hst
      go_wp2_with fail
      go_ret
      rw [HRES.out]
      exact ⟨rfl, _, _, HS5.out⟩
end Go.Proofs.Ytikbbofjkchppaa

