/- The walks of the unpacker's Feed, NewUnpacker, Taken, Fault. -/
import Derived.Test.YtikbbofjkchppaaUt
namespace Go.Proofs.Ytikbbofjkchppaa
set_option linter.unusedVariables false
set_option linter.unusedSimpArgs false
open Go.RowKit

theorem take_taken (u : US) (c : Nat) : (u.take c).1.taken = u.taken := by
  unfold US.take US.copy US.begin US.fail
  repeat' split
  all_goals rfl
/-- bytes that lie in a block that the unpacker leaves alone -/
structure Rd (w0 : World) (S : Nat → Prop) (gb : Nat) (ps : List Nat) : Prop where
  lt : gb < w0.heap.size
  far : ¬ S gb
  cell : ∀ j, j < ps.length → w0.cell? ⟨gb, j, none⟩ = some (.int .u8 (ps.getD j 0 : Nat))
theorem Rd.at {w0 w : World} {S : Nat → Prop} {gb : Nat} {ps : List Nat} (h : Rd w0 S gb ps) (hf : Far w0 S w) (j : Nat) (hj : j < ps.length) : w.cell? ⟨gb, j, none⟩ = some (.int .u8 (ps.getD j 0 : Nat)) :=
  (World.cell?_of_block (hf.block gb h.lt h.far)).trans (h.cell j hj)
theorem drop_cons (ps : List Nat) (k : Nat) (h : k < ps.length) : ps.drop k = ps.getD k 0 :: ps.drop (k + 1) := by
  rw [List.drop_eq_getElem_cons h]
  congr 1
  simp [List.getD_eq_getElem?_getD, h]

set_option maxRecDepth 100000 in
set_option maxHeartbeats 4000000 in
theorem feed_any (w0 : World) (S : Nat → Prop) (g gb cap : Nat) (ps : List Nat) (vo vt : Value) (u : US) (w : World) (H : UkS w0 S w g vo vt u) (hf : u.code = 0 → Fine u) (hb : Bytes ps) (hrd : Rd w0 S gb ps) (hl : u.taken + ps.length ≤ 4000000000000000000) :
    Calls Try.prog 21 #[.pointer (some ⟨g, 0, none⟩), .slice (some ⟨gb, 0, none⟩) ps.length cap] w fun e w' => e = .returned (.int .i64 (((u.feed ps).taken - u.taken : Nat) : Int)) ∧ ∃ vo' vt', UkS w0 S w' g vo' vt' (u.feed ps) := by
  obtain ⟨r, hr⟩ : ∃ r, u.feed ps = r := ⟨_, rfl⟩
  obtain ⟨d, hd⟩ : ∃ d, d = r.taken - u.taken := ⟨_, rfl⟩
  have hfd := fine_feed ps u hf hb
  rw [hr] at hfd ⊢
  rw [← hd]
  have hdI : (r.taken : Int) - u.taken = d := by have := hfd.2.2.1; omega
  have hd0 : (0 : Int) ≤ u.taken := by omega
  have hr0 : (r.taken : Int) ≤ 4000000000000000000 := by have := hfd.2.2.2.1; omega
  have hr1 : (0 : Int) ≤ r.taken := by omega
  have hd1 : (u.taken : Int) ≤ r.taken := by have := hfd.2.2.1; omega
  obtain ⟨n, hn⟩ : ∃ n, n = ps.length := ⟨_, rfl⟩
  rw [← hn] at hl ⊢
  have c0 := H.c0
  have hn0 : (0 : Int) ≤ n := by omega
  have HR := Lib.hid hr
  have HD := Lib.hid hdI
  have HH := Lib.hid H
  have HF := Lib.hid hf
  have HB := Lib.hid hb
  have HRD := Lib.hid hrd
  have HN := Lib.hid hn
  clear hr hd hfd H hf hb hrd hn hdI
  go_enter Try.func21, Try.ntmps21
  go_wp2_with fail
  go_loopw [15] (fun x wr => ∃ (k : Nat) (vo' vt' : Value) (u' : US), x = .int .i64 (k : Nat) ∧ UkS w0 S wr g vo' vt' u' ∧ (u'.code = 0 → Fine u') ∧ u'.feed (ps.drop k) = r ∧ u'.taken ≤ u.taken + k ∧ k ≤ n) (fun x _ => n - (intOf x).toNat)
  case atStart => exact ⟨0, vo, vt, u, rfl, HH.out, HF.out, HR.out, Nat.le_refl _, Nat.zero_le _⟩
  case round =>
    clear HH HF HR c0
    obtain ⟨k, vo', vt', u', rfl, hP, hf, hfe, htk, hkn⟩ := hrel
    have HP := Lib.hid hP
    have HF := Lib.hid hf
    have HFE := Lib.hid hfe
    clear hP hf hfe
    have hk0 : (0 : Int) ≤ k := by omega
    by_cases hlt : k < n
    · have hltI : (k : Int) < n := by omega
      obtain ⟨c, hc⟩ : ∃ c, ps.getD k 0 = c := ⟨_, rfl⟩
      have hcell := HRD.out.at HP.out.far k (by have := HN.out; omega)
      rw [hc] at hcell
      have hcb : c < 256 := by
        have h1 := HN.out
        rw [← hc, List.getD_eq_getElem?_getD, List.getElem?_eq_getElem (by omega)]
        exact HB.out _ (List.getElem_mem _)
      have hstep : u'.feed (ps.drop k) = (u'.one c).feed (ps.drop (k + 1)) := by
        rw [drop_cons ps k (by have := HN.out; omega), feed_cons, hc]
      have HSTEP := Lib.hid hstep
      have HCB := Lib.hid hcb
      clear hstep hcb hc
      have c3 := HP.out.c3
      have c1 := HP.out.c1
      have c0 := HP.out.c0
      by_cases hsh : u'.shut = true
      · rw [hsh] at c3
        have hst : u' = r := by rw [← HFE.out, feed_stop _ (.inl hsh)]
        subst hst
        have HDD := HD.out
        clear hsh
        go_wp2_with fail
        go_ret
        exact ⟨rfl, _, _, HP.out⟩
      · have hshf : u'.shut = false := by simpa using hsh
        rw [hshf] at c3
        by_cases hcd : u'.code = 0
        · have hcI : ((u'.code : Int) != 0) = false := by simp; omega
          have hcI2 : ((u'.code : Int) == 0) = true := by simp; omega
          have hone := one_go u' c hshf hcd
          obtain ⟨q, hq⟩ : ∃ q, u'.take c = q := ⟨_, rfl⟩
          have htt := take_taken u' c
          have hft := fine_take u' (HF.out hcd) c HCB.out hcd
          have hff := HF.out hcd
          have hfo := fine_one u' HF.out c HCB.out
          rw [hq] at hone htt hft
          obtain ⟨q1, q2⟩ := q
          have HQ := Lib.hid hq
          have HFF := Lib.hid hff
          have HFO := Lib.hid hfo
          have HONE := Lib.hid hone
          clear hq hff hfo hsh hshf hcd hone
          cases q2 with
          | true =>
            have HTT := Lib.hid htt
            clear htt hft
            have htk1 : ((u'.taken : Nat) : Int) ≤ 4000000000000000000 := by omega
            go_upto_region 6 with (go_at_call 36; refine (take_any w0 S g c vo' vt' u' _ HP.out HFF.out HCB.out).mono ?_; rintro e w7 ⟨rfl, hf⟩; rw [HQ.out] at hf ⊢; have HFX := Lib.hid hf; clear hf)
            obtain ⟨vo2, vt2, h2⟩ := HFX.out
            have c02 := h2.c0
            have f02 := h2.free 0
            rw [HTT.out] at c02
            have h3 := h2.put 0 (.int .i64 ((u'.taken + 1 : Nat) : Int)) { q1 with taken := u'.taken + 1 } rfl rfl rfl
            rw [Int.natCast_add] at h3
            have H3 := Lib.hid h3
            clear h2 h3 c0 c1 c3 hcell HFX
            go_wp2_with fail
            go_roundw
            case rel =>
              have ho := HONE.out
              simp only [if_true] at ho
              refine ⟨k + 1, vo2, vt2, _, by go_num, H3.out, ?_, ?_, ?_, by omega⟩
              · rw [← ho]
                exact HFO.out.1
              · rw [← ho, ← HSTEP.out]
                exact HFE.out
              · simp only
                omega
            case measure => simp [intOf]; omega
          | false =>
            have ho := HONE.out
            rw [if_neg (by simp)] at ho
            simp only at ho
            have hst : q1 = r := by rw [← HFE.out, HSTEP.out, ho, feed_stop _ (.inr (hft.2.1 rfl).1)]
            subst hst
            have HDD := HD.out
            clear ho hft htt
            go_upto_region 8 with (go_at_call 36; refine (take_any w0 S g c vo' vt' u' _ HP.out HFF.out HCB.out).mono ?_; rintro e w7 ⟨rfl, hf⟩; rw [HQ.out] at hf ⊢; have HFX := Lib.hid hf; clear hf)
            obtain ⟨vo2, vt2, h2⟩ := HFX.out
            have c02 := h2.c0
            have H2 := Lib.hid h2
            clear h2 c0 c1 c3 hcell HFX
            go_wp2_with fail
            go_ret
            exact ⟨rfl, _, _, H2.out⟩
        · have hcI : ((u'.code : Int) != 0) = true := by simp; omega
          have hcI2 : ((u'.code : Int) == 0) = false := by simp; omega
          have hst : u' = r := by rw [← HFE.out, feed_stop _ (.inr hcd)]
          subst hst
          have HDD := HD.out
          clear hcd hsh hshf
          go_wp2_with fail
          go_ret
          exact ⟨rfl, _, _, HP.out⟩
    · have hltI : ¬ (k : Int) < n := by omega
      have hst : u' = r := by
        have h1 := HFE.out
        rw [List.drop_eq_nil_of_le (by have := HN.out; omega)] at h1
        exact h1
      subst hst
      have HDD := HD.out
      have c0 := HP.out.c0
      go_wp2_with fail
      go_ret
      exact ⟨rfl, _, _, HP.out⟩

set_option maxRecDepth 100000 in
theorem new_any (w : World) : Calls Try.prog 20 #[] w fun e w' => e = .returned (.pointer (some ⟨w.heap.size, 0, none⟩)) ∧ UkS w (fun _ => False) w' w.heap.size (.slice none 0 0) (.slice none 0 0) US.new := by
  go_enter Try.func20, Try.ntmps20
  go_wp2_with fail
  go_ret
  exact ⟨rfl, UkS.fresh w⟩
set_option maxRecDepth 100000 in
theorem taken_any {w0 : World} {S : Nat → Prop} {g : Nat} {vo vt : Value} {u : US} {w : World} (H : UkS w0 S w g vo vt u) :
    Calls Try.prog 23 #[.pointer (some ⟨g, 0, none⟩)] w fun e w' => e = .returned (.int .i64 (u.taken : Nat)) ∧ w = w' := by
  have c0 := H.c0
  go_enter Try.func23, Try.ntmps23
  go_wp2_with fail
  go_ret
  exact ⟨rfl, rfl⟩
set_option maxRecDepth 100000 in
theorem fault_any {w0 : World} {S : Nat → Prop} {g : Nat} {vo vt : Value} {u : US} {w : World} (H : UkS w0 S w g vo vt u) :
    Calls Try.prog 25 #[.pointer (some ⟨g, 0, none⟩)] w fun e w' => e = .returned (.agg #[.int .i64 (u.code : Nat), .int .i64 (u.at_ : Nat)]) ∧ Below w.heap.size w w' := by
  have c1 := H.c1
  have c2 := H.c2
  have HA := H.later ((Below.refl w.heap.size w).alloc (Nat.le_refl _) (.cells #[.int .i64 0, .int .i64 0] 38))
  have c1a := HA.c1
  have c2a := HA.c2
  clear H HA c1 c2
  go_enter Try.func25, Try.ntmps25
  go_wp2_with fail
  exact bodyPost_ret (v := .agg #[.int .i64 (u.code : Nat), .int .i64 (u.at_ : Nat)]) (by simp [results, Try.results25, go_sem]) rfl ⟨rfl, (Below.refl _ _).alloc (Nat.le_refl _) _⟩

/-- what holds of every unpacker -/
structure Sane (u : US) : Prop where
  head : u.head ≤ 8
  size : u.head = 8 → u.size ≤ 1048576
  out : Bytes u.out
theorem sane_new : Sane US.new := ⟨by decide, fun h => by simp [US.new] at h, fun x hx => by simp [US.new] at hx⟩
theorem bytes_getD {L : List Nat} (h : Bytes L) (j : Nat) : L.getD j 0 < 256 := by
  by_cases hj : j < L.length
  · rw [List.getD_eq_getElem?_getD, List.getElem?_eq_getElem hj]
    exact h _ (List.getElem_mem _)
  · rw [List.getD_eq_getElem?_getD, List.getElem?_eq_none (by omega)]
    simp
theorem bytes_snoc {L : List Nat} (h : Bytes L) {c : Nat} (hc : c < 256) : Bytes (L ++ [c]) := by
  intro x hx
  simp only [List.mem_append, List.mem_cons, List.not_mem_nil, or_false] at hx
  rcases hx with hx | hx
  · exact h x hx
  · omega
theorem copyOut_bytes (far : Nat) : ∀ k out, Bytes out → Bytes (copyOut far k out)
  | 0, out, h => h
  | k + 1, out, h => copyOut_bytes far k _ (bytes_snoc h (bytes_getD h _))
theorem sane_take (u : US) (h : Sane u) (c : Nat) (hc : c < 256) : Sane (u.take c).1 := by
  obtain ⟨h1, h2, h3⟩ := h
  unfold US.take
  split
  · split
    · rename_i a b
      exact ⟨h1, fun e => by have := b.1; simp only [US.fail] at e; omega, h3⟩
    · rename_i a b
      obtain ⟨y, hy⟩ : ∃ y, c * 2 ^ (8 * u.head) = y := ⟨_, rfl⟩
      rw [hy] at b ⊢
      refine ⟨?_, ?_, h3⟩
      · show u.head + 1 ≤ 8
        omega
      · show u.head + 1 = 8 → u.size + y ≤ 1048576
        intro e
        have : ¬ 1048576 < u.size + y := fun q => b ⟨by omega, q⟩
        omega
  · split
    · exact ⟨h1, h2, bytes_snoc h3 hc⟩
    · split
      · split
        · unfold US.copy
          split
          · exact ⟨h1, h2, h3⟩
          · generalize ho : copyOut _ _ _ = o
            have hb : Bytes o := by rw [← ho]; exact copyOut_bytes _ _ _ h3
            exact ⟨h1, h2, hb⟩
        · exact ⟨h1, h2, h3⟩
      · split
        · exact ⟨h1, h2, h3⟩
        · unfold US.begin
          split
          · exact ⟨h1, h2, h3⟩
          · split
            · exact ⟨h1, h2, h3⟩
            · exact ⟨h1, h2, h3⟩
theorem sane_one (u : US) (h : Sane u) (c : Nat) (hc : c < 256) : Sane (u.one c) := by
  unfold US.one
  split
  · exact h
  · split
    · obtain ⟨a, b, d⟩ := sane_take u h c hc
      exact ⟨a, b, d⟩
    · exact sane_take u h c hc
theorem sane_feed : ∀ (bs : List Nat) (u : US), Sane u → Bytes bs → Sane (u.feed bs)
  | [], u, h, _ => h
  | c :: r, u, h, hb => sane_feed r (u.one c) (sane_one u h c (hb c (by simp))) (fun x hx => hb x (by simp [hx]))
theorem sane_close (u : US) (h : Sane u) : Sane u.close := by
  obtain ⟨a, b, c⟩ := h
  unfold US.close
  split
  · exact ⟨a, b, c⟩
  · exact ⟨a, b, c⟩
end Go.Proofs.Ytikbbofjkchppaa

