/- The walk of the law PackChunks. -/
import Derived.Test.YtikbbofjkchppaaPackShort
import Derived.Deep.DeepCutAuto
namespace Go.Proofs.Ytikbbofjkchppaa
set_option linter.unusedVariables false
set_option linter.unusedSimpArgs false
open Go.RowKit

/-- the row of cuts -/
def IsRow (k : IntKind) (w : World) (a : Option Addr) (len cap : Nat) (zs : List Int) : Prop :=
  (a = none ∧ len = 0 ∧ cap = 0 ∧ zs = []) ∨
  ∃ x, a = some x ∧ len ≤ cap ∧ cap ≤ maxLen ∧ zs.length = cap ∧ (∀ i, i < zs.length → w.cell? (x.add i) = some (.int k (zs.getD i 0))) ∧ ∀ n ∈ zs, (Lit.int k n).wf = true
theorem IsRow.at_ {k : IntKind} {w : World} {a : Option Addr} {len cap : Nat} {zs : List Int} (h : IsRow k w a len cap zs) (h0 : 0 < len) :
    ∃ x, a = some x ∧ x.block < w.heap.size ∧ len ≤ zs.length ∧ (∀ i, i < len → w.cell? (x.add i) = some (.int k (zs.getD i 0))) ∧ ∀ n ∈ zs, (Lit.int k n).wf = true := by
  rcases h with ⟨_, rfl, _, _⟩ | ⟨x, rfl, h1, _, h2, h3, h4⟩
  · omega
  · have hc := h3 0 (by omega)
    have hb : (x.add 0).block = x.block := block_add x 0
    exact ⟨x, rfl, by rw [← hb]; exact block_lt_of_cell hc, by omega, fun i hi => h3 i (by omega), h4⟩
/-- no fault, all taken -/
theorem feed_taken : ∀ (bs : List Nat) (u : US), u.shut = false → (u.feed bs).code = 0 → (∀ u : US, ∀ c, (u.take c).2 = false → (u.take c).1.code ≠ 0) → (u.feed bs).taken = u.taken + bs.length
  | [], u, _, _, _ => rfl
  | c :: r, u, hs, hc, hx => by
    rw [feed_cons] at hc ⊢
    by_cases h0 : u.code = 0
    · have hone := one_go u c hs h0
      by_cases hb : (u.take c).2 = true
      · rw [if_pos hb] at hone
        have hs1 : (u.one c).shut = false := by
          rw [hone]
          show (u.take c).1.shut = false
          have : (u.take c).1.shut = u.shut := by
            unfold US.take US.copy US.begin US.fail
            repeat' split
            all_goals rfl
          rw [this, hs]
        have ht1 : (u.one c).taken = u.taken + 1 := by rw [hone]
        rw [feed_taken r (u.one c) hs1 hc hx, ht1, List.length_cons]
        omega
      · rw [if_neg hb] at hone
        have hne := hx u c (by simpa using hb)
        rw [hone, feed_stop _ (.inr hne)] at hc
        exact absurd hc hne
    · rw [one_stop u c (.inr h0), feed_stop _ (.inr h0)] at hc
      exact absurd hc h0
theorem take_faults (u : US) (c : Nat) (h : (u.take c).2 = false) : (u.take c).1.code ≠ 0 := by
  unfold US.take at h ⊢
  by_cases h1 : u.head < 8
  · rw [if_pos h1] at h ⊢
    by_cases h2 : u.head = 7 ∧ 1048576 < u.size + c * 2 ^ (8 * u.head)
    · rw [if_pos h2]
      simp [US.fail]
    · rw [if_neg h2] at h
      simp at h
  · rw [if_neg h1] at h ⊢
    by_cases h2 : 0 < u.plain
    · rw [if_pos h2] at h
      simp at h
    · rw [if_neg h2] at h ⊢
      by_cases h3 : 0 < u.token.length
      · rw [if_pos h3] at h ⊢
        by_cases h4 : u.token.length + 1 = 3
        · rw [if_pos h4] at h ⊢
          unfold US.copy at h ⊢
          split at h
          · rename_i h5
            rw [if_pos h5]
            simp [US.fail]
          · simp at h
        · rw [if_neg h4] at h
          simp at h
      · rw [if_neg h3] at h ⊢
        by_cases h4 : u.out.length = u.size
        · rw [if_pos h4]
          simp [US.fail]
        · rw [if_neg h4] at h ⊢
          unfold US.begin at h ⊢
          by_cases h5 : u.size - u.out.length < lenOf c
          · rw [if_pos h5]
            simp [US.fail]
          · rw [if_neg h5] at h
            split at h
            · simp at h
            · simp at h
theorem close_taken (u : US) : u.close.taken = u.taken := by
  unfold US.close US.fail
  split <;> rfl
theorem close_ok {u : US} (h : closeCode u = 0) : u.code = 0 := by
  by_cases hc : u.code = 0
  · exact hc
  · rw [(close_code u hc).2.1] at h
    exact h
theorem take_more (T : List Nat) (a m : Nat) : T.take a ++ (T.drop a).take m = T.take (a + m) := by rw [List.take_add]

set_option maxRecDepth 100000 in
set_option maxHeartbeats 2000000 in
theorem chunks_law (s : ByteArray) (hs : s.size ≤ 140737488351232) (a : Option Addr) (len cap : Nat) (zs : List Int) (w : World) (hrow : IsRow .i64 w a len cap zs) (hlen : len * 8 ≤ 140737488351232) :
    Calls Try.prog 10 #[.string s, .slice a len cap] w fun e w' => e = .returned (.bool true) ∧ Below w.heap.size w w' := by
  have HROW := Lib.hid hrow
  clear hrow
  go_enter Try.func10, Try.ntmps10
  go_upto_region 7 with (first | (go_at_call 15; refine (awake_any _).mono ?_; rintro e w1 ⟨rfl, h1⟩; have H1 := Lib.hid h1; clear h1) | (go_at_call 20; refine (new_any _).mono ?_; rintro e w2 ⟨rfl, h2⟩; have H2 := Lib.hid h2; clear h2))
  generalize hg : w1.heap.size = g at *
  have HG := Lib.hid hg
  clear hg
  go_wp2_with fail
  go_loopw [6, 7, 21] (fun x6 x7 x21 wr => ∃ (k p : Nat) (vo vt : Value), x6 = .int .i64 (p : Nat) ∧ x7 = .int .i64 ((US.new.feed ((nb s).take p)).taken : Nat) ∧ x21 = .int .i64 (k : Nat) ∧ k ≤ len ∧ p ≤ s.size ∧ UkS w1 (fun _ => False) wr g vo vt (US.new.feed ((nb s).take p))) (fun _ _ x21 _ => len - (intOf x21).toNat)
  case atStart => exact ⟨0, 0, _, _, rfl, rfl, rfl, Nat.zero_le _, Nat.zero_le _, H2.out⟩
  case round =>
    clear H2
    obtain ⟨k, p, vo, vt, rfl, rfl, rfl, hk, hp, hP⟩ := hrel
    obtain ⟨U, hU⟩ : ∃ U, US.new.feed ((nb s).take p) = U := ⟨_, rfl⟩
    rw [hU] at hP ⊢
    have hfine : U.code = 0 → Fine U := by
      rw [← hU]
      exact (fine_feed _ US.new (fun _ => fine_new) (fun x hx => nb_bytes s x (List.mem_of_mem_take hx))).1
    have htk : U.taken ≤ p := by
      have h := (fine_feed ((nb s).take p) US.new (fun _ => fine_new) (fun x hx => nb_bytes s x (List.mem_of_mem_take hx))).2.2.2.1
      rw [hU, List.length_take] at h
      have : US.new.taken = 0 := rfl
      omega
    have HP := Lib.hid hP
    have HU := Lib.hid hU
    have HFINE := Lib.hid hfine
    clear hP hU hfine
    have hk0 : (0 : Int) ≤ k := by omega
    have hpI : (p : Int) ≤ s.size := by omega
    have hp0 : (0 : Int) ≤ p := by omega
    have ht0 : (0 : Int) ≤ U.taken := by omega
    have htI : (U.taken : Int) ≤ p := by omega
    have hsI : (s.size : Int) ≤ 140737488351232 := by omega
    by_cases hlt : k < len
    · obtain ⟨x, rfl, hxb, hzl, hcells, hwf⟩ := HROW.out.at_ (by omega)
      have c0 : wr.cell? (x.add k) = some (.int .i64 (zs.getD k 0)) := by
        have hb := H1.out.trans ((HP.out.far.below).mono H1.out.size)
        rw [hb.cell (by rw [block_add]; exact hxb)]
        exact hcells k hlt
      have hwz : -9223372036854775808 ≤ zs.getD k 0 ∧ zs.getD k 0 ≤ 9223372036854775807 := by
        have h := hwf (zs.getD k 0) (by rw [List.getD_eq_getElem?_getD, List.getElem?_eq_getElem (by omega)]; exact List.getElem_mem _)
        generalize zs.getD k 0 = c at h
        simp [Lit.wf, IntKind.min, IntKind.max, IntKind.signed, IntKind.bits] at h
        omega
      generalize zs.getD k 0 = c at *
      clear hcells hwf
      have hkI : (k : Int) < len := by omega
      by_cases hc1 : c < 0
      · obtain ⟨m, hm⟩ : ∃ m, m = s.size - p := ⟨_, rfl⟩
        have hmI : (s.size : Int) - p = m := by omega
        have d1 : decide (c < 0) = true := by simpa using hc1
        have hmb0 : p + m ≤ s.size := by omega
        clear hm
        have hmb : p + m ≤ s.size := hmb0
        clear hmb0
        obtain ⟨e, he⟩ : ∃ e, s.extract p (p + m) = e := ⟨_, rfl⟩
        have hne : nb e = ((nb s).drop p).take m := by
          rw [← he, nb_extract s p (p + m) hmb, show p + m - p = m by omega]
        have hfe : U.feed (nb e) = US.new.feed ((nb s).take (p + m)) := by
          rw [← HU.out, hne, ← feed_append, take_more]
        obtain ⟨V, hV⟩ : ∃ V, US.new.feed ((nb s).take (p + m)) = V := ⟨_, rfl⟩
        rw [hV] at hfe
        have hmono := (fine_feed (nb e) U HFINE.out (nb_bytes _)).2.2
        rw [hfe] at hmono
        obtain ⟨d, hd⟩ : ∃ d, d = V.taken - U.taken := ⟨_, rfl⟩
        have hdI : (U.taken : Int) + d = V.taken := by have := hmono.1; omega
        have hexs : e.size ≤ 140737488351232 := by rw [← he, ByteArray.size_extract]; omega
        have hfeed : ∀ cp, Calls Try.prog 21 #[.pointer (some ⟨g, 0, none⟩), .slice (some ⟨wr.heap.size, 0, none⟩) e.size cp] (Lib.bytesWorld wr 5 e) fun e w' => e = .returned (.int .i64 (d : Int)) ∧ ∃ vo' vt', UkS w1 (fun _ => False) w' g vo' vt' V := fun cp => by
          have h := feed_conv w1 (fun _ => False) g cp e vo vt U wr HP.out HFINE.out (by omega)
          rw [hfe, ← hd] at h
          exact h
        have hcv := fun W => Lib.run_convert_string_bytes (P := Try.prog) W 9 43 5 e Try.underlying9 Try.underlying43 Try.underlying5
        have hq1 : (p : Int) + m ≤ s.size := by omega
        have hq2 : (p : Int) ≤ (p : Int) + m := by omega
        have hd0 : (0 : Int) ≤ d := by omega
        have hdd : (d : Int) ≤ 140737488351232 * 2 := by have := hmono.2.1; rw [nb_length] at this; omega
        have HFEED := Lib.hid hfeed
        have HV := Lib.hid hV
        have HDI := Lib.hid hdI
        clear hne hfe hV hmono hd hexs hfeed hdI
        have hdV := HDI.out
        go_wp2_with (go_at_call 21; refine (HFEED.out _).mono ?_; rintro e w4 ⟨rfl, h4⟩; have H4 := Lib.hid h4; clear h4)
        obtain ⟨vo4, vt4, h4⟩ := H4.out
        go_roundw
        case rel => exact ⟨k + 1, p + m, vo4, vt4, by go_num, by rw [HV.out], by go_num, by omega, hmb, by rw [HV.out]; exact h4⟩
        case measure => simp [intOf]; omega
      · by_cases hc2 : c > (s.size : Int) - p
        · obtain ⟨m, hm⟩ : ∃ m, m = s.size - p := ⟨_, rfl⟩
          have hmI : (s.size : Int) - p = m := by omega
          have d1 : decide (c < 0) = false := by simpa using hc1
          have d2 : decide ((m : Int) < c) = true := by simp; omega
          have hmb0 : p + m ≤ s.size := by omega
          clear hm
          have hmb : p + m ≤ s.size := hmb0
          clear hmb0
          obtain ⟨e, he⟩ : ∃ e, s.extract p (p + m) = e := ⟨_, rfl⟩
          have hne : nb e = ((nb s).drop p).take m := by
            rw [← he, nb_extract s p (p + m) hmb, show p + m - p = m by omega]
          have hfe : U.feed (nb e) = US.new.feed ((nb s).take (p + m)) := by
            rw [← HU.out, hne, ← feed_append, take_more]
          obtain ⟨V, hV⟩ : ∃ V, US.new.feed ((nb s).take (p + m)) = V := ⟨_, rfl⟩
          rw [hV] at hfe
          have hmono := (fine_feed (nb e) U HFINE.out (nb_bytes _)).2.2
          rw [hfe] at hmono
          obtain ⟨d, hd⟩ : ∃ d, d = V.taken - U.taken := ⟨_, rfl⟩
          have hdI : (U.taken : Int) + d = V.taken := by have := hmono.1; omega
          have hexs : e.size ≤ 140737488351232 := by rw [← he, ByteArray.size_extract]; omega
          have hfeed : ∀ cp, Calls Try.prog 21 #[.pointer (some ⟨g, 0, none⟩), .slice (some ⟨wr.heap.size, 0, none⟩) e.size cp] (Lib.bytesWorld wr 5 e) fun e w' => e = .returned (.int .i64 (d : Int)) ∧ ∃ vo' vt', UkS w1 (fun _ => False) w' g vo' vt' V := fun cp => by
            have h := feed_conv w1 (fun _ => False) g cp e vo vt U wr HP.out HFINE.out (by omega)
            rw [hfe, ← hd] at h
            exact h
          have hcv := fun W => Lib.run_convert_string_bytes (P := Try.prog) W 9 43 5 e Try.underlying9 Try.underlying43 Try.underlying5
          have hq1 : (p : Int) + m ≤ s.size := by omega
          have hq2 : (p : Int) ≤ (p : Int) + m := by omega
          have hd0 : (0 : Int) ≤ d := by omega
          have hdd : (d : Int) ≤ 140737488351232 * 2 := by have := hmono.2.1; rw [nb_length] at this; omega
          have HFEED := Lib.hid hfeed
          have HV := Lib.hid hV
          have HDI := Lib.hid hdI
          clear hne hfe hV hmono hd hexs hfeed hdI
          have hdV := HDI.out
          go_wp2_with (go_at_call 21; refine (HFEED.out _).mono ?_; rintro e w4 ⟨rfl, h4⟩; have H4 := Lib.hid h4; clear h4)
          obtain ⟨vo4, vt4, h4⟩ := H4.out
          go_roundw
          case rel => exact ⟨k + 1, p + m, vo4, vt4, by go_num, by rw [HV.out], by go_num, by omega, hmb, by rw [HV.out]; exact h4⟩
          case measure => simp [intOf]; omega
        · obtain ⟨m, rfl⟩ : ∃ m : Nat, c = m := ⟨c.toNat, by omega⟩
          obtain ⟨f, hf⟩ : ∃ f, f = s.size - p := ⟨_, rfl⟩
          have hfI : (s.size : Int) - p = f := by omega
          have d1 : decide ((m : Int) < 0) = false := by simp
          have d2 : decide ((f : Int) < (m : Int)) = false := by simp; omega
          have d3 : decide (f < m) = false := by simp; omega
          have hmb0 : p + m ≤ s.size := by omega
          clear hf
          have hmb : p + m ≤ s.size := hmb0
          clear hmb0
          obtain ⟨e, he⟩ : ∃ e, s.extract p (p + m) = e := ⟨_, rfl⟩
          have hne : nb e = ((nb s).drop p).take m := by
            rw [← he, nb_extract s p (p + m) hmb, show p + m - p = m by omega]
          have hfe : U.feed (nb e) = US.new.feed ((nb s).take (p + m)) := by
            rw [← HU.out, hne, ← feed_append, take_more]
          obtain ⟨V, hV⟩ : ∃ V, US.new.feed ((nb s).take (p + m)) = V := ⟨_, rfl⟩
          rw [hV] at hfe
          have hmono := (fine_feed (nb e) U HFINE.out (nb_bytes _)).2.2
          rw [hfe] at hmono
          obtain ⟨d, hd⟩ : ∃ d, d = V.taken - U.taken := ⟨_, rfl⟩
          have hdI : (U.taken : Int) + d = V.taken := by have := hmono.1; omega
          have hexs : e.size ≤ 140737488351232 := by rw [← he, ByteArray.size_extract]; omega
          have hfeed : ∀ cp, Calls Try.prog 21 #[.pointer (some ⟨g, 0, none⟩), .slice (some ⟨wr.heap.size, 0, none⟩) e.size cp] (Lib.bytesWorld wr 5 e) fun e w' => e = .returned (.int .i64 (d : Int)) ∧ ∃ vo' vt', UkS w1 (fun _ => False) w' g vo' vt' V := fun cp => by
            have h := feed_conv w1 (fun _ => False) g cp e vo vt U wr HP.out HFINE.out (by omega)
            rw [hfe, ← hd] at h
            exact h
          have hcv := fun W => Lib.run_convert_string_bytes (P := Try.prog) W 9 43 5 e Try.underlying9 Try.underlying43 Try.underlying5
          have hq1 : (p : Int) + m ≤ s.size := by omega
          have hq2 : (p : Int) ≤ (p : Int) + m := by omega
          have hd0 : (0 : Int) ≤ d := by omega
          have hdd : (d : Int) ≤ 140737488351232 * 2 := by have := hmono.2.1; rw [nb_length] at this; omega
          have HFEED := Lib.hid hfeed
          have HV := Lib.hid hV
          have HDI := Lib.hid hdI
          clear hne hfe hV hmono hd hexs hfeed hdI
          have hdV := HDI.out
          go_wp2_with (go_at_call 21; refine (HFEED.out _).mono ?_; rintro e w4 ⟨rfl, h4⟩; have H4 := Lib.hid h4; clear h4)
          obtain ⟨vo4, vt4, h4⟩ := H4.out
          go_roundw
          case rel => exact ⟨k + 1, p + m, vo4, vt4, by go_num, by rw [HV.out], by go_num, by omega, hmb, by rw [HV.out]; exact h4⟩
          case measure => simp [intOf]; omega
    · have hkI : ¬ (k : Int) < len := by omega
      obtain ⟨e, he⟩ : ∃ e, s.extract p s.size = e := ⟨_, rfl⟩
      have hne : nb e = (nb s).drop p := by
        rw [← he, nb_extract s p s.size (Nat.le_refl _)]
        exact List.take_of_length_le (by rw [List.length_drop, nb_length]; omega)
      have hfe : U.feed (nb e) = US.new.feed (nb s) := by
        rw [← HU.out, hne, ← feed_append, List.take_append_drop]
      obtain ⟨V, hV⟩ : ∃ V, US.new.feed (nb s) = V := ⟨_, rfl⟩
      rw [hV] at hfe
      have hmono := (fine_feed (nb e) U HFINE.out (nb_bytes _)).2.2
      rw [hfe] at hmono
      obtain ⟨d, hd⟩ : ∃ d, d = V.taken - U.taken := ⟨_, rfl⟩
      have hdI : (U.taken : Int) + d = V.taken := by have := hmono.1; omega
      have hexs : e.size ≤ 140737488351232 := by rw [← he, ByteArray.size_extract]; omega
      have hfeed : ∀ cp, Calls Try.prog 21 #[.pointer (some ⟨g, 0, none⟩), .slice (some ⟨wr.heap.size, 0, none⟩) e.size cp] (Lib.bytesWorld wr 5 e) fun e w' => e = .returned (.int .i64 (d : Int)) ∧ ∃ vo' vt', UkS w1 (fun _ => False) w' g vo' vt' V := fun cp => by
        have h := feed_conv w1 (fun _ => False) g cp e vo vt U wr HP.out HFINE.out (by omega)
        rw [hfe, ← hd] at h
        exact h
      have hcv := fun W => Lib.run_convert_string_bytes (P := Try.prog) W 9 43 5 e Try.underlying9 Try.underlying43 Try.underlying5
      have hd0 : (0 : Int) ≤ d := by omega
      have hdd : (d : Int) ≤ 140737488351232 * 2 := by have := hmono.2.1; rw [nb_length] at this; omega
      have hsane : Sane V := by rw [← hV]; exact sane_feed (nb s) US.new sane_new (nb_bytes s)
      have hall : closeCode V = 0 → V.taken = s.size := fun h => by
        have h1 := close_ok h
        rw [← hV] at h1 ⊢
        rw [feed_taken (nb s) US.new rfl h1 take_faults, nb_length]
        show 0 + s.size = s.size
        omega
      obtain ⟨rt, hrt⟩ : ∃ x, closeText V = x := ⟨_, rfl⟩
      obtain ⟨rc, hrc⟩ : ∃ x, closeCode V = x := ⟨_, rfl⟩
      obtain ⟨ra, hra⟩ : ∃ x, closeAt V = x := ⟨_, rfl⟩
      rw [hrc] at hall
      have huu : ∀ W, Calls Try.prog 18 #[.string s] W fun e w' => e = .returned (.tuple #[.string rt, .agg #[.int .i64 (rc : Int), .int .i64 (ra : Int)]]) ∧ Below W.heap.size W w' := fun W => by
        have h := unpack_any s W hs
        rw [hV, hrt, hrc, hra] at h
        exact h
      have hcc : ∀ (vo vt : Value) (W : World), UkS w1 (fun _ => False) W g vo vt V → Calls Try.prog 22 #[.pointer (some ⟨g, 0, none⟩)] W fun e w' => e = .returned (.tuple #[.string rt, .agg #[.int .i64 (rc : Int), .int .i64 (ra : Int)]]) ∧ UkS w1 (fun _ => False) w' g vo vt V.close := fun vo vt W h => by
        have h := close_any w1 (fun _ => False) g vo vt V W h hsane
        rw [hrt, hrc, hra] at h
        exact h
      obtain ⟨vt0, hvt⟩ : ∃ x, V.taken = x := ⟨_, rfl⟩
      rw [hvt] at hdI hall
      have hct : V.close.taken = vt0 := by rw [close_taken, hvt]
      have HFEED := Lib.hid hfeed
      have HUU := Lib.hid huu
      have HCC := Lib.hid hcc
      have HALL := Lib.hid hall
      have HCT := Lib.hid hct
      have HDI := Lib.hid hdI
      have hdV := HDI.out
      clear hne hfe hV hmono hd hexs hfeed huu hcc hsane hrt hrc hra hvt hct hall hdI
      go_upto_region 16 with (go_at_call 21; refine (HFEED.out _).mono ?_; rintro e w4 ⟨rfl, h4⟩; have H4 := Lib.hid h4; clear h4)
      obtain ⟨vo4, vt4, h4⟩ := H4.out
      have H4' := Lib.hid h4
      clear h4 H4 hcv
      go_upto_region 17 with (go_at_call 22; refine (HCC.out _ _ _ H4'.out).mono ?_; rintro e w5 ⟨rfl, h5⟩; have H5 := Lib.hid h5; clear h5)
      have ha5 := heap_alloc_new w5 (.cells #[.int .i64 (rc : Int), .int .i64 (ra : Int)] 38)
      have hlt5 : w5.heap.size < (w5.alloc (.cells #[.int .i64 (rc : Int), .int .i64 (ra : Int)] 38)).heap.size := by simp
      have H5' := Lib.hid (H5.out.later ((Below.refl w5.heap.size w5).alloc (Nat.le_refl _) (.cells #[.int .i64 (rc : Int), .int .i64 (ra : Int)] 38)))
      have HA5 := Lib.hid ha5
      have HLT5 := Lib.hid hlt5
      clear ha5 hlt5
      generalize w5.heap.size = f5 at *
      generalize w5.alloc (.cells #[.int .i64 (rc : Int), .int .i64 (ra : Int)] 38) = w6 at *
      go_upto_region 18 with (go_at_call 18; refine (HUU.out _).mono ?_; rintro e w7 ⟨rfl, h7⟩; have H7 := Lib.hid h7; clear h7)
      have hb8 : Below w6.heap.size w6 (w7.alloc (.cells #[.int .i64 (rc : Int), .int .i64 (ra : Int)] 38)) := bl_alloc H7.out _
      have ha8 := heap_alloc_new w7 (.cells #[.int .i64 (rc : Int), .int .i64 (ra : Int)] 38)
      have HB8 := Lib.hid hb8
      have HA8 := Lib.hid ha8
      clear hb8 ha8
      generalize w7.heap.size = f7 at *
      generalize w7.alloc (.cells #[.int .i64 (rc : Int), .int .i64 (ra : Int)] 38) = w8 at *
      have hr5 := (HB8.out.block f5 HLT5.out).trans HA5.out
      have r50 := cell_of_row w8 f5 0 _ _ _ hr5
      have r51 := cell_of_row w8 f5 1 _ _ _ hr5
      have r70 := cell_of_row w8 f7 0 _ _ _ HA8.out
      have r71 := cell_of_row w8 f7 1 _ _ _ HA8.out
      have H8 := Lib.hid (H5'.out.later HB8.out)
      clear hr5
      have htak : Calls Try.prog 23 #[.pointer (some ⟨g, 0, none⟩)] w8 fun e w' => e = .returned (.int .i64 (vt0 : Int)) ∧ w8 = w' := by
        have h := taken_any H8.out
        rw [HCT.out] at h
        exact h
      have HTAK := Lib.hid htak
      clear htak
      by_cases hrc : rc = 0
      · have hz : ((rc : Int) == 0) = true := by simp; omega
        have hz2 : ((rc : Int) != 0) = false := by simp; omega
        have hv := HALL.out hrc
        have hv2 : ((vt0 : Int) == (s.size : Int)) = true := by simp; omega
        clear hrc hv
        go_wp2_with (go_at_call 23; refine HTAK.out.mono ?_; rintro e w9 ⟨rfl, rfl⟩)
        go_ret
        exact ⟨rfl, H1.out.trans ((H8.out.far.below).mono H1.out.size)⟩
      · have hz : ((rc : Int) == 0) = false := by simp; omega
        have hz2 : ((rc : Int) != 0) = true := by simp; omega
        clear hrc
        go_wp2_with (go_at_call 23; refine HTAK.out.mono ?_; rintro e w9 ⟨rfl, rfl⟩)
        go_ret
        exact ⟨rfl, H1.out.trans ((H8.out.far.below).mono H1.out.size)⟩
end Go.Proofs.Ytikbbofjkchppaa

