/- The walk of the reference's Read. -/
import Derived.Test.YtikbbofjkchppaaRd
namespace Go.Proofs.Ytikbbofjkchppaa
set_option linter.unusedVariables false
set_option linter.unusedSimpArgs false
open Go.RowKit

/-- what Read answers -/
def gotV (u : US) : Value := .agg #[.string (if u.whole = true then strOf u.out else ⟨#[]⟩), .bool u.whole, .int .i64 (u.code : Nat), .int .i64 (u.at_ : Nat), .int .i64 (u.taken : Nat)]
theorem gotV_part {u : US} (h : u.whole = false) : gotV u = .agg #[.string ⟨#[]⟩, .bool false, .int .i64 (u.code : Nat), .int .i64 (u.at_ : Nat), .int .i64 (u.taken : Nat)] := by
  unfold gotV
  rw [h]
  rfl
theorem gotV_whole {u : US} (h : u.whole = true) : gotV u = .agg #[.string (strOf u.out), .bool true, .int .i64 (u.code : Nat), .int .i64 (u.at_ : Nat), .int .i64 (u.taken : Nat)] := by
  unfold gotV
  rw [h]
  rfl
theorem whole_no {u : US} (h : u.head ≠ 8 ∨ u.out.length ≠ u.size) : u.whole = false := by
  unfold US.whole
  rcases h with h | h
  · simp [h]
  · simp [h]
theorem whole_yes {u : US} (h : u.head = 8) (h2 : u.out.length = u.size) : u.whole = true := by
  unfold US.whole
  simp [h, h2]
theorem wpList_app_string (w : World) {ops : Array Oper} {rest : List Oper} {o : Oper} {a : Act} {Q : Exit → Act → World → Prop} (hgd : o.guard = none) (sl x : Operand)
    (ho : o.op = .call { callee := .builtin .append, args := #[sl, x], argTypes := #[43, 9] })
    (base : Nat) (v : Value) (xs : List Nat) (hs : a.eval sl = v) (hown : OwnB w base v xs) (s : ByteArray) (hx : a.eval x = .string s) (hl : xs.length + s.size ≤ 140737488355328) (hbase : base ≤ w.heap.size)
    (h : ∀ v' w', OwnB w' base v' (xs ++ nb s) → w.grownBy w' v.ownBlock → wpList Try.prog ops Q rest (a.put o.dst v') w') : wpList Try.prog ops Q (o :: rest) a w :=
  wpList_plain hgd fun K hK => wp_app_string w sl x ho base v xs hs hown s hx hl hbase fun v' w' h2 h3 => hK _ _ (h v' w' h2 h3)
theorem below_own {w0 w w' : World} {v : Value} {xs : List Nat} (hb : Below w0.heap.size w0 w) (ho : OwnB w w0.heap.size v xs) (hg : w.grownBy w' v.ownBlock) : Below w0.heap.size w0 w' :=
  ⟨hg.os.trans hb.os, hg.tape.trans hb.tape, hg.output.trans hb.output, Nat.le_trans hb.size hg.size, fun k hk => (hg.block k (Nat.lt_of_lt_of_le hk hb.size) (fun e => by have := (ho.lt k e.symm).1; omega)).trans (hb.block k hk)⟩
/-- the rest of a token that was cut short -/
theorem tok_cut (n : Nat) (o : List Nat) (a st c : Nat) (xs : List Nat) (h : xs.length < c) : (⟨a, 0, 0, false, n, 8, o, st, [], c⟩ : US).feed xs = ⟨a + xs.length, 0, 0, false, n, 8, o ++ xs, st, [], c - xs.length⟩ := by
  have := tok_plain n o a st (c - xs.length) xs
  rwa [show xs.length + (c - xs.length) = c by omega] at this

set_option maxRecDepth 100000 in
set_option maxHeartbeats 3000000 in
theorem read_any (s : ByteArray) (hs : s.size ≤ 140737488351232) (w : World) : Calls Try.prog 24 #[.string s] w fun e w' => e = .returned (gotV (US.new.feed (nb s))) ∧ Below w.heap.size w w' := by
  obtain ⟨U, hU⟩ : ∃ U, US.new.feed (nb s) = U := ⟨_, rfl⟩
  rw [hU]
  obtain ⟨R, hR⟩ : ∃ R, gotV U = R := ⟨_, rfl⟩
  rw [hR]
  have HU := Lib.hid hU
  have HR := Lib.hid hR
  have hb0 : Below w.heap.size w (w.alloc (.cells #[.string ⟨#[]⟩, .bool false, .int .i64 0, .int .i64 0, .int .i64 0] 60)) := (Below.refl _ _).alloc (Nat.le_refl _) _
  have hrow := heap_alloc_new w (.cells #[.string ⟨#[]⟩, .bool false, .int .i64 0, .int .i64 0, .int .i64 0] 60)
  have hlt : w.heap.size < (w.alloc (.cells #[.string ⟨#[]⟩, .bool false, .int .i64 0, .int .i64 0, .int .i64 0] 60)).heap.size := by simp
  have HB0 := Lib.hid hb0
  clear hU hR hb0
  go_enter Try.func24, Try.ntmps24
  go_upto_region 1 with fail
  generalize hg : w.heap.size = rb at *
  generalize w.alloc (.cells #[.string ⟨#[]⟩, .bool false, .int .i64 0, .int .i64 0, .int .i64 0] 60) = W1 at *
  have hkeep : ∀ W : World, Below W1.heap.size W1 W → W.heap[rb]? = some (.cells #[.string ⟨#[]⟩, .bool false, .int .i64 0, .int .i64 0, .int .i64 0] 60 (0, 0)) := fun W h => (h.block rb hlt).trans hrow
  have hfin : ∀ (W : World) (a b c d e : Value), Below W1.heap.size W1 W → Below w.heap.size w (((((W.setCell ⟨rb, 0, none⟩ a).setCell ⟨rb, 1, none⟩ b).setCell ⟨rb, 2, none⟩ c).setCell ⟨rb, 3, none⟩ d).setCell ⟨rb, 4, none⟩ e) := fun W a b c d e h => by
    rw [hg]
    have h1 : Below rb w W := by
      have h2 := HB0.out
      refine ⟨h.os.trans h2.os, h.tape.trans h2.tape, h.output.trans h2.output, Nat.le_trans h2.size h.size, fun k hk => (h.block k ?_).trans (h2.block k hk)⟩
      omega
    exact ((((h1.setCell (Nat.le_refl _) _).setCell (Nat.le_refl _) _).setCell (Nat.le_refl _) _).setCell (Nat.le_refl _) _).setCell (Nat.le_refl _) _
  have HKEEP := Lib.hid hkeep
  have HFIN := Lib.hid hfin
  clear hkeep hfin hg hlt hrow HB0
  have hs0 : (0 : Int) ≤ s.size := by omega
  have hsI : (s.size : Int) ≤ 140737488351232 := by omega
  by_cases h8 : s.size < 8
  · have h8I : (s.size : Int) < 8 := by omega
    have hX : U = hd (numLo (nb s) s.size) s.size := by
      rw [← HU.out, ← feed_low (nb s) s.size (by omega) (by rw [nb_length]; exact Nat.le_refl _), List.take_of_length_le (by rw [nb_length]; exact Nat.le_refl _)]
    have hRR : R = .agg #[.string ⟨#[]⟩, .bool false, .int .i64 0, .int .i64 0, .int .i64 (s.size : Int)] := by
      rw [← HR.out, hX, gotV_part (whole_no (.inl (by show s.size ≠ 8; omega)))]
      rfl
    subst hRR
    clear hX h8
    have hr2 := HKEEP.out W1 (Below.refl _ _)
    have r0 := cell_of_row _ rb 0 _ _ _ hr2
    have r1 := cell_of_row _ rb 1 _ _ _ hr2
    have r2 := cell_of_row _ rb 2 _ _ _ hr2
    have r3 := cell_of_row _ rb 3 _ _ _ hr2
    have r4 := cell_of_row _ rb 4 _ _ _ hr2
    have g0 := frozen_of_row _ rb 0 _ _ hr2
    have g1 := frozen_of_row _ rb 1 _ _ hr2
    have g2 := frozen_of_row _ rb 2 _ _ hr2
    have g3 := frozen_of_row _ rb 3 _ _ hr2
    have g4 := frozen_of_row _ rb 4 _ _ hr2
    clear hr2
    go_wp2_with fail
    exact bodyPost_ret (v := .agg #[.string ⟨#[]⟩, .bool false, .int .i64 0, .int .i64 0, .int .i64 (s.size : Int)]) (by simp [results, Try.results24, go_sem, r0, r1, r2, r3, r4]) rfl ⟨rfl, HFIN.out W1 _ _ _ _ _ (Below.refl _ _)⟩
  · have h8I : ¬ (s.size : Int) < 8 := by omega
    have h88 : 8 ≤ (nb s).length := by rw [nb_length]; omega
    have hfe := feed_eight (nb s) h88
    obtain ⟨n, hn⟩ : ∃ n, numHi (nb s) 8 = n := ⟨_, rfl⟩
    have hnlt : n < 18446744073709551616 := by
      have h1 := numHi_lt (nb s) (nb_bytes s) 8
      rw [hn] at h1
      exact Nat.lt_of_lt_of_le h1 (by decide)
    have hnum : ∀ W, Calls Try.prog 38 #[.string s, .int .i64 0] W fun e w' => e = .returned (.int .u64 (n : Int)) ∧ W = w' := fun W => by
      have h := num_any s (by omega) hs W
      rw [hn] at h
      exact h
    have HNUM := Lib.hid hnum
    rw [hn] at hfe
    have hsplit : U = (US.new.feed ((nb s).take 8)).feed ((nb s).drop 8) := by rw [← feed_append, List.take_append_drop, HU.out]
    rw [hfe] at hsplit
    have hn0 : (0 : Int) ≤ n := by omega
    clear hn hnum hfe h88
    by_cases hbig : 1048576 < n
    · have hbI : (1048576 : Int) < n := by omega
      rw [if_pos hbig, feed_stop _ (.inr (by decide : (2 : Nat) ≠ 0))] at hsplit
      have hRR : R = .agg #[.string ⟨#[]⟩, .bool false, .int .i64 2, .int .i64 0, .int .i64 7] := by
        rw [← HR.out, hsplit, gotV_part (whole_no (.inl (by decide : (7 : Nat) ≠ 8)))]
        rfl
      subst hRR
      clear hsplit hbig hnlt
      go_upto_region 5 with (go_at_call 38; refine (HNUM.out _).mono ?_; rintro e w1 ⟨rfl, rfl⟩)
      have hr2 := HKEEP.out W1 (Below.refl _ _)
      have r0 := cell_of_row _ rb 0 _ _ _ hr2
      have r1 := cell_of_row _ rb 1 _ _ _ hr2
      have r2 := cell_of_row _ rb 2 _ _ _ hr2
      have r3 := cell_of_row _ rb 3 _ _ _ hr2
      have r4 := cell_of_row _ rb 4 _ _ _ hr2
      have g0 := frozen_of_row _ rb 0 _ _ hr2
      have g1 := frozen_of_row _ rb 1 _ _ hr2
      have g2 := frozen_of_row _ rb 2 _ _ hr2
      have g3 := frozen_of_row _ rb 3 _ _ hr2
      have g4 := frozen_of_row _ rb 4 _ _ hr2
      clear hr2
      go_wp2_with fail
      exact bodyPost_ret (v := .agg #[.string ⟨#[]⟩, .bool false, .int .i64 2, .int .i64 0, .int .i64 7]) (by simp [results, Try.results24, go_sem, r0, r1, r2, r3, r4]) rfl ⟨rfl, HFIN.out W1 _ _ _ _ _ (Below.refl _ _)⟩
    · have hbI : ¬ (1048576 : Int) < n := by omega
      rw [if_neg hbig] at hsplit
      have hstart : (tokU n [] 8 0).feed ((nb s).drop 8) = U := hsplit.symm
      have HST := Lib.hid hstart
      have hn2 : n ≤ 1048576 := by omega
      have hnI : (n : Int) ≤ 1048576 := by omega
      have h8s : 8 ≤ s.size := by omega
      clear hsplit hstart hbig hnlt h8 hbI h8I
      go_upto_region 9 with (go_at_call 38; refine (HNUM.out _).mono ?_; rintro e w1 ⟨rfl, rfl⟩)
      have HB1 := Lib.hid (Below.refl W1.heap.size W1)
      clear hn0
      have hn0 : (0 : Int) ≤ n := by omega
      go_wp2_with fail
      go_loopw [5, 6] (fun x5 x6 wr => ∃ (o : List Nat) (at_ st : Nat), OwnB wr W1.heap.size x5 o ∧ x6 = .int .i64 (at_ : Nat) ∧ o.length ≤ n ∧ at_ ≤ s.size ∧ Bytes o ∧ Below W1.heap.size W1 wr ∧ (tokU n o at_ st).feed ((nb s).drop at_) = U) (fun _ x6 _ => s.size - (intOf x6).toNat)
      case atStart => exact ⟨[], 8, 0, OwnB.nil _ _, rfl, Nat.zero_le _, h8s, fun x hx => by simp at hx, HB1.out, HST.out⟩
      case round =>
        clear HST HB1
        obtain ⟨o, p, st, hown, rfl, hon, hps, hbo, hbel, hfe⟩ := hrel
        obtain ⟨A, kc, hv5⟩ := hown.slice
        obtain ⟨lo, hlo⟩ : ∃ lo, o.length = lo := ⟨_, rfl⟩
        rw [hlo] at hv5 hon
        subst hv5
        have HOWN := Lib.hid hown
        have HLO := Lib.hid hlo
        have HBO := Lib.hid hbo
        have HBEL := Lib.hid hbel
        have HFE := Lib.hid hfe
        have hp0 : (0 : Int) ≤ p := by omega
        have hl0 : (0 : Int) ≤ lo := by omega
        have honI : (lo : Int) ≤ n := by omega
        clear hown hlo hbo hbel hfe
        by_cases hlt : lo < n
        · have hltI : (lo : Int) < n := by omega
          by_cases hat : p < s.size
          · have hatI : (p : Int) < s.size := by omega
            obtain ⟨t, ht⟩ : ∃ t, (nb s).getD p 0 = t := ⟨_, rfl⟩
            have hx : (s[p]'hat).toNat = t := by rw [← ht]; exact (getD_nb s p hat).symm
            have htb : t < 256 := by rw [← ht]; exact bytes_getD (nb_bytes s) p
            have hdr : (nb s).drop p = t :: (nb s).drop (p + 1) := by rw [drop_cons (nb s) p (by rw [nb_length]; exact hat), ht]
            have hf2 := HFE.out
            rw [hdr, feed_cons] at hf2
            have HF2 := Lib.hid hf2
            have ht0 : (0 : Int) ≤ t := by omega
            have ht1 : (t : Int) < 256 := by omega
            clear ht hdr hf2
            by_cases ht8 : t < 128
            · have ht8I : (t : Int) < 128 := by omega
              by_cases hov : n - lo < t + 1
              · have hovI : (n : Int) - lo < t + 1 := by omega
                have hX : U = ⟨p, 101, p, false, n, 8, o, p, [], 0⟩ := by
                  rw [← HF2.out, tok_over n o p st t (by rw [HLO.out]; exact hlt) (by rw [HLO.out, lenOf_lo ht8]; exact hov), feed_stop _ (.inr (by decide : (101 : Nat) ≠ 0))]
                have hRR : R = .agg #[.string ⟨#[]⟩, .bool false, .int .i64 101, .int .i64 (p : Int), .int .i64 (p : Int)] := by
                  rw [← HR.out, hX, gotV_part (whole_no (.inr (by show o.length ≠ n; rw [HLO.out]; omega)))]
                  rfl
                subst hRR
                clear hX hov
                have hr2 := HKEEP.out wr HBEL.out
                have r0 := cell_of_row _ rb 0 _ _ _ hr2
                have r1 := cell_of_row _ rb 1 _ _ _ hr2
                have r2 := cell_of_row _ rb 2 _ _ _ hr2
                have r3 := cell_of_row _ rb 3 _ _ _ hr2
                have r4 := cell_of_row _ rb 4 _ _ _ hr2
                have g0 := frozen_of_row _ rb 0 _ _ hr2
                have g1 := frozen_of_row _ rb 1 _ _ hr2
                have g2 := frozen_of_row _ rb 2 _ _ hr2
                have g3 := frozen_of_row _ rb 3 _ _ hr2
                have g4 := frozen_of_row _ rb 4 _ _ hr2
                clear hr2
                go_wp2_with fail
                exact bodyPost_ret (v := .agg #[.string ⟨#[]⟩, .bool false, .int .i64 101, .int .i64 (p : Int), .int .i64 (p : Int)]) (by simp [results, Try.results24, go_sem, r0, r1, r2, r3, r4]) rfl ⟨rfl, HFIN.out wr _ _ _ _ _ HBEL.out⟩
              · have hovI : ¬ (n : Int) - lo < t + 1 := by omega
                have hb1 := tok_run n o p st t (by rw [HLO.out]; exact hlt) (by rw [HLO.out, lenOf_lo ht8]; exact hov) (by omega)
                have hf3 := HF2.out
                rw [hb1] at hf3
                have HF3 := Lib.hid hf3
                clear hb1 hf3
                by_cases hcut : s.size < p + 1 + t + 1
                · have hcutI : (s.size : Int) < (p : Int) + 1 + t + 1 := by omega
                  have hxl : ((nb s).drop (p + 1)).length = s.size - (p + 1) := by rw [List.length_drop, nb_length]
                  have hX : U = ⟨s.size, 0, 0, false, n, 8, o ++ (nb s).drop (p + 1), p, [], t + 1 - (s.size - (p + 1))⟩ := by
                    rw [← HF3.out, tok_cut n o (p + 1) p (t + 1) _ (by rw [hxl]; omega), hxl, show p + 1 + (s.size - (p + 1)) = s.size by omega]
                  have hRR : R = .agg #[.string ⟨#[]⟩, .bool false, .int .i64 0, .int .i64 0, .int .i64 (s.size : Int)] := by
                    rw [← HR.out, hX, gotV_part (whole_no (.inr (by show (o ++ (nb s).drop (p + 1)).length ≠ n; rw [List.length_append, HLO.out, hxl]; omega)))]
                    rfl
                  subst hRR
                  clear hX hov hcut hxl
                  have hr2 := HKEEP.out wr HBEL.out
                  have r0 := cell_of_row _ rb 0 _ _ _ hr2
                  have r1 := cell_of_row _ rb 1 _ _ _ hr2
                  have r2 := cell_of_row _ rb 2 _ _ _ hr2
                  have r3 := cell_of_row _ rb 3 _ _ _ hr2
                  have r4 := cell_of_row _ rb 4 _ _ _ hr2
                  have g0 := frozen_of_row _ rb 0 _ _ hr2
                  have g1 := frozen_of_row _ rb 1 _ _ hr2
                  have g2 := frozen_of_row _ rb 2 _ _ hr2
                  have g3 := frozen_of_row _ rb 3 _ _ hr2
                  have g4 := frozen_of_row _ rb 4 _ _ hr2
                  clear hr2
                  go_wp2_with fail
                  exact bodyPost_ret (v := .agg #[.string ⟨#[]⟩, .bool false, .int .i64 0, .int .i64 0, .int .i64 (s.size : Int)]) (by simp [results, Try.results24, go_sem, r0, r1, r2, r3, r4]) rfl ⟨rfl, HFIN.out wr _ _ _ _ _ HBEL.out⟩
                · have hcutI : ¬ (s.size : Int) < (p : Int) + 1 + t + 1 := by omega
                  obtain ⟨e, he⟩ : ∃ e, s.extract (p + 1) (p + t + 2) = e := ⟨_, rfl⟩
                  have hne : nb e = ((nb s).drop (p + 1)).take (t + 1) := by rw [← he, nb_extract s _ _ (by omega), show p + t + 2 - (p + 1) = t + 1 by omega]
                  have hel : (nb e).length = t + 1 := by rw [hne, List.length_take, List.length_drop, nb_length]; omega
                  have hes : e.size = t + 1 := by rw [← nb_length, hel]
                  have hnext : (tokU n (o ++ nb e) (p + (t + 2)) p).feed ((nb s).drop (p + (t + 2))) = U := by
                    rw [← HF3.out]
                    have h1 : (nb s).drop (p + 1) = nb e ++ (nb s).drop (p + (t + 2)) := by
                      have h := (List.take_append_drop (t + 1) ((nb s).drop (p + 1))).symm
                      rw [List.drop_drop] at h
                      rw [hne, show p + (t + 2) = p + 1 + (t + 1) by omega]
                      exact h
                    rw [h1, feed_append]
                    have h2 := tok_plain n o (p + 1) p 0 (nb e)
                    rw [hel, Nat.add_zero] at h2
                    rw [h2, show p + 1 + (t + 1) = p + (t + 2) by omega]
                    rfl
                  have hbt : o.length + e.size ≤ 140737488355328 := by rw [HLO.out, hes]; omega
                  have hba : Bytes (o ++ nb e) := fun x hx => by
                    rcases List.mem_append.1 hx with h | h
                    · exact HBO.out x h
                    · exact nb_bytes e x h
                  have hla : (o ++ nb e).length ≤ n := by rw [List.length_append, HLO.out, hel]; omega
                  have hs1 : (p : Int) + t + 2 ≤ s.size := by omega
                  have hs2 : (p : Int) + 1 ≤ (p : Int) + t + 2 := by omega
                  have hs3 : (0 : Int) ≤ (p : Int) + 1 := by omega
                  have ta1 : ((p : Int) + 1).toNat = p + 1 := by omega
                  have ta2 : ((p : Int) + t + 2).toNat = p + t + 2 := by omega
                  have HNX := Lib.hid hnext
                  have HBT := Lib.hid hbt
                  have HBA := Lib.hid hba
                  have HLA := Lib.hid hla
                  have HPB := Lib.hid (show p + (t + 2) ≤ s.size by omega)
                  clear hnext hbt hba hla hne hel hes hov hcut
                  go_wp2_with (at_builtin; refine wpList_app_string _ rfl (.tmp 63) (.tmp 71) rfl W1.heap.size _ o rfl HOWN.out e rfl HBT.out HBEL.out.size ?_; intro v5 w5 ho5 hg5; obtain ⟨A5, k5, hv5⟩ := ho5.slice; generalize (o ++ nb e).length = l5 at hv5; subst hv5; have HO5 := Lib.hid ho5; have HB5 := Lib.hid (below_own HBEL.out HOWN.out hg5); clear ho5 hg5)
                  go_roundw
                  case rel => exact ⟨_, p + (t + 2), p, HO5.out, by go_num, HLA.out, HPB.out, HBA.out, HB5.out, HNX.out⟩
                  case measure => simp [intOf]; omega
            · have ht8I : ¬ (t : Int) < 128 := by omega
              have ht8L : (128 : Int) ≤ t := by omega
              by_cases hov : n - lo < t - 124
              · have hovI : (n : Int) - lo < t - 124 := by omega
                have hX : U = ⟨p, 101, p, false, n, 8, o, p, [], 0⟩ := by
                  rw [← HF2.out, tok_over n o p st t (by rw [HLO.out]; exact hlt) (by rw [HLO.out, lenOf_hi (by omega)]; exact hov), feed_stop _ (.inr (by decide : (101 : Nat) ≠ 0))]
                have hRR : R = .agg #[.string ⟨#[]⟩, .bool false, .int .i64 101, .int .i64 (p : Int), .int .i64 (p : Int)] := by
                  rw [← HR.out, hX, gotV_part (whole_no (.inr (by show o.length ≠ n; rw [HLO.out]; omega)))]
                  rfl
                subst hRR
                clear hX hov
                have hr2 := HKEEP.out wr HBEL.out
                have r0 := cell_of_row _ rb 0 _ _ _ hr2
                have r1 := cell_of_row _ rb 1 _ _ _ hr2
                have r2 := cell_of_row _ rb 2 _ _ _ hr2
                have r3 := cell_of_row _ rb 3 _ _ _ hr2
                have r4 := cell_of_row _ rb 4 _ _ _ hr2
                have g0 := frozen_of_row _ rb 0 _ _ hr2
                have g1 := frozen_of_row _ rb 1 _ _ hr2
                have g2 := frozen_of_row _ rb 2 _ _ hr2
                have g3 := frozen_of_row _ rb 3 _ _ hr2
                have g4 := frozen_of_row _ rb 4 _ _ hr2
                clear hr2
                go_wp2_with fail
                exact bodyPost_ret (v := .agg #[.string ⟨#[]⟩, .bool false, .int .i64 101, .int .i64 (p : Int), .int .i64 (p : Int)]) (by simp [results, Try.results24, go_sem, r0, r1, r2, r3, r4]) rfl ⟨rfl, HFIN.out wr _ _ _ _ _ HBEL.out⟩
              · have hovI : ¬ (n : Int) - lo < t - 124 := by omega
                have hb1 := tok_back n o p st t (by rw [HLO.out]; exact hlt) (by rw [HLO.out, lenOf_hi (by omega)]; exact hov) (by omega)
                have hf3 := HF2.out
                rw [hb1] at hf3
                have HF3 := Lib.hid hf3
                clear hb1 hf3
                by_cases hcut : s.size < p + 3
                · have hcutI : (s.size : Int) < (p : Int) + 3 := by omega
                  have hX : ∃ tk, U = ⟨s.size, 0, 0, false, n, 8, o, p, tk, 0⟩ := by
                    rw [← HF3.out]
                    by_cases h1 : s.size = p + 1
                    · rw [List.drop_eq_nil_of_le (by rw [nb_length]; omega), feed_nil, h1]
                      exact ⟨_, rfl⟩
                    · have h2 : s.size = p + 2 := by omega
                      rw [drop_cons (nb s) (p + 1) (by rw [nb_length]; omega), List.drop_eq_nil_of_le (by rw [nb_length]; omega), feed_cons, feed_nil, tok_second, h2]
                      exact ⟨_, rfl⟩
                  obtain ⟨tk, hX⟩ := hX
                  have hRR : R = .agg #[.string ⟨#[]⟩, .bool false, .int .i64 0, .int .i64 0, .int .i64 (s.size : Int)] := by
                    rw [← HR.out, hX, gotV_part (whole_no (.inr (by show o.length ≠ n; rw [HLO.out]; omega)))]
                    rfl
                  subst hRR
                  clear hX hov hcut
                  have hr2 := HKEEP.out wr HBEL.out
                  have r0 := cell_of_row _ rb 0 _ _ _ hr2
                  have r1 := cell_of_row _ rb 1 _ _ _ hr2
                  have r2 := cell_of_row _ rb 2 _ _ _ hr2
                  have r3 := cell_of_row _ rb 3 _ _ _ hr2
                  have r4 := cell_of_row _ rb 4 _ _ _ hr2
                  have g0 := frozen_of_row _ rb 0 _ _ hr2
                  have g1 := frozen_of_row _ rb 1 _ _ hr2
                  have g2 := frozen_of_row _ rb 2 _ _ hr2
                  have g3 := frozen_of_row _ rb 3 _ _ hr2
                  have g4 := frozen_of_row _ rb 4 _ _ hr2
                  clear hr2
                  go_wp2_with fail
                  exact bodyPost_ret (v := .agg #[.string ⟨#[]⟩, .bool false, .int .i64 0, .int .i64 0, .int .i64 (s.size : Int)]) (by simp [results, Try.results24, go_sem, r0, r1, r2, r3, r4]) rfl ⟨rfl, HFIN.out wr _ _ _ _ _ HBEL.out⟩
                · have hcutI : ¬ (s.size : Int) < (p : Int) + 3 := by omega
                  obtain ⟨x, hx1⟩ : ∃ x, (nb s).getD (p + 1) 0 = x := ⟨_, rfl⟩
                  obtain ⟨y, hy1⟩ : ∃ y, (nb s).getD (p + 2) 0 = y := ⟨_, rfl⟩
                  have hp2 : p + 2 < s.size := by omega
                  have hp1 : p + 1 < s.size := by omega
                  have hxs : (s[p + 1]'hp1).toNat = x := by rw [← hx1]; exact (getD_nb s (p + 1) (by omega)).symm
                  have hys : (s[p + 2]'hp2).toNat = y := by rw [← hy1]; exact (getD_nb s (p + 2) (by omega)).symm
                  have hxb : x < 256 := by rw [← hx1]; exact bytes_getD (nb_bytes s) _
                  have hyb : y < 256 := by rw [← hy1]; exact bytes_getD (nb_bytes s) _
                  have hf4 := HF3.out
                  rw [drop_cons (nb s) (p + 1) (by rw [nb_length]; omega), drop_cons (nb s) (p + 1 + 1) (by rw [nb_length]; omega), hx1, show p + 1 + 1 = p + 2 by omega, hy1, feed_cons, feed_cons, tok_second, tok_third] at hf4
                  obtain ⟨far, hfar⟩ : ∃ far, x + y * 256 + 1 = far := ⟨_, rfl⟩
                  rw [hfar] at hf4
                  have HF4 := Lib.hid hf4
                  have a1 : (p : Int) + 1 < s.size := by omega
                  have a2 : (p : Int) + 2 < s.size := by omega
                  have a3 : (0 : Int) ≤ (p : Int) + 1 := by omega
                  have a4 : (0 : Int) ≤ (p : Int) + 2 := by omega
                  have b1 : ((p : Int) + 1).toNat = p + 1 := by omega
                  have b2 : ((p : Int) + 2).toNat = p + 2 := by omega
                  have x0 : (0 : Int) ≤ x := by omega
                  have x1 : (x : Int) < 256 := by omega
                  have y0 : (0 : Int) ≤ y := by omega
                  have y1 : (y : Int) < 256 := by omega
                  have hfI : (x : Int) + 256 * (y : Int) + 1 = far := by omega
                  have w1 : IntKind.i64.wrap ((p : Int) + 1) = (p : Int) + 1 := IntWalk.i64_in _ (by omega)
                  have w2 : IntKind.i64.wrap ((p : Int) + 2) = (p : Int) + 2 := IntWalk.i64_in _ (by omega)
                  have hf1 : 1 ≤ far := by omega
                  have HFI := Lib.hid hfI
                  clear hf4 hfar hx1 hy1 hfI hcut hov
                  go_upto_region 24 with fail
                  go_cut [8] from 25 to 134 (fun x8 wx => x8 = .int .i64 (far : Int) ∧ ∃ nq, wx = wr.drewN nq)
                  case first =>
                    go_quiet (fail)
                    go_wp2_with fail
                    go_meet
                    exact ⟨by rw [HFI.out], nq, rfl⟩
                  case rest =>
                    obtain ⟨rfl, nq, rfl⟩ := hcut
                    have hdr : Below wr.heap.size wr (wr.drewN nq) := ⟨rfl, rfl, rfl, Nat.le_refl _, fun _ _ => rfl⟩
                    have HOWN2 := Lib.hid (HOWN.out.later hdr)
                    have HBEL2 := Lib.hid (HBEL.out.trans (hdr.mono HBEL.out.size))
                    clear hdr HOWN HBEL x0 x1 y0 y1 w1 w2 a1 a2 a3 a4 b1 b2 hxs hys
                    generalize wr.drewN nq = w2 at *
                    have hf0 : (0 : Int) ≤ far := by omega
                    by_cases hfl : lo < far
                    · have hflI : (lo : Int) < far := by omega
                      have hX : U = ⟨p + 2, 100, p, false, n, 8, o, p, [t, x, y], 0⟩ := by
                        rw [← HF4.out, if_pos (by rw [HLO.out]; exact hfl), feed_stop _ (.inr (by decide : (100 : Nat) ≠ 0))]
                      have hRR : R = .agg #[.string ⟨#[]⟩, .bool false, .int .i64 100, .int .i64 (p : Int), .int .i64 ((p : Int) + 2)] := by
                        rw [← HR.out, hX, gotV_part (whole_no (.inr (by show o.length ≠ n; rw [HLO.out]; omega)))]
                        show Value.agg #[_, _, _, _, .int .i64 ((p + 2 : Nat) : Int)] = _
                        rw [Int.natCast_add]
                        rfl
                      subst hRR
                      clear hX
                      have hr2 := HKEEP.out w2 HBEL2.out
                      have r0 := cell_of_row _ rb 0 _ _ _ hr2
                      have r1 := cell_of_row _ rb 1 _ _ _ hr2
                      have r2 := cell_of_row _ rb 2 _ _ _ hr2
                      have r3 := cell_of_row _ rb 3 _ _ _ hr2
                      have r4 := cell_of_row _ rb 4 _ _ _ hr2
                      have g0 := frozen_of_row _ rb 0 _ _ hr2
                      have g1 := frozen_of_row _ rb 1 _ _ hr2
                      have g2 := frozen_of_row _ rb 2 _ _ hr2
                      have g3 := frozen_of_row _ rb 3 _ _ hr2
                      have g4 := frozen_of_row _ rb 4 _ _ hr2
                      clear hr2
                      go_wp2_with fail
                      exact bodyPost_ret (v := .agg #[.string ⟨#[]⟩, .bool false, .int .i64 100, .int .i64 (p : Int), .int .i64 ((p : Int) + 2)]) (by simp [results, Try.results24, go_sem, r0, r1, r2, r3, r4]) rfl ⟨rfl, HFIN.out w2 _ _ _ _ _ HBEL2.out⟩
                    · have hflI : ¬ (lo : Int) < far := by omega
                      obtain ⟨cnt, hcnt⟩ : ∃ cnt, cnt = t - 124 := ⟨_, rfl⟩
                      have hcI : (t : Int) - 124 = cnt := by omega
                      have hnext : (tokU n (copyOut far cnt o) (p + 3) p).feed ((nb s).drop (p + 3)) = U := by
                        have h := HF4.out
                        rw [if_neg (by rw [HLO.out]; exact hfl), ← hcnt, show p + 2 + 1 = p + 3 by omega] at h
                        exact h
                      have hcl : (copyOut far cnt o).length = lo + cnt := by rw [copyOut_length, HLO.out]
                      have hcn : lo + cnt ≤ n := by omega
                      have HNX := Lib.hid hnext
                      have HCL := Lib.hid hcl
                      have HBC := Lib.hid (copyOut_bytes far cnt o HBO.out)
                      have HPB := Lib.hid (show p + 3 ≤ s.size by omega)
                      have hcnt0 : (0 : Int) ≤ cnt := by omega
                      clear hnext hcl hcnt HF4
                      go_wp2_with fail
                      go_loopw [5, 9] (fun x5 x9 wq => ∃ (j : Nat) (q : List Nat), OwnB wq W1.heap.size x5 q ∧ x9 = .int .i64 (j : Nat) ∧ q.length = lo + j ∧ j ≤ cnt ∧ copyOut far (cnt - j) q = copyOut far cnt o ∧ Below W1.heap.size W1 wq) (fun _ x9 _ => cnt - (intOf x9).toNat)
                      case atStart => exact ⟨0, o, HOWN2.out, rfl, HLO.out, Nat.zero_le _, rfl, HBEL2.out⟩
                      case round =>
                        clear HOWN2 HBEL2
                        obtain ⟨j, q, hown, rfl, hql, hjc, hco, hbel⟩ := hrel
                        have hj0 : (0 : Int) ≤ j := by omega
                        obtain ⟨A5, k5, hv5⟩ := hown.slice
                        by_cases hjl : j < cnt
                        · have hjI : (j : Int) < cnt := by omega
                          obtain ⟨ql, hqe⟩ : ∃ ql, ql = lo + j := ⟨_, rfl⟩
                          obtain ⟨pl, hple⟩ : ∃ pl, pl = ql - far := ⟨_, rfl⟩
                          have hpl1 : pl < ql := by omega
                          have hpl2 : far ≤ ql := by omega
                          obtain ⟨go, rfl, hcx⟩ := hown.cell hv5 pl (by omega)
                          obtain ⟨z, hz⟩ : ∃ z, q.getD pl 0 = z := ⟨_, rfl⟩
                          rw [hz] at hcx
                          have hxx : copyOut far (cnt - (j + 1)) (q ++ [z]) = copyOut far cnt o := by
                            rw [show cnt - j = (cnt - (j + 1)) + 1 by omega, copyOut, hql, ← hqe, ← hple, hz] at hco
                            exact hco
                          rw [hql, ← hqe] at hv5
                          subst hv5
                          have hbt : q.length + [z].length ≤ 140737488355328 := by rw [hql]; simp only [List.length_cons, List.length_nil]; omega
                          have hl2 : (q ++ [z]).length = lo + (j + 1) := by rw [List.length_append, hql]; simp only [List.length_cons, List.length_nil]; omega
                          have d0 : (0 : Int) ≤ pl := by omega
                          have d1 : (pl : Int) < ql := by omega
                          have d2 : (0 : Int) ≤ ql := by omega
                          have hqI : (ql : Int) ≤ 1048576 := by omega
                          have hfI2 : (far : Int) ≤ 1048576 := by omega
                          have e0 : (0 : Int) ≤ (ql : Int) - far := by omega
                          have e1 : (ql : Int) - far < ql := by omega
                          have e2 : ((ql : Int) - far).toNat = pl := by omega
                          have hbs : W1.heap.size ≤ (wr.alloc (.cells #[.int .u8 (z : Int)] 5)).heap.size := by have := hbel.size; simp; omega
                          have HOA := Lib.hid (hown.later ((Below.refl wr.heap.size wr).alloc (Nat.le_refl _) (.cells #[.int .u8 (z : Int)] 5)))
                          have HBA := Lib.hid (hbel.trans (((Below.refl wr.heap.size wr).alloc (Nat.le_refl _) (.cells #[.int .u8 (z : Int)] 5)).mono hbel.size))
                          have HNEW := Lib.hid (one_byte wr z 5)
                          have HBT := Lib.hid hbt
                          have HL2 := Lib.hid hl2
                          have HXX := Lib.hid hxx
                          clear hown hbel hco hz hqe hple hpl1 hpl2 hbt hl2 hxx hql
                          go_wp2_with (at_builtin; refine wpList_app_bytes _ rfl (.tmp 129) (.tmp 131) rfl W1.heap.size _ q rfl HOA.out ⟨wr.heap.size, 0, none⟩ [z] 1 rfl HNEW.out HBT.out hbs ?_; intro v6 w6 ho6 hg6 _; obtain ⟨A6, k6, hv6⟩ := ho6.slice; generalize (q ++ [z]).length = l6 at hv6; subst hv6; have HO6 := Lib.hid ho6; have HB6 := Lib.hid (below_own HBA.out HOA.out hg6); clear ho6 hg6)
                          go_roundw
                          case rel => exact ⟨j + 1, q ++ [z], HO6.out, by go_num, HL2.out, by omega, HXX.out, HB6.out⟩
                          case measure => simp [intOf]; omega
                        · obtain rfl : j = cnt := by omega
                          have hjI : ¬ (j : Int) < j := by omega
                          have hqq : q = copyOut far j o := by rwa [Nat.sub_self] at hco
                          subst hqq
                          rw [hql] at hv5
                          generalize hle : lo + j = le at *
                          subst hv5
                          have HOQ := Lib.hid hown
                          have HBQ := Lib.hid hbel
                          have HLE := Lib.hid hcn
                          clear hown hbel hql hco hle
                          go_wp2_with fail
                          go_roundw
                          case rel => exact ⟨_, p + 3, p, HOQ.out, by go_num, by rw [HCL.out]; exact HLE.out, HPB.out, HBC.out, HBQ.out, HNX.out⟩
                          case measure => simp [intOf]; omega
          · have hatI : ¬ (p : Int) < s.size := by omega
            have hatL : (s.size : Int) ≤ p := by omega
            have hX : U = ⟨s.size, 0, 0, false, n, 8, o, st, [], 0⟩ := by
              rw [← HFE.out, List.drop_eq_nil_of_le (by rw [nb_length]; omega), feed_nil, show p = s.size by omega]
              rfl
            have hRR : R = .agg #[.string ⟨#[]⟩, .bool false, .int .i64 0, .int .i64 0, .int .i64 (s.size : Int)] := by
              rw [← HR.out, hX, gotV_part (whole_no (.inr (by show o.length ≠ n; rw [HLO.out]; omega)))]
              rfl
            subst hRR
            clear hX
            have hr2 := HKEEP.out wr HBEL.out
            have r0 := cell_of_row _ rb 0 _ _ _ hr2
            have r1 := cell_of_row _ rb 1 _ _ _ hr2
            have r2 := cell_of_row _ rb 2 _ _ _ hr2
            have r3 := cell_of_row _ rb 3 _ _ _ hr2
            have r4 := cell_of_row _ rb 4 _ _ _ hr2
            have g0 := frozen_of_row _ rb 0 _ _ hr2
            have g1 := frozen_of_row _ rb 1 _ _ hr2
            have g2 := frozen_of_row _ rb 2 _ _ hr2
            have g3 := frozen_of_row _ rb 3 _ _ hr2
            have g4 := frozen_of_row _ rb 4 _ _ hr2
            clear hr2
            go_wp2_with fail
            exact bodyPost_ret (v := .agg #[.string ⟨#[]⟩, .bool false, .int .i64 0, .int .i64 0, .int .i64 (s.size : Int)]) (by simp [results, Try.results24, go_sem, r0, r1, r2, r3, r4]) rfl ⟨rfl, HFIN.out wr _ _ _ _ _ HBEL.out⟩
        · have hltI : ¬ (lo : Int) < n := by omega
          have hln : lo = n := by omega
          have hcv : (convert 43 9 (.slice A lo kc)).run Try.prog wr = .ok (.string (strOf o)) wr := run_conv_own wr HOWN.out HBO.out
          obtain ⟨z, hz⟩ : ∃ z, strOf o = z := ⟨_, rfl⟩
          rw [hz] at hcv
          by_cases hat : p < s.size
          · have hatI : (p : Int) < s.size := by omega
            have hX : U = ⟨p, 5, p, false, n, 8, o, st, [], 0⟩ := by
              rw [← HFE.out, drop_cons (nb s) p (by rw [nb_length]; exact hat), feed_cons, tok_done n o p st _ (by rw [HLO.out]; exact hln), feed_stop _ (.inr (by decide : (5 : Nat) ≠ 0))]
            have hRR : R = .agg #[.string z, .bool true, .int .i64 5, .int .i64 (p : Int), .int .i64 (p : Int)] := by
              rw [← HR.out, hX, gotV_whole (whole_yes rfl (by show o.length = n; rw [HLO.out]; exact hln))]
              show Value.agg #[.string (strOf o), _, _, _, _] = _
              rw [hz]
              rfl
            subst hRR
            clear hX hat hln hz
            have hr2 := HKEEP.out (wr.alloc (.cells #[.string z, .bool true, .int .i64 5, .int .i64 (p : Int), .int .i64 (p : Int)] 60)) (HBEL.out.trans (((Below.refl wr.heap.size wr).alloc (Nat.le_refl _) _).mono HBEL.out.size))
            have r0 := cell_of_row _ rb 0 _ _ _ hr2
            have r1 := cell_of_row _ rb 1 _ _ _ hr2
            have r2 := cell_of_row _ rb 2 _ _ _ hr2
            have r3 := cell_of_row _ rb 3 _ _ _ hr2
            have r4 := cell_of_row _ rb 4 _ _ _ hr2
            have g0 := frozen_of_row _ rb 0 _ _ hr2
            have g1 := frozen_of_row _ rb 1 _ _ hr2
            have g2 := frozen_of_row _ rb 2 _ _ hr2
            have g3 := frozen_of_row _ rb 3 _ _ hr2
            have g4 := frozen_of_row _ rb 4 _ _ hr2
            clear hr2
            go_wp2_with fail
            exact bodyPost_ret (v := .agg #[.string z, .bool true, .int .i64 5, .int .i64 (p : Int), .int .i64 (p : Int)]) (by simp [results, Try.results24, go_sem, r0, r1, r2, r3, r4]) rfl ⟨rfl, HFIN.out (wr.alloc (.cells #[.string z, .bool true, .int .i64 5, .int .i64 (p : Int), .int .i64 (p : Int)] 60)) _ _ _ _ _ (HBEL.out.trans (((Below.refl wr.heap.size wr).alloc (Nat.le_refl _) _).mono HBEL.out.size))⟩
          · have hatI : ¬ (p : Int) < s.size := by omega
            have hX : U = ⟨p, 0, 0, false, n, 8, o, st, [], 0⟩ := by
              rw [← HFE.out, List.drop_eq_nil_of_le (by rw [nb_length]; omega), feed_nil]
              rfl
            have hRR : R = .agg #[.string z, .bool true, .int .i64 0, .int .i64 0, .int .i64 (p : Int)] := by
              rw [← HR.out, hX, gotV_whole (whole_yes rfl (by show o.length = n; rw [HLO.out]; exact hln))]
              show Value.agg #[.string (strOf o), _, _, _, _] = _
              rw [hz]
              rfl
            subst hRR
            clear hX hat hln hz
            have hr2 := HKEEP.out (wr.alloc (.cells #[.string z, .bool true, .int .i64 0, .int .i64 0, .int .i64 (p : Int)] 60)) (HBEL.out.trans (((Below.refl wr.heap.size wr).alloc (Nat.le_refl _) _).mono HBEL.out.size))
            have r0 := cell_of_row _ rb 0 _ _ _ hr2
            have r1 := cell_of_row _ rb 1 _ _ _ hr2
            have r2 := cell_of_row _ rb 2 _ _ _ hr2
            have r3 := cell_of_row _ rb 3 _ _ _ hr2
            have r4 := cell_of_row _ rb 4 _ _ _ hr2
            have g0 := frozen_of_row _ rb 0 _ _ hr2
            have g1 := frozen_of_row _ rb 1 _ _ hr2
            have g2 := frozen_of_row _ rb 2 _ _ hr2
            have g3 := frozen_of_row _ rb 3 _ _ hr2
            have g4 := frozen_of_row _ rb 4 _ _ hr2
            clear hr2
            go_wp2_with fail
            exact bodyPost_ret (v := .agg #[.string z, .bool true, .int .i64 0, .int .i64 0, .int .i64 (p : Int)]) (by simp [results, Try.results24, go_sem, r0, r1, r2, r3, r4]) rfl ⟨rfl, HFIN.out (wr.alloc (.cells #[.string z, .bool true, .int .i64 0, .int .i64 0, .int .i64 (p : Int)] 60)) _ _ _ _ _ (HBEL.out.trans (((Below.refl wr.heap.size wr).alloc (Nat.le_refl _) _).mono HBEL.out.size))⟩
end Go.Proofs.Ytikbbofjkchppaa

