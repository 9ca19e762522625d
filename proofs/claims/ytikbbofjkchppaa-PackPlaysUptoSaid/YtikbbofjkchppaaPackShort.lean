/- The walk of the law PackShort. -/
import Derived.Test.YtikbbofjkchppaaPackBack
namespace Go.Proofs.Ytikbbofjkchppaa
set_option linter.unusedVariables false
set_option linter.unusedSimpArgs false
open Go.RowKit

theorem close_code (u : US) (h : ¬ u.code = 0) : closeText u = ⟨#[]⟩ ∧ closeCode u = u.code ∧ closeAt u = u.at_ := by
  have hc : u.close = { u with shut := true } := close_shut u (fun q => h q.2.2)
  refine ⟨?_, ?_, ?_⟩
  · rw [closeText, hc, if_neg h]
  · rw [closeCode, hc]
  · rw [closeAt, hc, if_neg h]
theorem close_short (u : US) (h1 : u.shut = false) (h2 : u.code = 0) (h3 : u.whole = false) : closeText u = ⟨#[]⟩ ∧ closeCode u = 4 ∧ closeAt u = u.taken := by
  have hc : u.close = { u.fail 4 u.taken with shut := true } := by rw [US.close, if_pos ⟨h1, h3, h2⟩]
  refine ⟨?_, ?_, ?_⟩
  · rw [closeText, hc, if_neg (by simp [US.fail])]
  · rw [closeCode, hc]; rfl
  · rw [closeAt, hc, if_neg (by simp [US.fail])]; rfl
theorem bl_step {w a b : World} (h : Below w.heap.size w a) (k : Below a.heap.size a b) : Below w.heap.size w b := h.trans (k.mono h.size)
theorem bl_alloc {w a : World} (h : Below w.heap.size w a) (o : Obj) : Below w.heap.size w (a.alloc o) := h.alloc h.size o
/-- a byte more is behind the end -/
theorem trail_text (L : List Nat) (hL : L.length ≤ 1048576) (m : Nat) : closeText (US.new.feed (packL L ++ [m])) = ⟨#[]⟩ ∧ closeCode (US.new.feed (packL L ++ [m])) = 5 ∧ closeAt (US.new.feed (packL L ++ [m])) = (packL L).length := by
  obtain ⟨a, b⟩ := feed_packL L hL
  have he : US.new.feed (packL L ++ [m]) = (US.new.feed (packL L)).fail 5 (US.new.feed (packL L)).taken := by
    rw [feed_append, feed_cons, feed_nil, at_trail a m]
  rw [he, b]
  exact close_code _ (by simp [US.fail])
theorem short_text (L : List Nat) (hL : L.length ≤ 1048576) (hb : Bytes L) (cut : Nat) (hcut : cut < (packL L).length) : closeText (US.new.feed ((packL L).take cut)) = ⟨#[]⟩ ∧ closeCode (US.new.feed ((packL L).take cut)) = 4 ∧ closeAt (US.new.feed ((packL L).take cut)) = cut := by
  obtain ⟨h1, h2, h3⟩ := packL_short L hL hb cut hcut
  have hs : (US.new.feed ((packL L).take cut)).shut = false := (fine_feed _ US.new (fun _ => fine_new) (fun x hx => packL_bytes L hb x (List.mem_of_mem_take hx))).2.1
  have h := close_short _ hs h1 h2
  rw [h3] at h
  exact h
theorem conv_one (W : World) (m : Nat) (hm : m < 256) (c : Nat) (hc : c = 1) : (convert 43 9 (.slice (some ⟨W.heap.size, 0, none⟩) 1 c)).run Try.prog (W.alloc (.cells #[.int .u8 (m : Int)] 5)) = .ok (.string (strOf [m])) (W.alloc (.cells #[.int .u8 (m : Int)] 5)) := by
  subst hc
  exact run_conv_own (base := 0) _ (.inr ⟨W.heap.size, 1, _, (0, 0), rfl, Nat.zero_le _, heap_alloc_new W _, .inl rfl, Nat.le_refl _, by simp [maxLen], rfl, rfl⟩) (fun x hx => by simp at hx; omega)

set_option maxRecDepth 100000 in
set_option maxHeartbeats 4000000 in
theorem short_law (s : ByteArray) (hs : s.size ≤ 140737488351232) (cut : Int) (hc : (Lit.int .i64 cut).wf = true) (more : Int) (hm : (Lit.int .u8 more).wf = true) (w : World) : Calls Try.prog 8 #[.string s, .int .i64 cut, .int .u8 more] w fun e w' => e = .returned (.bool true) ∧ Below w.heap.size w w' := by
  have bc : -9223372036854775808 ≤ cut ∧ cut ≤ 9223372036854775807 := by
    simp [Lit.wf, IntKind.min, IntKind.max, IntKind.signed, IntKind.bits] at hc
    omega
  have bm : 0 ≤ more ∧ more < 256 := by
    simp [Lit.wf, IntKind.min, IntKind.max, IntKind.signed, IntKind.bits] at hm
    omega
  obtain ⟨m, rfl⟩ : ∃ m : Nat, more = m := ⟨more.toNat, by omega⟩
  clear hc hm
  by_cases hsm : s.size ≤ 1048576
  · obtain ⟨p, hp⟩ : ∃ p, strOf (packL (nb s)) = p := ⟨_, rfl⟩
    have hL : (nb s).length ≤ 1048576 := by rw [nb_length]; exact hsm
    have hroom := packL_room (nb s)
    have hps : p.size = (packL (nb s)).length := by rw [← hp, strOf_size]
    have hnbp : nb p = packL (nb s) := by rw [← hp, nb_strOf _ (packL_bytes _ (nb_bytes s))]
    rw [nb_length] at hroom
    rw [← hps] at hroom
    have hpp : ∀ W, Calls Try.prog 16 #[.string s] W fun e w' => e = .returned (.tuple #[.string p, .int .i64 0]) ∧ Below W.heap.size W w' := fun W => by
      have h := pack_any s W hsm
      rw [hp] at h
      exact h
    have hq : nb (p ++ strOf [m]) = packL (nb s) ++ [m] := by rw [nb_append, hnbp, nb_strOf [m] (fun x hx => by simp at hx; omega)]
    have h1s : (strOf [m]).size = 1 := by rw [strOf_size]; rfl
    have huu : ∀ W, Calls Try.prog 18 #[.string (p ++ strOf [m])] W fun e w' => e = .returned (.tuple #[.string ⟨#[]⟩, .agg #[.int .i64 5, .int .i64 (p.size : Int)]]) ∧ Below W.heap.size W w' := fun W => by
      have h := unpack_any (p ++ strOf [m]) W (by rw [ByteArray.size_append, h1s]; omega)
      obtain ⟨u1, u2, u3⟩ := trail_text (nb s) hL m
      rw [hq, u1, u2, u3, ← hps] at h
      exact h
    have hcv := fun W => conv_one W m (by omega) 1 rfl
    have hadd : (p.size : Int) + (strOf [m]).size < 9223372036854775808 := by rw [h1s]; omega
    have hp0 : (0 : Int) ≤ p.size := by omega
    have hpI : (p.size : Int) ≤ 2000000 := by omega
    have HP := Lib.hid hpp
    have HU := Lib.hid huu
    have HSH := Lib.hid (short_text (nb s) hL (nb_bytes s))
    have HNB := Lib.hid hnbp
    have HPS := Lib.hid hps
    clear hp hps hpp huu hroom hsm hs hL hq hnbp h1s
    by_cases hcc : cut < 0 ∨ (p.size : Int) ≤ cut
    · rcases hcc with hcc | hcc
      · have hd : decide (cut < 0) = true := by simpa using hcc
        go_enter Try.func8, Try.ntmps8
        go_wp2_with (first | (go_at_call 15; refine (awake_any _).mono ?_; rintro e w1 ⟨rfl, h1⟩; have H1 := Lib.hid h1; clear h1) | (go_at_call 16; refine (HP.out _).mono ?_; rintro e w2 ⟨rfl, h2⟩; have H2 := Lib.hid h2; clear h2) | (go_at_call 18; refine (HU.out _).mono ?_; rintro e w3 ⟨rfl, h3⟩; have H3 := Lib.hid h3; clear h3))
        go_ret
        exact ⟨rfl, bl_alloc (bl_step (bl_alloc (bl_step H1.out H2.out) _) H3.out) _⟩
      · have hc0 : ¬ cut < 0 := by omega
        · obtain ⟨c, rfl⟩ : ∃ c : Nat, cut = c := ⟨cut.toNat, by omega⟩
          have hd : decide ((c : Int) < 0) = false := by simp
          have hd2 : decide ((p.size : Int) ≤ (c : Int)) = true := by simpa using hcc
          have hd3 : decide (p.size ≤ c) = true := by simp; omega
          clear hc0
          go_enter Try.func8, Try.ntmps8
          go_wp2_with (first | (go_at_call 15; refine (awake_any _).mono ?_; rintro e w1 ⟨rfl, h1⟩; have H1 := Lib.hid h1; clear h1) | (go_at_call 16; refine (HP.out _).mono ?_; rintro e w2 ⟨rfl, h2⟩; have H2 := Lib.hid h2; clear h2) | (go_at_call 18; refine (HU.out _).mono ?_; rintro e w3 ⟨rfl, h3⟩; have H3 := Lib.hid h3; clear h3))
          go_ret
          exact ⟨rfl, bl_alloc (bl_step (bl_alloc (bl_step H1.out H2.out) _) H3.out) _⟩
    · have hc0 : 0 ≤ cut := by omega
      have hc1 : cut < (p.size : Int) := by omega
      obtain ⟨c, rfl⟩ : ∃ c : Nat, cut = c := ⟨cut.toNat, by omega⟩
      have hcl : c < (packL (nb s)).length := by have := HPS.out; omega
      obtain ⟨u1, u2, u3⟩ := HSH.out c hcl
      have hne : nb (p.extract 0 c) = (packL (nb s)).take c := by
        rw [nb_extract p 0 c (by have := HPS.out; omega), HNB.out]
        simp
      have hex : (p.extract 0 c).size ≤ 140737488351232 := by rw [ByteArray.size_extract]; omega
      have hv : ∀ W, Calls Try.prog 18 #[.string (p.extract 0 c)] W fun e w' => e = .returned (.tuple #[.string ⟨#[]⟩, .agg #[.int .i64 4, .int .i64 (c : Int)]]) ∧ Below W.heap.size W w' := fun W => by
        have h := unpack_any (p.extract 0 c) W hex
        rw [hne, u1, u2, u3] at h
        exact h
      have HV := Lib.hid hv
      have hd : decide ((c : Int) < 0) = false := by simp
      have hd2 : decide ((p.size : Int) ≤ (c : Int)) = false := by simp; omega
      have hd3 : decide (p.size ≤ c) = false := by simp; omega
      have hcl2 : (c : Int) ≤ p.size := by omega
      clear hv hex hne u1 u2 u3 hcl hcc HSH HNB HPS
      go_enter Try.func8, Try.ntmps8
      go_upto_region 9 with (first | (go_at_call 15; refine (awake_any _).mono ?_; rintro e w1 ⟨rfl, h1⟩; have H1 := Lib.hid h1; clear h1) | (go_at_call 16; refine (HP.out _).mono ?_; rintro e w2 ⟨rfl, h2⟩; have H2 := Lib.hid h2; clear h2) | (go_at_call 18; refine (HU.out _).mono ?_; rintro e w3 ⟨rfl, h3⟩; have H3 := Lib.hid h3; clear h3))
      go_wp2_with (go_at_call 18; refine (HV.out _).mono ?_; rintro e w4 ⟨rfl, h4⟩; have H4 := Lib.hid h4; clear h4)
      go_ret
      exact ⟨rfl, bl_alloc (bl_step (bl_alloc (bl_step (bl_alloc (bl_step H1.out H2.out) _) H3.out) _) H4.out) _⟩
  · have HP := Lib.hid (fun W => pack_big s W hsm)
    clear hsm hs
    go_enter Try.func8, Try.ntmps8
    go_wp2_with (first | (go_at_call 15; refine (awake_any _).mono ?_; rintro e w1 ⟨rfl, h1⟩; have H1 := Lib.hid h1; clear h1) | (go_at_call 16; refine (HP.out _).mono ?_; rintro e w2 ⟨rfl, h2⟩; have H2 := Lib.hid h2; clear h2))
    go_ret
    exact ⟨rfl, bl_step H1.out H2.out⟩
end Go.Proofs.Ytikbbofjkchppaa

