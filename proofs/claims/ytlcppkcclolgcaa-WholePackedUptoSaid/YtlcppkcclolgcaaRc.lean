/- The walks of a framed word's reader: Feed of one byte, NewReader. -/
import Derived.Test.YtlcppkcclolgcaaRb
namespace Go.Proofs.Ytlcppkcclolgcaa
set_option linter.unusedVariables false
set_option linter.unusedSimpArgs false
open Go.RowKit

def RC.takeB (c : RC) (b : Nat) : RC × Bool :=
  if c.state = 0 then c.head b (8 - c.need) else if c.state = 1 then ({ c with text := c.text ++ [b], need := c.need - 1 }, true)
  else if b = 0 then ({ c with need := c.need - 1 }, true) else ({ c with code := 7, fat := c.taken }, false)
/-- a reader on its way -/
structure RFine (c : RC) : Prop where
  item : c.item = 0
  code : c.code = 0
  taken : c.taken ≤ 10000000
  st : c.state ≤ 2
  n1 : 1 ≤ c.need
  n2 : c.need ≤ 1048576
  h8 : c.state = 0 → c.need ≤ 8
  num0 : c.state = 0 → c.num < 2 ^ (8 * (8 - c.need))
  num1 : c.state ≠ 0 → c.num ≤ 1048576
  tl : c.text.length ≤ 1048576
  tb : Bytes c.text
theorem rtake_any (w0 : World) (S : Nat → Prop) (B g b : Nat) (v : Value) (c : RC) (w : World) (H : RdS w0 S w B g v c) (hb : b < 256) (hf : RFine c) :
    Calls Try.prog 41 #[.pointer (some ⟨g, 0, none⟩), .int .u8 (b : Int)] w fun e w' => e = .returned (.bool (c.takeB b).2) ∧ ∃ v', RdS w0 S w' B g v' (c.takeB b).1 := by
  have h1 := hf.n1
  unfold RC.takeB
  by_cases h0 : c.state = 0
  · rw [if_pos h0]
    have h8 := hf.h8 h0
    exact (rtake_head w0 S B g b (8 - c.need) v c w H hb h0 hf.item (by omega) (by omega) (hf.num0 h0)).mono fun e w' h => ⟨h.1, v, h.2⟩
  · rw [if_neg h0]
    by_cases h1 : c.state = 1
    · rw [if_pos h1]
      exact rtake_text w0 S B g b v c w H hb h1 hf.tl hf.n1 hf.n2
    · rw [if_neg h1]
      have h2 : c.state = 2 := by have := hf.st; omega
      have h := rtake_pad w0 S B g b v c w H hb h2 hf.n1 hf.n2 (by have := hf.taken; omega)
      by_cases hb0 : b = 0
      · rw [if_pos hb0] at h ⊢
        exact h.mono fun e w' h => ⟨by rw [h.1, decide_eq_true hb0], v, h.2⟩
      · rw [if_neg hb0] at h ⊢
        exact h.mono fun e w' h => ⟨by rw [h.1, decide_eq_false hb0], v, h.2⟩
/-- one byte: does the reader go on, and which text is whole -/
def RC.feedB (c : RC) (b : Nat) : RC × Bool × Option ByteArray :=
  if (c.takeB b).2 = false then ((c.takeB b).1, false, none)
  else if 0 < (c.takeB b).1.need then ({ (c.takeB b).1 with taken := c.taken + 1 }, true, none)
  else (({ (c.takeB b).1 with taken := c.taken + 1 } : RC).nextR.1, true, ({ (c.takeB b).1 with taken := c.taken + 1 } : RC).nextR.2)
theorem takeB_facts {c : RC} {b : Nat} (hf : RFine c) (hb : b < 256) : (c.takeB b).1.taken = c.taken ∧ (c.takeB b).1.item = 0 ∧ (c.takeB b).1.state ≤ 2 ∧ (c.takeB b).1.need ≤ 1048576 ∧ Bytes (c.takeB b).1.text ∧
    ((c.takeB b).2 = true → (c.takeB b).1.need = 0 → (c.takeB b).1.num ≤ 1048576) := by
  have h1 := hf.n1
  have h2 := hf.n2
  have h3 := hf.st
  unfold RC.takeB
  by_cases h0 : c.state = 0
  · rw [if_pos h0]
    have h8 := hf.h8 h0
    unfold RC.head
    by_cases hh : 8 - c.need = 7 ∧ 1048576 < c.num + b * 2 ^ (8 * (8 - c.need))
    · rw [if_pos hh]
      exact ⟨rfl, hf.item, h3, h2, hf.tb, fun h => by cases h⟩
    · rw [if_neg hh]
      refine ⟨rfl, hf.item, h3, ?_, hf.tb, fun _ hn => ?_⟩
      · show c.need - 1 ≤ _; omega
      · have hn : c.need - 1 = 0 := hn
        show c.num + _ ≤ _
        rcases Nat.lt_or_ge 1048576 (c.num + b * 2 ^ (8 * (8 - c.need))) with hl | hl
        · exact absurd ⟨by omega, hl⟩ hh
        · exact hl
  · rw [if_neg h0]
    by_cases h1' : c.state = 1
    · rw [if_pos h1']
      refine ⟨rfl, hf.item, h3, ?_, hf.tb.snoc hb, fun _ _ => hf.num1 h0⟩
      show c.need - 1 ≤ _; omega
    · rw [if_neg h1']
      by_cases hb0 : b = 0
      · rw [if_pos hb0]
        refine ⟨rfl, hf.item, h3, ?_, hf.tb, fun _ _ => hf.num1 h0⟩
        show c.need - 1 ≤ _; omega
      · rw [if_neg hb0]
        exact ⟨rfl, hf.item, h3, h2, hf.tb, fun h => by cases h⟩
/-- the items that Feed hands back -/
def FeedV (B : Nat) (x : Value) (w' : World) : Option ByteArray → Prop
  | none => x = .slice none 0 0
  | some s => ∃ k cap, x = .slice (some ⟨k, 0, none⟩) 1 cap ∧ B ≤ k ∧ w'.cell? ⟨k, 2, none⟩ = some (.string s)
def FeedD (w0 : World) (S : Nat → Prop) (B g : Nat) (r : RC × Bool × Option ByteArray) (x : Value) (w' : World) : Prop := FeedV B x w' r.2.2 ∧ ∃ v', RdS w0 S w' B g v' r.1
theorem news_cells (w : World) (cs : List Value) (t : TypeId) : ∀ j u, cs[j]? = some u → (w.alloc (.cells cs.toArray t)).cell? ((⟨w.heap.size, 0, none⟩ : Addr).add j) = some u := by
  intro j u hj
  have hadd : (⟨w.heap.size, 0, none⟩ : Addr).add j = ⟨w.heap.size, j, none⟩ := by unfold Addr.add; split <;> simp_all
  rw [hadd, cell_of_row _ _ _ _ _ _ (heap_alloc_new w _)]
  simpa using hj
theorem none_below {w w' : World} (h : w.grownBy w' (Value.slice none 0 0).ownBlock) : Below w.heap.size w w' :=
  ⟨h.os, h.tape, h.output, h.size, fun i hi => h.block i hi (by simp [Value.ownBlock])⟩
theorem item_row {w : World} {B : Nat} {v : Value} {s : ByteArray} (h : w.ownsRow B 76 3 v (0 + 1) ([] ++ [.bool false, .int .u64 0, .string s])) :
    ∃ k cap, v = .slice (some ⟨k, 0, none⟩) 1 cap ∧ B ≤ k ∧ w.cell? ⟨k, 2, none⟩ = some (.string s) := by
  have hc := h
  obtain ⟨_, ⟨_, h0⟩ | ⟨k, cap, cur, rfl, hb, hg, _⟩⟩ := h
  · omega
  · refine ⟨k, cap, rfl, hb, ?_⟩
    have h2 := hc.cells (g := k) rfl 2 (.string s) rfl
    have hadd : (⟨k, 0, none⟩ : Addr).add 2 = ⟨k, 2, none⟩ := by unfold Addr.add; split <;> simp_all
    rwa [hadd] at h2
set_option maxRecDepth 100000 in
set_option maxHeartbeats 4000000 in
theorem rfeed_any (w0 : World) (S : Nat → Prop) (B g b gb ob cap : Nat) (v : Value) (c : RC) (w : World) (H : RdS w0 S w B g v c) (hb : b < 256) (hf : RFine c) (hcell : w.cell? ⟨gb, ob, none⟩ = some (.int .u8 (b : Int))) :
    Calls Try.prog 25 #[.pointer (some ⟨g, 0, none⟩), .slice (some ⟨gb, ob, none⟩) 1 cap] w fun e w' => ∃ x, e = .returned x ∧ FeedD w0 S B g (c.feedB b) x w' := by
  obtain ⟨r, hr⟩ : ∃ r, c.feedB b = r := ⟨_, rfl⟩
  rw [hr]
  have htf := takeB_facts hf hb
  have hBw : B ≤ w.heap.size := Nat.le_trans H.hB (Nat.le_of_lt H.lt)
  have CS := Lib.hid (stopped_any w0 S B g v c w H hf.code)
  have CT : ∀ wq, RdS w0 S wq B g v c → Calls Try.prog 41 #[.pointer (some ⟨g, 0, none⟩), .int .u8 (b : Int)] wq fun e w' => e = .returned (.bool (c.takeB b).2) ∧ ∃ v', RdS w0 S w' B g v' (c.takeB b).1 := fun wq h => rtake_any w0 S B g b v c wq h hb hf
  have hi := hf.item
  have ht := hf.taken
  unfold RC.feedB at hr
  obtain ⟨q, hq⟩ : ∃ q, c.takeB b = q := ⟨_, rfl⟩
  rw [hq] at CT hr htf
  obtain ⟨c1, ok⟩ := q
  simp only at hr htf CT
  have KT := Lib.hid CT
  clear CT
  have HR := Lib.hid hr
  have HTF := Lib.hid htf
  have HI := Lib.hid hi
  have HH := Lib.hid H
  have hk : (0 : Nat) < 1 := by omega
  have c4 := H.c4
  have c6 := H.c6
  rw [hi] at c6
  replace c6 : w.cell? ⟨g, 6, none⟩ = some (.int .i64 0) := c6
  clear hr htf hi H hf hq
  go_enter Try.func25, Try.ntmps25
  go_wp2_with fail
  go_step3
  go_wp2_with fail
  go_step3
  go_wp2_with fail
  go_loopw [5, 12] (fun x5 x12 wr => (x12 = .int .i64 0 ∧ x5 = .slice none 0 0 ∧ wr = w) ∨ (x12 = .int .i64 1 ∧ FeedD w0 S B g r x5 wr)) (fun _ x12 _ => 1 - (intOf x12).toNat)
  case atStart => exact .inl ⟨rfl, rfl, rfl⟩
  case round =>
    rcases hrel with ⟨rfl, rfl, rfl⟩ | ⟨rfl, hd⟩
    · go_upto_region 6 with (go_at_call 40; refine CS.out.mono ?_; rintro e w' ⟨rfl, rfl⟩)
      go_quiet (fail)
      have H2 := Lib.hid (HH.out.drewN nq)
      generalize wr.drewN nq = w2 at *
      clear c4 c6 CS hcell
      cases ok with
      | false =>
        obtain rfl : r = (c1, false, none) := HR.out.symm.trans (if_pos rfl)
        go_wp2_with (go_at_call 41; refine (KT.out _ H2.out).mono ?_; rintro e w7 ⟨rfl, v7, h7⟩; have H7 := Lib.hid h7; clear h7)
        try rw [Exit.noGoto_ret]
        go_ret
        exact ⟨_, rfl, rfl, v7, H7.out⟩
      | true =>
        have hr := HR.out.symm.trans (if_neg (by simp))
        have HR2 := Lib.hid hr
        clear hr HR
        have ht0 : (0 : Int) ≤ c.taken := by omega
        have ht1 : (c.taken : Int) ≤ 10000000 := by omega
        have hnd0 : (0 : Int) ≤ c1.need := by omega
        go_upto_region 9 with (go_at_call 41; refine (KT.out _ H2.out).mono ?_; rintro e w7 ⟨rfl, v7, h7⟩; have H7 := Lib.hid h7; clear h7)
        have d0 := H7.out.c0
        rw [HTF.out.1] at d0
        have g0 := H7.out.free 0
        have h8 := H7.out.put 0 (.int .i64 ((c.taken + 1 : Nat) : Int)) { c1 with taken := c.taken + 1 } rfl rfl
        rw [Int.natCast_add] at h8
        have H8 := Lib.hid h8
        clear h8
        go_upto_region 10 with fail
        generalize w7.setCell ⟨g, 0, none⟩ (.int .i64 ((c.taken : Int) + 1)) = w8 at *
        clear d0 g0 H7
        have d10 := H8.out.c10
        simp only at d10
        by_cases hp : 0 < c1.need
        · have hpI : (0 : Int) < c1.need := by omega
          obtain rfl : r = ({ c1 with taken := c.taken + 1 }, true, none) := HR2.out.trans (if_pos hp)
          clear hp HR2
          go_wp2_with fail
          go_roundw
          case rel => exact .inr ⟨rfl, rfl, v7, H8.out⟩
          case measure => simp [intOf]
        · have hpI : ¬ (0 : Int) < c1.need := by omega
          have hr := HR2.out.trans (if_neg hp)
          have hBw8 : B ≤ w8.heap.size := Nat.le_trans H8.out.hB (Nat.le_of_lt H8.out.lt)
          have CN := rnext_any w0 S B g v7 _ w8 H8.out HTF.out.2.1 HTF.out.2.2.1 (HTF.out.2.2.2.2.2 (by trivial) (by omega)) HTF.out.2.2.2.2.1 hBw8
          generalize ({ c1 with taken := c.taken + 1 } : RC).nextR = n at *
          obtain ⟨n1, n2⟩ := n
          simp only at hr
          subst hr
          unfold NextP at CN
          cases n2 with
          | none =>
            have KN : Hid (Calls Try.prog 42 #[.pointer (some ⟨g, 0, none⟩)] w8 fun e w' => e = .returned (.tuple #[.agg #[.bool false, .int .u64 0, .string ⟨#[]⟩], .bool false]) ∧ ∃ v', RdS w0 S w' B g v' n1) := Lib.hid CN
            clear CN HR2 hp
            go_wp2_with (go_at_call 42; refine KN.out.mono ?_; rintro e w9 ⟨rfl, v9, h9⟩; have H9 := Lib.hid h9; clear h9)
            go_roundw
            case rel => exact .inr ⟨rfl, rfl, v9, H9.out.later ((Below.refl _ _).alloc (Nat.le_refl _) _)⟩
            case measure => simp [intOf]
          | some s =>
            have KN : Hid (Calls Try.prog 42 #[.pointer (some ⟨g, 0, none⟩)] w8 fun e w' => e = .returned (.tuple #[.agg #[.bool false, .int .u64 0, .string s], .bool true]) ∧ ∃ v', RdS w0 S w' B g v' n1) := Lib.hid CN
            clear CN HR2 hp
            obtain ⟨i0, hi0, hz0, hz1, hz2⟩ := info_parts (show (Try.prog.info? 76).map (fun i => (i.zero, i.size, i.bytes)) = some (some (.agg #[.bool false, .int .u64 0, .string ⟨#[]⟩]), 3, 32) by kernel_rfl)
            go_upto_region 13 with (go_at_call 42; refine KN.out.mono ?_; rintro e w9 ⟨rfl, v9, h9⟩; have H9 := Lib.hid h9; clear h9)
            have hnew : ∀ j u, [Value.bool false, Value.int .u64 0, Value.string s][j]? = some u → ((w9.alloc (.cells #[.bool false, .int .u64 0, .string s] 76)).alloc (.cells #[.bool false, .int .u64 0, .string s] 76)).cell? ((⟨w9.heap.size + 1, 0, none⟩ : Addr).add j) = some u := by
              have h := news_cells (w9.alloc (.cells #[.bool false, .int .u64 0, .string s] 76)) [Value.bool false, Value.int .u64 0, Value.string s] 76
              rwa [show (w9.alloc (.cells #[.bool false, .int .u64 0, .string s] 76)).heap.size = w9.heap.size + 1 by simp] at h
            have hbb : B ≤ ((w9.alloc (.cells #[.bool false, .int .u64 0, .string s] 76)).alloc (.cells #[.bool false, .int .u64 0, .string s] 76)).heap.size := by
              have h1 := H9.out.hB
              have h2 := H9.out.lt
              simp
              omega
            have hone : ∀ u ∈ [Value.bool false, Value.int .u64 0, Value.string s], u.oneCell' = true := by
              intro u hu
              simp only [List.mem_cons, List.not_mem_nil, or_false] at hu
              rcases hu with rfl | rfl | rfl <;> rfl
            have HNEW := Lib.hid hnew
            have HBB := Lib.hid hbb
            have HONE := Lib.hid hone
            clear hnew hbb hone
            go_wp2_with (at_builtin; refine wpList_append_own _ rfl (.tmp 65) (.tmp 67) 67 rfl B 76 i0 (.agg #[.bool false, .int .u64 0, .string ⟨#[]⟩]) 3 32 Try.underlying67 hi0 hz0 hz1 hz2 rfl (by decide) (.slice none 0 0) 0 [] rfl (World.ownsRow_nil _ _ _ _) ⟨w9.heap.size + 1, 0, none⟩ 1 1 [.bool false, .int .u64 0, .string s] rfl rfl HNEW.out HONE.out (by decide) (by decide) HBB.out ?_; intro v5 w5 ho5 hg5 _; have HO5 := Lib.hid ho5; have HG5 := Lib.hid hg5; clear ho5 hg5)
            obtain ⟨k, kc, hv, hB5, hc5⟩ := item_row HO5.out
            subst hv
            go_roundw
            case rel => exact .inr ⟨rfl, ⟨k, kc, rfl, hB5, hc5⟩, v9, ((H9.out.later ((Below.refl _ _).alloc (Nat.le_refl _) _)).later ((Below.refl _ _).alloc (Nat.le_refl _) _)).later (none_below HG5.out)⟩
            case measure => simp [intOf]
    · go_wp2_with fail
      try rw [Exit.noGoto_ret]
      go_ret
      exact ⟨_, rfl, hd⟩
end Go.Proofs.Ytlcppkcclolgcaa

