/- An unpacker in memory. The walk of the unpacker's begin. The walk of the unpacker's copy. The walk of the unpacker's take. The walks of the unpacker's Feed, NewUnpacker, Taken, Fault. The walks of the unpacker's Close and of Unpack. The walk of Unpack. Plain facts for WholePacked: the packed bytes, fed in parts, are all taken. The walk of WholePacked. -/
import Derived.Test.YtlcppkcclolgcaaOwn
import Derived.Test.YtlcppkcclolgcaaKBb
import Derived.IntWalk
import Derived.Deep.DeepCutAuto
import Derived.Test.YtlcppkcclolgcaaWLast
import Derived.Deep.CutRange
import Derived.Laws.BitsAllLaws
import Derived.Test.YtlcppkcclolgcaaQm
import Derived.Test.YtlcppkcclolgcaaKBa
namespace Go.Proofs.Ytlcppkcclolgcaa.Pk
set_option maxRecDepth 20000
set_option linter.unusedVariables false
set_option linter.unusedSimpArgs false
open Go.RowKit

/-- w is w0 but for the blocks in S and new ones -/
structure Far (w0 : World) (S : Nat → Prop) (w : World) : Prop where
  os : w.os = w0.os
  tape : w.tape = w0.tape
  output : w.output = w0.output
  size : w0.heap.size ≤ w.heap.size
  block : ∀ k, k < w0.heap.size → ¬ S k → w.heap[k]? = w0.heap[k]?
theorem Far.refl (w : World) (S : Nat → Prop) : Far w S w := ⟨rfl, rfl, rfl, Nat.le_refl _, fun _ _ _ => rfl⟩
theorem Far.of_below {w0 w : World} {S : Nat → Prop} (h : Below w0.heap.size w0 w) : Far w0 S w := ⟨h.os, h.tape, h.output, h.size, fun k hk _ => h.block k hk⟩
theorem Far.below {w0 w : World} (h : Far w0 (fun _ => False) w) : Below w0.heap.size w0 w := ⟨h.os, h.tape, h.output, h.size, fun k hk => h.block k hk id⟩
theorem Far.later {w0 w w' : World} {S : Nat → Prop} (h : Far w0 S w) (hb : Below w.heap.size w w') : Far w0 S w' :=
  ⟨hb.os.trans h.os, hb.tape.trans h.tape, hb.output.trans h.output, Nat.le_trans h.size hb.size, fun k hk hs => (hb.block k (Nat.lt_of_lt_of_le hk h.size)).trans (h.block k hk hs)⟩
theorem Far.grown {w0 w w' : World} {S : Nat → Prop} {row : Option Nat} (h : Far w0 S w) (hg : w.grownBy w' row) (hr : ∀ k, row = some k → k < w0.heap.size → S k) : Far w0 S w' :=
  ⟨hg.os.trans h.os, hg.tape.trans h.tape, hg.output.trans h.output, Nat.le_trans h.size hg.size, fun k hk hs => (hg.block k (Nat.lt_of_lt_of_le hk h.size) (fun e => hs (hr k e.symm hk))).trans (h.block k hk hs)⟩
theorem Far.drew {w0 w : World} {S : Nat → Prop} (h : Far w0 S w) : Far w0 S w.drew := ⟨h.os, h.tape, h.output, h.size, h.block⟩

def ucells (u : US) (vo vt : Value) : Array Value := #[.int .i64 (u.taken : Nat), .int .i64 (u.code : Nat), .int .i64 (u.at_ : Nat), .bool u.shut, .int .u64 (u.size : Nat), .int .i64 (u.head : Nat), vo, .int .i64 (u.start : Nat), vt, .int .i64 (u.plain : Nat)]
/-- block g is an unpacker that stands as u says; since w0 only blocks in S have changed -/
structure UkS (w0 : World) (S : Nat → Prop) (w : World) (g : Nat) (vo vt : Value) (u : US) : Prop where
  row : w.heap[g]? = some (.cells (ucells u vo vt) 100 (0, 0))
  oo : OwnB w 0 vo u.out
  ot : OwnB w 0 vt u.token
  ne : ∀ k, vo.ownBlock = some k → vt.ownBlock ≠ some k
  far : Far w0 S w
  sg : g < w0.heap.size → S g
  so : ∀ k, vo.ownBlock = some k → k < w0.heap.size → S k
  st : ∀ k, vt.ownBlock = some k → k < w0.heap.size → S k
/-- the blocks of an unpacker -/
def Mine (g : Nat) (vo vt : Value) (k : Nat) : Prop := k = g ∨ vo.ownBlock = some k ∨ vt.ownBlock = some k
section
variable {w0 w w' : World} {S : Nat → Prop} {g : Nat} {vo vt : Value} {u : US}
theorem UkS.cell (H : UkS w0 S w g vo vt u) (i : Nat) : w.cell? ⟨g, i, none⟩ = (ucells u vo vt)[i]? := cell_of_row w g i _ _ _ H.row
theorem UkS.free (H : UkS w0 S w g vo vt u) (i : Nat) : w.frozen? ⟨g, i, none⟩ = false := frozen_of_row w g i _ _ H.row
theorem UkS.lt (H : UkS w0 S w g vo vt u) : g < w.heap.size := lt_of_row H.row
theorem own_ne {v : Value} {xs : List Nat} {cs : Array Value} {t : TypeId} (h : OwnB w 0 v xs) (hg : w.heap[g]? = some (.cells cs t (0, 0))) (ht : t ≠ 5) : v.ownBlock ≠ some g := by
  rcases h with ⟨rfl, _⟩ | ⟨g', cap, cur, fz, rfl, _, hg', _⟩
  · simp [Value.ownBlock]
  · intro e
    simp only [Value.ownBlock, Option.some.injEq] at e
    subst e
    rw [hg] at hg'
    simp only [Option.some.injEq, Obj.cells.injEq] at hg'
    exact ht hg'.2.1
theorem UkS.vog (H : UkS w0 S w g vo vt u) : vo.ownBlock ≠ some g := own_ne H.oo H.row (by decide)
theorem UkS.vtg (H : UkS w0 S w g vo vt u) : vt.ownBlock ≠ some g := own_ne H.ot H.row (by decide)
theorem UkS.later (H : UkS w0 S w g vo vt u) (hb : Below w.heap.size w w') : UkS w0 S w' g vo vt u :=
  ⟨(hb.block _ H.lt).trans H.row, H.oo.later hb, H.ot.later hb, H.ne, H.far.later hb, H.sg, H.so, H.st⟩
theorem UkS.drew (H : UkS w0 S w g vo vt u) : UkS w0 S w.drew g vo vt u := H.later (Below.refl _ _).drew
theorem UkS.rebase (H : UkS w0 S w g vo vt u) : UkS w (Mine g vo vt) w g vo vt u :=
  ⟨H.row, H.oo, H.ot, H.ne, Far.refl _ _, fun _ => .inl rfl, fun k e _ => .inr (.inl e), fun k e _ => .inr (.inr e)⟩
theorem UkS.mine (H : UkS w0 S w g vo vt u) {k : Nat} (h : Mine g vo vt k) : k < w.heap.size ∧ (k < w0.heap.size → S k) := by
  rcases h with rfl | h | h
  · exact ⟨H.lt, H.sg⟩
  · exact ⟨(H.oo.lt k h).2, H.so k h⟩
  · exact ⟨(H.ot.lt k h).2, H.st k h⟩
theorem UkS.join {vo' vt' : Value} {u' : US} (H : UkS w0 S w g vo vt u) (H' : UkS w (Mine g vo vt) w' g vo' vt' u') : UkS w0 S w' g vo' vt' u' := by
  have hs : ∀ k, Mine g vo' vt' k → k < w0.heap.size → S k := fun k hk hl => (H.mine ((H'.mine hk).2 (Nat.lt_of_lt_of_le hl H.far.size))).2 hl
  refine ⟨H'.row, H'.oo, H'.ot, H'.ne, ⟨H'.far.os.trans H.far.os, H'.far.tape.trans H.far.tape, H'.far.output.trans H.far.output, Nat.le_trans H.far.size H'.far.size, fun k hk hn => ?_⟩, hs g (.inl rfl), fun k e => hs k (.inr (.inl e)), fun k e => hs k (.inr (.inr e))⟩
  exact (H'.far.block k (Nat.lt_of_lt_of_le hk H.far.size) (fun hm => hn ((H.mine hm).2 hk))).trans (H.far.block k hk hn)
theorem UkS.put (H : UkS w0 S w g vo vt u) (i : Nat) (x : Value) (u' : US) (hc : (ucells u vo vt).setIfInBounds i x = ucells u' vo vt) (ho : u'.out = u.out) (ht : u'.token = u.token) : UkS w0 S (w.setCell ⟨g, i, none⟩ x) g vo vt u' := by
  have hset : w.grownBy (w.setCell ⟨g, i, none⟩ x) (some g) := only_setG (World.grownBy.refl w _) i _
  refine ⟨?_, by rw [ho]; exact H.oo.kept hset (.inr H.vog), by rw [ht]; exact H.ot.kept hset (.inr H.vtg), H.ne, H.far.grown hset (fun k e hk => by injection e with e; subst e; exact H.sg hk), H.sg, H.so, H.st⟩
  rw [heap_setCell_same w g i _ _ _ H.row, hc]
theorem UkS.putOut {w1 : World} {vo' : Value} {out' : List Nat} (H : UkS w0 S w g vo vt u) (ho : OwnB w1 0 vo' out') (hg : w.grownBy w1 vo.ownBlock) (hat : vo'.ownBlock = vo.ownBlock ∨ vo'.ownBlock = some w.heap.size) : UkS w0 S (w1.setCell ⟨g, 6, none⟩ vo') g vo' vt { u with out := out' } := by
  have hrow1 : w1.heap[g]? = some (.cells (ucells u vo vt) 100 (0, 0)) := (hg.block _ H.lt (fun e => H.vog e.symm)).trans H.row
  have hset : w1.grownBy (w1.setCell ⟨g, 6, none⟩ vo') (some g) := only_setG (World.grownBy.refl w1 _) 6 _
  have hot1 : OwnB w1 0 vt u.token := H.ot.kept hg (by
    cases hv : vt.ownBlock with
    | none => exact .inl rfl
    | some k => exact .inr (fun e => H.ne k e.symm hv))
  have hl := H.far.size
  refine ⟨?_, ho.kept hset (.inr (own_ne ho hrow1 (by decide))), hot1.kept hset (.inr H.vtg), fun k e e2 => ?_, (H.far.grown hg (fun k e hk => H.so k e hk)).grown hset (fun k e hk => by injection e with e; subst e; exact H.sg hk), H.sg, fun k e hk => ?_, H.st⟩
  · rw [heap_setCell_same w1 g 6 _ _ _ hrow1]
    rfl
  · rcases hat with h | h
    · exact H.ne k (h.symm.trans e) e2
    · rw [e] at h
      injection h with h
      have := (H.ot.lt k e2).2
      omega
  · rcases hat with h | h
    · exact H.so k (h.symm.trans e) hk
    · rw [e] at h
      injection h with h
      omega
theorem UkS.putTok {w1 : World} {vt' : Value} {tok' : List Nat} (H : UkS w0 S w g vo vt u) (ho : OwnB w1 0 vt' tok') (hg : w.grownBy w1 vt.ownBlock) (hat : vt'.ownBlock = vt.ownBlock ∨ vt'.ownBlock = some w.heap.size) : UkS w0 S (w1.setCell ⟨g, 8, none⟩ vt') g vo vt' { u with token := tok' } := by
  have hrow1 : w1.heap[g]? = some (.cells (ucells u vo vt) 100 (0, 0)) := (hg.block _ H.lt (fun e => H.vtg e.symm)).trans H.row
  have hset : w1.grownBy (w1.setCell ⟨g, 8, none⟩ vt') (some g) := only_setG (World.grownBy.refl w1 _) 8 _
  have hot1 : OwnB w1 0 vo u.out := H.oo.kept hg (by
    cases hv : vo.ownBlock with
    | none => exact .inl rfl
    | some k => exact .inr (fun e => H.ne k hv e.symm))
  have hl := H.far.size
  refine ⟨?_, hot1.kept hset (.inr H.vog), ho.kept hset (.inr (own_ne ho hrow1 (by decide))), fun k e e2 => ?_, (H.far.grown hg (fun k e hk => H.st k e hk)).grown hset (fun k e hk => by injection e with e; subst e; exact H.sg hk), H.sg, H.so, fun k e hk => ?_⟩
  · rw [heap_setCell_same w1 g 8 _ _ _ hrow1]
    rfl
  · rcases hat with h | h
    · exact H.ne k e (h.symm.trans e2)
    · rw [e2] at h
      injection h with h
      have := (H.oo.lt k e).2
      omega
  · rcases hat with h | h
    · exact H.st k (h.symm.trans e) hk
    · rw [e] at h
      injection h with h
      omega
theorem UkS.cutTok {A : Option Addr} {c : Nat} (H : UkS w0 S w g vo vt u) (hv : vt = .slice A u.token.length c) : UkS w0 S (w.setCell ⟨g, 8, none⟩ (.slice A 0 c)) g vo (.slice A 0 c) { u with token := [] } := by
  refine H.putTok (H.ot.cut hv) (World.grownBy.refl w _) (.inl ?_)
  rw [hv]
  cases A <;> rfl
theorem UkS.fresh (w : World) : UkS w (fun _ => False) (w.alloc (.cells #[.int .i64 0, .int .i64 0, .int .i64 0, .bool false, .int .u64 0, .int .i64 0, .slice none 0 0, .int .i64 0, .slice none 0 0, .int .i64 0] 100)) w.heap.size (.slice none 0 0) (.slice none 0 0) US.new :=
  ⟨heap_alloc_new _ _, OwnB.nil _ _, OwnB.nil _ _, fun k e => by simp [Value.ownBlock] at e, Far.of_below ((Below.refl _ _).alloc (Nat.le_refl _) _), fun h => absurd h (Nat.lt_irrefl _), fun k e => by simp [Value.ownBlock] at e, fun k e => by simp [Value.ownBlock] at e⟩
theorem UkS.c0 (H : UkS w0 S w g vo vt u) : w.cell? ⟨g, 0, none⟩ = some (.int .i64 (u.taken : Nat)) := H.cell 0
theorem UkS.c1 (H : UkS w0 S w g vo vt u) : w.cell? ⟨g, 1, none⟩ = some (.int .i64 (u.code : Nat)) := H.cell 1
theorem UkS.c2 (H : UkS w0 S w g vo vt u) : w.cell? ⟨g, 2, none⟩ = some (.int .i64 (u.at_ : Nat)) := H.cell 2
theorem UkS.c3 (H : UkS w0 S w g vo vt u) : w.cell? ⟨g, 3, none⟩ = some (.bool u.shut) := H.cell 3
theorem UkS.c4 (H : UkS w0 S w g vo vt u) : w.cell? ⟨g, 4, none⟩ = some (.int .u64 (u.size : Nat)) := H.cell 4
theorem UkS.c5 (H : UkS w0 S w g vo vt u) : w.cell? ⟨g, 5, none⟩ = some (.int .i64 (u.head : Nat)) := H.cell 5
theorem UkS.c6 (H : UkS w0 S w g vo vt u) : w.cell? ⟨g, 6, none⟩ = some vo := H.cell 6
theorem UkS.c7 (H : UkS w0 S w g vo vt u) : w.cell? ⟨g, 7, none⟩ = some (.int .i64 (u.start : Nat)) := H.cell 7
theorem UkS.c8 (H : UkS w0 S w g vo vt u) : w.cell? ⟨g, 8, none⟩ = some vt := H.cell 8
theorem UkS.c9 (H : UkS w0 S w g vo vt u) : w.cell? ⟨g, 9, none⟩ = some (.int .i64 (u.plain : Nat)) := H.cell 9
end

/-! ### fail -/
set_option maxRecDepth 100000 in
set_option maxHeartbeats 2000000 in
theorem fail_any (w0 : World) (S : Nat → Prop) (g c a : Nat) (vo vt : Value) (u : US) (w : World) (H : UkS w0 S w g vo vt u) :
    Calls Try.prog 37 #[.pointer (some ⟨g, 0, none⟩), .int .i64 (c : Int), .int .i64 (a : Int)] w fun e w' => e = .returned (.bool false) ∧ UkS w0 S w' g vo vt (u.fail c a) := by
  have c1 := H.c1
  have c2 := H.c2
  have f1 := H.free 1
  have f2 := H.free 2
  have hfin : UkS w0 S ((w.setCell ⟨g, 1, none⟩ (.int .i64 (c : Int))).setCell ⟨g, 2, none⟩ (.int .i64 (a : Int))) g vo vt (u.fail c a) := (H.put 1 _ { u with code := c } rfl rfl rfl).put 2 _ _ rfl rfl rfl
  have HF := Lib.hid hfin
  clear H hfin
  go_enter Try.func37, Try.ntmps37
  go_wp2_with fail
  go_ret
  exact ⟨rfl, HF.out⟩
end Go.Proofs.Ytlcppkcclolgcaa.Pk

namespace Go.Proofs.Ytlcppkcclolgcaa.Pk
set_option maxRecDepth 20000
set_option linter.unusedVariables false
set_option linter.unusedSimpArgs false
open Go.RowKit

theorem UkS.drewN {w0 w : World} {S : Nat → Prop} {g : Nat} {vo vt : Value} {u : US} (H : UkS w0 S w g vo vt u) (n : Nat) : UkS w0 S (w.drewN n) g vo vt u :=
  H.later ⟨rfl, rfl, rfl, Nat.le_refl _, fun _ _ => rfl⟩
theorem one_byte (w : World) (c : Nat) (t : TypeId) : ∀ j u, (cl .u8 [c])[j]? = some u → (w.alloc (.cells #[.int .u8 (c : Int)] t)).cell? ((⟨w.heap.size, 0, none⟩ : Addr).add j) = some u := news_bytes w [c] t

set_option maxRecDepth 100000 in
set_option maxHeartbeats 4000000 in
theorem begin_any (w0 : World) (S : Nat → Prop) (g c : Nat) (vo vt : Value) (u : US) (w : World) (H : UkS w0 S w g vo vt u) (hc : c < 256) (hs : u.size ≤ 1048576) (ho : u.out.length ≤ u.size) (ht : u.token.length < 3) :
    Calls Try.prog 55 #[.pointer (some ⟨g, 0, none⟩), .int .u8 (c : Int)] w fun e w' => e = .returned (.bool (u.begin c).2) ∧ ∃ vo' vt', UkS w0 S w' g vo' vt' (u.begin c).1 := by
  obtain ⟨r, hr⟩ : ∃ r, u.begin c = r := ⟨_, rfl⟩
  rw [hr]
  have HR := Lib.hid hr
  clear hr
  obtain ⟨lo, hlo⟩ : ∃ lo, u.out.length = lo := ⟨_, rfl⟩
  obtain ⟨A6, k6, hv6⟩ := H.oo.slice
  rw [hlo] at hv6 ho
  have H1 := H.put 7 (.int .i64 (u.taken : Nat)) { u with start := u.taken } rfl rfl rfl
  have c0 := H.c0
  have c7 := H.c7
  have f7 := H.free 7
  have HS1 := Lib.hid H1
  have HLO := Lib.hid hlo
  have HV6 := Lib.hid hv6
  clear H1 H hlo hv6
  go_enter Try.func55, Try.ntmps55
  go_upto_region 2 with fail
  generalize w.setCell ⟨g, 7, none⟩ (.int .i64 (u.taken : Nat)) = w1 at *
  clear c0 c7 f7
  have c4 := HS1.out.c4
  have c6 := HS1.out.c6
  rw [HV6.out] at c6
  simp only at c4
  have hsI : (u.size : Int) ≤ 1048576 := by omega
  have hs0 : (0 : Int) ≤ u.size := by omega
  have ho0 : (0 : Int) ≤ lo := by omega
  have hoI : (lo : Int) ≤ u.size := by omega
  have hc0 : (0 : Int) ≤ c := by omega
  have hcI : (c : Int) < 256 := by omega
  by_cases h8 : 128 ≤ c
  · have h8I : (128 : Int) ≤ c := by omega
    have hl := lenOf_hi h8
    have HL := Lib.hid hl
    clear hl
    by_cases hn : u.size - lo < c - 124
    · have hnI : (u.size : Int) - lo < c - 128 + 4 := by omega
      have hres : r = (({ u with start := u.taken } : US).fail 101 u.taken, false) := by
        rw [← HR.out, US.begin, HL.out, HLO.out, if_pos hn]
      have HRES := Lib.hid hres
      clear hres
      go_upto_region 5 with fail
      go_quiet (fail)
      have HQ := Lib.hid (HS1.out.drewN nq)
      generalize w1.drewN nq = w2 at *
      have c7 := HQ.out.c7
      go_wp2_with (go_at_call 37; refine (fail_any w0 S g 101 u.taken vo vt _ _ HQ.out).mono ?_; rintro e w3 ⟨rfl, hf⟩; have HF := Lib.hid hf; clear hf)
      go_ret
      rw [HRES.out]
      exact ⟨rfl, _, _, HF.out⟩
    · have hnI : ¬ (u.size : Int) - lo < c - 128 + 4 := by omega
      have hres : r = ({ u with start := u.taken, token := u.token ++ [c] }, true) := by
        rw [← HR.out, US.begin, HL.out, HLO.out, if_neg hn, if_pos h8]
      have HRES := Lib.hid hres
      clear hres
      go_upto_region 5 with fail
      go_quiet (fail)
      have HQ := Lib.hid (HS1.out.drewN nq)
      generalize w1.drewN nq = w2 at *
      have hot := HQ.out.ot.later ((Below.refl w2.heap.size w2).alloc (Nat.le_refl _) (.cells #[.int .u8 (c : Int)] 5))
      have hqa := HQ.out.later ((Below.refl w2.heap.size w2).alloc (Nat.le_refl _) (.cells #[.int .u8 (c : Int)] 5))
      have hbt : u.token.length + [c].length ≤ 140737488355328 := by simp only [List.length_cons, List.length_nil]; omega
      have hnew := one_byte w2 c 5
      obtain ⟨A8, k8, hv8⟩ := HQ.out.ot.slice
      simp only at hv8
      generalize hl8 : u.token.length = l8 at hv8
      have c8 := HQ.out.c8
      rw [hv8] at c8
      have HOT := Lib.hid hot
      have HQA := Lib.hid hqa
      have HBT := Lib.hid hbt
      have HNEW := Lib.hid hnew
      have HV8 := Lib.hid hv8
      have HL8 := Lib.hid hl8
      clear hot hqa hbt hnew hv8 hl8
      go_wp2_with (at_builtin; refine wpList_app_bytes _ rfl (.tmp 48) (.tmp 50) rfl 0 vt u.token (by first | exact HV8.out.symm | rfl) HOT.out ⟨w2.heap.size, 0, none⟩ [c] 1 rfl HNEW.out HBT.out (Nat.zero_le _) ?_; intro v5 w5 ho5 hg5 ha5; obtain ⟨A5, k5, hv5⟩ := ho5.slice; generalize (u.token ++ [c]).length = l5 at hv5; subst hv5; have hrow5 := (hg5.block _ HQA.out.lt (fun e => HQA.out.vtg e.symm)).trans HQA.out.row; have c85 := cell_of_row w5 g 8 _ _ _ hrow5; have f85 := frozen_of_row w5 g 8 _ _ hrow5; have hst := HQA.out.putTok ho5 hg5 ha5; have HS5 := Lib.hid hst; clear ho5 hg5 ha5 hrow5 hst)
      go_ret
      rw [HRES.out]
      exact ⟨rfl, _, _, HS5.out⟩
  · have h8I : ¬ (128 : Int) ≤ c := by omega
    have hl := lenOf_lo (c := c) (by omega)
    have HL := Lib.hid hl
    clear hl
    by_cases hn : u.size - lo < c + 1
    · have hnI : (u.size : Int) - lo < c + 1 := by omega
      have hres : r = (({ u with start := u.taken } : US).fail 101 u.taken, false) := by
        rw [← HR.out, US.begin, HL.out, HLO.out, if_pos hn]
      have HRES := Lib.hid hres
      clear hres
      go_upto_region 5 with fail
      go_quiet (fail)
      have HQ := Lib.hid (HS1.out.drewN nq)
      generalize w1.drewN nq = w2 at *
      have c7 := HQ.out.c7
      go_wp2_with (go_at_call 37; refine (fail_any w0 S g 101 u.taken vo vt _ _ HQ.out).mono ?_; rintro e w3 ⟨rfl, hf⟩; have HF := Lib.hid hf; clear hf)
      go_ret
      rw [HRES.out]
      exact ⟨rfl, _, _, HF.out⟩
    · have hnI : ¬ (u.size : Int) - lo < c + 1 := by omega
      have hres : r = ({ u with start := u.taken, plain := c + 1 }, true) := by
        rw [← HR.out, US.begin, HL.out, HLO.out, if_neg hn, if_neg h8]
      have HRES := Lib.hid hres
      clear hres
      go_upto_region 5 with fail
      go_quiet (fail)
      have HQ := Lib.hid (HS1.out.drewN nq)
      generalize w1.drewN nq = w2 at *
      have hst := HQ.out.put 9 (.int .i64 ((c + 1 : Nat) : Int)) { u with start := u.taken, plain := c + 1 } rfl rfl rfl
      rw [Int.natCast_add] at hst
      have c9 := HQ.out.c9
      have f9 := HQ.out.free 9
      have HS5 := Lib.hid hst
      clear hst
      go_wp2_with fail
      go_ret
      rw [HRES.out]
      exact ⟨rfl, _, _, HS5.out⟩
end Go.Proofs.Ytlcppkcclolgcaa.Pk

namespace Go.Proofs.Ytlcppkcclolgcaa.Pk
set_option maxRecDepth 20000
set_option linter.unusedVariables false
set_option linter.unusedSimpArgs false
open Go.RowKit
open Go.Proofs.YtlcppkcclolgcaaW.PrintLast

/-- an operation that yields in every world, taken first -/
theorem last_pure {P : Program} {ops : Array Oper} {Q : Exit → Act → World → Prop} {md : Region.Mode} {S : World → Prop} {ds : List Nat} {i : Nat} {oi : Oper} {v : Value} {fuel : Nat} {listed : Array Bool} {a : Act} {w : World} (hi : ops[i]? = some oi)
    (hs : Region.noSelect ops = true) (hf : Region.free md ops listed i = true) (hr : (Region.ready md ops listed).contains i = true)
    (hQ : ∀ c a w, Q (.panic c) (a.put oi.dst v) w → Q (.panic c) a w) (hy : Yields P ops oi v a)
    (h : wpAnyLast P md ops Q S ds fuel (listed.setIfInBounds i true) (a.put oi.dst v) w) : wpAnyLast P md ops Q S ds (fuel + 1) listed a w :=
  wpAnyLast_any hi (Region.noSelect_spec hs) hQ fuel listed a w (Region.free_spec hi hf) (by simpa using hr) hy h

set_option maxRecDepth 100000 in
set_option maxHeartbeats 4000000 in
theorem copy_any (w0 : World) (S : Nat → Prop) (g : Nat) (vo vt : Value) (u : US) (w : World) (H : UkS w0 S w g vo vt u) (hl : u.token.length = 3) (hb : Bytes u.token) (ht0 : 128 ≤ u.token.getD 0 0) (ho : u.out.length ≤ 1048576) :
    Calls Try.prog 54 #[.pointer (some ⟨g, 0, none⟩)] w fun e w' => e = .returned (.bool u.copy.2) ∧ ∃ vo' vt', UkS w0 S w' g vo' vt' u.copy.1 := by
  obtain ⟨r, hr⟩ : ∃ r, u.copy = r := ⟨_, rfl⟩
  rw [hr]
  have HR := Lib.hid hr
  clear hr
  obtain ⟨lo, hlo⟩ : ∃ lo, u.out.length = lo := ⟨_, rfl⟩
  obtain ⟨A6, k6, hv6⟩ := H.oo.slice
  obtain ⟨A8, k8, hv8⟩ := H.ot.slice
  obtain ⟨gt, rfl, q0⟩ := H.ot.cell hv8 0 (by omega)
  obtain ⟨_, e1, q1⟩ := H.ot.cell hv8 1 (by omega)
  injection e1 with e1
  injection e1 with e1
  subst e1
  obtain ⟨_, e1, q2⟩ := H.ot.cell hv8 2 (by omega)
  injection e1 with e1
  injection e1 with e1
  subst e1
  rw [hlo] at hv6 ho
  rw [hl] at hv8
  obtain ⟨t0, h0⟩ : ∃ t, u.token.getD 0 0 = t := ⟨_, rfl⟩
  obtain ⟨t1, h1⟩ : ∃ t, u.token.getD 1 0 = t := ⟨_, rfl⟩
  obtain ⟨t2, h2⟩ : ∃ t, u.token.getD 2 0 = t := ⟨_, rfl⟩
  have hbd : ∀ j, j < 3 → u.token.getD j 0 < 256 := fun j hj => by
    rw [List.getD_eq_getElem?_getD, List.getElem?_eq_getElem (by omega)]
    exact hb _ (List.getElem_mem _)
  have b0 := hbd 0 (by omega)
  have b1 := hbd 1 (by omega)
  have b2 := hbd 2 (by omega)
  rw [h0] at q0 ht0 b0
  rw [h1] at q1 b1
  rw [h2] at q2 b2
  have hfar : farOf u.token = t1 + t2 * 256 + 1 := by unfold farOf; rw [h1, h2]
  have HFAR := Lib.hid hfar
  have HLO := Lib.hid hlo
  have HV6 := Lib.hid hv6
  have HV8 := Lib.hid hv8
  have H0 := Lib.hid h0
  have HH := Lib.hid H
  have HHL := Lib.hid hl
  have c6 := H.c6
  have c8 := H.c8
  rw [hv6] at c6
  rw [hv8] at c8
  have p10 : (0 : Int) ≤ t1 := by omega
  have p11 : (t1 : Int) < 256 := by omega
  have p20 : (0 : Int) ≤ t2 := by omega
  have p21 : (t2 : Int) < 256 := by omega
  have p00 : (128 : Int) ≤ t0 := by omega
  have p01 : (t0 : Int) < 256 := by omega
  have po : (lo : Int) ≤ 1048576 := by omega
  have po0 : (0 : Int) ≤ lo := by omega
  clear hfar hlo hv6 hv8 h0 h1 h2 H hl hb hbd
  go_enter Try.func54, Try.ntmps54
  go_upto_region 1 with fail
  go_quiet (fail)
  obtain ⟨far, hf⟩ : ∃ far : Nat, (t1 : Int) + (t2 : Int) * 256 + 1 = (far : Int) := ⟨t1 + t2 * 256 + 1, by omega⟩
  rw [hf]
  have hfn : farOf u.token = far := by rw [HFAR.out]; omega
  have hf1 : 1 ≤ far := by omega
  have HFN := Lib.hid hfn
  have HQ := Lib.hid (HH.out.drewN nq)
  have hq0 : (w.drewN nq).cell? ⟨gt, 0, none⟩ = some (.int .u8 (t0 : Int)) := q0
  generalize w.drewN nq = w2 at *
  clear hf hfn q0 HFAR q1 q2 p10 p11 p20 p21 b1 b2 HH
  have c6 := HQ.out.c6
  rw [HV6.out] at c6
  by_cases hfl : lo < far
  · have hflI : (lo : Int) < far := by omega
    have hres : r = (u.fail 100 u.start, false) := by rw [← HR.out, US.copy, HFN.out, HLO.out, if_pos hfl]
    have HRES := Lib.hid hres
    clear hres
    have c7 := HQ.out.c7
    go_wp2_with (go_at_call 37; refine (fail_any w0 S g 100 u.start vo vt _ _ HQ.out).mono ?_; rintro e w3 ⟨rfl, hf⟩; have HF := Lib.hid hf; clear hf)
    go_ret
    rw [HRES.out]
    exact ⟨rfl, _, _, HF.out⟩
  · have hflI : ¬ (lo : Int) < far := by omega
    obtain ⟨n, hn⟩ : ∃ n, n = t0 - 124 := ⟨_, rfl⟩
    have hnI : (t0 : Int) - 128 + 4 = n := by omega
    have hres : r = ({ u with out := copyOut far n u.out, token := [] }, true) := by rw [← HR.out, US.copy, HFN.out, HLO.out, if_neg hfl, H0.out, hn]
    have HRES := Lib.hid hres
    have c8 := HQ.out.c8
    rw [HV8.out] at c8
    have hn131 : n ≤ 131 := by omega
    have HN := Lib.hid hn
    clear hres hn
    have ht0I : ¬ (n : Int) ≤ 0 := by omega
    go_upto_region 4 with fail
    go_cut [42, 43] from 34 to 41 (fun x y wx => x = .int .i64 (n : Int) ∧ y = .int .i64 0 ∧ wx = w2)
    case first =>
      go_wp2_with fail
      go_meet
      exact ⟨rfl, rfl, rfl⟩
    case rest =>
      obtain ⟨rfl, rfl, rfl⟩ := hcut
      have hnc : (0 : Int) ≤ n := by omega
      have HFL := Lib.hid hfl
      clear hnI p00 p01 ht0 b0 hq0 hflI c6 c8
      go_wp2_with fail
      go_loopw [43] (fun x wr => ∃ (k : Nat) (vo' : Value) (o : List Nat), x = .int .i64 (k : Nat) ∧ UkS w0 S wr g vo' vt { u with out := o } ∧ o.length = lo + k ∧ k ≤ n ∧ copyOut far (n - k) o = copyOut far n u.out) (fun x _ => n - (intOf x).toNat)
      case atStart => exact ⟨0, vo, u.out, rfl, HQ.out, HLO.out, Nat.zero_le _, rfl⟩
      case round =>
        obtain ⟨k, vo', o, rfl, hP, hol, hkn, hco⟩ := hrel
        have HP := Lib.hid hP
        have HOL := Lib.hid hol
        have HCO := Lib.hid hco
        clear hP hol hco
        have hk0 : (0 : Int) ≤ k := by omega
        by_cases hlt : k < n
        · have hltI : (k : Int) < n := by omega
          obtain ⟨e, he⟩ : ∃ e, e = lo + k := ⟨_, rfl⟩
          obtain ⟨pl, hpl⟩ : ∃ pl, pl = e - far := ⟨_, rfl⟩
          have hfle : far ≤ e := by have := HFL.out; omega
          have hple : pl < e := by omega
          have hoe : o.length = e := by rw [HOL.out, he]
          obtain ⟨A6', k6', hv6'⟩ := HP.out.oo.slice
          simp only at hv6'
          obtain ⟨go, rfl, hx⟩ := HP.out.oo.cell hv6' pl (by simp only; omega)
          simp only at hx
          obtain ⟨x, hxe⟩ : ∃ x, o.getD pl 0 = x := ⟨_, rfl⟩
          rw [hxe] at hx
          rw [hoe] at hv6'
          have c6 := HP.out.c6
          rw [hv6'] at c6
          have hxx : copyOut far (n - (k + 1)) (o ++ [x]) = copyOut far n u.out := by
            have h1 := HCO.out
            rw [show n - k = (n - (k + 1)) + 1 by omega, copyOut, hoe, ← hpl, hxe] at h1
            exact h1
          have hbt : o.length + [x].length ≤ 140737488355328 := by rw [hoe]; simp only [List.length_cons, List.length_nil]; omega
          have hlen2 : (o ++ [x]).length = lo + (k + 1) := by rw [List.length_append, hoe]; simp only [List.length_cons, List.length_nil]; omega
          have d0 : (0 : Int) ≤ pl := by omega
          have d1 : (pl : Int) < e := by omega
          have d2 : (0 : Int) ≤ e := by omega
          have wpl : IntKind.i64.wrap ((e : Int) - far) = (pl : Int) := by rw [IntWalk.i64_in _ (by omega)]; omega
          have HXX := Lib.hid hxx
          have HV6' := Lib.hid hv6'
          have HBT := Lib.hid hbt
          have HLEN2 := Lib.hid hlen2
          clear hbt hlen2 hxx hv6' hxe hoe hpl he hple hfle
          have HPD := Lib.hid (HP.out.drew.later ((Below.refl wr.drew.heap.size wr.drew).alloc (Nat.le_refl _) (.cells #[.int .u8 (x : Int)] 5)))
          have HNEW := Lib.hid (one_byte wr.drew x 5)
          have c6a : ((wr.drew).alloc (.cells #[.int .u8 (x : Int)] 5)).cell? ⟨g, 6, none⟩ = some (.slice (some ⟨go, 0, none⟩) e k6') := by rw [HPD.out.c6, HV6'.out]
          have hxa : ((wr.drew).alloc (.cells #[.int .u8 (x : Int)] 5)).cell? ⟨go, pl, none⟩ = some (.int .u8 (x : Int)) := (World.cell?_of_block (Below.heap_alloc wr.drew _ go (World.block_lt_of_cell? _ _ hx))).trans hx
          have HC6A := Lib.hid c6a
          have HXA := Lib.hid hxa
          clear c6a hxa
          go_upto_region 6 with fail
          refine wp_region_noPanic ?_
          refine wp_region_last_drew (S := fun w' => w'.cell? ⟨g, 6, none⟩ = some (.slice (some ⟨go, 0, none⟩) e k6') ∧ w'.cell? ⟨go, pl, none⟩ = some (.int .u8 (x : Int))) (ds := [19, 22]) (by kernel_rfl) ⟨c6, hx⟩ (fun hHeld => ?_)
          refine last_pure (i := 0) (oi := _) (v := (.pointer (some ⟨g, 0, none⟩))) rfl (by kernel_rfl) (by kernel_rfl) (by kernel_rfl) (fun _ _ _ h => h) (Or.inl ⟨by rfl, fun w' => by go_simp⟩) ?_
          try simp only [Act.put, List.getElem_toArray, List.getElem_cons_succ, List.getElem_cons_zero, List.setIfInBounds_toArray, List.set_cons_zero, List.set_cons_succ]
          refine wpAnyLast_take (i := 1) (oi := _) (v := (.pointer (some ⟨g, 0, none⟩))) rfl (by kernel_rfl) (by kernel_rfl) (by kernel_rfl) (by kernel_rfl) (by kernel_rfl) (fun _ _ _ h => h) (Or.inl ⟨by rfl, fun w' _ => by go_simp⟩) hHeld ?_
          try simp only [Act.put, List.getElem_toArray, List.getElem_cons_succ, List.getElem_cons_zero, List.setIfInBounds_toArray, List.set_cons_zero, List.set_cons_succ]
          refine wpAnyLast_take (i := 2) (oi := _) (v := (.pointer (some ⟨g, 0, none⟩))) rfl (by kernel_rfl) (by kernel_rfl) (by kernel_rfl) (by kernel_rfl) (by kernel_rfl) (fun _ _ _ h => h) (Or.inl ⟨by rfl, fun w' _ => by go_simp⟩) hHeld ?_
          try simp only [Act.put, List.getElem_toArray, List.getElem_cons_succ, List.getElem_cons_zero, List.setIfInBounds_toArray, List.set_cons_zero, List.set_cons_succ]
          refine wpAnyLast_take (i := 3) (oi := _) (v := (.pointer (some ⟨g, 6, none⟩))) rfl (by kernel_rfl) (by kernel_rfl) (by kernel_rfl) (by kernel_rfl) (by kernel_rfl) (fun _ _ _ h => h) (Or.inl ⟨by rfl, fun w' _ => by go_simp⟩) hHeld ?_
          try simp only [Act.put, List.getElem_toArray, List.getElem_cons_succ, List.getElem_cons_zero, List.setIfInBounds_toArray, List.set_cons_zero, List.set_cons_succ]
          refine wpAnyLast_take (i := 4) (oi := _) (v := (.slice (some ⟨go, 0, none⟩) e k6')) rfl (by kernel_rfl) (by kernel_rfl) (by kernel_rfl) (by kernel_rfl) (by kernel_rfl) (fun _ _ _ h => h) (Or.inl ⟨by rfl, fun w' hSw => by have h1 := hSw.1; go_simp⟩) hHeld ?_
          try simp only [Act.put, List.getElem_toArray, List.getElem_cons_succ, List.getElem_cons_zero, List.setIfInBounds_toArray, List.set_cons_zero, List.set_cons_succ]
          refine wpAnyLast_take (i := 5) (oi := _) (v := (.pointer (some ⟨g, 0, none⟩))) rfl (by kernel_rfl) (by kernel_rfl) (by kernel_rfl) (by kernel_rfl) (by kernel_rfl) (fun _ _ _ h => h) (Or.inl ⟨by rfl, fun w' _ => by go_simp⟩) hHeld ?_
          try simp only [Act.put, List.getElem_toArray, List.getElem_cons_succ, List.getElem_cons_zero, List.setIfInBounds_toArray, List.set_cons_zero, List.set_cons_succ]
          refine wpAnyLast_take (i := 6) (oi := _) (v := (.pointer (some ⟨g, 0, none⟩))) rfl (by kernel_rfl) (by kernel_rfl) (by kernel_rfl) (by kernel_rfl) (by kernel_rfl) (fun _ _ _ h => h) (Or.inl ⟨by rfl, fun w' _ => by go_simp⟩) hHeld ?_
          try simp only [Act.put, List.getElem_toArray, List.getElem_cons_succ, List.getElem_cons_zero, List.setIfInBounds_toArray, List.set_cons_zero, List.set_cons_succ]
          refine wpAnyLast_take (i := 7) (oi := _) (v := (.pointer (some ⟨g, 6, none⟩))) rfl (by kernel_rfl) (by kernel_rfl) (by kernel_rfl) (by kernel_rfl) (by kernel_rfl) (fun _ _ _ h => h) (Or.inl ⟨by rfl, fun w' _ => by go_simp⟩) hHeld ?_
          try simp only [Act.put, List.getElem_toArray, List.getElem_cons_succ, List.getElem_cons_zero, List.setIfInBounds_toArray, List.set_cons_zero, List.set_cons_succ]
          refine wpAnyLast_take (i := 8) (oi := _) (v := (.slice (some ⟨go, 0, none⟩) e k6')) rfl (by kernel_rfl) (by kernel_rfl) (by kernel_rfl) (by kernel_rfl) (by kernel_rfl) (fun _ _ _ h => h) (Or.inl ⟨by rfl, fun w' hSw => by have h1 := hSw.1; go_simp⟩) hHeld ?_
          try simp only [Act.put, List.getElem_toArray, List.getElem_cons_succ, List.getElem_cons_zero, List.setIfInBounds_toArray, List.set_cons_zero, List.set_cons_succ]
          refine wpAnyLast_take (i := 9) (oi := _) (v := (.pointer (some ⟨g, 0, none⟩))) rfl (by kernel_rfl) (by kernel_rfl) (by kernel_rfl) (by kernel_rfl) (by kernel_rfl) (fun _ _ _ h => h) (Or.inl ⟨by rfl, fun w' _ => by go_simp⟩) hHeld ?_
          try simp only [Act.put, List.getElem_toArray, List.getElem_cons_succ, List.getElem_cons_zero, List.setIfInBounds_toArray, List.set_cons_zero, List.set_cons_succ]
          refine wpAnyLast_take (i := 10) (oi := _) (v := (.pointer (some ⟨g, 0, none⟩))) rfl (by kernel_rfl) (by kernel_rfl) (by kernel_rfl) (by kernel_rfl) (by kernel_rfl) (fun _ _ _ h => h) (Or.inl ⟨by rfl, fun w' _ => by go_simp⟩) hHeld ?_
          try simp only [Act.put, List.getElem_toArray, List.getElem_cons_succ, List.getElem_cons_zero, List.setIfInBounds_toArray, List.set_cons_zero, List.set_cons_succ]
          refine wpAnyLast_take (i := 11) (oi := _) (v := (.pointer (some ⟨g, 6, none⟩))) rfl (by kernel_rfl) (by kernel_rfl) (by kernel_rfl) (by kernel_rfl) (by kernel_rfl) (fun _ _ _ h => h) (Or.inl ⟨by rfl, fun w' _ => by go_simp⟩) hHeld ?_
          try simp only [Act.put, List.getElem_toArray, List.getElem_cons_succ, List.getElem_cons_zero, List.setIfInBounds_toArray, List.set_cons_zero, List.set_cons_succ]
          refine wpAnyLast_take (i := 12) (oi := _) (v := (.slice (some ⟨go, 0, none⟩) e k6')) rfl (by kernel_rfl) (by kernel_rfl) (by kernel_rfl) (by kernel_rfl) (by kernel_rfl) (fun _ _ _ h => h) (Or.inl ⟨by rfl, fun w' hSw => by have h1 := hSw.1; go_simp⟩) hHeld ?_
          try simp only [Act.put, List.getElem_toArray, List.getElem_cons_succ, List.getElem_cons_zero, List.setIfInBounds_toArray, List.set_cons_zero, List.set_cons_succ]
          refine wpAnyLast_take (i := 13) (oi := _) (v := (.int .i64 (e : Int))) rfl (by kernel_rfl) (by kernel_rfl) (by kernel_rfl) (by kernel_rfl) (by kernel_rfl) (fun _ _ _ h => h) (Or.inl ⟨by rfl, fun w' _ => by go_simp⟩) hHeld ?_
          try simp only [Act.put, List.getElem_toArray, List.getElem_cons_succ, List.getElem_cons_zero, List.setIfInBounds_toArray, List.set_cons_zero, List.set_cons_succ]
          refine wpAnyLast_take (i := 14) (oi := _) (v := (.int .i64 (far : Int))) rfl (by kernel_rfl) (by kernel_rfl) (by kernel_rfl) (by kernel_rfl) (by kernel_rfl) (fun _ _ _ h => h) (Or.inl ⟨by rfl, fun w' _ => by go_simp⟩) hHeld ?_
          try simp only [Act.put, List.getElem_toArray, List.getElem_cons_succ, List.getElem_cons_zero, List.setIfInBounds_toArray, List.set_cons_zero, List.set_cons_succ]
          refine wpAnyLast_take (i := 15) (oi := _) (v := (.int .i64 (pl : Int))) rfl (by kernel_rfl) (by kernel_rfl) (by kernel_rfl) (by kernel_rfl) (by kernel_rfl) (fun _ _ _ h => h) (Or.inl ⟨by rfl, fun w' _ => by go_simp⟩) hHeld ?_
          try simp only [Act.put, List.getElem_toArray, List.getElem_cons_succ, List.getElem_cons_zero, List.setIfInBounds_toArray, List.set_cons_zero, List.set_cons_succ]
          refine wpAnyLast_take (i := 16) (oi := _) (v := (.pointer (some ⟨go, pl, none⟩))) rfl (by kernel_rfl) (by kernel_rfl) (by kernel_rfl) (by kernel_rfl) (by kernel_rfl) (fun _ _ _ h => h) (Or.inl ⟨by rfl, fun w' _ => by go_simp⟩) hHeld ?_
          try simp only [Act.put, List.getElem_toArray, List.getElem_cons_succ, List.getElem_cons_zero, List.setIfInBounds_toArray, List.set_cons_zero, List.set_cons_succ]
          refine wpAnyLast_take (i := 17) (oi := _) (v := (.int .u8 (x : Int))) rfl (by kernel_rfl) (by kernel_rfl) (by kernel_rfl) (by kernel_rfl) (by kernel_rfl) (fun _ _ _ h => h) (Or.inl ⟨by rfl, fun w' hSw => by have h1 := hSw.2; go_simp⟩) hHeld ?_
          try simp only [Act.put, List.getElem_toArray, List.getElem_cons_succ, List.getElem_cons_zero, List.setIfInBounds_toArray, List.set_cons_zero, List.set_cons_succ]
          refine wpAnyLast_ready (rs := [18]) (by kernel_rfl) (by simp) ?_
          refine AllReadyL.cons (o := _) rfl (by decide) (fun K hK => ?_) AllReadyL.nil
          rw [if_pos (by rfl)]
          go_simp
          refine hK.out _ _ ⟨HC6A.out, HXA.out⟩ (fun hHeld => ?_)
          clear hK K
          try dsimp only
          try simp only [Act.put, List.getElem_toArray, List.getElem_cons_succ, List.getElem_cons_zero, List.setIfInBounds_toArray, List.set_cons_zero, List.set_cons_succ]
          refine wpAnyLast_ready (rs := [19]) (by kernel_rfl) (by simp) ?_
          refine AllReadyL.cons_last (o := _) rfl (by decide) (fun K hK => ?_) AllReadyL.nil
          rw [if_pos (by rfl)]
          refine wp_app_bytes _ (.tmp 49) (.tmp 63) (by rfl) 0 vo' o (by rw [HV6'.out]; rfl) HPD.out.oo ⟨wr.heap.size, 0, none⟩ [x] 1 (by rfl) HNEW.out HBT.out (Nat.zero_le _) ?_
          intro v5 w5 ho5 hg5 ha5
          refine hK.out _ _ ?_
          clear hK K hHeld
          have hrow5 := (hg5.block _ HPD.out.lt (fun e => HPD.out.vog e.symm)).trans HPD.out.row
          have c65 := cell_of_row w5 g 6 _ _ _ hrow5
          have f65 := frozen_of_row w5 g 6 _ _ hrow5
          obtain ⟨A5, k5, hv5⟩ := ho5.slice
          generalize (o ++ [x]).length = l5 at hv5
          subst hv5
          have hst := HPD.out.putOut ho5 hg5 ha5
          have HS5 := Lib.hid hst
          clear ho5 hg5 ha5 hrow5 hst
          try dsimp only
          try simp only [Act.put, List.getElem_toArray, List.getElem_cons_succ, List.getElem_cons_zero, List.setIfInBounds_toArray, List.set_cons_zero, List.set_cons_succ]
          refine last_pure (i := 20) (oi := _) (v := (.pointer (some ⟨g, 0, none⟩))) rfl (by kernel_rfl) (by kernel_rfl) (by kernel_rfl) (fun _ _ _ h => h) (Or.inl ⟨by rfl, fun w' => by go_simp⟩) ?_
          try simp only [Act.put, List.getElem_toArray, List.getElem_cons_succ, List.getElem_cons_zero, List.setIfInBounds_toArray, List.set_cons_zero, List.set_cons_succ]
          refine last_pure (i := 21) (oi := _) (v := (.pointer (some ⟨g, 6, none⟩))) rfl (by kernel_rfl) (by kernel_rfl) (by kernel_rfl) (fun _ _ _ h => h) (Or.inl ⟨by rfl, fun w' => by go_simp⟩) ?_
          try simp only [Act.put, List.getElem_toArray, List.getElem_cons_succ, List.getElem_cons_zero, List.setIfInBounds_toArray, List.set_cons_zero, List.set_cons_succ]
          refine wpAnyLast_ready (rs := [22]) (by kernel_rfl) (by simp) ?_
          refine AllReadyL.cons_last (o := _) rfl (by decide) (fun K hK => ?_) AllReadyL.nil
          rw [if_pos (by rfl)]
          go_simp
          refine hK.out _ _ ?_
          clear hK K
          try dsimp only
          try simp only [Act.put, List.getElem_toArray, List.getElem_cons_succ, List.getElem_cons_zero, List.setIfInBounds_toArray, List.set_cons_zero, List.set_cons_succ]
          refine wpAnyLast_done (by kernel_rfl) ?_ _
          refine NoPanic.normal ?_
          clear hx c6 wpl
          go_wp2_with fail
          go_roundw
          case rel => exact ⟨k + 1, _, _, by go_num, HS5.out, HLEN2.out, by omega, HXX.out⟩
          case measure => simp [intOf]; omega
        · obtain rfl : k = n := by omega
          have hltI : ¬ (k : Int) < k := by omega
          have hk2 : o = copyOut far k u.out := by
            have := HCO.out
            rwa [Nat.sub_self] at this
          subst hk2
          have hv8 := HV8.out
          have hl := HHL.out
          have hcut := HP.out.cutTok (A := some ⟨gt, 0, none⟩) (c := k8) (by simp only; rw [hl]; exact hv8)
          have HCUT := Lib.hid hcut
          have c8 := HP.out.c8
          have f8 := HP.out.free 8
          rw [hv8] at c8
          clear hcut hv8 hl
          go_wp2_with fail
          go_ret
          rw [HRES.out]
          exact ⟨rfl, _, _, HCUT.out⟩
end Go.Proofs.Ytlcppkcclolgcaa.Pk

namespace Go.Proofs.Ytlcppkcclolgcaa.Pk
set_option maxRecDepth 20000
set_option linter.unusedVariables false
set_option linter.unusedSimpArgs false
open Go.RowKit
open Go.Proofs.YtlcppkcclolgcaaW.PrintLast

theorem or_high (s c h : Nat) (hs : s < 2 ^ h) : s ||| c * 2 ^ h = s + c * 2 ^ h := by
  have := Nat.two_pow_add_eq_or_of_lt hs c
  rw [Nat.or_comm, Nat.mul_comm c, ← this, Nat.add_comm]

set_option maxRecDepth 100000 in
set_option maxHeartbeats 4000000 in
/-- a byte of the head -/
theorem take_head (w0 : World) (S : Nat → Prop) (g c : Nat) (vo vt : Value) (u : US) (w : World) (H : UkS w0 S w g vo vt u) (hf : Fine u) (hc : c < 256) (hh : u.head < 8) :
    Calls Try.prog 36 #[.pointer (some ⟨g, 0, none⟩), .int .u8 (c : Int)] w fun e w' => e = .returned (.bool (u.take c).2) ∧ ∃ vo' vt', UkS w0 S w' g vo' vt' (u.take c).1 := by
  obtain ⟨r, hr⟩ : ∃ r, u.take c = r := ⟨_, rfl⟩
  rw [hr]
  rw [US.take, if_pos hh] at hr
  have hs := (hf.pre hh).2.2.2
  obtain ⟨h, hhe⟩ : ∃ h, h = u.head := ⟨_, rfl⟩
  obtain ⟨s, hse⟩ : ∃ s, s = u.size := ⟨_, rfl⟩
  rw [← hhe, ← hse] at hs hr
  rw [← hhe] at hh
  obtain ⟨y, hy⟩ : ∃ y, y = c * 2 ^ (8 * h) := ⟨_, rfl⟩
  have hp : 2 ^ (8 * h) ≤ 2 ^ 56 := Nat.pow_le_pow_right (by omega) (by omega)
  have hp0 : 0 < 2 ^ (8 * h) := Nat.pow_pos (by omega)
  have hyb : y ≤ 255 * 2 ^ 56 := by rw [hy]; exact Nat.mul_le_mul (by omega) hp
  have hor : bits .or .u64 (s : Int) (y : Int) = ((s + y : Nat) : Int) := by
    rw [u64_or_nat s y (by omega) (by omega), hy, or_high s c _ hs]
  rw [← hy] at hr
  obtain ⟨s2, hs2⟩ : ∃ s2, s2 = s + y := ⟨_, rfl⟩
  rw [← hs2] at hr hor
  have hs2b : s2 < 18446744073709551616 := by omega
  have HR := Lib.hid hr
  have c4 := H.c4
  have c5 := H.c5
  rw [← hse] at c4
  rw [← hhe] at c5
  have h0 : (0 : Int) ≤ h := by omega
  have h8 : (h : Int) < 8 := by omega
  have b0 : (0 : Int) ≤ s := by omega
  have b2 : (0 : Int) ≤ s2 := by omega
  have b3 : (s2 : Int) < 18446744073709551616 := by omega
  have by0 : (0 : Int) ≤ y := by omega
  have by1 : (y : Int) < 18446744073709551616 := by omega
  have bc0 : (0 : Int) ≤ c := by omega
  have bc1 : (c : Int) < 256 := by omega
  have e1 : ((8 : Int) * (h : Int)).toNat = 8 * h := by omega
  have e2 : (c : Int) * 2 ^ (8 * h) = (y : Int) := by rw [hy, Int.natCast_mul, Int.natCast_pow]; rfl
  have e3 : (0 : Int) ≤ 8 * (h : Int) := by omega
  have e4 : (8 : Int) * (h : Int) < 64 := by omega
  have HH := Lib.hid H
  have HHE := Lib.hid hhe
  have HSE := Lib.hid hse
  have f4 := H.free 4
  have w8 : IntKind.i64.wrap ((8 : Int) * h) = 8 * h := IntWalk.i64_in _ (by omega)
  have wy : IntKind.u64.wrap (y : Int) = y := IntWalk.u64_in _ (by omega)
  have wc : IntKind.u64.wrap (c : Int) = c := IntWalk.u64_in _ (by omega)
  clear H hf hs hp hp0 hyb hy hs2 hs2b hr hhe hse hh hc
  go_enter Try.func36, Try.ntmps36
  go_upto_region 3 with fail
  refine wp_region_noPanic ?_
  refine wp_region_last_drew (S := fun w' => w'.cell? ⟨g, 4, none⟩ = some (.int .u64 (s : Int)) ∧ w'.cell? ⟨g, 5, none⟩ = some (.int .i64 (h : Int))) (ds := [15]) (by kernel_rfl) ⟨c4, c5⟩ (fun hHeld => ?_)
  refine last_pure (i := 0) (oi := _) (v := (.pointer (some ⟨g, 0, none⟩))) rfl (by kernel_rfl) (by kernel_rfl) (by kernel_rfl) (fun _ _ _ h => h) (Or.inl ⟨by rfl, fun w' => by go_simp⟩) ?_
  try simp only [Act.put, List.getElem_toArray, List.getElem_cons_succ, List.getElem_cons_zero, List.setIfInBounds_toArray, List.set_cons_zero, List.set_cons_succ]
  refine wpAnyLast_take (i := 1) (oi := _) (v := (.pointer (some ⟨g, 0, none⟩))) rfl (by kernel_rfl) (by kernel_rfl) (by kernel_rfl) (by kernel_rfl) (by kernel_rfl) (fun _ _ _ h => h) (Or.inl ⟨by rfl, fun w' _ => by go_simp⟩) hHeld ?_
  try simp only [Act.put, List.getElem_toArray, List.getElem_cons_succ, List.getElem_cons_zero, List.setIfInBounds_toArray, List.set_cons_zero, List.set_cons_succ]
  refine wpAnyLast_take (i := 2) (oi := _) (v := (.pointer (some ⟨g, 4, none⟩))) rfl (by kernel_rfl) (by kernel_rfl) (by kernel_rfl) (by kernel_rfl) (by kernel_rfl) (fun _ _ _ h => h) (Or.inl ⟨by rfl, fun w' _ => by go_simp⟩) hHeld ?_
  try simp only [Act.put, List.getElem_toArray, List.getElem_cons_succ, List.getElem_cons_zero, List.setIfInBounds_toArray, List.set_cons_zero, List.set_cons_succ]
  refine wpAnyLast_take (i := 3) (oi := _) (v := (.int .u64 (s : Int))) rfl (by kernel_rfl) (by kernel_rfl) (by kernel_rfl) (by kernel_rfl) (by kernel_rfl) (fun _ _ _ h => h) (Or.inl ⟨by rfl, fun w' hSw => by have h1 := hSw.1; go_simp⟩) hHeld ?_
  try simp only [Act.put, List.getElem_toArray, List.getElem_cons_succ, List.getElem_cons_zero, List.setIfInBounds_toArray, List.set_cons_zero, List.set_cons_succ]
  refine wpAnyLast_take (i := 4) (oi := _) (v := (.int .u8 (c : Int))) rfl (by kernel_rfl) (by kernel_rfl) (by kernel_rfl) (by kernel_rfl) (by kernel_rfl) (fun _ _ _ h => h) (Or.inl ⟨by rfl, fun w' _ => by go_simp⟩) hHeld ?_
  try simp only [Act.put, List.getElem_toArray, List.getElem_cons_succ, List.getElem_cons_zero, List.setIfInBounds_toArray, List.set_cons_zero, List.set_cons_succ]
  refine wpAnyLast_take (i := 5) (oi := _) (v := (.int .u64 (c : Int))) rfl (by kernel_rfl) (by kernel_rfl) (by kernel_rfl) (by kernel_rfl) (by kernel_rfl) (fun _ _ _ h => h) (Or.inl ⟨by rfl, fun w' _ => by go_simp⟩) hHeld ?_
  try simp only [Act.put, List.getElem_toArray, List.getElem_cons_succ, List.getElem_cons_zero, List.setIfInBounds_toArray, List.set_cons_zero, List.set_cons_succ]
  refine wpAnyLast_take (i := 6) (oi := _) (v := (.pointer (some ⟨g, 0, none⟩))) rfl (by kernel_rfl) (by kernel_rfl) (by kernel_rfl) (by kernel_rfl) (by kernel_rfl) (fun _ _ _ h => h) (Or.inl ⟨by rfl, fun w' _ => by go_simp⟩) hHeld ?_
  try simp only [Act.put, List.getElem_toArray, List.getElem_cons_succ, List.getElem_cons_zero, List.setIfInBounds_toArray, List.set_cons_zero, List.set_cons_succ]
  refine wpAnyLast_take (i := 7) (oi := _) (v := (.pointer (some ⟨g, 0, none⟩))) rfl (by kernel_rfl) (by kernel_rfl) (by kernel_rfl) (by kernel_rfl) (by kernel_rfl) (fun _ _ _ h => h) (Or.inl ⟨by rfl, fun w' _ => by go_simp⟩) hHeld ?_
  try simp only [Act.put, List.getElem_toArray, List.getElem_cons_succ, List.getElem_cons_zero, List.setIfInBounds_toArray, List.set_cons_zero, List.set_cons_succ]
  refine wpAnyLast_take (i := 8) (oi := _) (v := (.pointer (some ⟨g, 5, none⟩))) rfl (by kernel_rfl) (by kernel_rfl) (by kernel_rfl) (by kernel_rfl) (by kernel_rfl) (fun _ _ _ h => h) (Or.inl ⟨by rfl, fun w' _ => by go_simp⟩) hHeld ?_
  try simp only [Act.put, List.getElem_toArray, List.getElem_cons_succ, List.getElem_cons_zero, List.setIfInBounds_toArray, List.set_cons_zero, List.set_cons_succ]
  refine wpAnyLast_take (i := 9) (oi := _) (v := (.int .i64 (h : Int))) rfl (by kernel_rfl) (by kernel_rfl) (by kernel_rfl) (by kernel_rfl) (by kernel_rfl) (fun _ _ _ h => h) (Or.inl ⟨by rfl, fun w' hSw => by have h1 := hSw.2; go_simp⟩) hHeld ?_
  try simp only [Act.put, List.getElem_toArray, List.getElem_cons_succ, List.getElem_cons_zero, List.setIfInBounds_toArray, List.set_cons_zero, List.set_cons_succ]
  refine wpAnyLast_take (i := 10) (oi := _) (v := (.int .i64 (8 * (h : Int)))) rfl (by kernel_rfl) (by kernel_rfl) (by kernel_rfl) (by kernel_rfl) (by kernel_rfl) (fun _ _ _ h => h) (Or.inl ⟨by rfl, fun w' _ => by go_simp⟩) hHeld ?_
  try simp only [Act.put, List.getElem_toArray, List.getElem_cons_succ, List.getElem_cons_zero, List.setIfInBounds_toArray, List.set_cons_zero, List.set_cons_succ]
  refine wpAnyLast_take (i := 11) (oi := _) (v := (.int .u64 (y : Int))) rfl (by kernel_rfl) (by kernel_rfl) (by kernel_rfl) (by kernel_rfl) (by kernel_rfl) (fun _ _ _ h => h) (Or.inl ⟨by rfl, fun w' _ => by go_simp⟩) hHeld ?_
  try simp only [Act.put, List.getElem_toArray, List.getElem_cons_succ, List.getElem_cons_zero, List.setIfInBounds_toArray, List.set_cons_zero, List.set_cons_succ]
  refine wpAnyLast_take (i := 12) (oi := _) (v := (.int .u64 (s2 : Int))) rfl (by kernel_rfl) (by kernel_rfl) (by kernel_rfl) (by kernel_rfl) (by kernel_rfl) (fun _ _ _ h => h) (Or.inl ⟨by rfl, fun w' _ => by go_simp⟩) hHeld ?_
  try simp only [Act.put, List.getElem_toArray, List.getElem_cons_succ, List.getElem_cons_zero, List.setIfInBounds_toArray, List.set_cons_zero, List.set_cons_succ]
  refine last_pure (i := 13) (oi := _) (v := (.pointer (some ⟨g, 0, none⟩))) rfl (by kernel_rfl) (by kernel_rfl) (by kernel_rfl) (fun _ _ _ h => h) (Or.inl ⟨by rfl, fun w' => by go_simp⟩) ?_
  try simp only [Act.put, List.getElem_toArray, List.getElem_cons_succ, List.getElem_cons_zero, List.setIfInBounds_toArray, List.set_cons_zero, List.set_cons_succ]
  refine last_pure (i := 14) (oi := _) (v := (.pointer (some ⟨g, 4, none⟩))) rfl (by kernel_rfl) (by kernel_rfl) (by kernel_rfl) (fun _ _ _ h => h) (Or.inl ⟨by rfl, fun w' => by go_simp⟩) ?_
  try simp only [Act.put, List.getElem_toArray, List.getElem_cons_succ, List.getElem_cons_zero, List.setIfInBounds_toArray, List.set_cons_zero, List.set_cons_succ]
  refine wpAnyLast_ready (rs := [15]) (by kernel_rfl) (by simp) ?_
  refine AllReadyL.cons_last (o := _) rfl (by decide) (fun K hK => ?_) AllReadyL.nil
  rw [if_pos (by rfl)]
  go_simp
  refine hK.out _ _ ?_
  clear hK K
  try dsimp only
  try simp only [Act.put, List.getElem_toArray, List.getElem_cons_succ, List.getElem_cons_zero, List.setIfInBounds_toArray, List.set_cons_zero, List.set_cons_succ]
  refine wpAnyLast_done (by kernel_rfl) ?_ _
  refine NoPanic.normal ?_
  have hu1 := (HH.out.put 4 (.int .u64 (s2 : Int)) { u with size := s2 } rfl rfl rfl).drew
  have HS1 := Lib.hid hu1
  clear hu1 c4 c5 f4 HH w8 wy wc e1 e2 e3 e4 hor by0 by1 b0 b3 hHeld
  generalize (w.setCell ⟨g, 4, none⟩ (.int .u64 (s2 : Int))).drew = w1 at *
  have c4 := HS1.out.c4
  have c5 := HS1.out.c5
  simp only [← HHE.out] at c4 c5
  by_cases h7 : h = 7
  · have h7I : ((h : Int) == 7) = true := by simp; omega
    by_cases hbig : 1048576 < s2
    · have hbI : (1048576 : Int) < s2 := by omega
      have hr := HR.out
      rw [if_pos ⟨h7, hbig⟩] at hr
      have HR2 := Lib.hid hr
      clear hr h7 hbig
      go_wp2_with (go_at_call 37; refine (fail_any w0 S g 2 0 vo vt _ _ HS1.out).mono ?_; rintro e w3 ⟨rfl, hf⟩; have HF := Lib.hid hf; clear hf)
      go_ret
      rw [← HR2.out]
      exact ⟨rfl, _, _, HHE.out ▸ HF.out⟩
    · have hbI : ¬ (1048576 : Int) < s2 := by omega
      have hr := HR.out
      rw [if_neg (fun e => hbig e.2)] at hr
      have hu2 := HS1.out.put 5 (.int .i64 ((h + 1 : Nat) : Int)) { u with size := s2, head := h + 1 } rfl rfl rfl
      rw [Int.natCast_add] at hu2
      have f5 := HS1.out.free 5
      have HR2 := Lib.hid hr
      have HS2 := Lib.hid hu2
      clear hr h7 hbig hu2
      go_wp2_with fail
      go_ret
      rw [← HR2.out]
      exact ⟨rfl, _, _, HS2.out⟩
  · have h7I : ((h : Int) == 7) = false := by simp; omega
    have hr := HR.out
    rw [if_neg (fun e => h7 e.1)] at hr
    have hu2 := HS1.out.put 5 (.int .i64 ((h + 1 : Nat) : Int)) { u with size := s2, head := h + 1 } rfl rfl rfl
    rw [Int.natCast_add] at hu2
    have f5 := HS1.out.free 5
    have HR2 := Lib.hid hr
    have HS2 := Lib.hid hu2
    clear hr h7 hu2
    go_wp2_with fail
    go_ret
    rw [← HR2.out]
    exact ⟨rfl, _, _, HS2.out⟩

set_option maxRecDepth 100000 in
set_option maxHeartbeats 4000000 in
/-- a byte behind the head -/
theorem take_rest (w0 : World) (S : Nat → Prop) (g c : Nat) (vo vt : Value) (u : US) (w : World) (H : UkS w0 S w g vo vt u) (hf : Fine u) (hc : c < 256) (hh : ¬ u.head < 8) :
    Calls Try.prog 36 #[.pointer (some ⟨g, 0, none⟩), .int .u8 (c : Int)] w fun e w' => e = .returned (.bool (u.take c).2) ∧ ∃ vo' vt', UkS w0 S w' g vo' vt' (u.take c).1 := by
  obtain ⟨r, hr⟩ : ∃ r, u.take c = r := ⟨_, rfl⟩
  rw [hr]
  rw [US.take, if_neg hh] at hr
  have h8 : u.head = 8 := by have := hf.early; omega
  have hsz := hf.size h8
  have hroom := hf.room h8
  have htok := hf.tok
  have htokb := hf.tokb
  have htokp := hf.tokp
  have hhI : ¬ (u.head : Int) < 8 := by omega
  have c5 := H.c5
  have c9 := H.c9
  obtain ⟨A6, k6, hv6⟩ := H.oo.slice
  obtain ⟨A8, k8, hv8⟩ := H.ot.slice
  obtain ⟨lo, hlo⟩ : ∃ lo, u.out.length = lo := ⟨_, rfl⟩
  obtain ⟨lt, hlt⟩ : ∃ lt, u.token.length = lt := ⟨_, rfl⟩
  rw [hlo] at hv6 hroom hr
  rw [hlt] at hv8 htok hr
  have c6 := H.c6
  have c8 := H.c8
  rw [hv6] at c6
  rw [hv8] at c8
  have HH := Lib.hid H
  have HV6 := Lib.hid hv6
  have HV8 := Lib.hid hv8
  have HLO := Lib.hid hlo
  have HLT := Lib.hid hlt
  have HTP := Lib.hid htokp
  have HTB := Lib.hid htokb
  clear H hv6 hv8 hlo hlt htokp htokb h8 hh hf
  by_cases hp : 0 < u.plain
  · have hpI : (0 : Int) < u.plain := by omega
    rw [if_pos hp] at hr
    have HR := Lib.hid hr
    clear hr
    have HPA := Lib.hid (HH.out.later ((Below.refl w.heap.size w).alloc (Nat.le_refl _) (.cells #[.int .u8 (c : Int)] 5)))
    have HNEW := Lib.hid (one_byte w c 5)
    have hbt : u.out.length + [c].length ≤ 140737488355328 := by rw [HLO.out]; simp only [List.length_cons, List.length_nil]; omega
    have HBT := Lib.hid hbt
    clear hbt
    go_enter Try.func36, Try.ntmps36
    go_upto_region 9 with (at_builtin; refine wpList_app_bytes _ rfl (.tmp 60) (.tmp 62) rfl 0 vo u.out (by first | exact HV6.out.symm | rfl) HPA.out.oo ⟨w.heap.size, 0, none⟩ [c] 1 rfl HNEW.out HBT.out (Nat.zero_le _) ?_; intro v5 w5 ho5 hg5 ha5; obtain ⟨A5, k5, hv5⟩ := ho5.slice; generalize (u.out ++ [c]).length = l5 at hv5; subst hv5; have hrow5 := (hg5.block _ HPA.out.lt (fun e => HPA.out.vog e.symm)).trans HPA.out.row; have c65 := cell_of_row w5 g 6 _ _ _ hrow5; have f65 := frozen_of_row w5 g 6 _ _ hrow5; have hst := HPA.out.putOut ho5 hg5 ha5; have HS5 := Lib.hid hst; clear ho5 hg5 ha5 hrow5 hst)
    generalize w5.setCell ⟨g, 6, none⟩ (.slice A5 l5 k5) = w6 at *
    have c9' := HS5.out.c9
    have f9 := HS5.out.free 9
    simp only at c9'
    have hu2 := HS5.out.put 9 (.int .i64 ((u.plain - 1 : Nat) : Int)) { u with out := u.out ++ [c], plain := u.plain - 1 } rfl rfl rfl
    rw [show ((u.plain - 1 : Nat) : Int) = (u.plain : Int) - 1 by omega] at hu2
    have HS2 := Lib.hid hu2
    clear hu2 c65 f65
    go_wp2_with fail
    go_ret
    rw [← HR.out]
    exact ⟨rfl, _, _, HS2.out⟩
  · have hpI : ¬ (0 : Int) < u.plain := by omega
    rw [if_neg hp] at hr
    by_cases ht : 0 < lt
    · have htI : (0 : Int) < lt := by omega
      rw [if_pos ht] at hr
      have HR := Lib.hid hr
      clear hr
      have HPA := Lib.hid (HH.out.later ((Below.refl w.heap.size w).alloc (Nat.le_refl _) (.cells #[.int .u8 (c : Int)] 5)))
      have HNEW := Lib.hid (one_byte w c 5)
      have hbt : u.token.length + [c].length ≤ 140737488355328 := by rw [HLT.out]; simp only [List.length_cons, List.length_nil]; omega
      have HBT := Lib.hid hbt
      clear hbt
      go_enter Try.func36, Try.ntmps36
      go_upto_region 12 with (at_builtin; refine wpList_app_bytes _ rfl (.tmp 84) (.tmp 86) rfl 0 vt u.token (by first | exact HV8.out.symm | rfl) HPA.out.ot ⟨w.heap.size, 0, none⟩ [c] 1 rfl HNEW.out HBT.out (Nat.zero_le _) ?_; intro v5 w5 ho5 hg5 ha5; obtain ⟨A5, k5, hv5⟩ := ho5.slice; rw [show (u.token ++ [c]).length = lt + 1 by rw [List.length_append, HLT.out]; rfl] at hv5; generalize hl5 : lt + 1 = l5 at hv5; have HL5 := Lib.hid hl5; clear hl5; subst hv5; have hrow5 := (hg5.block _ HPA.out.lt (fun e => HPA.out.vtg e.symm)).trans HPA.out.row; have c85 := cell_of_row w5 g 8 _ _ _ hrow5; have f85 := frozen_of_row w5 g 8 _ _ hrow5; have hst := HPA.out.putTok ho5 hg5 ha5; have HS5 := Lib.hid hst; clear ho5 hg5 ha5 hrow5 hst)
      generalize w5.setCell ⟨g, 8, none⟩ (.slice A5 l5 k5) = w6 at *
      have c8' := HS5.out.c8
      have HLI := HL5.out
      clear c85 f85
      have htl : (u.token ++ [c]).length = l5 := by rw [List.length_append, HLT.out, ← HLI]; rfl
      by_cases h3 : lt + 1 = 3
      · have h3I : ((l5 : Int) == 3) = true := by simp; omega
        have hr2 := HR.out
        rw [if_pos h3] at hr2
        have HR2 := Lib.hid hr2
        have htn : u.token ≠ [] := by intro e; have h1 := HLT.out; rw [e] at h1; simp at h1; omega
        have h128 : 128 ≤ (u.token ++ [c]).getD 0 0 := by
          have h1 := (HTP.out htn).2.1
          obtain ⟨t, q, e⟩ : ∃ t q, u.token = t :: q := by
            cases e : u.token with
            | nil => exact absurd e htn
            | cons t q => exact ⟨t, q, rfl⟩
          rw [e] at h1 ⊢
          exact h1
        have hbb : Bytes (u.token ++ [c]) := by
          intro x hx
          simp only [List.mem_append, List.mem_cons, List.not_mem_nil, or_false] at hx
          rcases hx with hx | hx
          · exact HTB.out x hx
          · omega
        have hcp := copy_any w0 S g vo (.slice A5 l5 k5) { u with token := u.token ++ [c] } w6 HS5.out (by simp only; omega) hbb h128 (by simp only; rw [HLO.out]; omega)
        have HCP := Lib.hid hcp
        clear hr2 htn h128 hbb hcp h3 HLI htl
        go_wp2_with (go_at_call 54; refine HCP.out.mono ?_; rintro e w7 ⟨rfl, hf⟩; have HF := Lib.hid hf; clear hf)
        go_ret
        rw [← HR2.out]
        exact ⟨rfl, HF.out⟩
      · have h3I : ((l5 : Int) == 3) = false := by simp; omega
        have hr2 := HR.out
        rw [if_neg h3] at hr2
        have HR2 := Lib.hid hr2
        clear hr2 h3 HLI htl
        go_wp2_with fail
        go_ret
        rw [← HR2.out]
        exact ⟨rfl, _, _, HS5.out⟩
    · have htI : ¬ (0 : Int) < lt := by omega
      rw [if_neg ht] at hr
      have c4 := HH.out.c4
      have hsI : (u.size : Int) ≤ 1048576 := by omega
      have hs0 : (0 : Int) ≤ u.size := by omega
      have ho0 : (0 : Int) ≤ lo := by omega
      have htlen : u.token.length < 3 := by rw [HLT.out]; omega
      have holen : u.out.length ≤ u.size := by rw [HLO.out]; omega
      by_cases hos : lo = u.size
      · have hoI : ((lo : Int) == (u.size : Int)) = true := by simp; omega
        rw [if_pos hos] at hr
        have HR := Lib.hid hr
        clear hr hos
        go_enter Try.func36, Try.ntmps36
        go_upto_region 14 with fail
        go_quiet (fail)
        have HQ := Lib.hid (HH.out.drewN nq)
        generalize w.drewN nq = w2 at *
        have c0 := HQ.out.c0
        go_wp2_with (go_at_call 37; refine (fail_any w0 S g 5 u.taken vo vt _ _ HQ.out).mono ?_; rintro e w3 ⟨rfl, hf⟩; have HF := Lib.hid hf; clear hf)
        go_ret
        rw [← HR.out]
        exact ⟨rfl, _, _, HF.out⟩
      · have hoI : ((lo : Int) == (u.size : Int)) = false := by simp; omega
        rw [if_neg hos] at hr
        have HR := Lib.hid hr
        have HSZ := Lib.hid hsz
        have HOL := Lib.hid holen
        have HTL := Lib.hid htlen
        have HC := Lib.hid hc
        clear hr hos htlen holen
        go_enter Try.func36, Try.ntmps36
        go_upto_region 14 with fail
        go_quiet (fail)
        have HQ := Lib.hid (HH.out.drewN nq)
        generalize w.drewN nq = w2 at *
        go_wp2_with (go_at_call 55; refine (begin_any w0 S g c vo vt u _ HQ.out HC.out HSZ.out HOL.out HTL.out).mono ?_; rintro e w3 ⟨rfl, hf⟩; rw [HR.out] at hf ⊢; have HF := Lib.hid hf; clear hf)
        go_ret
        exact ⟨rfl, HF.out⟩
theorem take_any (w0 : World) (S : Nat → Prop) (g c : Nat) (vo vt : Value) (u : US) (w : World) (H : UkS w0 S w g vo vt u) (hf : Fine u) (hc : c < 256) :
    Calls Try.prog 36 #[.pointer (some ⟨g, 0, none⟩), .int .u8 (c : Int)] w fun e w' => e = .returned (.bool (u.take c).2) ∧ ∃ vo' vt', UkS w0 S w' g vo' vt' (u.take c).1 := by
  by_cases hh : u.head < 8
  · exact take_head w0 S g c vo vt u w H hf hc hh
  · exact take_rest w0 S g c vo vt u w H hf hc hh
end Go.Proofs.Ytlcppkcclolgcaa.Pk

namespace Go.Proofs.Ytlcppkcclolgcaa.Pk
set_option maxRecDepth 20000
set_option linter.unusedVariables false
set_option linter.unusedSimpArgs false
open Go.RowKit

theorem take_taken (u : US) (c : Nat) : (u.take c).1.taken = u.taken := by
  unfold US.take US.copy US.begin US.fail
  repeat' split
  all_goals rfl
/-- bytes that lie in a block that the unpacker leaves alone -/
structure Rd (w0 : World) (S : Nat → Prop) (gb : Nat) (ps : List Nat) : Prop where
  lt : gb < w0.heap.size
  far : ¬ S gb
  cell : ∀ j, j < ps.length → w0.cell? ⟨gb, j, none⟩ = some (.int .u8 (ps.getD j 0 : Nat))
theorem Rd.at {w0 w : World} {S : Nat → Prop} {gb : Nat} {ps : List Nat} (h : Rd w0 S gb ps) (hf : Far w0 S w) (j : Nat) (hj : j < ps.length) : w.cell? ⟨gb, j, none⟩ = some (.int .u8 (ps.getD j 0 : Nat)) :=
  (World.cell?_of_block (hf.block gb h.lt h.far)).trans (h.cell j hj)
theorem drop_cons (ps : List Nat) (k : Nat) (h : k < ps.length) : ps.drop k = ps.getD k 0 :: ps.drop (k + 1) := by
  rw [List.drop_eq_getElem_cons h]
  congr 1
  simp [List.getD_eq_getElem?_getD, h]

set_option maxRecDepth 100000 in
set_option maxHeartbeats 4000000 in
theorem feed_any (w0 : World) (S : Nat → Prop) (g gb cap : Nat) (ps : List Nat) (vo vt : Value) (u : US) (w : World) (H : UkS w0 S w g vo vt u) (hf : u.code = 0 → Fine u) (hb : Bytes ps) (hrd : Rd w0 S gb ps) (hl : u.taken + ps.length ≤ 4000000000000000000) :
    Calls Try.prog 20 #[.pointer (some ⟨g, 0, none⟩), .slice (some ⟨gb, 0, none⟩) ps.length cap] w fun e w' => e = .returned (.int .i64 (((u.feed ps).taken - u.taken : Nat) : Int)) ∧ ∃ vo' vt', UkS w0 S w' g vo' vt' (u.feed ps) := by
  obtain ⟨r, hr⟩ : ∃ r, u.feed ps = r := ⟨_, rfl⟩
  obtain ⟨d, hd⟩ : ∃ d, d = r.taken - u.taken := ⟨_, rfl⟩
  have hfd := fine_feed ps u hf hb
  rw [hr] at hfd ⊢
  rw [← hd]
  have hdI : (r.taken : Int) - u.taken = d := by have := hfd.2.2.1; omega
  have hd0 : (0 : Int) ≤ u.taken := by omega
  have hr0 : (r.taken : Int) ≤ 4000000000000000000 := by have := hfd.2.2.2.1; omega
  have hr1 : (0 : Int) ≤ r.taken := by omega
  have hd1 : (u.taken : Int) ≤ r.taken := by have := hfd.2.2.1; omega
  obtain ⟨n, hn⟩ : ∃ n, n = ps.length := ⟨_, rfl⟩
  rw [← hn] at hl ⊢
  have c0 := H.c0
  have hn0 : (0 : Int) ≤ n := by omega
  have HR := Lib.hid hr
  have HD := Lib.hid hdI
  have HH := Lib.hid H
  have HF := Lib.hid hf
  have HB := Lib.hid hb
  have HRD := Lib.hid hrd
  have HN := Lib.hid hn
  clear hr hd hfd H hf hb hrd hn hdI
  go_enter Try.func20, Try.ntmps20
  go_wp2_with fail
  go_loopw [15] (fun x wr => ∃ (k : Nat) (vo' vt' : Value) (u' : US), x = .int .i64 (k : Nat) ∧ UkS w0 S wr g vo' vt' u' ∧ (u'.code = 0 → Fine u') ∧ u'.feed (ps.drop k) = r ∧ u'.taken ≤ u.taken + k ∧ k ≤ n) (fun x _ => n - (intOf x).toNat)
  case atStart => exact ⟨0, vo, vt, u, rfl, HH.out, HF.out, HR.out, Nat.le_refl _, Nat.zero_le _⟩
  case round =>
    clear HH HF HR c0
    obtain ⟨k, vo', vt', u', rfl, hP, hf, hfe, htk, hkn⟩ := hrel
    have HP := Lib.hid hP
    have HF := Lib.hid hf
    have HFE := Lib.hid hfe
    clear hP hf hfe
    have hk0 : (0 : Int) ≤ k := by omega
    by_cases hlt : k < n
    · have hltI : (k : Int) < n := by omega
      obtain ⟨c, hc⟩ : ∃ c, ps.getD k 0 = c := ⟨_, rfl⟩
      have hcell := HRD.out.at HP.out.far k (by have := HN.out; omega)
      rw [hc] at hcell
      have hcb : c < 256 := by
        have h1 := HN.out
        rw [← hc, List.getD_eq_getElem?_getD, List.getElem?_eq_getElem (by omega)]
        exact HB.out _ (List.getElem_mem _)
      have hstep : u'.feed (ps.drop k) = (u'.one c).feed (ps.drop (k + 1)) := by
        rw [drop_cons ps k (by have := HN.out; omega), feed_cons, hc]
      have HSTEP := Lib.hid hstep
      have HCB := Lib.hid hcb
      clear hstep hcb hc
      have c3 := HP.out.c3
      have c1 := HP.out.c1
      have c0 := HP.out.c0
      by_cases hsh : u'.shut = true
      · rw [hsh] at c3
        have hst : u' = r := by rw [← HFE.out, feed_stop _ (.inl hsh)]
        subst hst
        have HDD := HD.out
        clear hsh
        go_wp2_with fail
        go_ret
        exact ⟨rfl, _, _, HP.out⟩
      · have hshf : u'.shut = false := by simpa using hsh
        rw [hshf] at c3
        by_cases hcd : u'.code = 0
        · have hcI : ((u'.code : Int) != 0) = false := by simp; omega
          have hcI2 : ((u'.code : Int) == 0) = true := by simp; omega
          have hone := one_go u' c hshf hcd
          obtain ⟨q, hq⟩ : ∃ q, u'.take c = q := ⟨_, rfl⟩
          have htt := take_taken u' c
          have hft := fine_take u' (HF.out hcd) c HCB.out hcd
          have hff := HF.out hcd
          have hfo := fine_one u' HF.out c HCB.out
          rw [hq] at hone htt hft
          obtain ⟨q1, q2⟩ := q
          have HQ := Lib.hid hq
          have HFF := Lib.hid hff
          have HFO := Lib.hid hfo
          have HONE := Lib.hid hone
          clear hq hff hfo hsh hshf hcd hone
          cases q2 with
          | true =>
            have HTT := Lib.hid htt
            clear htt hft
            have htk1 : ((u'.taken : Nat) : Int) ≤ 4000000000000000000 := by omega
            go_upto_region 6 with (go_at_call 36; refine (take_any w0 S g c vo' vt' u' _ HP.out HFF.out HCB.out).mono ?_; rintro e w7 ⟨rfl, hf⟩; rw [HQ.out] at hf ⊢; have HFX := Lib.hid hf; clear hf)
            obtain ⟨vo2, vt2, h2⟩ := HFX.out
            have c02 := h2.c0
            have f02 := h2.free 0
            rw [HTT.out] at c02
            have h3 := h2.put 0 (.int .i64 ((u'.taken + 1 : Nat) : Int)) { q1 with taken := u'.taken + 1 } rfl rfl rfl
            rw [Int.natCast_add] at h3
            have H3 := Lib.hid h3
            clear h2 h3 c0 c1 c3 hcell HFX
            go_wp2_with fail
            go_roundw
            case rel =>
              have ho := HONE.out
              simp only [if_true] at ho
              refine ⟨k + 1, vo2, vt2, _, by go_num, H3.out, ?_, ?_, ?_, by omega⟩
              · rw [← ho]
                exact HFO.out.1
              · rw [← ho, ← HSTEP.out]
                exact HFE.out
              · simp only
                omega
            case measure => simp [intOf]; omega
          | false =>
            have ho := HONE.out
            rw [if_neg (by simp)] at ho
            simp only at ho
            have hst : q1 = r := by rw [← HFE.out, HSTEP.out, ho, feed_stop _ (.inr (hft.2.1 rfl).1)]
            subst hst
            have HDD := HD.out
            clear ho hft htt
            go_upto_region 8 with (go_at_call 36; refine (take_any w0 S g c vo' vt' u' _ HP.out HFF.out HCB.out).mono ?_; rintro e w7 ⟨rfl, hf⟩; rw [HQ.out] at hf ⊢; have HFX := Lib.hid hf; clear hf)
            obtain ⟨vo2, vt2, h2⟩ := HFX.out
            have c02 := h2.c0
            have H2 := Lib.hid h2
            clear h2 c0 c1 c3 hcell HFX
            go_wp2_with fail
            go_ret
            exact ⟨rfl, _, _, H2.out⟩
        · have hcI : ((u'.code : Int) != 0) = true := by simp; omega
          have hcI2 : ((u'.code : Int) == 0) = false := by simp; omega
          have hst : u' = r := by rw [← HFE.out, feed_stop _ (.inr hcd)]
          subst hst
          have HDD := HD.out
          clear hcd hsh hshf
          go_wp2_with fail
          go_ret
          exact ⟨rfl, _, _, HP.out⟩
    · have hltI : ¬ (k : Int) < n := by omega
      have hst : u' = r := by
        have h1 := HFE.out
        rw [List.drop_eq_nil_of_le (by have := HN.out; omega)] at h1
        exact h1
      subst hst
      have HDD := HD.out
      have c0 := HP.out.c0
      go_wp2_with fail
      go_ret
      exact ⟨rfl, _, _, HP.out⟩

set_option maxRecDepth 100000 in
theorem new_any (w : World) : Calls Try.prog 19 #[] w fun e w' => e = .returned (.pointer (some ⟨w.heap.size, 0, none⟩)) ∧ UkS w (fun _ => False) w' w.heap.size (.slice none 0 0) (.slice none 0 0) US.new := by
  go_enter Try.func19, Try.ntmps19
  go_wp2_with fail
  go_ret
  exact ⟨rfl, UkS.fresh w⟩
/-- what holds of every unpacker -/
structure Sane (u : US) : Prop where
  head : u.head ≤ 8
  size : u.head = 8 → u.size ≤ 1048576
  out : Bytes u.out
theorem sane_new : Sane US.new := ⟨by decide, fun h => by simp [US.new] at h, fun x hx => by simp [US.new] at hx⟩
theorem bytes_getD {L : List Nat} (h : Bytes L) (j : Nat) : L.getD j 0 < 256 := by
  by_cases hj : j < L.length
  · rw [List.getD_eq_getElem?_getD, List.getElem?_eq_getElem hj]
    exact h _ (List.getElem_mem _)
  · rw [List.getD_eq_getElem?_getD, List.getElem?_eq_none (by omega)]
    simp
theorem bytes_snoc {L : List Nat} (h : Bytes L) {c : Nat} (hc : c < 256) : Bytes (L ++ [c]) := by
  intro x hx
  simp only [List.mem_append, List.mem_cons, List.not_mem_nil, or_false] at hx
  rcases hx with hx | hx
  · exact h x hx
  · omega
theorem copyOut_bytes (far : Nat) : ∀ k out, Bytes out → Bytes (copyOut far k out)
  | 0, out, h => h
  | k + 1, out, h => copyOut_bytes far k _ (bytes_snoc h (bytes_getD h _))
theorem sane_take (u : US) (h : Sane u) (c : Nat) (hc : c < 256) : Sane (u.take c).1 := by
  obtain ⟨h1, h2, h3⟩ := h
  unfold US.take
  split
  · split
    · rename_i a b
      exact ⟨h1, fun e => by have := b.1; simp only [US.fail] at e; omega, h3⟩
    · rename_i a b
      obtain ⟨y, hy⟩ : ∃ y, c * 2 ^ (8 * u.head) = y := ⟨_, rfl⟩
      rw [hy] at b ⊢
      refine ⟨?_, ?_, h3⟩
      · show u.head + 1 ≤ 8
        omega
      · show u.head + 1 = 8 → u.size + y ≤ 1048576
        intro e
        have : ¬ 1048576 < u.size + y := fun q => b ⟨by omega, q⟩
        omega
  · split
    · exact ⟨h1, h2, bytes_snoc h3 hc⟩
    · split
      · split
        · unfold US.copy
          split
          · exact ⟨h1, h2, h3⟩
          · generalize ho : copyOut _ _ _ = o
            have hb : Bytes o := by rw [← ho]; exact copyOut_bytes _ _ _ h3
            exact ⟨h1, h2, hb⟩
        · exact ⟨h1, h2, h3⟩
      · split
        · exact ⟨h1, h2, h3⟩
        · unfold US.begin
          split
          · exact ⟨h1, h2, h3⟩
          · split
            · exact ⟨h1, h2, h3⟩
            · exact ⟨h1, h2, h3⟩
theorem sane_one (u : US) (h : Sane u) (c : Nat) (hc : c < 256) : Sane (u.one c) := by
  unfold US.one
  split
  · exact h
  · split
    · obtain ⟨a, b, d⟩ := sane_take u h c hc
      exact ⟨a, b, d⟩
    · exact sane_take u h c hc
theorem sane_feed : ∀ (bs : List Nat) (u : US), Sane u → Bytes bs → Sane (u.feed bs)
  | [], u, h, _ => h
  | c :: r, u, h, hb => sane_feed r (u.one c) (sane_one u h c (hb c (by simp))) (fun x hx => hb x (by simp [hx]))
theorem sane_close (u : US) (h : Sane u) : Sane u.close := by
  obtain ⟨a, b, c⟩ := h
  unfold US.close
  split
  · exact ⟨a, b, c⟩
  · exact ⟨a, b, c⟩
end Go.Proofs.Ytlcppkcclolgcaa.Pk

namespace Go.Proofs.Ytlcppkcclolgcaa.Pk
set_option maxRecDepth 20000
set_option linter.unusedVariables false
set_option linter.unusedSimpArgs false
open Go.RowKit
open Go.Proofs.YtlcppkcclolgcaaW.PrintLast

/-- what Close answers -/
def closeText (u : US) : ByteArray := if u.close.code = 0 then strOf u.out else ⟨#[]⟩
def closeCode (u : US) : Nat := u.close.code
def closeAt (u : US) : Nat := if u.close.code = 0 then 0 else u.close.at_

/-- a store into a block that is none of the unpacker's -/
theorem UkS.other {w0 w : World} {S : Nat → Prop} {g : Nat} {vo vt : Value} {u : US} (H : UkS w0 S w g vo vt u) {b i : Nat} {x : Value} (hb : w0.heap.size ≤ b) (hm : ¬ Mine g vo vt b) : UkS w0 S (w.setCell ⟨b, i, none⟩ x) g vo vt u := by
  have hset : w.grownBy (w.setCell ⟨b, i, none⟩ x) (some b) := only_setG (World.grownBy.refl w _) i _
  refine ⟨?_, H.oo.kept hset (.inr fun e => hm (.inr (.inl e))), H.ot.kept hset (.inr fun e => hm (.inr (.inr e))), H.ne, H.far.grown hset (fun k e hk => by injection e with e; omega), H.sg, H.so, H.st⟩
  exact (hset.block _ H.lt (by simp; exact fun e => hm (.inl e.symm))).trans H.row
theorem close_shut (u : US) (h : ¬ (u.shut = false ∧ u.whole = false ∧ u.code = 0)) : u.close = { u with shut := true } := by
  unfold US.close
  rw [if_neg h]

set_option maxRecDepth 100000 in
set_option maxHeartbeats 8000000 in
theorem close_any (w0 : World) (S : Nat → Prop) (g : Nat) (vo vt : Value) (u : US) (w : World) (H : UkS w0 S w g vo vt u) (hs : Sane u) :
    Calls Try.prog 21 #[.pointer (some ⟨g, 0, none⟩)] w fun e w' => e = .returned (.tuple #[.string (closeText u), .agg #[.int .i64 (closeCode u : Nat), .int .i64 (closeAt u : Nat)]]) ∧ UkS w0 S w' g vo vt u.close := by
  obtain ⟨rt, hrt⟩ : ∃ x, closeText u = x := ⟨_, rfl⟩
  obtain ⟨rc, hrc⟩ : ∃ x, closeCode u = x := ⟨_, rfl⟩
  obtain ⟨ra, hra⟩ : ∃ x, closeAt u = x := ⟨_, rfl⟩
  obtain ⟨uc, huc⟩ : ∃ x, u.close = x := ⟨_, rfl⟩
  rw [hrt, hrc, hra, huc]
  unfold closeText at hrt
  unfold closeCode at hrc
  unfold closeAt at hra
  rw [huc] at hrt hrc hra
  have hsl := H.far.size
  have HA := H.later ((Below.refl w.heap.size w).alloc (Nat.le_refl _) (.cells #[.int .i64 0, .int .i64 0] 30))
  have hnm : ¬ Mine g vo vt w.heap.size := fun h => Nat.lt_irrefl _ (H.mine h).1
  have hrow := heap_alloc_new w (.cells #[.int .i64 0, .int .i64 0] 30)
  have hlt : w.heap.size < (w.alloc (.cells #[.int .i64 0, .int .i64 0] 30)).heap.size := by simp
  obtain ⟨A6, k6, hv6⟩ := H.oo.slice
  obtain ⟨lo, hlo⟩ : ∃ lo, u.out.length = lo := ⟨_, rfl⟩
  rw [hlo] at hv6
  have hhd := hs.head
  have hsz := hs.size
  have hconv : ∀ (W : World), OwnB W 0 vo u.out → (convert 38 9 (.slice A6 lo k6)).run Try.prog W = .ok (.string (strOf u.out)) W := fun W h => by rw [← hv6]; exact run_conv_own W h hs.out
  have HCONV := Lib.hid hconv
  have HV6 := Lib.hid hv6
  have HLO := Lib.hid hlo
  have HRT := Lib.hid hrt
  have HRC := Lib.hid hrc
  have HRA := Lib.hid hra
  have HUC := Lib.hid huc
  have HSL := Lib.hid hsl
  have HNM := Lib.hid hnm
  clear hv6 hlo H hs hrt hrc hra huc hsl hnm hconv
  go_enter Try.func21, Try.ntmps21
  go_upto_region 1 with fail
  generalize w.heap.size = rb at *
  generalize w.alloc (.cells #[.int .i64 0, .int .i64 0] 30) = W1 at *
  have HJ := Lib.hid HA
  have HB := Lib.hid HA.rebase
  have HROW := Lib.hid hrow
  clear HA hrow
  have c4 := HB.out.c4
  have c5 := HB.out.c5
  have c6 := HB.out.c6
  rw [HV6.out] at c6
  -- the result's block is as it was wherever the unpacker alone has changed
  have hkeep : ∀ (W : World) (x y : Value) (u' : US), UkS W1 (Mine g vo vt) W g x y u' → W.heap[rb]? = some (.cells #[.int .i64 0, .int .i64 0] 30 (0, 0)) := fun W x y u' h => (h.far.block rb hlt HNM.out).trans HROW.out
  have HKEEP := Lib.hid hkeep
  clear hkeep
  go_cut [4] (fun x wx => x = .bool u.whole ∧ UkS W1 (Mine g vo vt) wx g vo vt u)
  case first =>
    by_cases h8 : u.head = 8
    · have h8I : ((u.head : Int) == 8) = true := by simp; omega
      have hsI : (u.size : Int) ≤ 1048576 := by have := hsz h8; omega
      have hs0 : (0 : Int) ≤ u.size := by omega
      have ho0 : (0 : Int) ≤ lo := by omega
      by_cases hos : lo = u.size
      · have hoI : ((lo : Int) == (u.size : Int)) = true := by simp; omega
        have hw : u.whole = true := by unfold US.whole; rw [HLO.out, h8, hos]; simp
        have HW := Lib.hid hw
        clear h8 hos hsz hw
        go_quiet (fail)
        go_wp2_with fail
        go_meet
        exact ⟨by rw [HW.out], HB.out.drewN nq⟩
      · have hoI : ((lo : Int) == (u.size : Int)) = false := by simp; omega
        have hw : u.whole = false := by unfold US.whole; rw [HLO.out, h8]; simp; exact hos
        have HW := Lib.hid hw
        clear h8 hos hsz hw
        go_quiet (fail)
        go_wp2_with fail
        go_meet
        exact ⟨by rw [HW.out], HB.out.drewN nq⟩
    · have h8I : ((u.head : Int) == 8) = false := by simp; omega
      have hw : u.whole = false := by unfold US.whole; simp; intro e; exact absurd e h8
      have HW := Lib.hid hw
      clear h8 hsz hw
      go_quiet (fail)
      go_wp2_with fail
      go_meet
      exact ⟨by rw [HW.out], HB.out.drewN nq⟩
  case rest =>
    obtain ⟨rfl, hP⟩ := hcut
    have HP := Lib.hid hP
    clear hP c4 c5 c6 HB hsz hhd
    have c3 := HP.out.c3
    have c1 := HP.out.c1
    have c0 := HP.out.c0
    have f3 := HP.out.free 3
    by_cases hb : u.shut = false ∧ u.whole = false ∧ u.code = 0
    · obtain ⟨h1, h2, h3⟩ := hb
      have hcI : ((u.code : Int) == 0) = true := by simp; omega
      have hcI2 : ((u.code : Int) != 0) = false := by simp; omega
      have hcl : uc = { u.fail 4 u.taken with shut := true } := by rw [← HUC.out, US.close, if_pos ⟨h1, h2, h3⟩]
      have HCL := Lib.hid hcl
      have hcode : ¬ ({ u.fail 4 u.taken with shut := true } : US).code = 0 := by simp [US.fail]
      have HCODE := Lib.hid hcode
      rw [h1] at c3
      rw [h2]
      clear h1 h2 h3 hcl hcode
      go_upto_region 4 with (go_at_call 37; refine (fail_any W1 (Mine g vo vt) g 4 u.taken vo vt _ _ HP.out).mono ?_; rintro e w3 ⟨rfl, hf⟩; have HF := Lib.hid hf; clear hf)
      have f3' := HF.out.free 3
      have c3' := HF.out.c3
      clear c0 c1 c3 f3 hcI hcI2
      have HQ := Lib.hid (HF.out.put 3 (.bool true) { u.fail 4 u.taken with shut := true } rfl rfl rfl)
      go_upto_region 5 with fail
      generalize w3.setCell ⟨g, 3, none⟩ (.bool true) = w4 at *
      clear c3' f3'
      have hq2 := HQ.out
      rw [← HCL.out] at hq2
      have d1 := hq2.c1
      have d2 := hq2.c2
      have d6 := hq2.c6
      rw [HRC.out] at d1
      rw [HV6.out] at d6
      have hr2 := HKEEP.out _ _ _ _ hq2
      have r0 := cell_of_row _ rb 0 _ _ _ hr2
      have r1 := cell_of_row _ rb 1 _ _ _ hr2
      have g0 := frozen_of_row _ rb 0 _ _ hr2
      have g1 := frozen_of_row _ rb 1 _ _ hr2
      have HQ2 := Lib.hid hq2
      clear hq2 hr2 HQ
      have hrc := HRC.out
      have hnz : ¬ rc = 0 := by rw [← hrc, HCL.out]; exact HCODE.out
      have hra := HRA.out
      have hrt := HRT.out
      rw [if_neg (by rw [HRC.out]; exact hnz)] at hra hrt
      rw [hra] at d2
      subst hrt
      have hnI : ((rc : Int) != 0) = true := by simp; omega
      have hnI2 : ((rc : Int) == 0) = false := by simp; omega
      have HFIN := Lib.hid (((HJ.out.join HQ2.out).other (i := 0) (x := .int .i64 (rc : Int)) HSL.out HNM.out).other (i := 1) (x := .int .i64 (ra : Int)) HSL.out HNM.out).drew
      clear hra hrc hnz
      go_upto_region 6 with fail
      go_region
      go_wp2_with fail
      exact bodyPost_ret (v := .tuple #[.string ⟨#[]⟩, .agg #[.int .i64 (rc : Int), .int .i64 (ra : Int)]]) (by simp [results, Try.results21, go_sem, r0, r1]) rfl ⟨rfl, HFIN.out⟩
    · have hcl : uc = { u with shut := true } := by rw [← HUC.out, close_shut u hb]
      have HCL := Lib.hid hcl
      have HQ := Lib.hid (HP.out.put 3 (.bool true) { u with shut := true } rfl rfl rfl)
      clear hcl
      by_cases hsh : u.shut = true
      · rw [hsh] at c3
        by_cases hcd : u.code = 0
        · have HCODE := Lib.hid hcd
          clear hb hsh hcd
          go_upto_region 5 with fail
          generalize wc.setCell ⟨g, 3, none⟩ (.bool true) = w4 at *
          clear c0 c1 c3 f3
          have hq2 := HQ.out
          rw [← HCL.out] at hq2
          have d1 := hq2.c1
          have d2 := hq2.c2
          have d6 := hq2.c6
          rw [HRC.out] at d1
          rw [HV6.out] at d6
          have hr2 := HKEEP.out _ _ _ _ hq2
          have r0 := cell_of_row _ rb 0 _ _ _ hr2
          have r1 := cell_of_row _ rb 1 _ _ _ hr2
          have g0 := frozen_of_row _ rb 0 _ _ hr2
          have g1 := frozen_of_row _ rb 1 _ _ hr2
          have HQ2 := Lib.hid hq2
          clear hq2 hr2 HQ
          have hrc := HRC.out
          have hnz : rc = 0 := by rw [← hrc, HCL.out]; exact HCODE.out
          have hra := HRA.out
          have hrt := HRT.out
          rw [if_pos (by rw [HRC.out]; exact hnz)] at hra hrt
          subst hra
          have hnI : ((rc : Int) != 0) = false := by simp; omega
          have hnI2 : ((rc : Int) == 0) = true := by simp; omega
          have hout : uc.out = u.out := by rw [HCL.out]
          have hcv := HCONV.out w4 (by have := HQ2.out.oo; rwa [hout] at this)
          have hrt2 : strOf u.out = rt := by rw [← hrt]
          have HFIN := Lib.hid ((HJ.out.join HQ2.out).other (i := 0) (x := .int .i64 0) HSL.out HNM.out |>.other (i := 1) (x := .int .i64 0) HSL.out HNM.out)
          have HRC0 := Lib.hid hnz
          have HRT2 := Lib.hid hrt2
          clear hrc hnz hrt hout hrt2
          go_wp2_with fail
          rw [HRC0.out, ← HRT2.out]
          exact bodyPost_ret (v := .tuple #[.string (strOf u.out), .agg #[.int .i64 0, .int .i64 0]]) (by simp [results, Try.results21, go_sem, r0, r1]) rfl ⟨rfl, HFIN.out⟩
        · have HCODE := Lib.hid hcd
          clear hb hsh hcd
          go_upto_region 5 with fail
          generalize wc.setCell ⟨g, 3, none⟩ (.bool true) = w4 at *
          clear c0 c1 c3 f3
          have hq2 := HQ.out
          rw [← HCL.out] at hq2
          have d1 := hq2.c1
          have d2 := hq2.c2
          have d6 := hq2.c6
          rw [HRC.out] at d1
          rw [HV6.out] at d6
          have hr2 := HKEEP.out _ _ _ _ hq2
          have r0 := cell_of_row _ rb 0 _ _ _ hr2
          have r1 := cell_of_row _ rb 1 _ _ _ hr2
          have g0 := frozen_of_row _ rb 0 _ _ hr2
          have g1 := frozen_of_row _ rb 1 _ _ hr2
          have HQ2 := Lib.hid hq2
          clear hq2 hr2 HQ
          have hrc := HRC.out
          have hnz : ¬ rc = 0 := by rw [← hrc, HCL.out]; exact HCODE.out
          have hra := HRA.out
          have hrt := HRT.out
          rw [if_neg (by rw [HRC.out]; exact hnz)] at hra hrt
          rw [hra] at d2
          subst hrt
          have hnI : ((rc : Int) != 0) = true := by simp; omega
          have hnI2 : ((rc : Int) == 0) = false := by simp; omega
          have HFIN := Lib.hid (((HJ.out.join HQ2.out).other (i := 0) (x := .int .i64 (rc : Int)) HSL.out HNM.out).other (i := 1) (x := .int .i64 (ra : Int)) HSL.out HNM.out).drew
          clear hra hrc hnz
          go_upto_region 6 with fail
          go_region
          go_wp2_with fail
          exact bodyPost_ret (v := .tuple #[.string ⟨#[]⟩, .agg #[.int .i64 (rc : Int), .int .i64 (ra : Int)]]) (by simp [results, Try.results21, go_sem, r0, r1]) rfl ⟨rfl, HFIN.out⟩
      · have hshf : u.shut = false := by simpa using hsh
        rw [hshf] at c3
        by_cases hw : u.whole = true
        · rw [hw]
          by_cases hcd : u.code = 0
          · have HCODE := Lib.hid hcd
            have hcI : ((u.code : Int) == 0) = true := by simp; omega
            clear hb hsh hcd hshf hw
            go_upto_region 5 with fail
            generalize wc.setCell ⟨g, 3, none⟩ (.bool true) = w4 at *
            clear c0 c1 c3 f3
            have hq2 := HQ.out
            rw [← HCL.out] at hq2
            have d1 := hq2.c1
            have d2 := hq2.c2
            have d6 := hq2.c6
            rw [HRC.out] at d1
            rw [HV6.out] at d6
            have hr2 := HKEEP.out _ _ _ _ hq2
            have r0 := cell_of_row _ rb 0 _ _ _ hr2
            have r1 := cell_of_row _ rb 1 _ _ _ hr2
            have g0 := frozen_of_row _ rb 0 _ _ hr2
            have g1 := frozen_of_row _ rb 1 _ _ hr2
            have HQ2 := Lib.hid hq2
            clear hq2 hr2 HQ
            have hrc := HRC.out
            have hnz : rc = 0 := by rw [← hrc, HCL.out]; exact HCODE.out
            have hra := HRA.out
            have hrt := HRT.out
            rw [if_pos (by rw [HRC.out]; exact hnz)] at hra hrt
            subst hra
            have hnI : ((rc : Int) != 0) = false := by simp; omega
            have hnI2 : ((rc : Int) == 0) = true := by simp; omega
            have hout : uc.out = u.out := by rw [HCL.out]
            have hcv := HCONV.out w4 (by have := HQ2.out.oo; rwa [hout] at this)
            have hrt2 : strOf u.out = rt := by rw [← hrt]
            have HFIN := Lib.hid ((HJ.out.join HQ2.out).other (i := 0) (x := .int .i64 0) HSL.out HNM.out |>.other (i := 1) (x := .int .i64 0) HSL.out HNM.out)
            have HRC0 := Lib.hid hnz
            have HRT2 := Lib.hid hrt2
            clear hrc hnz hrt hout hrt2
            go_wp2_with fail
            rw [HRC0.out, ← HRT2.out]
            exact bodyPost_ret (v := .tuple #[.string (strOf u.out), .agg #[.int .i64 0, .int .i64 0]]) (by simp [results, Try.results21, go_sem, r0, r1]) rfl ⟨rfl, HFIN.out⟩
          · have HCODE := Lib.hid hcd
            have hcI : ((u.code : Int) == 0) = false := by simp; omega
            clear hb hsh hcd hshf hw
            go_upto_region 5 with fail
            generalize wc.setCell ⟨g, 3, none⟩ (.bool true) = w4 at *
            clear c0 c1 c3 f3
            have hq2 := HQ.out
            rw [← HCL.out] at hq2
            have d1 := hq2.c1
            have d2 := hq2.c2
            have d6 := hq2.c6
            rw [HRC.out] at d1
            rw [HV6.out] at d6
            have hr2 := HKEEP.out _ _ _ _ hq2
            have r0 := cell_of_row _ rb 0 _ _ _ hr2
            have r1 := cell_of_row _ rb 1 _ _ _ hr2
            have g0 := frozen_of_row _ rb 0 _ _ hr2
            have g1 := frozen_of_row _ rb 1 _ _ hr2
            have HQ2 := Lib.hid hq2
            clear hq2 hr2 HQ
            have hrc := HRC.out
            have hnz : ¬ rc = 0 := by rw [← hrc, HCL.out]; exact HCODE.out
            have hra := HRA.out
            have hrt := HRT.out
            rw [if_neg (by rw [HRC.out]; exact hnz)] at hra hrt
            rw [hra] at d2
            subst hrt
            have hnI : ((rc : Int) != 0) = true := by simp; omega
            have hnI2 : ((rc : Int) == 0) = false := by simp; omega
            have HFIN := Lib.hid (((HJ.out.join HQ2.out).other (i := 0) (x := .int .i64 (rc : Int)) HSL.out HNM.out).other (i := 1) (x := .int .i64 (ra : Int)) HSL.out HNM.out).drew
            clear hra hrc hnz
            go_upto_region 6 with fail
            go_region
            go_wp2_with fail
            exact bodyPost_ret (v := .tuple #[.string ⟨#[]⟩, .agg #[.int .i64 (rc : Int), .int .i64 (ra : Int)]]) (by simp [results, Try.results21, go_sem, r0, r1]) rfl ⟨rfl, HFIN.out⟩
        · have hwf : u.whole = false := by simpa using hw
          rw [hwf]
          by_cases hcd : u.code = 0
          · exact absurd ⟨hshf, hwf, hcd⟩ hb
          · have HCODE := Lib.hid hcd
            have hcI : ((u.code : Int) == 0) = false := by simp; omega
            clear hb hsh hcd hshf hw hwf
            go_upto_region 5 with fail
            generalize wc.setCell ⟨g, 3, none⟩ (.bool true) = w4 at *
            clear c0 c1 c3 f3
            have hq2 := HQ.out
            rw [← HCL.out] at hq2
            have d1 := hq2.c1
            have d2 := hq2.c2
            have d6 := hq2.c6
            rw [HRC.out] at d1
            rw [HV6.out] at d6
            have hr2 := HKEEP.out _ _ _ _ hq2
            have r0 := cell_of_row _ rb 0 _ _ _ hr2
            have r1 := cell_of_row _ rb 1 _ _ _ hr2
            have g0 := frozen_of_row _ rb 0 _ _ hr2
            have g1 := frozen_of_row _ rb 1 _ _ hr2
            have HQ2 := Lib.hid hq2
            clear hq2 hr2 HQ
            have hrc := HRC.out
            have hnz : ¬ rc = 0 := by rw [← hrc, HCL.out]; exact HCODE.out
            have hra := HRA.out
            have hrt := HRT.out
            rw [if_neg (by rw [HRC.out]; exact hnz)] at hra hrt
            rw [hra] at d2
            subst hrt
            have hnI : ((rc : Int) != 0) = true := by simp; omega
            have hnI2 : ((rc : Int) == 0) = false := by simp; omega
            have HFIN := Lib.hid (((HJ.out.join HQ2.out).other (i := 0) (x := .int .i64 (rc : Int)) HSL.out HNM.out).other (i := 1) (x := .int .i64 (ra : Int)) HSL.out HNM.out).drew
            clear hra hrc hnz
            go_upto_region 6 with fail
            go_region
            go_wp2_with fail
            exact bodyPost_ret (v := .tuple #[.string ⟨#[]⟩, .agg #[.int .i64 (rc : Int), .int .i64 (ra : Int)]]) (by simp [results, Try.results21, go_sem, r0, r1]) rfl ⟨rfl, HFIN.out⟩
end Go.Proofs.Ytlcppkcclolgcaa.Pk

namespace Go.Proofs.Ytlcppkcclolgcaa.Pk
set_option maxRecDepth 20000
set_option linter.unusedVariables false
set_option linter.unusedSimpArgs false
open Go.RowKit

theorem feed_conv (w0 : World) (S : Nat → Prop) (g cap : Nat) (s : ByteArray) (vo vt : Value) (u : US) (w : World) (H : UkS w0 S w g vo vt u) (hf : u.code = 0 → Fine u) (hl : u.taken + s.size ≤ 4000000000000000000) :
    Calls Try.prog 20 #[.pointer (some ⟨g, 0, none⟩), .slice (some ⟨w.heap.size, 0, none⟩) s.size cap] (Lib.bytesWorld w 5 s) fun e w' => e = .returned (.int .i64 (((u.feed (nb s)).taken - u.taken : Nat) : Int)) ∧ ∃ vo' vt', UkS w0 S w' g vo' vt' (u.feed (nb s)) := by
  have hb : Below w.heap.size w (Lib.bytesWorld w 5 s) := below_conv w w s (Below.refl _ _) (Nat.le_refl _)
  have H1 := H.later hb
  have hrd : Rd (Lib.bytesWorld w 5 s) (Mine g vo vt) w.heap.size (nb s) := by
    refine ⟨by rw [Lib.bytesWorld_size]; omega, fun h => Nat.lt_irrefl _ (H.mine h).1, fun j hj => ?_⟩
    rw [nb_length] at hj
    rw [Lib.bytesWorld_cell w 5 s j hj, getD_nb s j hj]
    congr 3
    simp [List.getD_eq_getElem?_getD, hj]
    rfl
  have hfd := feed_any _ _ g w.heap.size cap (nb s) vo vt u _ H1.rebase hf (nb_bytes s) hrd (by rw [nb_length]; exact hl)
  rw [nb_length] at hfd
  refine hfd.mono ?_
  rintro e w' ⟨he, vo', vt', h⟩
  exact ⟨he, vo', vt', H1.join h⟩

end Go.Proofs.Ytlcppkcclolgcaa.Pk

namespace Go.Proofs.Ytlcppkcclolgcaa.Pk
set_option linter.unusedVariables false
set_option linter.unusedSimpArgs false
open Go.RowKit
/-- packed and unpacked again -/
theorem pack_unpack (s : ByteArray) (hs : s.size ≤ 1048576) : closeText (US.new.feed (nb (strOf (packL (nb s))))) = s ∧ closeCode (US.new.feed (nb (strOf (packL (nb s))))) = 0 ∧ closeAt (US.new.feed (nb (strOf (packL (nb s))))) = 0 := by
  rw [nb_strOf _ (packL_bytes _ (nb_bytes s))]
  obtain ⟨a, b⟩ := feed_packL (nb s) (by rw [nb_length]; exact hs)
  obtain ⟨hw, ho⟩ := at_whole a
  obtain ⟨h1, h2, h3, h4, h5, h6, h7⟩ := a
  have hc : (US.new.feed (packL (nb s))).close.code = 0 := by
    rw [close_shut _ (fun q => by rw [hw] at q; simp at q)]
    exact h2
  refine ⟨?_, hc, ?_⟩
  · rw [closeText, if_pos hc, ho]
    apply nb_inj
    rw [nb_strOf _ (nb_bytes s)]
  · rw [closeAt, if_pos hc]
theorem feed_le (bs : List Nat) (hb : Bytes bs) (u : US) (hf : u.code = 0 → Fine u) : (u.feed bs).taken ≤ u.taken + bs.length := (fine_feed bs u hf hb).2.2.2.1
/-- the unpacker has been fed the first k pieces -/
def ufK (pcs : List ByteArray) (k : Nat) : US := US.new.feed ((pcs.take k).map nb).flatten
theorem ufK_zero (pcs : List ByteArray) : ufK pcs 0 = US.new := rfl
theorem ufK_succ (pcs : List ByteArray) (k : Nat) (h : k < pcs.length) : (ufK pcs k).feed (nb (pcs.getD k emp)) = ufK pcs (k + 1) := by
  unfold ufK
  rw [← feed_append, List.take_add_one, List.getElem?_eq_getElem h, List.getD_eq_getElem?_getD, List.getElem?_eq_getElem h, List.map_append, List.flatten_append]
  simp only [Option.toList_some, List.map_cons, List.map_nil, List.flatten_cons, List.flatten_nil, List.append_nil, Option.getD_some]
theorem ufK_all {w0 w : World} {v : Value} {s : ByteArray} {pcs : List ByteArray} (H : PcS w0 w v s s.size pcs) : ufK pcs pcs.length = US.new.feed (nb s) := by
  unfold ufK
  rw [List.take_length, H.txt, List.take_of_length_le (by rw [nb_length]; omega)]
theorem part_bytes (pcs : List ByteArray) : Bytes (pcs.map nb).flatten := fun x hx => by
  obtain ⟨l, hl, hx⟩ := List.mem_flatten.1 hx
  obtain ⟨t, _, rfl⟩ := List.mem_map.1 hl
  exact nb_bytes t x hx
theorem ufK_fine (pcs : List ByteArray) (k : Nat) : (ufK pcs k).code = 0 → Fine (ufK pcs k) := (fine_feed _ US.new (fun _ => fine_new) (part_bytes _)).1
theorem ufK_sane (pcs : List ByteArray) (k : Nat) : Sane (ufK pcs k) := sane_feed _ US.new sane_new (part_bytes _)
theorem flatten_split (pcs : List ByteArray) (k : Nat) : (pcs.map nb).flatten = ((pcs.take k).map nb).flatten ++ ((pcs.drop k).map nb).flatten := by
  rw [← List.flatten_append, ← List.map_append, List.take_append_drop]
/-- every prefix of the packed bytes is taken whole -/
theorem pre_taken {A B : List Nat} (hA : Bytes A) (hB : Bytes B) (h : (US.new.feed (A ++ B)).taken = (A ++ B).length) : (US.new.feed A).taken = A.length := by
  have h1 := feed_le A hA US.new (fun _ => fine_new)
  have h2 := feed_le B hB (US.new.feed A) (fine_feed A US.new (fun _ => fine_new) hA).1
  rw [← feed_append, h, List.length_append] at h2
  have h0 : US.new.taken = 0 := rfl
  omega
theorem ufK_taken {w0 w : World} {v : Value} {t : ByteArray} {pcs : List ByteArray} (ht : t.size ≤ 1048576) (H : PcS w0 w v (strOf (packL (nb t))) (strOf (packL (nb t))).size pcs) (k : Nat) : (ufK pcs k).taken = ((pcs.take k).map nb).flatten.length := by
  have h := H.txt
  rw [List.take_of_length_le (by rw [nb_length]; omega), nb_strOf _ (packL_bytes _ (nb_bytes t)), flatten_split pcs k] at h
  refine pre_taken (part_bytes _) (part_bytes (pcs.drop k)) ?_
  rw [h]
  exact (feed_packL (nb t) (by rw [nb_length]; exact ht)).2
theorem ufK_step {w0 w : World} {v : Value} {t : ByteArray} {pcs : List ByteArray} (ht : t.size ≤ 1048576) (H : PcS w0 w v (strOf (packL (nb t))) (strOf (packL (nb t))).size pcs) (k : Nat) (hk : k < pcs.length) : (ufK pcs (k + 1)).taken - (ufK pcs k).taken = (pcs.getD k emp).size := by
  rw [ufK_taken ht H k, ufK_taken ht H (k + 1), List.take_add_one, List.getElem?_eq_getElem hk, List.getD_eq_getElem?_getD, List.getElem?_eq_getElem hk, List.map_append, List.flatten_append, List.length_append]
  simp [nb_length]
theorem ufK_le {w0 w : World} {v : Value} {s : ByteArray} {pcs : List ByteArray} (H : PcS w0 w v s s.size pcs) (k : Nat) : (ufK pcs k).taken ≤ s.size := by
  have h1 := feed_le ((pcs.take k).map nb).flatten (part_bytes _) US.new (fun _ => fine_new)
  have h2 := congrArg List.length H.txt
  rw [flatten_split pcs k, List.length_append, List.length_take, nb_length] at h2
  have h0 : US.new.taken = 0 := rfl
  show (US.new.feed _).taken ≤ _
  omega
end Go.Proofs.Ytlcppkcclolgcaa.Pk

namespace Go.Proofs.Ytlcppkcclolgcaa.Pk
set_option linter.unusedVariables false
set_option linter.unusedSimpArgs false
open Go.RowKit
theorem arc_pos (n : ND) : 0 < (arc n).length := by
  show 0 < (frames (wMagic :: n.words)).length
  rw [frames_length]
  show 0 < ((wMagic :: n.words).map fun s => fr s.size).sum
  rw [List.map_cons, List.sum_cons]
  have : 8 ≤ fr wMagic.size := by unfold fr; omega
  omega
set_option maxRecDepth 100000 in
set_option maxHeartbeats 8000000 in
theorem packed_law (n : ND) (na : Option Addr) (nc : Nat) (a : Option Addr) (len cap : Nat) (zs : List Int) (w : World) (hin : n.In w.heap.size w na) (hsm : n.small 1048576) (hrow : IsRow .i64 w a len cap zs) (hlen : len ≤ 1048576) :
    Calls Try.prog 5 #[.agg #[.int .i64 n.kind, .bool n.exec, .string n.text, .slice na n.cnt nc], .slice a len cap] w fun e w' => e = .returned (.bool true) ∧ Below w.heap.size w w' := by
  obtain ⟨wA, hwA⟩ : ∃ wA, wA = w.alloc (.cells #[.int .i64 n.kind, .bool n.exec, .string n.text, .slice na n.cnt nc] 26) := ⟨_, rfl⟩
  have hbA : Below w.heap.size w wA := by rw [hwA]; exact (Below.refl _ _).alloc (Nat.le_refl _) _
  have hrA : wA.heap[w.heap.size]? = some (.cells #[.int .i64 n.kind, .bool n.exec, .string n.text, .slice na n.cnt nc] 26 (0, 0)) := by rw [hwA]; exact heap_alloc_new w _
  have hlI : (len : Int) ≤ 1048576 := by omega
  have hl0 : (0 : Int) ≤ len := by omega
  have HIN := Lib.hid hin
  have HSM := Lib.hid hsm
  have HROW := Lib.hid hrow
  have HWA := Lib.hid hwA
  have HBA := Lib.hid hbA
  have HRA := Lib.hid hrA
  clear hin hsm hrow hwA hbA hrA
  go_enter Try.func5, Try.ntmps5
  go_upto_region 1 with fail
  rw [← HWA.out]
  go_upto_region 3 with (go_at_call 6; refine (small_any wA).mono ?_; rintro e w1 ⟨rfl, h1⟩; have HB1 := Lib.hid h1; clear h1)
  have r1 := (HB1.out.block w.heap.size (lt_of_row HRA.out)).trans HRA.out
  have p0 := cell_of_row w1 w.heap.size 0 _ _ _ r1
  have p1 := cell_of_row w1 w.heap.size 1 _ _ _ r1
  have p2 := cell_of_row w1 w.heap.size 2 _ _ _ r1
  have p3 := cell_of_row w1 w.heap.size 3 _ _ _ r1
  have hbw1 := HBA.out.trans (HB1.out.mono HBA.out.size)
  have hin1 := HIN.out.up hbw1
  have HBW1 := Lib.hid hbw1
  have HR1 := Lib.hid r1
  clear r1 hbw1
  by_cases hE : serE n = 0
  · have hser : Calls Try.prog 13 #[.agg #[.int .i64 n.kind, .bool n.exec, .string n.text, .slice na n.cnt nc]] w1 fun e w' => e = .returned (.tuple #[.string (strOf (arc n)), .int .i64 0]) ∧ Below w1.heap.size w1 w' := by
      have h := serial_any n na nc w1 HSM.out hin1
      unfold serT at h
      rw [if_pos hE, hE] at h
      exact h
    have HSER := Lib.hid hser
    have HE := Lib.hid hE
    have hTs : (strOf (arc n)).size ≤ 1048576 := by rw [strOf_size]; exact (serE_ok.1 hE).2
    obtain ⟨T, hT⟩ : ∃ T, strOf (arc n) = T := ⟨_, rfl⟩
    rw [hT] at hTs
    have HHT := Lib.hid hT
    rw [hT] at HSER
    clear hT
    have hTI : (T.size : Int) ≤ 1048576 := by omega
    have hT0 : (0 : Int) ≤ T.size := by omega
    have HTS := Lib.hid hTs
    clear hser hE hin1
    go_upto_region 4 with (go_at_call 13; refine HSER.out.mono ?_; rintro e w2 ⟨rfl, h2⟩; have HB2 := Lib.hid h2; clear h2)
    have HBW2 := Lib.hid (HBW1.out.trans (HB2.out.mono HBW1.out.size))
    obtain ⟨P, hP⟩ : ∃ P, strOf (packL (nb T)) = P := ⟨_, rfl⟩
    obtain ⟨u1, u2, u3⟩ := pack_unpack T HTS.out
    have hroom := packL_room (nb T)
    have hps : P.size = (packL (nb T)).length := by rw [← hP, strOf_size]
    rw [nb_length] at hroom
    rw [← hps] at hroom
    rw [hP] at u1 u2 u3
    have hpp : ∀ W, Calls Try.prog 18 #[.string T] W fun e w' => e = .returned (.tuple #[.string P, .int .i64 0]) ∧ Below W.heap.size W w' := fun W => by
      have h := pack_any T W HTS.out
      rw [hP] at h
      exact h
    have hp0 : (0 : Int) ≤ P.size := by omega
    have hroomI : (P.size : Int) ≤ 8 + T.size + (T.size + 127) / 128 := by omega
    have hpU : (P.size : Int) ≤ 1056776 := by omega
    have HPP := Lib.hid hpp
    have HP := Lib.hid hP
    have HU1 := Lib.hid u1
    have HU2 := Lib.hid u2
    have HU3 := Lib.hid u3
    clear p0 p1 p2 p3 hroom hps hpp hP u1 u2 u3
    go_upto_region 8 with (first | (go_at_call 18; refine (HPP.out _).mono ?_; rintro e w3 ⟨rfl, h3⟩; have HB3 := Lib.hid h3; clear h3) | (go_at_call 19; refine (new_any _).mono ?_; rintro e w4 ⟨rfl, h4⟩; have HK4 := Lib.hid h4; clear h4))
    have hbw4 : Below w.heap.size w w4 := (HBW2.out.trans (HB3.out.mono HBW2.out.size)).trans (HK4.out.far.below.mono (by have := HBW2.out.size; have := HB3.out.size; omega))
    have hrow4 : IsRow .i64 w4 a len cap zs := HROW.out.later hbw4
    have HPC := Lib.hid (pieces_at P (by omega) a len cap zs w4 hrow4 (by omega))
    have HBW4 := Lib.hid hbw4
    have hg4 := HK4.out.lt
    obtain ⟨g, hg⟩ : ∃ g, g = w3.heap.size := ⟨_, rfl⟩
    have HG := Lib.hid hg
    clear hbw4 hrow4 hg
    go_wp2_with (go_at_call 9; refine HPC.out.mono ?_; rintro e w5 ⟨pcs, gq, gc, rfl, hpc, hpl, hg1, hg2, hcells⟩; have hplI : (pcs.length : Int) = len + 1 := (by omega); have HPCS := Lib.hid hpc; clear hpc)
    have HCELLS := Lib.hid hcells
    have HG1 := Lib.hid hg1
    have HG2 := Lib.hid hg2
    have HPL := Lib.hid hpl
    clear hcells hg1 hg2 hpl hg4
    have hk5 := (HK4.out.later HPCS.out.bel).rebase
    have hfg : ¬ Mine w3.heap.size (.slice none 0 0) (.slice none 0 0) gq := by
      rintro (h | h | h)
      · have h1 := HK4.out.lt
        have h2 := HG1.out
        omega
      · simp [Value.ownBlock] at h
      · simp [Value.ownBlock] at h
    have hgs : w4.heap.size ≤ w5.heap.size := HPCS.out.bel.size
    have hpcI : (pcs.length : Int) ≤ 1048577 := by omega
    have HFG := Lib.hid hfg
    have HK5 := Lib.hid hk5
    have HGS := Lib.hid hgs
    clear hk5 hfg hgs
    go_loopw [58] (fun x58 wr => ∃ (k : Nat) (vo vt : Value), x58 = .int .i64 (k : Int) ∧ k ≤ pcs.length ∧ UkS w5 (Mine w3.heap.size (.slice none 0 0) (.slice none 0 0)) wr w3.heap.size vo vt (ufK pcs k)) (fun x58 _ => pcs.length - (intOf x58).toNat)
    case atStart => exact ⟨0, _, _, rfl, Nat.zero_le _, HK5.out⟩
    case round =>
      obtain ⟨k, vo, vt, rfl, hk, hX⟩ := hrel
      have hk0 : (0 : Int) ≤ k := by omega
      have HX := Lib.hid hX
      clear hX
      by_cases hlt : k < pcs.length
      · have hltI : (k : Int) < pcs.length := by omega
        have c0 : wr.cell? ⟨gq, k, none⟩ = some (.string (pcs.getD k emp)) :=
          (World.cell?_of_block (a := ⟨gq, k, none⟩) (HX.out.far.block gq HG2.out HFG.out)).trans (HCELLS.out k hlt)
        have hpcs := HPCS.out
        rw [← HP.out] at hpcs
        have hstep := ufK_step HTS.out hpcs k hlt
        have hle0 := ufK_le HPCS.out k
        have hle := piece_le HPCS.out k hlt
        have hnext := ufK_succ pcs k hlt
        clear hpcs
        generalize pcs.getD k emp = x at *
        have hxI : (x.size : Int) ≤ 1056776 := by omega
        have hx0 : (0 : Int) ≤ x.size := by omega
        have hcv := fun W => Lib.run_convert_string_bytes (P := Try.prog) W 9 38 5 x Try.underlying9 Try.underlying38 Try.underlying5
        have CF := fun cap => feed_conv w5 _ w3.heap.size cap x vo vt (ufK pcs k) wr HX.out (ufK_fine pcs k) (by omega)
        rw [hnext, hstep] at CF
        have HCF := Lib.hid CF
        clear CF hnext hstep hle hle0
        go_wp2_with (go_at_call 20; refine (HCF.out _).mono ?_; rintro e w6 ⟨rfl, h6⟩; have H6 := Lib.hid h6; clear h6)
        go_roundw
        case rel =>
          obtain ⟨vo', vt', h6⟩ := H6.out
          exact ⟨k + 1, vo', vt', by go_num, by omega, h6⟩
        case measure => simp [intOf]; omega
      · have hltI : ¬ (k : Int) < pcs.length := by omega
        have hkk : k = pcs.length := by omega
        have hX := HX.out
        rw [hkk, ufK_all HPCS.out] at hX
        have hsn : Sane (US.new.feed (nb P)) := sane_feed _ US.new sane_new (nb_bytes P)
        have hcl := close_any w5 _ w3.heap.size vo vt _ wr hX hsn
        rw [HU1.out, HU2.out, HU3.out] at hcl
        have HCL := Lib.hid hcl
        clear hX HX hkk hcl hsn
        go_upto_region 17 with (go_at_call 21; refine HCL.out.mono ?_; rintro e w6 ⟨rfl, h6⟩; have H6 := Lib.hid h6; clear h6)
        have hb36 : Below w3.heap.size w3 w6 := ((HK4.out.later HPCS.out.bel).join H6.out).far.below
        have hw3 : Below w.heap.size w w3 := HBW2.out.trans (HB3.out.mono HBW2.out.size)
        have hw6 : Below w.heap.size w w6 := hw3.trans (hb36.mono hw3.size)
        have hb67 : Below w6.heap.size w6 (w6.alloc (.cells #[.int .i64 0, .int .i64 0] 30)) := (Below.refl _ _).alloc (Nat.le_refl _) _
        have hrF : (w6.alloc (.cells #[.int .i64 0, .int .i64 0] 30)).heap[w6.heap.size]? = some (.cells #[.int .i64 0, .int .i64 0] 30 (0, 0)) := heap_alloc_new w6 _
        generalize w6.alloc (.cells #[.int .i64 0, .int .i64 0] 30) = w7 at *
        have hw7 : Below w.heap.size w w7 := hw6.trans (hb67.mono hw6.size)
        have hpar : Calls Try.prog 7 #[.string T] w7 fun e w' => ∃ a c, e = .returned (.tuple #[.agg #[.int .i64 n.kind, .bool n.exec, .string n.text, .slice a n.cnt c], .agg #[.int .i64 0, .int .i64 0]]) ∧ n.InS (fun b => w7.heap.size ≤ b) w' a ∧ Below w7.heap.size w7 w' := by
          refine (parse_any T w7 (by omega)).mono ?_
          rintro e w' ⟨a, c, he, hi, hb⟩
          obtain ⟨q1, q2, q3⟩ := prs_arc HE.out
          rw [HHT.out] at q1 q2 q3
          rw [q1, q2, q3] at he
          rw [q1] at hi
          exact ⟨a, c, he, hi, hb⟩
        have hA7 : Below wA.heap.size wA w7 := below_trans2 (below_trans2 (below_trans2 (below_trans2 (below_trans2 HB1.out HB2.out) HB3.out) hb36) hb67) (Below.refl _ _)
        have HA7 := Lib.hid hA7
        clear hA7
        have HPAR := Lib.hid hpar
        have HRF := Lib.hid hrF
        have HW7 := Lib.hid hw7
        clear hb36 hw3 hw6 hb67 hrF hw7 hpar
        clear HCL HPCS HCELLS HG1 HG2 HFG HK5 HGS HPL H6
        go_upto_region 18 with (go_at_call 7; refine HPAR.out.mono ?_; rintro e w8 ⟨a8, c8, rfl, hi8, h8⟩; have HI8 := Lib.hid hi8; have HB8 := Lib.hid h8; clear hi8 h8)
        have s1 : ((w8.alloc (.cells #[.int .i64 n.kind, .bool n.exec, .string n.text, .slice a8 n.cnt c8] 26)).alloc (.cells #[.int .i64 0, .int .i64 0] 30)).heap[w8.heap.size]? = some (.cells #[.int .i64 n.kind, .bool n.exec, .string n.text, .slice a8 n.cnt c8] 26 (0, 0)) := row_past (heap_alloc_new w8 _) _
        have s2 : ((w8.alloc (.cells #[.int .i64 n.kind, .bool n.exec, .string n.text, .slice a8 n.cnt c8] 26)).alloc (.cells #[.int .i64 0, .int .i64 0] 30)).heap[w8.heap.size + 1]? = some (.cells #[.int .i64 0, .int .i64 0] 30 (0, 0)) := alloc_new2 w8 _ _ _
        have h89 : Below w8.heap.size w8 ((w8.alloc (.cells #[.int .i64 n.kind, .bool n.exec, .string n.text, .slice a8 n.cnt c8] 26)).alloc (.cells #[.int .i64 0, .int .i64 0] 30)) := ((Below.refl _ _).alloc (Nat.le_refl _) _).alloc (by simp) _
        generalize (w8.alloc (.cells #[.int .i64 n.kind, .bool n.exec, .string n.text, .slice a8 n.cnt c8] 26)).alloc (.cells #[.int .i64 0, .int .i64 0] 30) = w9 at *
        have h79 : Below w7.heap.size w7 w9 := below_trans2 HB8.out h89
        have hA9 : Below wA.heap.size wA w9 := below_trans2 HA7.out h79
        have hw9 : Below w.heap.size w w9 := HBA.out.trans (hA9.mono HBA.out.size)
        have hin9 : n.In w9.heap.size w9 na := HIN.out.up hw9
        have hn9 : n.In w9.heap.size w9 a8 := HI8.out.in_.up h89
        have r0 := (hA9.block w.heap.size (lt_of_row HRA.out)).trans HRA.out
        have r1 := (h79.block w6.heap.size (lt_of_row HRF.out)).trans HRF.out
        have m0 := cell_of_row w9 w.heap.size 0 _ _ _ r0
        have m1 := cell_of_row w9 w.heap.size 1 _ _ _ r0
        have m2 := cell_of_row w9 w.heap.size 2 _ _ _ r0
        have m3 := cell_of_row w9 w.heap.size 3 _ _ _ r0
        have f0 := cell_of_row w9 w6.heap.size 0 _ _ _ r1
        have f1 := cell_of_row w9 w6.heap.size 1 _ _ _ r1
        have g0 := cell_of_row w9 w8.heap.size 0 _ _ _ s1
        have g1 := cell_of_row w9 w8.heap.size 1 _ _ _ s1
        have g2 := cell_of_row w9 w8.heap.size 2 _ _ _ s1
        have g3 := cell_of_row w9 w8.heap.size 3 _ _ _ s1
        have e0 := cell_of_row w9 (w8.heap.size + 1) 0 _ _ _ s2
        have e1 := cell_of_row w9 (w8.heap.size + 1) 1 _ _ _ s2
        have hTp : 0 < T.size := by rw [← HHT.out, strOf_size]; exact arc_pos n
        have hshr := packShare_any T.size P.size (by omega) (by omega) w9
        have hhop : ∀ t W, (binOp .quo t (.float .f64 (floatOfInt .f64 (P.size : Int))) (.float .f64 (floatOfInt .f64 (T.size : Int)))).run Try.prog W = .ok (.float .f64 (FL.shB P.size T.size)) W :=
          fun t W => run_float_arith W .quo t .f64 _ _ _ (FL.share_bits P.size T.size (by omega) (by omega) (by omega) (by omega))
        have hfeq := share_eq P.size T.size (by omega) (by omega) (by omega)
        have heq : Calls Try.prog 12 #[.agg #[.int .i64 n.kind, .bool n.exec, .string n.text, .slice a8 n.cnt c8], .agg #[.int .i64 n.kind, .bool n.exec, .string n.text, .slice na n.cnt nc]] w9 fun e w' => e = .returned (.bool true) ∧ Below w9.heap.size w9 w' := by
          refine (equal_any n.sz n (Nat.le_refl _) n a8 na c8 nc w9 hn9 hin9 HSM.out.cnts).mono ?_
          rintro e w' ⟨he, hb⟩
          rw [eqN_true rfl] at he
          exact ⟨he, hb⟩
        have HSHR := Lib.hid hshr
        have HEQ := Lib.hid heq
        have HW9 := Lib.hid hw9
        generalize FL.shB (P.size : Int) (T.size : Int) = sh at *
        clear hTp h79 hA9 hw9 hin9 hn9 r0 r1 s1 s2 h89 hshr heq
        go_wp2_with (first | (go_at_call 22; refine HSHR.out.mono ?_; rintro e w10 ⟨rfl, rfl⟩) | (go_at_call 12; refine HEQ.out.mono ?_; rintro e w11 ⟨rfl, h11⟩; have HB11 := Lib.hid h11; clear h11) | (simp only [hhop]))
        go_ret
        exact ⟨rfl, HW9.out.trans (HB11.out.mono HW9.out.size)⟩
  · have hser : Calls Try.prog 13 #[.agg #[.int .i64 n.kind, .bool n.exec, .string n.text, .slice na n.cnt nc]] w1 fun e w' => e = .returned (.tuple #[.string ⟨#[]⟩, .int .i64 (serE n)]) ∧ Below w1.heap.size w1 w' := by
      have h := serial_any n na nc w1 HSM.out hin1
      unfold serT at h
      rw [if_neg hE] at h
      exact h
    have HSER := Lib.hid hser
    have e1 : (serE n != 0) = true := by simpa using hE
    have e2 : (serE n == 0) = false := by simpa using hE
    clear hser hin1
    go_wp2_with (go_at_call 13; refine HSER.out.mono ?_; rintro e w2 ⟨rfl, h2⟩; have HB2 := Lib.hid h2; clear h2)
    go_ret
    exact ⟨rfl, HBW1.out.trans (HB2.out.mono HBW1.out.size)⟩
end Go.Proofs.Ytlcppkcclolgcaa.Pk
