/- An unpacker in memory. -/
import Derived.Test.YtikbbofjkchppaaOwn
import Derived.Test.YtikbbofjkchppaaUm
import Derived.IntWalk
namespace Go.Proofs.Ytikbbofjkchppaa
set_option linter.unusedVariables false
set_option linter.unusedSimpArgs false
open Go.RowKit

/-- w is w0 but for the blocks in S and new ones -/
structure Far (w0 : World) (S : Nat → Prop) (w : World) : Prop where
  os : w.os = w0.os
  tape : w.tape = w0.tape
  output : w.output = w0.output
  size : w0.heap.size ≤ w.heap.size
  block : ∀ k, k < w0.heap.size → ¬ S k → w.heap[k]? = w0.heap[k]?
theorem Far.refl (w : World) (S : Nat → Prop) : Far w S w := ⟨rfl, rfl, rfl, Nat.le_refl _, fun _ _ _ => rfl⟩
theorem Far.of_below {w0 w : World} {S : Nat → Prop} (h : Below w0.heap.size w0 w) : Far w0 S w := ⟨h.os, h.tape, h.output, h.size, fun k hk _ => h.block k hk⟩
theorem Far.below {w0 w : World} (h : Far w0 (fun _ => False) w) : Below w0.heap.size w0 w := ⟨h.os, h.tape, h.output, h.size, fun k hk => h.block k hk id⟩
theorem Far.later {w0 w w' : World} {S : Nat → Prop} (h : Far w0 S w) (hb : Below w.heap.size w w') : Far w0 S w' :=
  ⟨hb.os.trans h.os, hb.tape.trans h.tape, hb.output.trans h.output, Nat.le_trans h.size hb.size, fun k hk hs => (hb.block k (Nat.lt_of_lt_of_le hk h.size)).trans (h.block k hk hs)⟩
theorem Far.grown {w0 w w' : World} {S : Nat → Prop} {row : Option Nat} (h : Far w0 S w) (hg : w.grownBy w' row) (hr : ∀ k, row = some k → k < w0.heap.size → S k) : Far w0 S w' :=
  ⟨hg.os.trans h.os, hg.tape.trans h.tape, hg.output.trans h.output, Nat.le_trans h.size hg.size, fun k hk hs => (hg.block k (Nat.lt_of_lt_of_le hk h.size) (fun e => hs (hr k e.symm hk))).trans (h.block k hk hs)⟩
theorem Far.drew {w0 w : World} {S : Nat → Prop} (h : Far w0 S w) : Far w0 S w.drew := ⟨h.os, h.tape, h.output, h.size, h.block⟩

def ucells (u : US) (vo vt : Value) : Array Value := #[.int .i64 (u.taken : Nat), .int .i64 (u.code : Nat), .int .i64 (u.at_ : Nat), .bool u.shut, .int .u64 (u.size : Nat), .int .i64 (u.head : Nat), vo, .int .i64 (u.start : Nat), vt, .int .i64 (u.plain : Nat)]
/-- block g is an unpacker that stands as u says; since w0 only blocks in S have changed -/
structure UkS (w0 : World) (S : Nat → Prop) (w : World) (g : Nat) (vo vt : Value) (u : US) : Prop where
  row : w.heap[g]? = some (.cells (ucells u vo vt) 56 (0, 0))
  oo : OwnB w 0 vo u.out
  ot : OwnB w 0 vt u.token
  ne : ∀ k, vo.ownBlock = some k → vt.ownBlock ≠ some k
  far : Far w0 S w
  sg : g < w0.heap.size → S g
  so : ∀ k, vo.ownBlock = some k → k < w0.heap.size → S k
  st : ∀ k, vt.ownBlock = some k → k < w0.heap.size → S k
/-- the blocks of an unpacker -/
def Mine (g : Nat) (vo vt : Value) (k : Nat) : Prop := k = g ∨ vo.ownBlock = some k ∨ vt.ownBlock = some k
section
variable {w0 w w' : World} {S : Nat → Prop} {g : Nat} {vo vt : Value} {u : US}
theorem UkS.cell (H : UkS w0 S w g vo vt u) (i : Nat) : w.cell? ⟨g, i, none⟩ = (ucells u vo vt)[i]? := cell_of_row w g i _ _ _ H.row
theorem UkS.free (H : UkS w0 S w g vo vt u) (i : Nat) : w.frozen? ⟨g, i, none⟩ = false := frozen_of_row w g i _ _ H.row
theorem UkS.lt (H : UkS w0 S w g vo vt u) : g < w.heap.size := lt_of_row H.row
theorem own_ne {v : Value} {xs : List Nat} {cs : Array Value} {t : TypeId} (h : OwnB w 0 v xs) (hg : w.heap[g]? = some (.cells cs t (0, 0))) (ht : t ≠ 5) : v.ownBlock ≠ some g := by
  rcases h with ⟨rfl, _⟩ | ⟨g', cap, cur, fz, rfl, _, hg', _⟩
  · simp [Value.ownBlock]
  · intro e
    simp only [Value.ownBlock, Option.some.injEq] at e
    subst e
    rw [hg] at hg'
    simp only [Option.some.injEq, Obj.cells.injEq] at hg'
    exact ht hg'.2.1
theorem UkS.vog (H : UkS w0 S w g vo vt u) : vo.ownBlock ≠ some g := own_ne H.oo H.row (by decide)
theorem UkS.vtg (H : UkS w0 S w g vo vt u) : vt.ownBlock ≠ some g := own_ne H.ot H.row (by decide)
theorem UkS.later (H : UkS w0 S w g vo vt u) (hb : Below w.heap.size w w') : UkS w0 S w' g vo vt u :=
  ⟨(hb.block _ H.lt).trans H.row, H.oo.later hb, H.ot.later hb, H.ne, H.far.later hb, H.sg, H.so, H.st⟩
theorem UkS.drew (H : UkS w0 S w g vo vt u) : UkS w0 S w.drew g vo vt u := H.later (Below.refl _ _).drew
theorem UkS.rebase (H : UkS w0 S w g vo vt u) : UkS w (Mine g vo vt) w g vo vt u :=
  ⟨H.row, H.oo, H.ot, H.ne, Far.refl _ _, fun _ => .inl rfl, fun k e _ => .inr (.inl e), fun k e _ => .inr (.inr e)⟩
theorem UkS.mine (H : UkS w0 S w g vo vt u) {k : Nat} (h : Mine g vo vt k) : k < w.heap.size ∧ (k < w0.heap.size → S k) := by
  rcases h with rfl | h | h
  · exact ⟨H.lt, H.sg⟩
  · exact ⟨(H.oo.lt k h).2, H.so k h⟩
  · exact ⟨(H.ot.lt k h).2, H.st k h⟩
theorem UkS.join {vo' vt' : Value} {u' : US} (H : UkS w0 S w g vo vt u) (H' : UkS w (Mine g vo vt) w' g vo' vt' u') : UkS w0 S w' g vo' vt' u' := by
  have hs : ∀ k, Mine g vo' vt' k → k < w0.heap.size → S k := fun k hk hl => (H.mine ((H'.mine hk).2 (Nat.lt_of_lt_of_le hl H.far.size))).2 hl
  refine ⟨H'.row, H'.oo, H'.ot, H'.ne, ⟨H'.far.os.trans H.far.os, H'.far.tape.trans H.far.tape, H'.far.output.trans H.far.output, Nat.le_trans H.far.size H'.far.size, fun k hk hn => ?_⟩, hs g (.inl rfl), fun k e => hs k (.inr (.inl e)), fun k e => hs k (.inr (.inr e))⟩
  exact (H'.far.block k (Nat.lt_of_lt_of_le hk H.far.size) (fun hm => hn ((H.mine hm).2 hk))).trans (H.far.block k hk hn)
theorem UkS.put (H : UkS w0 S w g vo vt u) (i : Nat) (x : Value) (u' : US) (hc : (ucells u vo vt).setIfInBounds i x = ucells u' vo vt) (ho : u'.out = u.out) (ht : u'.token = u.token) : UkS w0 S (w.setCell ⟨g, i, none⟩ x) g vo vt u' := by
  have hset : w.grownBy (w.setCell ⟨g, i, none⟩ x) (some g) := only_setG (World.grownBy.refl w _) i _
  refine ⟨?_, by rw [ho]; exact H.oo.kept hset (.inr H.vog), by rw [ht]; exact H.ot.kept hset (.inr H.vtg), H.ne, H.far.grown hset (fun k e hk => by injection e with e; subst e; exact H.sg hk), H.sg, H.so, H.st⟩
  rw [heap_setCell_same w g i _ _ _ H.row, hc]
theorem UkS.putOut {w1 : World} {vo' : Value} {out' : List Nat} (H : UkS w0 S w g vo vt u) (ho : OwnB w1 0 vo' out') (hg : w.grownBy w1 vo.ownBlock) (hat : vo'.ownBlock = vo.ownBlock ∨ vo'.ownBlock = some w.heap.size) : UkS w0 S (w1.setCell ⟨g, 6, none⟩ vo') g vo' vt { u with out := out' } := by
  have hrow1 : w1.heap[g]? = some (.cells (ucells u vo vt) 56 (0, 0)) := (hg.block _ H.lt (fun e => H.vog e.symm)).trans H.row
  have hset : w1.grownBy (w1.setCell ⟨g, 6, none⟩ vo') (some g) := only_setG (World.grownBy.refl w1 _) 6 _
  have hot1 : OwnB w1 0 vt u.token := H.ot.kept hg (by
    cases hv : vt.ownBlock with
    | none => exact .inl rfl
    | some k => exact .inr (fun e => H.ne k e.symm hv))
  have hl := H.far.size
  refine ⟨?_, ho.kept hset (.inr (own_ne ho hrow1 (by decide))), hot1.kept hset (.inr H.vtg), fun k e e2 => ?_, (H.far.grown hg (fun k e hk => H.so k e hk)).grown hset (fun k e hk => by injection e with e; subst e; exact H.sg hk), H.sg, fun k e hk => ?_, H.st⟩
  · rw [heap_setCell_same w1 g 6 _ _ _ hrow1]
    rfl
  · rcases hat with h | h
    · exact H.ne k (h.symm.trans e) e2
    · rw [e] at h
      injection h with h
      have := (H.ot.lt k e2).2
      omega
  · rcases hat with h | h
    · exact H.so k (h.symm.trans e) hk
    · rw [e] at h
      injection h with h
      omega
theorem UkS.putTok {w1 : World} {vt' : Value} {tok' : List Nat} (H : UkS w0 S w g vo vt u) (ho : OwnB w1 0 vt' tok') (hg : w.grownBy w1 vt.ownBlock) (hat : vt'.ownBlock = vt.ownBlock ∨ vt'.ownBlock = some w.heap.size) : UkS w0 S (w1.setCell ⟨g, 8, none⟩ vt') g vo vt' { u with token := tok' } := by
  have hrow1 : w1.heap[g]? = some (.cells (ucells u vo vt) 56 (0, 0)) := (hg.block _ H.lt (fun e => H.vtg e.symm)).trans H.row
  have hset : w1.grownBy (w1.setCell ⟨g, 8, none⟩ vt') (some g) := only_setG (World.grownBy.refl w1 _) 8 _
  have hot1 : OwnB w1 0 vo u.out := H.oo.kept hg (by
    cases hv : vo.ownBlock with
    | none => exact .inl rfl
    | some k => exact .inr (fun e => H.ne k hv e.symm))
  have hl := H.far.size
  refine ⟨?_, hot1.kept hset (.inr H.vog), ho.kept hset (.inr (own_ne ho hrow1 (by decide))), fun k e e2 => ?_, (H.far.grown hg (fun k e hk => H.st k e hk)).grown hset (fun k e hk => by injection e with e; subst e; exact H.sg hk), H.sg, H.so, fun k e hk => ?_⟩
  · rw [heap_setCell_same w1 g 8 _ _ _ hrow1]
    rfl
  · rcases hat with h | h
    · exact H.ne k e (h.symm.trans e2)
    · rw [e2] at h
      injection h with h
      have := (H.oo.lt k e).2
      omega
  · rcases hat with h | h
    · exact H.st k (h.symm.trans e) hk
    · rw [e] at h
      injection h with h
      omega
theorem UkS.cutTok {A : Option Addr} {c : Nat} (H : UkS w0 S w g vo vt u) (hv : vt = .slice A u.token.length c) : UkS w0 S (w.setCell ⟨g, 8, none⟩ (.slice A 0 c)) g vo (.slice A 0 c) { u with token := [] } := by
  refine H.putTok (H.ot.cut hv) (World.grownBy.refl w _) (.inl ?_)
  rw [hv]
  cases A <;> rfl
theorem UkS.fresh (w : World) : UkS w (fun _ => False) (w.alloc (.cells #[.int .i64 0, .int .i64 0, .int .i64 0, .bool false, .int .u64 0, .int .i64 0, .slice none 0 0, .int .i64 0, .slice none 0 0, .int .i64 0] 56)) w.heap.size (.slice none 0 0) (.slice none 0 0) US.new :=
  ⟨heap_alloc_new _ _, OwnB.nil _ _, OwnB.nil _ _, fun k e => by simp [Value.ownBlock] at e, Far.of_below ((Below.refl _ _).alloc (Nat.le_refl _) _), fun h => absurd h (Nat.lt_irrefl _), fun k e => by simp [Value.ownBlock] at e, fun k e => by simp [Value.ownBlock] at e⟩
theorem UkS.c0 (H : UkS w0 S w g vo vt u) : w.cell? ⟨g, 0, none⟩ = some (.int .i64 (u.taken : Nat)) := H.cell 0
theorem UkS.c1 (H : UkS w0 S w g vo vt u) : w.cell? ⟨g, 1, none⟩ = some (.int .i64 (u.code : Nat)) := H.cell 1
theorem UkS.c2 (H : UkS w0 S w g vo vt u) : w.cell? ⟨g, 2, none⟩ = some (.int .i64 (u.at_ : Nat)) := H.cell 2
theorem UkS.c3 (H : UkS w0 S w g vo vt u) : w.cell? ⟨g, 3, none⟩ = some (.bool u.shut) := H.cell 3
theorem UkS.c4 (H : UkS w0 S w g vo vt u) : w.cell? ⟨g, 4, none⟩ = some (.int .u64 (u.size : Nat)) := H.cell 4
theorem UkS.c5 (H : UkS w0 S w g vo vt u) : w.cell? ⟨g, 5, none⟩ = some (.int .i64 (u.head : Nat)) := H.cell 5
theorem UkS.c6 (H : UkS w0 S w g vo vt u) : w.cell? ⟨g, 6, none⟩ = some vo := H.cell 6
theorem UkS.c7 (H : UkS w0 S w g vo vt u) : w.cell? ⟨g, 7, none⟩ = some (.int .i64 (u.start : Nat)) := H.cell 7
theorem UkS.c8 (H : UkS w0 S w g vo vt u) : w.cell? ⟨g, 8, none⟩ = some vt := H.cell 8
theorem UkS.c9 (H : UkS w0 S w g vo vt u) : w.cell? ⟨g, 9, none⟩ = some (.int .i64 (u.plain : Nat)) := H.cell 9
end

/-! ### fail -/
set_option maxRecDepth 100000 in
set_option maxHeartbeats 2000000 in
theorem fail_any (w0 : World) (S : Nat → Prop) (g c a : Nat) (vo vt : Value) (u : US) (w : World) (H : UkS w0 S w g vo vt u) :
    Calls Try.prog 37 #[.pointer (some ⟨g, 0, none⟩), .int .i64 (c : Int), .int .i64 (a : Int)] w fun e w' => e = .returned (.bool false) ∧ UkS w0 S w' g vo vt (u.fail c a) := by
  have c1 := H.c1
  have c2 := H.c2
  have f1 := H.free 1
  have f2 := H.free 2
  have hfin : UkS w0 S ((w.setCell ⟨g, 1, none⟩ (.int .i64 (c : Int))).setCell ⟨g, 2, none⟩ (.int .i64 (a : Int))) g vo vt (u.fail c a) := (H.put 1 _ { u with code := c } rfl rfl rfl).put 2 _ _ rfl rfl rfl
  have HF := Lib.hid hfin
  clear H hfin
  go_enter Try.func37, Try.ntmps37
  go_wp2_with fail
  go_ret
  exact ⟨rfl, HF.out⟩
end Go.Proofs.Ytikbbofjkchppaa

