/- A framed word's reader in memory; the walks of its small functions. The walks of a framed word's reader: done, next. The walks of a framed word's reader: Feed of one byte, NewReader. A framed word's reader: its fields are those of the bytes so far; the walk of NewReader. -/
import Derived.Test.YtlcppkcclolgcaaDoorDBa
import Derived.Test.YtlcppkcclolgcaaDoorWLast
import Derived.IntWalk
import Derived.Laws.BitsAllLaws
import Derived.Deep.DeepCutAuto
import Derived.Test.YtlcppkcclolgcaaDoorDBd
namespace Go.Proofs.YtlcppkcclolgcaaDoor
set_option linter.unusedVariables false
set_option linter.unusedSimpArgs false
open Go.RowKit
open Go.Proofs.YtlcppkcclolgcaaDoorW.PrintLast

/-- w is w0 but for the blocks in S and new ones -/
structure Away (w0 : World) (S : Nat → Prop) (w : World) : Prop where
  os : w.os = w0.os
  tape : w.tape = w0.tape
  output : w.output = w0.output
  size : w0.heap.size ≤ w.heap.size
  block : ∀ k, k < w0.heap.size → ¬ S k → w.heap[k]? = w0.heap[k]?
theorem Away.refl (w : World) (S : Nat → Prop) : Away w S w := ⟨rfl, rfl, rfl, Nat.le_refl _, fun _ _ _ => rfl⟩
theorem Away.of_below {w0 w : World} {S : Nat → Prop} (h : Below w0.heap.size w0 w) : Away w0 S w := ⟨h.os, h.tape, h.output, h.size, fun k hk _ => h.block k hk⟩
theorem Away.below {B : Nat} {w0 w : World} {S : Nat → Prop} (h : Away w0 S w) (hB : B ≤ w0.heap.size) (hS : ∀ k, S k → B ≤ k) : Below B w0 w :=
  ⟨h.os, h.tape, h.output, h.size, fun k hk => h.block k (by omega) (fun hs => by have := hS k hs; omega)⟩
theorem Away.later {w0 w w' : World} {S : Nat → Prop} (h : Away w0 S w) (hb : Below w.heap.size w w') : Away w0 S w' :=
  ⟨hb.os.trans h.os, hb.tape.trans h.tape, hb.output.trans h.output, Nat.le_trans h.size hb.size, fun k hk hs => (hb.block k (Nat.lt_of_lt_of_le hk h.size)).trans (h.block k hk hs)⟩
theorem Away.grown {w0 w w' : World} {S : Nat → Prop} {row : Option Nat} (h : Away w0 S w) (hg : w.grownBy w' row) (hr : ∀ k, row = some k → k < w0.heap.size → S k) : Away w0 S w' :=
  ⟨hg.os.trans h.os, hg.tape.trans h.tape, hg.output.trans h.output, Nat.le_trans h.size hg.size, fun k hk hs => (hg.block k (Nat.lt_of_lt_of_le hk h.size) (fun e => hs (hr k e.symm hk))).trans (h.block k hk hs)⟩
theorem Away.join {w0 w w' : World} {S S' : Nat → Prop} (h : Away w0 S w) (h' : Away w S' w') (hs : ∀ k, k < w0.heap.size → S' k → S k) : Away w0 S w' :=
  ⟨h'.os.trans h.os, h'.tape.trans h.tape, h'.output.trans h.output, Nat.le_trans h.size h'.size, fun k hk hn => (h'.block k (Nat.lt_of_lt_of_le hk h.size) (fun e => hn (hs k hk e))).trans (h.block k hk hn)⟩
theorem Away.set {w0 w : World} {S : Nat → Prop} (h : Away w0 S w) (g i : Nat) (x : Value) (hg : g < w0.heap.size → S g) : Away w0 S (w.setCell ⟨g, i, none⟩ x) :=
  h.grown (only_setG (World.grownBy.refl w (some g)) i x) (fun k e hk => by injection e with e; subst e; exact hg hk)

/-- the reader's fields -/
structure RC where
  taken : Nat
  code : Int
  fat : Nat
  item : Nat
  start : Nat
  state : Nat
  num : Nat
  need : Nat
  text : List Nat
def rcells (c : RC) (v : Value) : Array Value := #[.int .i64 (c.taken : Nat), .int .i64 c.code, .int .i64 (c.fat : Nat), .bool false, .string ⟨#[116]⟩, .int .i64 1048576, .int .i64 (c.item : Nat), .int .i64 (c.start : Nat), .int .i64 (c.state : Nat), .int .u64 (c.num : Nat), .int .i64 (c.need : Nat), v]
/-- block g is a reader that stands as c says; since w0 only blocks in S have changed -/
structure RdS (w0 : World) (S : Nat → Prop) (w : World) (B g : Nat) (v : Value) (c : RC) : Prop where
  row : w.heap[g]? = some (.cells (rcells c v) 87 (0, 0))
  own : OwnB w B v c.text
  hB : B ≤ g
  away : Away w0 S w
  sg : g < w0.heap.size → S g
  sv : ∀ k, v.ownBlock = some k → k < w0.heap.size → S k
section
variable {w0 w w' : World} {S : Nat → Prop} {B g : Nat} {v : Value} {c : RC}
theorem RdS.cell (H : RdS w0 S w B g v c) (i : Nat) : w.cell? ⟨g, i, none⟩ = (rcells c v)[i]? := cell_of_row w g i _ _ _ H.row
theorem RdS.free (H : RdS w0 S w B g v c) (i : Nat) : w.frozen? ⟨g, i, none⟩ = false := frozen_of_row w g i _ _ H.row
theorem RdS.lt (H : RdS w0 S w B g v c) : g < w.heap.size := lt_of_row H.row
theorem own_neB {v : Value} {xs : List Nat} {cs : Array Value} {t : TypeId} {b : Nat} (h : OwnB w b v xs) (hg : w.heap[g]? = some (.cells cs t (0, 0))) (ht : t ≠ 5) : v.ownBlock ≠ some g := by
  rcases h with ⟨rfl, _⟩ | ⟨g', cap, cur, fz, rfl, _, hg', _⟩
  · simp [Value.ownBlock]
  · intro e
    simp only [Value.ownBlock, Option.some.injEq] at e
    subst e
    rw [hg] at hg'
    simp only [Option.some.injEq, Obj.cells.injEq] at hg'
    exact ht hg'.2.1
theorem RdS.vg (H : RdS w0 S w B g v c) : v.ownBlock ≠ some g := own_neB H.own H.row (by decide)
theorem RdS.later (H : RdS w0 S w B g v c) (hb : Below w.heap.size w w') : RdS w0 S w' B g v c :=
  ⟨(hb.block _ H.lt).trans H.row, H.own.later hb, H.hB, H.away.later hb, H.sg, H.sv⟩
theorem RdS.drew (H : RdS w0 S w B g v c) : RdS w0 S w.drew B g v c := H.later (Below.refl _ _).drew
theorem RdS.drewN (H : RdS w0 S w B g v c) (n : Nat) : RdS w0 S (w.drewN n) B g v c := H.later ⟨rfl, rfl, rfl, Nat.le_refl _, fun _ _ => rfl⟩
theorem RdS.put (H : RdS w0 S w B g v c) (i : Nat) (x : Value) (c' : RC) (hc : (rcells c v).setIfInBounds i x = rcells c' v) (ho : c'.text = c.text) : RdS w0 S (w.setCell ⟨g, i, none⟩ x) B g v c' := by
  have hset : w.grownBy (w.setCell ⟨g, i, none⟩ x) (some g) := only_setG (World.grownBy.refl w _) i _
  refine ⟨?_, by rw [ho]; exact H.own.kept hset (.inr H.vg), H.hB, H.away.set g i x H.sg, H.sg, H.sv⟩
  rw [heap_setCell_same w g i _ _ _ H.row, hc]
/-- the text's slice is put back -/
theorem RdS.putText {w1 : World} {v' : Value} {xs : List Nat} (H : RdS w0 S w B g v c) (ho : OwnB w1 B v' xs) (hg : w.grownBy w1 v.ownBlock) (hat : v'.ownBlock = v.ownBlock ∨ v'.ownBlock = some w.heap.size) : RdS w0 S (w1.setCell ⟨g, 11, none⟩ v') B g v' { c with text := xs } := by
  have hrow1 : w1.heap[g]? = some (.cells (rcells c v) 87 (0, 0)) := (hg.block _ H.lt (fun e => H.vg e.symm)).trans H.row
  have hset : w1.grownBy (w1.setCell ⟨g, 11, none⟩ v') (some g) := only_setG (World.grownBy.refl w1 _) 11 _
  have hl := H.away.size
  refine ⟨?_, ho.kept hset (.inr (own_neB ho hrow1 (by decide))), H.hB, (H.away.grown hg (fun k e hk => H.sv k e hk)).set g 11 v' H.sg, H.sg, fun k e hk => ?_⟩
  · rw [heap_setCell_same w1 g 11 _ _ _ hrow1]
    rfl
  · rcases hat with h | h
    · exact H.sv k (h.symm.trans e) hk
    · rw [e] at h
      injection h with h
      omega
theorem RdS.c0 (H : RdS w0 S w B g v c) : w.cell? ⟨g, 0, none⟩ = some (.int .i64 (c.taken : Nat)) := H.cell 0
theorem RdS.c1 (H : RdS w0 S w B g v c) : w.cell? ⟨g, 1, none⟩ = some (.int .i64 c.code) := H.cell 1
theorem RdS.c2 (H : RdS w0 S w B g v c) : w.cell? ⟨g, 2, none⟩ = some (.int .i64 (c.fat : Nat)) := H.cell 2
theorem RdS.c3 (H : RdS w0 S w B g v c) : w.cell? ⟨g, 3, none⟩ = some (.bool false) := H.cell 3
theorem RdS.c4 (H : RdS w0 S w B g v c) : w.cell? ⟨g, 4, none⟩ = some (.string ⟨#[116]⟩) := H.cell 4
theorem RdS.c5 (H : RdS w0 S w B g v c) : w.cell? ⟨g, 5, none⟩ = some (.int .i64 1048576) := H.cell 5
theorem RdS.c6 (H : RdS w0 S w B g v c) : w.cell? ⟨g, 6, none⟩ = some (.int .i64 (c.item : Nat)) := H.cell 6
theorem RdS.c7 (H : RdS w0 S w B g v c) : w.cell? ⟨g, 7, none⟩ = some (.int .i64 (c.start : Nat)) := H.cell 7
theorem RdS.c8 (H : RdS w0 S w B g v c) : w.cell? ⟨g, 8, none⟩ = some (.int .i64 (c.state : Nat)) := H.cell 8
theorem RdS.c9 (H : RdS w0 S w B g v c) : w.cell? ⟨g, 9, none⟩ = some (.int .u64 (c.num : Nat)) := H.cell 9
theorem RdS.c10 (H : RdS w0 S w B g v c) : w.cell? ⟨g, 10, none⟩ = some (.int .i64 (c.need : Nat)) := H.cell 10
theorem RdS.c11 (H : RdS w0 S w B g v c) : w.cell? ⟨g, 11, none⟩ = some v := H.cell 11
end
set_option maxRecDepth 100000 in
set_option maxHeartbeats 1000000 in
theorem rfail_any (w0 : World) (S : Nat → Prop) (B g : Nat) (q : Int) (a : Nat) (v : Value) (c : RC) (w : World) (H : RdS w0 S w B g v c) :
    Calls Tryd.prog 39 #[.pointer (some ⟨g, 0, none⟩), .int .i64 q, .int .i64 (a : Int)] w fun e w' => e = .returned (.tuple #[]) ∧ RdS w0 S w' B g v { c with code := q, fat := a } := by
  have c1 := H.c1
  have c2 := H.c2
  have f1 := H.free 1
  have f2 := H.free 2
  have hfin : RdS w0 S ((w.setCell ⟨g, 1, none⟩ (.int .i64 q)).setCell ⟨g, 2, none⟩ (.int .i64 (a : Int))) B g v { c with code := q, fat := a } := (H.put 1 (.int .i64 q) { c with code := q } rfl rfl).put 2 _ _ rfl rfl
  have HF := Lib.hid hfin
  clear H hfin
  go_enter Tryd.func39, Tryd.ntmps39
  go_wp2_with fail
  go_end0
  exact ⟨rfl, HF.out⟩
theorem stopped_any (w0 : World) (S : Nat → Prop) (B g : Nat) (v : Value) (c : RC) (w : World) (H : RdS w0 S w B g v c) (h0 : c.code = 0) :
    Calls Tryd.prog 40 #[.pointer (some ⟨g, 0, none⟩)] w fun e w' => e = .returned (.bool false) ∧ w = w' := by
  have c1 := H.c1
  have c3 := H.c3
  rw [h0] at c1
  clear H
  go_enter Tryd.func40, Tryd.ntmps40
  go_wp2_with fail
  go_ret
  exact ⟨rfl, rfl⟩
set_option maxRecDepth 100000 in
set_option maxHeartbeats 1000000 in
theorem rfault_any (g : Nat) (q a : Int) (w : World) (c1 : w.cell? ⟨g, 1, none⟩ = some (.int .i64 q)) (c2 : w.cell? ⟨g, 2, none⟩ = some (.int .i64 a)) :
    Calls Tryd.prog 28 #[.pointer (some ⟨g, 0, none⟩)] w fun e w' => e = .returned (.agg #[.int .i64 q, .int .i64 a]) ∧ Below w.heap.size w w' := by
  have hlt : g < w.heap.size := block_lt_of_cell c1
  have hne : g ≠ w.heap.size := by omega
  go_enter Tryd.func28, Tryd.ntmps28
  go_wp2_with fail
  exact bodyPost_ret (v := .agg #[.int .i64 q, .int .i64 a]) (by simp [results, Tryd.results28, go_sem]) rfl ⟨rfl, (Below.refl _ _).alloc (Nat.le_refl _) _⟩
/-- an operation that yields in every world, taken first -/
theorem last_pure8 {P : Program} {ops : Array Oper} {Q : Exit → Act → World → Prop} {md : Region.Mode} {S : World → Prop} {ds : List Nat} {i : Nat} {oi : Oper} {v : Value} {fuel : Nat} {listed : Array Bool} {a : Act} {w : World} (hi : ops[i]? = some oi)
    (hs : Region.noSelect ops = true) (hf : Region.free md ops listed i = true) (hr : (Region.ready md ops listed).contains i = true)
    (hQ : ∀ c a w, Q (.panic c) (a.put oi.dst v) w → Q (.panic c) a w) (hy : Yields P ops oi v a)
    (h : wpAnyLast P md ops Q S ds fuel (listed.setIfInBounds i true) (a.put oi.dst v) w) : wpAnyLast P md ops Q S ds (fuel + 1) listed a w :=
  wpAnyLast_any hi (Region.noSelect_spec hs) hQ fuel listed a w (Region.free_spec hi hf) (by simpa using hr) hy h
theorem or_high8 (s c h : Nat) (hs : s < 2 ^ h) : s ||| c * 2 ^ h = s + c * 2 ^ h := by
  have := Nat.two_pow_add_eq_or_of_lt hs c
  rw [Nat.or_comm, Nat.mul_comm c, ← this, Nat.add_comm]
/-- a byte of the head; is it fine? -/
def RC.head (c : RC) (b h : Nat) : RC × Bool :=
  if h = 7 ∧ 1048576 < c.num + b * 2 ^ (8 * h) then ({ c with num := c.num + b * 2 ^ (8 * h), code := 6, fat := c.start }, false) else ({ c with num := c.num + b * 2 ^ (8 * h), need := c.need - 1 }, true)
set_option maxRecDepth 100000 in
set_option maxHeartbeats 4000000 in
/-- a byte of the head -/
theorem rtake_head (w0 : World) (S : Nat → Prop) (B g b h : Nat) (v : Value) (c : RC) (w : World) (H : RdS w0 S w B g v c) (hb : b < 256) (hst : c.state = 0) (hit : c.item = 0) (hh : h < 8) (hn : c.need = 8 - h) (hs : c.num < 2 ^ (8 * h)) :
    Calls Tryd.prog 41 #[.pointer (some ⟨g, 0, none⟩), .int .u8 (b : Int)] w fun e w' => e = .returned (.bool (c.head b h).2) ∧ RdS w0 S w' B g v (c.head b h).1 := by
  obtain ⟨r, hr⟩ : ∃ r, c.head b h = r := ⟨_, rfl⟩
  rw [hr]
  unfold RC.head at hr
  obtain ⟨y, hy⟩ : ∃ y, y = b * 2 ^ (8 * h) := ⟨_, rfl⟩
  obtain ⟨s, hse⟩ : ∃ s, s = c.num := ⟨_, rfl⟩
  rw [← hy, ← hse] at hr
  rw [← hse] at hs
  have hp : 2 ^ (8 * h) ≤ 2 ^ 56 := Nat.pow_le_pow_right (by omega) (by omega)
  have hp0 : 0 < 2 ^ (8 * h) := Nat.pow_pos (by omega)
  have hyb : y ≤ 255 * 2 ^ 56 := by rw [hy]; exact Nat.mul_le_mul (by omega) hp
  have hor : bits .or .u64 (s : Int) (y : Int) = ((s + y : Nat) : Int) := by
    rw [u64_or_nat s y (by omega) (by omega), hy, or_high8 s b _ hs]
  obtain ⟨s2, hs2⟩ : ∃ s2, s2 = s + y := ⟨_, rfl⟩
  rw [← hs2] at hor hr
  have HR := Lib.hid hr
  clear hr
  have hs2b : s2 < 18446744073709551616 := by omega
  have c9 := H.c9
  have c10 := H.c10
  have c8 := H.c8
  rw [← hse] at c9
  rw [hn] at c10
  rw [hst] at c8
  have h0 : (0 : Int) ≤ h := by omega
  have h8 : (h : Int) < 8 := by omega
  have b0 : (0 : Int) ≤ s := by omega
  have b2 : (0 : Int) ≤ s2 := by omega
  have b3 : (s2 : Int) < 18446744073709551616 := by omega
  have by0 : (0 : Int) ≤ y := by omega
  have by1 : (y : Int) < 18446744073709551616 := by omega
  have bc0 : (0 : Int) ≤ b := by omega
  have bc1 : (b : Int) < 256 := by omega
  have e1 : ((8 : Int) * (h : Int)).toNat = 8 * h := by omega
  have e2 : (b : Int) * 2 ^ (8 * h) = (y : Int) := by rw [hy, Int.natCast_mul, Int.natCast_pow]; rfl
  have e3 : (0 : Int) ≤ 8 * (h : Int) := by omega
  have e4 : (8 : Int) * (h : Int) < 64 := by omega
  obtain ⟨nd, hnd⟩ : ∃ nd, nd = 8 - h := ⟨_, rfl⟩
  rw [← hnd] at c10
  have e5 : (8 : Int) - nd = h := by omega
  have HH := Lib.hid H
  have HSE := Lib.hid hse
  have HND := Lib.hid (hn.trans hnd.symm)
  have HST := Lib.hid hst
  have HIT := Lib.hid hit
  have f9 := H.free 9
  have w5 : IntKind.i64.wrap ((8 : Int) - nd) = h := by rw [e5]; exact IntWalk.i64_in _ (by omega)
  have w8 : IntKind.i64.wrap ((8 : Int) * h) = 8 * h := IntWalk.i64_in _ (by omega)
  have wy : IntKind.u64.wrap (y : Int) = y := IntWalk.u64_in _ (by omega)
  have wc : IntKind.u64.wrap (b : Int) = b := IntWalk.u64_in _ (by omega)
  have hn1 : (nd = 1) = (h = 7) := by rw [hnd]; apply propext; omega
  have HN1 := Lib.hid hn1
  have hnd1 : 1 ≤ nd := by omega
  have hnd2 : (1 : Int) ≤ nd := by omega
  have hnd3 : (nd : Int) ≤ 8 := by omega
  clear H hs hp hp0 hyb hy hs2 hs2b hn hse hh hb hst hnd hn1 hit e5
  go_enter Tryd.func41, Tryd.ntmps41
  go_upto_region 3 with fail
  refine wp_region_noPanic ?_
  refine wp_region_last_drew (S := fun w' => w'.cell? ⟨g, 9, none⟩ = some (.int .u64 (s : Int)) ∧ w'.cell? ⟨g, 10, none⟩ = some (.int .i64 (nd : Int))) (ds := [16]) (by kernel_rfl) ⟨c9, c10⟩ (fun hHeld => ?_)
  refine last_pure8 (i := 0) (oi := _) (v := (.pointer (some ⟨g, 0, none⟩))) rfl (by kernel_rfl) (by kernel_rfl) (by kernel_rfl) (fun _ _ _ h => h) (Or.inl ⟨by rfl, fun w' => by go_simp⟩) ?_
  try simp only [Act.put, List.getElem_toArray, List.getElem_cons_succ, List.getElem_cons_zero, List.setIfInBounds_toArray, List.set_cons_zero, List.set_cons_succ]
  refine wpAnyLast_take (i := 1) (oi := _) (v := (.pointer (some ⟨g, 0, none⟩))) rfl (by kernel_rfl) (by kernel_rfl) (by kernel_rfl) (by kernel_rfl) (by kernel_rfl) (fun _ _ _ h => h) (Or.inl ⟨by rfl, fun w' _ => by go_simp⟩) hHeld ?_
  try simp only [Act.put, List.getElem_toArray, List.getElem_cons_succ, List.getElem_cons_zero, List.setIfInBounds_toArray, List.set_cons_zero, List.set_cons_succ]
  refine wpAnyLast_take (i := 2) (oi := _) (v := (.pointer (some ⟨g, 9, none⟩))) rfl (by kernel_rfl) (by kernel_rfl) (by kernel_rfl) (by kernel_rfl) (by kernel_rfl) (fun _ _ _ h => h) (Or.inl ⟨by rfl, fun w' _ => by go_simp⟩) hHeld ?_
  try simp only [Act.put, List.getElem_toArray, List.getElem_cons_succ, List.getElem_cons_zero, List.setIfInBounds_toArray, List.set_cons_zero, List.set_cons_succ]
  refine wpAnyLast_take (i := 3) (oi := _) (v := (.int .u64 (s : Int))) rfl (by kernel_rfl) (by kernel_rfl) (by kernel_rfl) (by kernel_rfl) (by kernel_rfl) (fun _ _ _ h => h) (Or.inl ⟨by rfl, fun w' hSw => by have h1 := hSw.1; go_simp⟩) hHeld ?_
  try simp only [Act.put, List.getElem_toArray, List.getElem_cons_succ, List.getElem_cons_zero, List.setIfInBounds_toArray, List.set_cons_zero, List.set_cons_succ]
  refine wpAnyLast_take (i := 4) (oi := _) (v := (.int .u8 (b : Int))) rfl (by kernel_rfl) (by kernel_rfl) (by kernel_rfl) (by kernel_rfl) (by kernel_rfl) (fun _ _ _ h => h) (Or.inl ⟨by rfl, fun w' _ => by go_simp⟩) hHeld ?_
  try simp only [Act.put, List.getElem_toArray, List.getElem_cons_succ, List.getElem_cons_zero, List.setIfInBounds_toArray, List.set_cons_zero, List.set_cons_succ]
  refine wpAnyLast_take (i := 5) (oi := _) (v := (.int .u64 (b : Int))) rfl (by kernel_rfl) (by kernel_rfl) (by kernel_rfl) (by kernel_rfl) (by kernel_rfl) (fun _ _ _ h => h) (Or.inl ⟨by rfl, fun w' _ => by go_simp⟩) hHeld ?_
  try simp only [Act.put, List.getElem_toArray, List.getElem_cons_succ, List.getElem_cons_zero, List.setIfInBounds_toArray, List.set_cons_zero, List.set_cons_succ]
  refine wpAnyLast_take (i := 6) (oi := _) (v := (.pointer (some ⟨g, 0, none⟩))) rfl (by kernel_rfl) (by kernel_rfl) (by kernel_rfl) (by kernel_rfl) (by kernel_rfl) (fun _ _ _ h => h) (Or.inl ⟨by rfl, fun w' _ => by go_simp⟩) hHeld ?_
  try simp only [Act.put, List.getElem_toArray, List.getElem_cons_succ, List.getElem_cons_zero, List.setIfInBounds_toArray, List.set_cons_zero, List.set_cons_succ]
  refine wpAnyLast_take (i := 7) (oi := _) (v := (.pointer (some ⟨g, 0, none⟩))) rfl (by kernel_rfl) (by kernel_rfl) (by kernel_rfl) (by kernel_rfl) (by kernel_rfl) (fun _ _ _ h => h) (Or.inl ⟨by rfl, fun w' _ => by go_simp⟩) hHeld ?_
  try simp only [Act.put, List.getElem_toArray, List.getElem_cons_succ, List.getElem_cons_zero, List.setIfInBounds_toArray, List.set_cons_zero, List.set_cons_succ]
  refine wpAnyLast_take (i := 8) (oi := _) (v := (.pointer (some ⟨g, 10, none⟩))) rfl (by kernel_rfl) (by kernel_rfl) (by kernel_rfl) (by kernel_rfl) (by kernel_rfl) (fun _ _ _ h => h) (Or.inl ⟨by rfl, fun w' _ => by go_simp⟩) hHeld ?_
  try simp only [Act.put, List.getElem_toArray, List.getElem_cons_succ, List.getElem_cons_zero, List.setIfInBounds_toArray, List.set_cons_zero, List.set_cons_succ]
  refine wpAnyLast_take (i := 9) (oi := _) (v := (.int .i64 (nd : Int))) rfl (by kernel_rfl) (by kernel_rfl) (by kernel_rfl) (by kernel_rfl) (by kernel_rfl) (fun _ _ _ h => h) (Or.inl ⟨by rfl, fun w' hSw => by have h1 := hSw.2; go_simp⟩) hHeld ?_
  try simp only [Act.put, List.getElem_toArray, List.getElem_cons_succ, List.getElem_cons_zero, List.setIfInBounds_toArray, List.set_cons_zero, List.set_cons_succ]
  refine wpAnyLast_take (i := 10) (oi := _) (v := (.int .i64 (h : Int))) rfl (by kernel_rfl) (by kernel_rfl) (by kernel_rfl) (by kernel_rfl) (by kernel_rfl) (fun _ _ _ h => h) (Or.inl ⟨by rfl, fun w' _ => by go_simp⟩) hHeld ?_
  try simp only [Act.put, List.getElem_toArray, List.getElem_cons_succ, List.getElem_cons_zero, List.setIfInBounds_toArray, List.set_cons_zero, List.set_cons_succ]
  refine wpAnyLast_take (i := 11) (oi := _) (v := (.int .i64 (8 * (h : Int)))) rfl (by kernel_rfl) (by kernel_rfl) (by kernel_rfl) (by kernel_rfl) (by kernel_rfl) (fun _ _ _ h => h) (Or.inl ⟨by rfl, fun w' _ => by go_simp⟩) hHeld ?_
  try simp only [Act.put, List.getElem_toArray, List.getElem_cons_succ, List.getElem_cons_zero, List.setIfInBounds_toArray, List.set_cons_zero, List.set_cons_succ]
  refine wpAnyLast_take (i := 12) (oi := _) (v := (.int .u64 (y : Int))) rfl (by kernel_rfl) (by kernel_rfl) (by kernel_rfl) (by kernel_rfl) (by kernel_rfl) (fun _ _ _ h => h) (Or.inl ⟨by rfl, fun w' _ => by go_simp⟩) hHeld ?_
  try simp only [Act.put, List.getElem_toArray, List.getElem_cons_succ, List.getElem_cons_zero, List.setIfInBounds_toArray, List.set_cons_zero, List.set_cons_succ]
  refine wpAnyLast_take (i := 13) (oi := _) (v := (.int .u64 (s2 : Int))) rfl (by kernel_rfl) (by kernel_rfl) (by kernel_rfl) (by kernel_rfl) (by kernel_rfl) (fun _ _ _ h => h) (Or.inl ⟨by rfl, fun w' _ => by go_simp⟩) hHeld ?_
  try simp only [Act.put, List.getElem_toArray, List.getElem_cons_succ, List.getElem_cons_zero, List.setIfInBounds_toArray, List.set_cons_zero, List.set_cons_succ]
  refine last_pure8 (i := 14) (oi := _) (v := (.pointer (some ⟨g, 0, none⟩))) rfl (by kernel_rfl) (by kernel_rfl) (by kernel_rfl) (fun _ _ _ h => h) (Or.inl ⟨by rfl, fun w' => by go_simp⟩) ?_
  try simp only [Act.put, List.getElem_toArray, List.getElem_cons_succ, List.getElem_cons_zero, List.setIfInBounds_toArray, List.set_cons_zero, List.set_cons_succ]
  refine last_pure8 (i := 15) (oi := _) (v := (.pointer (some ⟨g, 9, none⟩))) rfl (by kernel_rfl) (by kernel_rfl) (by kernel_rfl) (fun _ _ _ h => h) (Or.inl ⟨by rfl, fun w' => by go_simp⟩) ?_
  try simp only [Act.put, List.getElem_toArray, List.getElem_cons_succ, List.getElem_cons_zero, List.setIfInBounds_toArray, List.set_cons_zero, List.set_cons_succ]
  refine wpAnyLast_ready (rs := [16]) (by kernel_rfl) (by simp) ?_
  refine AllReadyL.cons_last (o := _) rfl (by decide) (fun K hK => ?_) AllReadyL.nil
  rw [if_pos (by rfl)]
  go_simp
  refine hK.out _ _ ?_
  clear hK K
  try dsimp only
  try simp only [Act.put, List.getElem_toArray, List.getElem_cons_succ, List.getElem_cons_zero, List.setIfInBounds_toArray, List.set_cons_zero, List.set_cons_succ]
  refine wpAnyLast_done (by kernel_rfl) ?_ _
  refine NoPanic.normal ?_
  have hu1 := (HH.out.put 9 (.int .u64 (s2 : Int)) { c with num := s2 } rfl rfl).drew
  have HS1 := Lib.hid hu1
  clear hu1 c9 c10 c8 f9 HH w8 wy wc w5 e1 e2 e3 e4 hor by0 by1 b0 b3 hHeld
  generalize (w.setCell ⟨g, 9, none⟩ (.int .u64 (s2 : Int))).drew = w1 at *
  have c9 := HS1.out.c9
  have c10 := HS1.out.c10
  have c7 := HS1.out.c7
  have c6 := HS1.out.c6
  have c5 := HS1.out.c5
  have c4 := HS1.out.c4
  simp only [HND.out] at c10
  simp only [HIT.out] at c6
  replace c6 : w1.cell? ⟨g, 6, none⟩ = some (.int .i64 0) := c6
  simp only at c9 c7
  have k1 : ∀ q, (((((⟨#[116]⟩ : ByteArray)[0]'q).toNat : Int)) == 116) = true := fun _ => rfl
  have k2 : IntKind.u64.wrap 1048576 = 1048576 := by decide +kernel
  have f10 := HS1.out.free 10
  have hu2 := HS1.out.put 10 (.int .i64 ((nd - 1 : Nat) : Int)) { c with num := s2, need := nd - 1 } rfl rfl
  rw [show ((nd - 1 : Nat) : Int) = (nd : Int) - 1 by omega] at hu2
  have HS2 := Lib.hid hu2
  clear hu2
  by_cases h7 : h = 7
  · have hd : nd = 1 := by rw [HN1.out]; exact h7
    have h7I : ((nd : Int) == 1) = true := by simp; omega
    by_cases hbig : 1048576 < s2
    · have hbI : (1048576 : Int) < s2 := by omega
      have hr := HR.out
      rw [if_pos ⟨h7, hbig⟩] at hr
      subst hr
      clear h7 hbig hd HS2 HR
      go_upto_region 4 with fail
      go_quiet (fail)
      have HQ := Lib.hid (HS1.out.drewN nq)
      generalize w1.drewN nq = w2 at *
      have c7 := HQ.out.c7
      simp only at c7
      go_upto_region 5 with fail
      go_still_tail 7, (by kernel_rfl)
      change wpList _ _ _ _ _ w2.drew
      have HQ2 := Lib.hid HQ.out.drew
      generalize w2.drew = w3 at *
      go_wp2_with (go_at_call 39; refine (rfail_any w0 S B g 6 c.start v _ _ HQ2.out).mono ?_; rintro e w4 ⟨rfl, hf⟩; have HF := Lib.hid hf; clear hf)
      go_ret
      exact ⟨rfl, HF.out⟩
    · have hbI : ¬ (1048576 : Int) < s2 := by omega
      have hr := HR.out
      rw [if_neg (fun e => hbig e.2), HND.out] at hr
      subst hr
      clear h7 hbig hd HR
      go_upto_region 4 with fail
      go_quiet (fail)
      have HQ := Lib.hid (HS1.out.drewN nq)
      have c10 := HQ.out.c10
      have f10 := HQ.out.free 10
      have hu2 := HQ.out.put 10 (.int .i64 ((nd - 1 : Nat) : Int)) { c with num := s2, need := nd - 1 } rfl rfl
      rw [show ((nd - 1 : Nat) : Int) = (nd : Int) - 1 by omega] at hu2
      simp only [HND.out] at c10
      have HS3 := Lib.hid hu2
      clear hu2
      generalize w1.drewN nq = w2 at *
      go_wp2_with fail
      go_ret
      exact ⟨rfl, HS3.out⟩
  · have hd : nd ≠ 1 := by rw [Ne, HN1.out]; exact h7
    have h7I : ((nd : Int) == 1) = false := by simp; omega
    have hr := HR.out
    rw [if_neg (fun e => h7 e.1), HND.out] at hr
    subst hr
    clear h7 hd HR
    go_upto_region 4 with fail
    go_quiet (fail)
    have HQ := Lib.hid (HS1.out.drewN nq)
    have c10 := HQ.out.c10
    have f10 := HQ.out.free 10
    have hu2 := HQ.out.put 10 (.int .i64 ((nd - 1 : Nat) : Int)) { c with num := s2, need := nd - 1 } rfl rfl
    rw [show ((nd - 1 : Nat) : Int) = (nd : Int) - 1 by omega] at hu2
    simp only [HND.out] at c10
    have HS3 := Lib.hid hu2
    clear hu2
    generalize w1.drewN nq = w2 at *
    go_wp2_with fail
    go_ret
    exact ⟨rfl, HS3.out⟩
set_option maxRecDepth 100000 in
set_option maxHeartbeats 2000000 in
/-- a byte of the text -/
theorem rtake_text (w0 : World) (S : Nat → Prop) (B g b : Nat) (v : Value) (c : RC) (w : World) (H : RdS w0 S w B g v c) (hb : b < 256) (hst : c.state = 1) (hl : c.text.length ≤ 1048576) (hn : 1 ≤ c.need) (hn2 : c.need ≤ 1048576) :
    Calls Tryd.prog 41 #[.pointer (some ⟨g, 0, none⟩), .int .u8 (b : Int)] w fun e w' => e = .returned (.bool true) ∧ ∃ v', RdS w0 S w' B g v' { c with text := c.text ++ [b], need := c.need - 1 } := by
  obtain ⟨A8, k8, hv8⟩ := H.own.slice
  obtain ⟨lt, hlt⟩ : ∃ lt, c.text.length = lt := ⟨_, rfl⟩
  rw [hlt] at hv8
  have c8 := H.c8
  rw [hst] at c8
  replace c8 : w.cell? ⟨g, 8, none⟩ = some (.int .i64 1) := c8
  have c11 := H.c11
  rw [hv8] at c11
  have HV8 := Lib.hid hv8
  have HLT := Lib.hid hlt
  have HPA := Lib.hid (H.later ((Below.refl w.heap.size w).alloc (Nat.le_refl _) (.cells #[.int .u8 (b : Int)] 5)))
  have HNEW := Lib.hid (news_bytes w [b] 5)
  have hbt : c.text.length + [b].length ≤ 140737488355328 := by simp only [List.length_cons, List.length_nil]; omega
  have HBT := Lib.hid hbt
  have hBw : B ≤ (w.alloc (.cells #[.int .u8 (b : Int)] 5)).heap.size := Nat.le_trans H.hB (by have := H.lt; simp; omega)
  have HBW := Lib.hid hBw
  have hn0 : (1 : Int) ≤ c.need := by omega
  have hn1 : (c.need : Int) ≤ 1048576 := by omega
  clear hbt H hv8 hlt hst hb hBw hl
  go_enter Tryd.func41, Tryd.ntmps41
  go_upto_region 13 with (at_builtin; refine wpList_app_bytes _ rfl (.tmp 70) (.tmp 72) rfl B v c.text (by first | exact HV8.out.symm | rfl) HPA.out.own ⟨w.heap.size, 0, none⟩ [b] 1 rfl HNEW.out HBT.out HBW.out ?_; intro v5 w5 ho5 hg5 ha5; obtain ⟨A5, k5, hv5⟩ := ho5.slice; generalize (c.text ++ [b]).length = l5 at hv5; subst hv5; have hrow5 := (hg5.block _ HPA.out.lt (fun e => HPA.out.vg e.symm)).trans HPA.out.row; have c65 := cell_of_row w5 g 11 _ _ _ hrow5; have f65 := frozen_of_row w5 g 11 _ _ hrow5; have hst := HPA.out.putText ho5 hg5 ha5; have HS5 := Lib.hid hst; clear ho5 hg5 ha5 hrow5 hst)
  generalize w5.setCell ⟨g, 11, none⟩ (.slice A5 l5 k5) = w6 at *
  have c10 := HS5.out.c10
  have f10 := HS5.out.free 10
  simp only at c10
  have hu2 := HS5.out.put 10 (.int .i64 ((c.need - 1 : Nat) : Int)) { c with text := c.text ++ [b], need := c.need - 1 } rfl rfl
  rw [show ((c.need - 1 : Nat) : Int) = (c.need : Int) - 1 by omega] at hu2
  have HS2 := Lib.hid hu2
  clear hu2 c65 f65
  go_wp2_with fail
  go_ret
  exact ⟨rfl, _, HS2.out⟩
set_option maxRecDepth 100000 in
set_option maxHeartbeats 2000000 in
/-- a byte of the padding -/
theorem rtake_pad (w0 : World) (S : Nat → Prop) (B g b : Nat) (v : Value) (c : RC) (w : World) (H : RdS w0 S w B g v c) (hb : b < 256) (hst : c.state = 2) (hn : 1 ≤ c.need) (hn2 : c.need ≤ 1048576) (ht : c.taken ≤ 100000000) :
    Calls Tryd.prog 41 #[.pointer (some ⟨g, 0, none⟩), .int .u8 (b : Int)] w fun e w' => e = .returned (.bool (decide (b = 0))) ∧ RdS w0 S w' B g v (if b = 0 then { c with need := c.need - 1 } else { c with code := 7, fat := c.taken }) := by
  have c8 := H.c8
  rw [hst] at c8
  replace c8 : w.cell? ⟨g, 8, none⟩ = some (.int .i64 2) := c8
  have c0 := H.c0
  have c10 := H.c10
  have f10 := H.free 10
  have hu2 := H.put 10 (.int .i64 ((c.need - 1 : Nat) : Int)) { c with need := c.need - 1 } rfl rfl
  rw [show ((c.need - 1 : Nat) : Int) = (c.need : Int) - 1 by omega] at hu2
  have HS2 := Lib.hid hu2
  have HH := Lib.hid H
  have hn0 : (1 : Int) ≤ c.need := by omega
  have hn1 : (c.need : Int) ≤ 1048576 := by omega
  clear hu2 H hst
  by_cases h0 : b = 0
  · subst h0
    rw [if_pos rfl]
    have hd : decide (0 = 0) = true := rfl
    go_enter Tryd.func41, Tryd.ntmps41
    go_wp2_with fail
    go_ret
    exact ⟨rfl, HS2.out⟩
  · rw [if_neg h0]
    have hd : decide (b = 0) = false := decide_eq_false h0
    rw [hd]
    have hbI : ((b : Int) != 0) = true := by simp; omega
    clear h0 hd
    go_enter Tryd.func41, Tryd.ntmps41
    go_upto_region 11 with fail
    go_still_tail 8, (by kernel_rfl)
    change wpList _ _ _ _ _ w.drew
    have HQ2 := Lib.hid HH.out.drew
    generalize w.drew = w3 at *
    go_wp2_with (go_at_call 39; refine (rfail_any w0 S B g 7 c.taken v _ _ HQ2.out).mono ?_; rintro e w4 ⟨rfl, hf⟩; have HF := Lib.hid hf; clear hf)
    go_ret
    exact ⟨rfl, HF.out⟩
end Go.Proofs.YtlcppkcclolgcaaDoor

namespace Go.Proofs.YtlcppkcclolgcaaDoor
set_option linter.unusedVariables false
set_option linter.unusedSimpArgs false
open Go.RowKit

/-- a text is dropped -/
theorem RdS.putNil {w0 w : World} {S : Nat → Prop} {B g : Nat} {v : Value} {c : RC} (H : RdS w0 S w B g v c) : RdS w0 S (w.setCell ⟨g, 11, none⟩ (.slice none 0 0)) B g (.slice none 0 0) { c with text := [] } := by
  refine ⟨?_, OwnB.nil _ _, H.hB, H.away.set g 11 _ H.sg, H.sg, fun k e => by simp [Value.ownBlock] at e⟩
  rw [heap_setCell_same w g 11 _ _ _ H.row]
  rfl
/-- a store into a block that is none of the reader's -/
theorem RdS.other {w0 w : World} {S : Nat → Prop} {B g : Nat} {v : Value} {c : RC} (H : RdS w0 S w B g v c) {b : Nat} (i : Nat) (x : Value) (hb : w0.heap.size ≤ b) (hg : g ≠ b) (hv : v.ownBlock ≠ some b) : RdS w0 S (w.setCell ⟨b, i, none⟩ x) B g v c := by
  have hset : w.grownBy (w.setCell ⟨b, i, none⟩ x) (some b) := only_setG (World.grownBy.refl w _) i _
  exact ⟨(Below.heap_setCell _ _ _ _ hg).trans H.row, H.own.kept hset (.inr hv), H.hB, H.away.set b i x (fun h => by omega), H.sg, H.sv⟩
/-- the blocks of a reader -/
def MineR (g : Nat) (v : Value) (k : Nat) : Prop := k = g ∨ v.ownBlock = some k
theorem RdS.rebase {w0 w : World} {S : Nat → Prop} {B g : Nat} {v : Value} {c : RC} (H : RdS w0 S w B g v c) : RdS w (MineR g v) w B g v c :=
  ⟨H.row, H.own, H.hB, Away.refl _ _, fun _ => .inl rfl, fun k e _ => .inr e⟩
theorem RdS.mine {w0 w : World} {S : Nat → Prop} {B g : Nat} {v : Value} {c : RC} (H : RdS w0 S w B g v c) {k : Nat} (h : MineR g v k) : k < w.heap.size ∧ (k < w0.heap.size → S k) := by
  rcases h with rfl | h
  · exact ⟨H.lt, H.sg⟩
  · exact ⟨(H.own.lt k h).2, H.sv k h⟩
theorem RdS.join {w0 w w' : World} {S : Nat → Prop} {B g : Nat} {v v' : Value} {c c' : RC} (H : RdS w0 S w B g v c) (H' : RdS w (MineR g v) w' B g v' c') : RdS w0 S w' B g v' c' := by
  have hs : ∀ k, MineR g v' k → k < w0.heap.size → S k := fun k hk hl => (H.mine ((H'.mine hk).2 (Nat.lt_of_lt_of_le hl H.away.size))).2 hl
  exact ⟨H'.row, H'.own, H'.hB, H.away.join H'.away (fun k hk hm => (H.mine hm).2 hk), hs g (.inl rfl), fun k e => hs k (.inr e)⟩
def RC.doneR (c : RC) : RC := { c with item := c.item + 1, start := c.taken, state := 0, need := 8, num := 0, text := [] }
set_option maxRecDepth 100000 in
set_option maxHeartbeats 2000000 in
theorem rdone_any (w0 : World) (S : Nat → Prop) (B g : Nat) (v : Value) (c : RC) (s : ByteArray) (w : World) (H : RdS w0 S w B g v c) (hi : c.item ≤ 1000) (hBw : B ≤ w.heap.size) :
    Calls Tryd.prog 59 #[.pointer (some ⟨g, 0, none⟩), .agg #[.bool false, .int .u64 0, .string s]] w fun e w' => e = .returned (.agg #[.bool false, .int .u64 0, .string s]) ∧ RdS w0 S w' B g (.slice none 0 0) c.doneR := by
  have hlt := H.lt
  have hsz := H.away.size
  have h1 := H.later ((Below.refl _ _).alloc (Nat.le_refl _) (.cells #[.bool false, .int .u64 0, .string s] 90))
  have h2 := h1.later ((Below.refl _ _).alloc (Nat.le_refl _) (.cells #[.bool false, .int .u64 0, .string ⟨#[]⟩] 90))
  have q0 := row_past (heap_alloc_new w (.cells #[.bool false, .int .u64 0, .string s] 90)) (.cells #[.bool false, .int .u64 0, .string ⟨#[]⟩] 90)
  have q1 := alloc_new2 w (.cells #[.bool false, .int .u64 0, .string s] 90) #[.bool false, .int .u64 0, .string ⟨#[]⟩] 90
  have H2 := Lib.hid h2
  have Q0 := Lib.hid q0
  have Q1 := Lib.hid q1
  have hi0 : (0 : Int) ≤ c.item := by omega
  have hi1 : (c.item : Int) ≤ 1000 := by omega
  clear h1 h2 q0 q1 H
  go_enter Tryd.func59, Tryd.ntmps59
  go_upto_region 1 with fail
  generalize hm : w.heap.size = m at *
  have HM := Lib.hid hm
  clear hm
  generalize (w.alloc (.cells #[.bool false, .int .u64 0, .string s] 90)).alloc (.cells #[.bool false, .int .u64 0, .string ⟨#[]⟩] 90) = w1 at *
  have c6 := H2.out.c6
  have f6 := H2.out.free 6
  have h3 := H2.out.put 6 (.int .i64 ((c.item + 1 : Nat) : Int)) { c with item := c.item + 1 } rfl rfl
  rw [Int.natCast_add] at h3
  have H3 := Lib.hid h3
  have hne1 : m ≠ g := by omega
  have hne2 : m + 1 ≠ g := by omega
  have Q02 : Hid ((w1.setCell ⟨g, 6, none⟩ (.int .i64 ((c.item : Int) + 1))).heap[m]? = some (.cells #[.bool false, .int .u64 0, .string s] 90 (0, 0))) := Lib.hid ((Below.heap_setCell _ _ _ _ hne1).trans Q0.out)
  have Q12 : Hid ((w1.setCell ⟨g, 6, none⟩ (.int .i64 ((c.item : Int) + 1))).heap[m + 1]? = some (.cells #[.bool false, .int .u64 0, .string ⟨#[]⟩] 90 (0, 0))) := Lib.hid ((Below.heap_setCell _ _ _ _ hne2).trans Q1.out)
  clear h3 Q0 Q1 H2
  go_upto_region 2 with fail
  generalize w1.setCell ⟨g, 6, none⟩ (.int .i64 ((c.item : Int) + 1)) = w2 at *
  have c0 := H3.out.c0
  have c7 := H3.out.c7
  have f7 := H3.out.free 7
  simp only at c0 c7
  have h4 := H3.out.put 7 (.int .i64 (c.taken : Nat)) { c with item := c.item + 1, start := c.taken } rfl rfl
  have H4 := Lib.hid h4
  have Q03 : Hid ((w2.setCell ⟨g, 7, none⟩ (.int .i64 (c.taken : Int))).heap[m]? = some (.cells #[.bool false, .int .u64 0, .string s] 90 (0, 0))) := Lib.hid ((Below.heap_setCell _ _ _ _ hne1).trans Q02.out)
  have Q13 : Hid ((w2.setCell ⟨g, 7, none⟩ (.int .i64 (c.taken : Int))).heap[m + 1]? = some (.cells #[.bool false, .int .u64 0, .string ⟨#[]⟩] 90 (0, 0))) := Lib.hid ((Below.heap_setCell _ _ _ _ hne2).trans Q12.out)
  clear h4 Q02 Q12 H3 c6 f6
  go_upto_region 3 with fail
  generalize w2.setCell ⟨g, 7, none⟩ (.int .i64 (c.taken : Int)) = w3 at *
  clear c0 c7 f7
  have c8 := H4.out.c8
  have c9 := H4.out.c9
  have c10 := H4.out.c10
  have c11 := H4.out.c11
  have f8 := H4.out.free 8
  have f9 := H4.out.free 9
  have f10 := H4.out.free 10
  have f11 := H4.out.free 11
  have hW : ∃ w4, w4 = (((w3.setCell ⟨g, 8, none⟩ (.int .i64 0)).setCell ⟨g, 10, none⟩ (.int .i64 8)).setCell ⟨g, 9, none⟩ (.int .u64 0)).setCell ⟨g, 11, none⟩ (.slice none 0 0) := ⟨_, rfl⟩
  obtain ⟨w4, hW⟩ := hW
  have h5 : RdS w0 S w4 B g (.slice none 0 0) c.doneR := by
    rw [hW]
    exact (((H4.out.put 8 (.int .i64 (0 : Nat)) { c with item := c.item + 1, start := c.taken, state := 0 } rfl rfl).put 10 (.int .i64 (8 : Nat)) { c with item := c.item + 1, start := c.taken, state := 0, need := 8 } rfl rfl).put 9 (.int .u64 (0 : Nat)) { c with item := c.item + 1, start := c.taken, state := 0, need := 8, num := 0 } rfl rfl).putNil
  have a0 : w4.heap[m]? = some (.cells #[.bool false, .int .u64 0, .string s] 90 (0, 0)) := by
    rw [hW]
    exact (Below.heap_setCell _ _ _ _ hne1).trans ((Below.heap_setCell _ _ _ _ hne1).trans ((Below.heap_setCell _ _ _ _ hne1).trans ((Below.heap_setCell _ _ _ _ hne1).trans Q03.out)))
  have a1 : w4.heap[m + 1]? = some (.cells #[.bool false, .int .u64 0, .string ⟨#[]⟩] 90 (0, 0)) := by
    rw [hW]
    exact (Below.heap_setCell _ _ _ _ hne2).trans ((Below.heap_setCell _ _ _ _ hne2).trans ((Below.heap_setCell _ _ _ _ hne2).trans ((Below.heap_setCell _ _ _ _ hne2).trans Q13.out)))
  have HWW := Lib.hid hW
  have H5 := Lib.hid h5
  have A0 := Lib.hid a0
  have A1 := Lib.hid a1
  clear h5 a0 a1 Q03 Q13 H4 hW
  go_upto_region 4 with fail
  rw [← HWW.out]
  clear HWW c8 c9 c10 c11 f8 f9 f10 f11
  have p0 := cell_of_row w4 m 0 _ _ _ A0.out
  have p1 := cell_of_row w4 m 1 _ _ _ A0.out
  have p2 := cell_of_row w4 m 2 _ _ _ A0.out
  have p3 := cell_of_row w4 (m + 1) 0 _ _ _ A1.out
  have p4 := cell_of_row w4 (m + 1) 1 _ _ _ A1.out
  have p5 := cell_of_row w4 (m + 1) 2 _ _ _ A1.out
  have p6 := frozen_of_row w4 (m + 1) 0 _ _ A1.out
  have p7 := frozen_of_row w4 (m + 1) 1 _ _ A1.out
  have p8 := frozen_of_row w4 (m + 1) 2 _ _ A1.out
  go_wp2_with fail
  have hv : (Value.slice none 0 0).ownBlock ≠ some (m + 1) := by simp [Value.ownBlock]
  refine bodyPost_ret (v := .agg #[.bool false, .int .u64 0, .string s]) (by simp [results, Tryd.results59, go_sem, p3, p4, p5]) rfl ⟨rfl, ?_⟩
  exact ((H5.out.other 0 _ (by omega) (by omega) hv).other 1 _ (by omega) (by omega) hv).other 2 _ (by omega) (by omega) hv
/-- a phase is done -/
def RC.nextR (c : RC) : RC × Option ByteArray :=
  if c.state = 0 ∧ 0 < c.num then ({ c with state := 1, need := c.num }, none)
  else if c.state = 1 ∧ c.num % 8 ≠ 0 then ({ c with state := 2, need := 8 - c.num % 8 }, none)
  else (c.doneR, some (strOf c.text))
def nextV : Option ByteArray → Value
  | none => .tuple #[.agg #[.bool false, .int .u64 0, .string ⟨#[]⟩], .bool false]
  | some s => .tuple #[.agg #[.bool false, .int .u64 0, .string s], .bool true]
def NextP (w0 : World) (S : Nat → Prop) (B g : Nat) (q : RC × Option ByteArray) (e : Ending) (w' : World) : Prop := e = .returned (nextV q.2) ∧ ∃ v', RdS w0 S w' B g v' q.1
set_option maxRecDepth 100000 in
set_option maxHeartbeats 4000000 in
theorem rnext_any (w0 : World) (S : Nat → Prop) (B g : Nat) (v : Value) (c : RC) (w : World) (H : RdS w0 S w B g v c) (hi : c.item = 0) (hs : c.state ≤ 2) (hn : c.num ≤ 1048576) (hb : Bytes c.text) (hBw : B ≤ w.heap.size) :
    Calls Tryd.prog 42 #[.pointer (some ⟨g, 0, none⟩)] w fun e w' => NextP w0 S B g c.nextR e w' := by
  obtain ⟨r, hr⟩ : ∃ r, c.nextR = r := ⟨_, rfl⟩
  rw [hr]
  have HR := Lib.hid hr
  clear hr
  have hlt := H.lt
  have hsz := H.away.size
  obtain ⟨A8, k8, hv8⟩ := H.own.slice
  obtain ⟨lt, hlt8⟩ : ∃ lt, c.text.length = lt := ⟨_, rfl⟩
  rw [hlt8] at hv8
  have hvm : v.ownBlock ≠ some w.heap.size := fun e => by have := (H.own.lt _ e).2; omega
  have hconv : ∀ (W : World), OwnB W B v c.text → (convert 38 9 (.slice A8 lt k8)).run Tryd.prog W = .ok (.string (strOf c.text)) W := fun W h => by rw [← hv8]; exact run_conv_own W h hb
  have h1 := H.later ((Below.refl _ _).alloc (Nat.le_refl _) (.cells #[.bool false, .int .u64 0, .string ⟨#[]⟩] 90))
  have q0 := heap_alloc_new w (.cells #[.bool false, .int .u64 0, .string ⟨#[]⟩] 90)
  have hBw1 : B ≤ (w.alloc (.cells #[.bool false, .int .u64 0, .string ⟨#[]⟩] 90)).heap.size := Nat.le_trans hBw (by simp)
  have CD : ∀ wq v, RdS w0 S wq B g v c → B ≤ wq.heap.size → Calls Tryd.prog 59 #[.pointer (some ⟨g, 0, none⟩), .agg #[.bool false, .int .u64 0, .string (strOf c.text)]] wq fun e w' => e = .returned (.agg #[.bool false, .int .u64 0, .string (strOf c.text)]) ∧ RdS wq (MineR g v) w' B g (.slice none 0 0) c.doneR :=
    fun wq v h hB => rdone_any wq (MineR g v) B g v c (strOf c.text) wq h.rebase (by omega) hB
  have CD := Lib.hid CD
  have HCONV := Lib.hid hconv
  have HV8 := Lib.hid hv8
  have H1 := Lib.hid h1
  have Q0 := Lib.hid q0
  have HVM := Lib.hid hvm
  have HI := Lib.hid hi
  have HB1 := Lib.hid hBw1
  have hn0 : (0 : Int) ≤ c.num := by omega
  have hn1 : (c.num : Int) ≤ 1048576 := by omega
  have k1 : ∀ q, (((((⟨#[116]⟩ : ByteArray)[0]'q).toNat : Int)) == 105) = false := fun _ => rfl
  have k2 : IntKind.i64.wrap (c.num : Int) = c.num := IntWalk.i64_in _ (by omega)
  clear h1 q0 H hconv hv8 hlt8 hvm hi hBw hb hBw1
  go_enter Tryd.func42, Tryd.ntmps42
  go_upto_region 1 with fail
  generalize hm : w.heap.size = m at *
  have HM := Lib.hid hm
  clear hm
  generalize w.alloc (.cells #[.bool false, .int .u64 0, .string ⟨#[]⟩] 90) = w1 at *
  have c9 := H1.out.c9
  have c6 := H1.out.c6
  rw [HI.out] at c6
  replace c6 : w1.cell? ⟨g, 6, none⟩ = some (.int .i64 0) := c6
  have c4 := H1.out.c4
  go_upto_region 2 with fail
  go_quiet (fail)
  have hq : Below w1.heap.size w1 (w1.drewN nq) := ⟨rfl, rfl, rfl, Nat.le_refl _, fun _ _ => rfl⟩
  have H2 := Lib.hid (H1.out.later hq)
  have Q2 := Lib.hid ((hq.block m (lt_of_row Q0.out)).trans Q0.out)
  have HB2 : Hid (B ≤ (w1.drewN nq).heap.size) := HB1
  generalize w1.drewN nq = w2 at *
  clear c9 c6 c4 hq H1 Q0 HB1 k1
  have p3 := cell_of_row w2 m 0 _ _ _ Q2.out
  have p4 := cell_of_row w2 m 1 _ _ _ Q2.out
  have p5 := cell_of_row w2 m 2 _ _ _ Q2.out
  have p6 := frozen_of_row w2 m 0 _ _ Q2.out
  have p7 := frozen_of_row w2 m 1 _ _ Q2.out
  have p8 := frozen_of_row w2 m 2 _ _ Q2.out
  have c8 := H2.out.c8
  have f8 := H2.out.free 8
  have c10 := H2.out.c10
  have f10 := H2.out.free 10
  have hmg : m ≠ g := by omega
  have hgm : g ≠ m := by omega
  by_cases h0 : c.state = 0
  · rw [h0] at c8
    replace c8 : w2.cell? ⟨g, 8, none⟩ = some (.int .i64 0) := c8
    by_cases hp : 0 < c.num
    · have hpI : (0 : Int) < c.num := by omega
      obtain rfl : r = ({ c with state := 1, need := c.num }, none) := HR.out.symm.trans (if_pos ⟨h0, hp⟩)
      have h3 := (H2.out.put 8 (.int .i64 (1 : Nat)) { c with state := 1 } rfl rfl).put 10 (.int .i64 ((c.num : Nat) : Int)) { c with state := 1, need := c.num } rfl rfl
      have H3 := Lib.hid h3
      clear h3 HR h0 hp
      go_wp2_with fail
      refine bodyPost_ret (v := .tuple #[.agg #[.bool false, .int .u64 0, .string ⟨#[]⟩], .bool false]) (by simp [results, Tryd.results42, go_sem, p3, p4, p5]) rfl ⟨rfl, v, ?_⟩
      exact ((H3.out.other 0 _ (by omega) hgm HVM.out).other 1 _ (by omega) hgm HVM.out).other 2 _ (by omega) hgm HVM.out
    · have hpI : ¬ (0 : Int) < c.num := by omega
      have hpD : decide ((0 : Int) < c.num) = false := decide_eq_false hpI
      have c11 := H2.out.c11
      rw [HV8.out] at c11
      have hcv := HCONV.out w2 H2.out.own
      obtain rfl : r = (c.doneR, some (strOf c.text)) := HR.out.symm.trans ((if_neg (fun h => hp h.2)).trans (if_neg (fun h => by have := h.1; omega)))
      have HD : Hid (Calls Tryd.prog 59 #[.pointer (some ⟨g, 0, none⟩), .agg #[.bool false, .int .u64 0, .string (strOf c.text)]] w2 fun e w' => e = .returned (.agg #[.bool false, .int .u64 0, .string (strOf c.text)]) ∧ RdS w2 (MineR g v) w' B g (.slice none 0 0) c.doneR) := Lib.hid (CD.out _ _ H2.out HB2.out)
      clear HR p3 p4 p5 p6 p7 p8 h0 hp
      go_wp2_with (go_at_call 59; refine HD.out.mono ?_; rintro e w5 ⟨rfl, h5⟩; have hx5 := (h5.away.block m (lt_of_row Q2.out) (by rintro (h | h); exact hmg h; exact HVM.out h)).trans Q2.out; have p3 := cell_of_row w5 m 0 _ _ _ hx5; have p4 := cell_of_row w5 m 1 _ _ _ hx5; have p5 := cell_of_row w5 m 2 _ _ _ hx5; have p6 := frozen_of_row w5 m 0 _ _ hx5; have p7 := frozen_of_row w5 m 1 _ _ hx5; have p8 := frozen_of_row w5 m 2 _ _ hx5; have H5 := Lib.hid h5; clear h5 hx5)
      have hv : (Value.slice none 0 0).ownBlock ≠ some m := by simp [Value.ownBlock]
      have hj := H2.out.join H5.out
      refine bodyPost_ret (v := .tuple #[.agg #[.bool false, .int .u64 0, .string (strOf c.text)], .bool true]) (by simp [results, Tryd.results42, go_sem, p3, p4, p5]) rfl ⟨rfl, .slice none 0 0, ?_⟩
      exact ((hj.other 0 _ (by omega) hgm hv).other 1 _ (by omega) hgm hv).other 2 _ (by omega) hgm hv
  · by_cases h1 : c.state = 1
    · rw [h1] at c8
      replace c8 : w2.cell? ⟨g, 8, none⟩ = some (.int .i64 1) := c8
      by_cases hp : c.num % 8 ≠ 0
      · have hpI : ((c.num : Int) % 8 != 0) = true := by simp; omega
        obtain rfl : r = ({ c with state := 2, need := 8 - c.num % 8 }, none) := HR.out.symm.trans ((if_neg (fun h => h0 h.1)).trans (if_pos ⟨h1, hp⟩))
        have h3 := (H2.out.put 8 (.int .i64 (2 : Nat)) { c with state := 2 } rfl rfl).put 10 (.int .i64 ((8 - c.num % 8 : Nat) : Int)) { c with state := 2, need := 8 - c.num % 8 } rfl rfl
        rw [show ((8 - c.num % 8 : Nat) : Int) = (8 : Int) - (c.num : Int) % 8 by omega] at h3
        have H3 := Lib.hid h3
        clear h3 HR h0 h1 hp
        go_wp2_with fail
        refine bodyPost_ret (v := .tuple #[.agg #[.bool false, .int .u64 0, .string ⟨#[]⟩], .bool false]) (by simp [results, Tryd.results42, go_sem, p3, p4, p5]) rfl ⟨rfl, v, ?_⟩
        exact ((H3.out.other 0 _ (by omega) hgm HVM.out).other 1 _ (by omega) hgm HVM.out).other 2 _ (by omega) hgm HVM.out
      · have hpI : ((c.num : Int) % 8 != 0) = false := by simp; omega
        have c11 := H2.out.c11
        rw [HV8.out] at c11
        have hcv := HCONV.out w2 H2.out.own
        obtain rfl : r = (c.doneR, some (strOf c.text)) := HR.out.symm.trans ((if_neg (fun h => h0 h.1)).trans (if_neg (fun h => hp h.2)))
        have HD : Hid (Calls Tryd.prog 59 #[.pointer (some ⟨g, 0, none⟩), .agg #[.bool false, .int .u64 0, .string (strOf c.text)]] w2 fun e w' => e = .returned (.agg #[.bool false, .int .u64 0, .string (strOf c.text)]) ∧ RdS w2 (MineR g v) w' B g (.slice none 0 0) c.doneR) := Lib.hid (CD.out _ _ H2.out HB2.out)
        clear HR p3 p4 p5 p6 p7 p8 h0 h1 hp
        go_wp2_with (go_at_call 59; refine HD.out.mono ?_; rintro e w5 ⟨rfl, h5⟩; have hx5 := (h5.away.block m (lt_of_row Q2.out) (by rintro (h | h); exact hmg h; exact HVM.out h)).trans Q2.out; have p3 := cell_of_row w5 m 0 _ _ _ hx5; have p4 := cell_of_row w5 m 1 _ _ _ hx5; have p5 := cell_of_row w5 m 2 _ _ _ hx5; have p6 := frozen_of_row w5 m 0 _ _ hx5; have p7 := frozen_of_row w5 m 1 _ _ hx5; have p8 := frozen_of_row w5 m 2 _ _ hx5; have H5 := Lib.hid h5; clear h5 hx5)
        have hv : (Value.slice none 0 0).ownBlock ≠ some m := by simp [Value.ownBlock]
        have hj := H2.out.join H5.out
        refine bodyPost_ret (v := .tuple #[.agg #[.bool false, .int .u64 0, .string (strOf c.text)], .bool true]) (by simp [results, Tryd.results42, go_sem, p3, p4, p5]) rfl ⟨rfl, .slice none 0 0, ?_⟩
        exact ((hj.other 0 _ (by omega) hgm hv).other 1 _ (by omega) hgm hv).other 2 _ (by omega) hgm hv
    · have h2 : c.state = 2 := by omega
      rw [h2] at c8
      replace c8 : w2.cell? ⟨g, 8, none⟩ = some (.int .i64 2) := c8
      have c11 := H2.out.c11
      rw [HV8.out] at c11
      have hcv := HCONV.out w2 H2.out.own
      obtain rfl : r = (c.doneR, some (strOf c.text)) := HR.out.symm.trans ((if_neg (fun h => h0 h.1)).trans (if_neg (fun h => h1 h.1)))
      have HD : Hid (Calls Tryd.prog 59 #[.pointer (some ⟨g, 0, none⟩), .agg #[.bool false, .int .u64 0, .string (strOf c.text)]] w2 fun e w' => e = .returned (.agg #[.bool false, .int .u64 0, .string (strOf c.text)]) ∧ RdS w2 (MineR g v) w' B g (.slice none 0 0) c.doneR) := Lib.hid (CD.out _ _ H2.out HB2.out)
      clear HR p3 p4 p5 p6 p7 p8 h0 h1 h2
      go_wp2_with (go_at_call 59; refine HD.out.mono ?_; rintro e w5 ⟨rfl, h5⟩; have hx5 := (h5.away.block m (lt_of_row Q2.out) (by rintro (h | h); exact hmg h; exact HVM.out h)).trans Q2.out; have p3 := cell_of_row w5 m 0 _ _ _ hx5; have p4 := cell_of_row w5 m 1 _ _ _ hx5; have p5 := cell_of_row w5 m 2 _ _ _ hx5; have p6 := frozen_of_row w5 m 0 _ _ hx5; have p7 := frozen_of_row w5 m 1 _ _ hx5; have p8 := frozen_of_row w5 m 2 _ _ hx5; have H5 := Lib.hid h5; clear h5 hx5)
      have hv : (Value.slice none 0 0).ownBlock ≠ some m := by simp [Value.ownBlock]
      have hj := H2.out.join H5.out
      refine bodyPost_ret (v := .tuple #[.agg #[.bool false, .int .u64 0, .string (strOf c.text)], .bool true]) (by simp [results, Tryd.results42, go_sem, p3, p4, p5]) rfl ⟨rfl, .slice none 0 0, ?_⟩
      exact ((hj.other 0 _ (by omega) hgm hv).other 1 _ (by omega) hgm hv).other 2 _ (by omega) hgm hv
end Go.Proofs.YtlcppkcclolgcaaDoor

namespace Go.Proofs.YtlcppkcclolgcaaDoor
set_option linter.unusedVariables false
set_option linter.unusedSimpArgs false
open Go.RowKit

def RC.takeB (c : RC) (b : Nat) : RC × Bool :=
  if c.state = 0 then c.head b (8 - c.need) else if c.state = 1 then ({ c with text := c.text ++ [b], need := c.need - 1 }, true)
  else if b = 0 then ({ c with need := c.need - 1 }, true) else ({ c with code := 7, fat := c.taken }, false)
/-- a reader on its way -/
structure RFine (c : RC) : Prop where
  item : c.item = 0
  code : c.code = 0
  taken : c.taken ≤ 10000000
  st : c.state ≤ 2
  n1 : 1 ≤ c.need
  n2 : c.need ≤ 1048576
  h8 : c.state = 0 → c.need ≤ 8
  num0 : c.state = 0 → c.num < 2 ^ (8 * (8 - c.need))
  num1 : c.state ≠ 0 → c.num ≤ 1048576
  tl : c.text.length ≤ 1048576
  tb : Bytes c.text
theorem rtake_any (w0 : World) (S : Nat → Prop) (B g b : Nat) (v : Value) (c : RC) (w : World) (H : RdS w0 S w B g v c) (hb : b < 256) (hf : RFine c) :
    Calls Tryd.prog 41 #[.pointer (some ⟨g, 0, none⟩), .int .u8 (b : Int)] w fun e w' => e = .returned (.bool (c.takeB b).2) ∧ ∃ v', RdS w0 S w' B g v' (c.takeB b).1 := by
  have h1 := hf.n1
  unfold RC.takeB
  by_cases h0 : c.state = 0
  · rw [if_pos h0]
    have h8 := hf.h8 h0
    exact (rtake_head w0 S B g b (8 - c.need) v c w H hb h0 hf.item (by omega) (by omega) (hf.num0 h0)).mono fun e w' h => ⟨h.1, v, h.2⟩
  · rw [if_neg h0]
    by_cases h1 : c.state = 1
    · rw [if_pos h1]
      exact rtake_text w0 S B g b v c w H hb h1 hf.tl hf.n1 hf.n2
    · rw [if_neg h1]
      have h2 : c.state = 2 := by have := hf.st; omega
      have h := rtake_pad w0 S B g b v c w H hb h2 hf.n1 hf.n2 (by have := hf.taken; omega)
      by_cases hb0 : b = 0
      · rw [if_pos hb0] at h ⊢
        exact h.mono fun e w' h => ⟨by rw [h.1, decide_eq_true hb0], v, h.2⟩
      · rw [if_neg hb0] at h ⊢
        exact h.mono fun e w' h => ⟨by rw [h.1, decide_eq_false hb0], v, h.2⟩
/-- one byte: does the reader go on, and which text is whole -/
def RC.feedB (c : RC) (b : Nat) : RC × Bool × Option ByteArray :=
  if (c.takeB b).2 = false then ((c.takeB b).1, false, none)
  else if 0 < (c.takeB b).1.need then ({ (c.takeB b).1 with taken := c.taken + 1 }, true, none)
  else (({ (c.takeB b).1 with taken := c.taken + 1 } : RC).nextR.1, true, ({ (c.takeB b).1 with taken := c.taken + 1 } : RC).nextR.2)
theorem takeB_facts {c : RC} {b : Nat} (hf : RFine c) (hb : b < 256) : (c.takeB b).1.taken = c.taken ∧ (c.takeB b).1.item = 0 ∧ (c.takeB b).1.state ≤ 2 ∧ (c.takeB b).1.need ≤ 1048576 ∧ Bytes (c.takeB b).1.text ∧
    ((c.takeB b).2 = true → (c.takeB b).1.need = 0 → (c.takeB b).1.num ≤ 1048576) := by
  have h1 := hf.n1
  have h2 := hf.n2
  have h3 := hf.st
  unfold RC.takeB
  by_cases h0 : c.state = 0
  · rw [if_pos h0]
    have h8 := hf.h8 h0
    unfold RC.head
    by_cases hh : 8 - c.need = 7 ∧ 1048576 < c.num + b * 2 ^ (8 * (8 - c.need))
    · rw [if_pos hh]
      exact ⟨rfl, hf.item, h3, h2, hf.tb, fun h => by cases h⟩
    · rw [if_neg hh]
      refine ⟨rfl, hf.item, h3, ?_, hf.tb, fun _ hn => ?_⟩
      · show c.need - 1 ≤ _; omega
      · have hn : c.need - 1 = 0 := hn
        show c.num + _ ≤ _
        rcases Nat.lt_or_ge 1048576 (c.num + b * 2 ^ (8 * (8 - c.need))) with hl | hl
        · exact absurd ⟨by omega, hl⟩ hh
        · exact hl
  · rw [if_neg h0]
    by_cases h1' : c.state = 1
    · rw [if_pos h1']
      refine ⟨rfl, hf.item, h3, ?_, hf.tb.snoc hb, fun _ _ => hf.num1 h0⟩
      show c.need - 1 ≤ _; omega
    · rw [if_neg h1']
      by_cases hb0 : b = 0
      · rw [if_pos hb0]
        refine ⟨rfl, hf.item, h3, ?_, hf.tb, fun _ _ => hf.num1 h0⟩
        show c.need - 1 ≤ _; omega
      · rw [if_neg hb0]
        exact ⟨rfl, hf.item, h3, h2, hf.tb, fun h => by cases h⟩
/-- the items that Feed hands back -/
def FeedV (B : Nat) (x : Value) (w' : World) : Option ByteArray → Prop
  | none => x = .slice none 0 0
  | some s => ∃ k cap, x = .slice (some ⟨k, 0, none⟩) 1 cap ∧ B ≤ k ∧ w'.cell? ⟨k, 2, none⟩ = some (.string s)
def FeedD (w0 : World) (S : Nat → Prop) (B g : Nat) (r : RC × Bool × Option ByteArray) (x : Value) (w' : World) : Prop := FeedV B x w' r.2.2 ∧ ∃ v', RdS w0 S w' B g v' r.1
theorem news_cells (w : World) (cs : List Value) (t : TypeId) : ∀ j u, cs[j]? = some u → (w.alloc (.cells cs.toArray t)).cell? ((⟨w.heap.size, 0, none⟩ : Addr).add j) = some u := by
  intro j u hj
  have hadd : (⟨w.heap.size, 0, none⟩ : Addr).add j = ⟨w.heap.size, j, none⟩ := by unfold Addr.add; split <;> simp_all
  rw [hadd, cell_of_row _ _ _ _ _ _ (heap_alloc_new w _)]
  simpa using hj
theorem none_below {w w' : World} (h : w.grownBy w' (Value.slice none 0 0).ownBlock) : Below w.heap.size w w' :=
  ⟨h.os, h.tape, h.output, h.size, fun i hi => h.block i hi (by simp [Value.ownBlock])⟩
theorem item_row {w : World} {B : Nat} {v : Value} {s : ByteArray} (h : w.ownsRow B 90 3 v (0 + 1) ([] ++ [.bool false, .int .u64 0, .string s])) :
    ∃ k cap, v = .slice (some ⟨k, 0, none⟩) 1 cap ∧ B ≤ k ∧ w.cell? ⟨k, 2, none⟩ = some (.string s) := by
  have hc := h
  obtain ⟨_, ⟨_, h0⟩ | ⟨k, cap, cur, rfl, hb, hg, _⟩⟩ := h
  · omega
  · refine ⟨k, cap, rfl, hb, ?_⟩
    have h2 := hc.cells (g := k) rfl 2 (.string s) rfl
    have hadd : (⟨k, 0, none⟩ : Addr).add 2 = ⟨k, 2, none⟩ := by unfold Addr.add; split <;> simp_all
    rwa [hadd] at h2
set_option maxRecDepth 100000 in
set_option maxHeartbeats 4000000 in
theorem rfeed_any (w0 : World) (S : Nat → Prop) (B g b gb ob cap : Nat) (v : Value) (c : RC) (w : World) (H : RdS w0 S w B g v c) (hb : b < 256) (hf : RFine c) (hcell : w.cell? ⟨gb, ob, none⟩ = some (.int .u8 (b : Int))) :
    Calls Tryd.prog 27 #[.pointer (some ⟨g, 0, none⟩), .slice (some ⟨gb, ob, none⟩) 1 cap] w fun e w' => ∃ x, e = .returned x ∧ FeedD w0 S B g (c.feedB b) x w' := by
  obtain ⟨r, hr⟩ : ∃ r, c.feedB b = r := ⟨_, rfl⟩
  rw [hr]
  have htf := takeB_facts hf hb
  have hBw : B ≤ w.heap.size := Nat.le_trans H.hB (Nat.le_of_lt H.lt)
  have CS := Lib.hid (stopped_any w0 S B g v c w H hf.code)
  have CT : ∀ wq, RdS w0 S wq B g v c → Calls Tryd.prog 41 #[.pointer (some ⟨g, 0, none⟩), .int .u8 (b : Int)] wq fun e w' => e = .returned (.bool (c.takeB b).2) ∧ ∃ v', RdS w0 S w' B g v' (c.takeB b).1 := fun wq h => rtake_any w0 S B g b v c wq h hb hf
  have hi := hf.item
  have ht := hf.taken
  unfold RC.feedB at hr
  obtain ⟨q, hq⟩ : ∃ q, c.takeB b = q := ⟨_, rfl⟩
  rw [hq] at CT hr htf
  obtain ⟨c1, ok⟩ := q
  simp only at hr htf CT
  have KT := Lib.hid CT
  clear CT
  have HR := Lib.hid hr
  have HTF := Lib.hid htf
  have HI := Lib.hid hi
  have HH := Lib.hid H
  have hk : (0 : Nat) < 1 := by omega
  have c4 := H.c4
  have c6 := H.c6
  rw [hi] at c6
  replace c6 : w.cell? ⟨g, 6, none⟩ = some (.int .i64 0) := c6
  clear hr htf hi H hf hq
  go_enter Tryd.func27, Tryd.ntmps27
  go_wp2_with fail
  go_step3
  go_wp2_with fail
  go_step3
  go_wp2_with fail
  go_loopw [5, 12] (fun x5 x12 wr => (x12 = .int .i64 0 ∧ x5 = .slice none 0 0 ∧ wr = w) ∨ (x12 = .int .i64 1 ∧ FeedD w0 S B g r x5 wr)) (fun _ x12 _ => 1 - (intOf x12).toNat)
  case atStart => exact .inl ⟨rfl, rfl, rfl⟩
  case round =>
    rcases hrel with ⟨rfl, rfl, rfl⟩ | ⟨rfl, hd⟩
    · go_upto_region 6 with (go_at_call 40; refine CS.out.mono ?_; rintro e w' ⟨rfl, rfl⟩)
      go_quiet (fail)
      have H2 := Lib.hid (HH.out.drewN nq)
      generalize wr.drewN nq = w2 at *
      clear c4 c6 CS hcell
      cases ok with
      | false =>
        obtain rfl : r = (c1, false, none) := HR.out.symm.trans (if_pos rfl)
        go_wp2_with (go_at_call 41; refine (KT.out _ H2.out).mono ?_; rintro e w7 ⟨rfl, v7, h7⟩; have H7 := Lib.hid h7; clear h7)
        try rw [Exit.noGoto_ret]
        go_ret
        exact ⟨_, rfl, rfl, v7, H7.out⟩
      | true =>
        have hr := HR.out.symm.trans (if_neg (by simp))
        have HR2 := Lib.hid hr
        clear hr HR
        have ht0 : (0 : Int) ≤ c.taken := by omega
        have ht1 : (c.taken : Int) ≤ 10000000 := by omega
        have hnd0 : (0 : Int) ≤ c1.need := by omega
        go_upto_region 9 with (go_at_call 41; refine (KT.out _ H2.out).mono ?_; rintro e w7 ⟨rfl, v7, h7⟩; have H7 := Lib.hid h7; clear h7)
        have d0 := H7.out.c0
        rw [HTF.out.1] at d0
        have g0 := H7.out.free 0
        have h8 := H7.out.put 0 (.int .i64 ((c.taken + 1 : Nat) : Int)) { c1 with taken := c.taken + 1 } rfl rfl
        rw [Int.natCast_add] at h8
        have H8 := Lib.hid h8
        clear h8
        go_upto_region 10 with fail
        generalize w7.setCell ⟨g, 0, none⟩ (.int .i64 ((c.taken : Int) + 1)) = w8 at *
        clear d0 g0 H7
        have d10 := H8.out.c10
        simp only at d10
        by_cases hp : 0 < c1.need
        · have hpI : (0 : Int) < c1.need := by omega
          obtain rfl : r = ({ c1 with taken := c.taken + 1 }, true, none) := HR2.out.trans (if_pos hp)
          clear hp HR2
          go_wp2_with fail
          go_roundw
          case rel => exact .inr ⟨rfl, rfl, v7, H8.out⟩
          case measure => simp [intOf]
        · have hpI : ¬ (0 : Int) < c1.need := by omega
          have hr := HR2.out.trans (if_neg hp)
          have hBw8 : B ≤ w8.heap.size := Nat.le_trans H8.out.hB (Nat.le_of_lt H8.out.lt)
          have CN := rnext_any w0 S B g v7 _ w8 H8.out HTF.out.2.1 HTF.out.2.2.1 (HTF.out.2.2.2.2.2 (by trivial) (by omega)) HTF.out.2.2.2.2.1 hBw8
          generalize ({ c1 with taken := c.taken + 1 } : RC).nextR = n at *
          obtain ⟨n1, n2⟩ := n
          simp only at hr
          subst hr
          unfold NextP at CN
          cases n2 with
          | none =>
            have KN : Hid (Calls Tryd.prog 42 #[.pointer (some ⟨g, 0, none⟩)] w8 fun e w' => e = .returned (.tuple #[.agg #[.bool false, .int .u64 0, .string ⟨#[]⟩], .bool false]) ∧ ∃ v', RdS w0 S w' B g v' n1) := Lib.hid CN
            clear CN HR2 hp
            go_wp2_with (go_at_call 42; refine KN.out.mono ?_; rintro e w9 ⟨rfl, v9, h9⟩; have H9 := Lib.hid h9; clear h9)
            go_roundw
            case rel => exact .inr ⟨rfl, rfl, v9, H9.out.later ((Below.refl _ _).alloc (Nat.le_refl _) _)⟩
            case measure => simp [intOf]
          | some s =>
            have KN : Hid (Calls Tryd.prog 42 #[.pointer (some ⟨g, 0, none⟩)] w8 fun e w' => e = .returned (.tuple #[.agg #[.bool false, .int .u64 0, .string s], .bool true]) ∧ ∃ v', RdS w0 S w' B g v' n1) := Lib.hid CN
            clear CN HR2 hp
            obtain ⟨i0, hi0, hz0, hz1, hz2⟩ := info_parts (show (Tryd.prog.info? 90).map (fun i => (i.zero, i.size, i.bytes)) = some (some (.agg #[.bool false, .int .u64 0, .string ⟨#[]⟩]), 3, 32) by kernel_rfl)
            go_upto_region 13 with (go_at_call 42; refine KN.out.mono ?_; rintro e w9 ⟨rfl, v9, h9⟩; have H9 := Lib.hid h9; clear h9)
            have hnew : ∀ j u, [Value.bool false, Value.int .u64 0, Value.string s][j]? = some u → ((w9.alloc (.cells #[.bool false, .int .u64 0, .string s] 90)).alloc (.cells #[.bool false, .int .u64 0, .string s] 90)).cell? ((⟨w9.heap.size + 1, 0, none⟩ : Addr).add j) = some u := by
              have h := news_cells (w9.alloc (.cells #[.bool false, .int .u64 0, .string s] 90)) [Value.bool false, Value.int .u64 0, Value.string s] 90
              rwa [show (w9.alloc (.cells #[.bool false, .int .u64 0, .string s] 90)).heap.size = w9.heap.size + 1 by simp] at h
            have hbb : B ≤ ((w9.alloc (.cells #[.bool false, .int .u64 0, .string s] 90)).alloc (.cells #[.bool false, .int .u64 0, .string s] 90)).heap.size := by
              have h1 := H9.out.hB
              have h2 := H9.out.lt
              simp
              omega
            have hone : ∀ u ∈ [Value.bool false, Value.int .u64 0, Value.string s], u.oneCell' = true := by
              intro u hu
              simp only [List.mem_cons, List.not_mem_nil, or_false] at hu
              rcases hu with rfl | rfl | rfl <;> rfl
            have HNEW := Lib.hid hnew
            have HBB := Lib.hid hbb
            have HONE := Lib.hid hone
            clear hnew hbb hone
            go_wp2_with (at_builtin; refine wpList_append_own _ rfl (.tmp 65) (.tmp 67) 79 rfl B 90 i0 (.agg #[.bool false, .int .u64 0, .string ⟨#[]⟩]) 3 32 Tryd.underlying79 hi0 hz0 hz1 hz2 rfl (by decide) (.slice none 0 0) 0 [] rfl (World.ownsRow_nil _ _ _ _) ⟨w9.heap.size + 1, 0, none⟩ 1 1 [.bool false, .int .u64 0, .string s] rfl rfl HNEW.out HONE.out (by decide) (by decide) HBB.out ?_; intro v5 w5 ho5 hg5 _; have HO5 := Lib.hid ho5; have HG5 := Lib.hid hg5; clear ho5 hg5)
            obtain ⟨k, kc, hv, hB5, hc5⟩ := item_row HO5.out
            subst hv
            go_roundw
            case rel => exact .inr ⟨rfl, ⟨k, kc, rfl, hB5, hc5⟩, v9, ((H9.out.later ((Below.refl _ _).alloc (Nat.le_refl _) _)).later ((Below.refl _ _).alloc (Nat.le_refl _) _)).later (none_below HG5.out)⟩
            case measure => simp [intOf]
    · go_wp2_with fail
      try rw [Exit.noGoto_ret]
      go_ret
      exact ⟨_, rfl, hd⟩
end Go.Proofs.YtlcppkcclolgcaaDoor

namespace Go.Proofs.YtlcppkcclolgcaaDoor
set_option linter.unusedVariables false
set_option linter.unusedSimpArgs false
open Go.RowKit

/-- the reader behind the bytes of a word so far -/
def rcOf (ws : List Nat) : RC where
  taken := ws.length
  code := 0
  fat := 0
  item := 0
  start := 0
  state := if ws.length < 8 then 0 else if ws.length < 8 + val8 (ws.take 8) then 1 else 2
  num := val8 (ws.take 8)
  need := if ws.length < 8 then 8 - ws.length else if ws.length < 8 + val8 (ws.take 8) then 8 + val8 (ws.take 8) - ws.length else fr (val8 (ws.take 8)) - ws.length
  text := (ws.drop 8).take (val8 (ws.take 8))
theorem rc_eq {a b : RC} (h1 : a.taken = b.taken) (h2 : a.code = b.code) (h3 : a.fat = b.fat) (h4 : a.item = b.item) (h5 : a.start = b.start) (h6 : a.state = b.state) (h7 : a.num = b.num) (h8 : a.need = b.need) (h9 : a.text = b.text) : a = b := by
  cases a; cases b
  simp only at h1 h2 h3 h4 h5 h6 h7 h8 h9
  subst h1 h2 h3 h4 h5 h6 h7 h8 h9
  rfl
theorem p256 (n : Nat) : (256 : Nat) ^ n = 2 ^ (8 * n) := by rw [Nat.pow_mul]
theorem rc_fine {ws : List Nat} (h : Pre ws) : RFine (rcOf ws) := by
  have hl := h.len
  by_cases h8 : ws.length < 8
  · have hv := val8_lt _ (h.by_.take 8)
    have ht : (ws.take 8).length = ws.length := by rw [List.length_take]; omega
    rw [ht, p256] at hv
    have hd : ws.drop 8 = [] := List.drop_eq_nil_of_le (by omega)
    refine ⟨rfl, rfl, by show ws.length ≤ _; omega, ?_, ?_, ?_, ?_, ?_, ?_, ?_, ?_⟩
    · simp only [rcOf, if_pos h8]; omega
    · simp only [rcOf, if_pos h8]; omega
    · simp only [rcOf, if_pos h8]; omega
    · intro _; simp only [rcOf, if_pos h8]; omega
    · intro _
      simp only [rcOf, if_pos h8]
      rw [show 8 - (8 - ws.length) = ws.length by omega]
      exact hv
    · intro hne; simp only [rcOf, if_pos h8] at hne; exact absurd rfl hne
    · simp only [rcOf, hd, List.take_nil, List.length_nil]; omega
    · simp only [rcOf, hd, List.take_nil]; intro x hx; cases hx
  · have h8' : 8 ≤ ws.length := by omega
    have h1 := h.le h8'
    have h2 := h.lt h8'
    have htl : ((ws.drop 8).take (val8 (ws.take 8))).length ≤ 1048576 := by rw [List.length_take]; omega
    have htb : Bytes ((ws.drop 8).take (val8 (ws.take 8))) := (h.by_.drop 8).take _
    by_cases hn : ws.length < 8 + val8 (ws.take 8)
    · refine ⟨rfl, rfl, by show ws.length ≤ _; omega, ?_, ?_, ?_, ?_, ?_, fun _ => h1, htl, htb⟩
      all_goals simp only [rcOf, if_neg h8, if_pos hn]
      all_goals first | omega | (intro h; cases h)
    · unfold fr at h2
      refine ⟨rfl, rfl, by show ws.length ≤ _; omega, ?_, ?_, ?_, ?_, ?_, fun _ => h1, htl, htb⟩
      all_goals simp only [rcOf, if_neg h8, if_neg hn]
      all_goals first | omega | (unfold fr; omega) | (intro h; cases h)
/-- one more byte, by the reader's fields -/
theorem feedB_step {ws : List Nat} {c : Nat} (h : Pre ws) (hc : c < 256) :
    match frStep ws c with
    | .cont => (rcOf ws).feedB c = (rcOf (ws ++ [c]), true, none)
    | .whole s => ∃ c', (rcOf ws).feedB c = (c', true, some s) ∧ c'.code = 0 ∧ c'.fat = 0
    | .bad q off => ∃ c', (rcOf ws).feedB c = (c', false, none) ∧ c'.code = q ∧ c'.fat = off := by
  have hl1 : (ws ++ [c]).length = ws.length + 1 := by simp
  by_cases h8 : ws.length < 8
  · have hst : (rcOf ws).state = 0 := by simp only [rcOf, if_pos h8]
    have hnd : 8 - (rcOf ws).need = ws.length := by simp only [rcOf, if_pos h8]; omega
    have ht8 : ws.take 8 = ws := List.take_of_length_le (by omega)
    have hnum : (rcOf ws).num + c * 2 ^ (8 * ws.length) = val8 (ws ++ [c]) := by
      show val8 (ws.take 8) + _ = _
      rw [ht8, val8_snoc, p256]
    have hd8 : ws.drop 8 = [] := List.drop_eq_nil_of_le (by omega)
    have hd9 : (ws ++ [c]).drop 8 = [] := List.drop_eq_nil_of_le (by omega)
    have ht9 : (ws ++ [c]).take 8 = ws ++ [c] := List.take_of_length_le (by omega)
    have htext : (rcOf ws).text = [] := by simp only [rcOf, hd8, List.take_nil]
    have htake : (rcOf ws).takeB c = (rcOf ws).head c ws.length := by unfold RC.takeB; rw [if_pos hst, hnd]
    have hneed : (rcOf ws).need = 8 - ws.length := by simp only [rcOf, if_pos h8]
    unfold frStep
    rw [if_pos h8]
    by_cases h7 : ws.length = 7
    · rw [if_pos h7]
      by_cases hb : 1048576 < val8 (ws ++ [c])
      · rw [if_pos hb]
        have e : (rcOf ws).head c ws.length = ({ rcOf ws with num := (rcOf ws).num + c * 2 ^ (8 * ws.length), code := 6, fat := (rcOf ws).start }, false) := by
          unfold RC.head
          rw [if_pos ⟨h7, by rw [hnum]; exact hb⟩]
        refine ⟨{ rcOf ws with num := (rcOf ws).num + c * 2 ^ (8 * ws.length), code := 6, fat := (rcOf ws).start }, ?_, rfl, rfl⟩
        unfold RC.feedB
        rw [htake, e, if_pos rfl]
      · rw [if_neg hb]
        have e : (rcOf ws).head c ws.length = ({ rcOf ws with num := val8 (ws ++ [c]), need := (rcOf ws).need - 1 }, true) := by
          unfold RC.head
          rw [hnum, if_neg (fun h => hb h.2)]
        have e2 : (rcOf ws).feedB c = (({ rcOf ws with num := val8 (ws ++ [c]), need := (rcOf ws).need - 1, taken := (rcOf ws).taken + 1 } : RC).nextR.1, true, ({ rcOf ws with num := val8 (ws ++ [c]), need := (rcOf ws).need - 1, taken := (rcOf ws).taken + 1 } : RC).nextR.2) := by
          unfold RC.feedB
          rw [htake, e, if_neg (by simp), if_neg (by show ¬ 0 < (rcOf ws).need - 1; rw [hneed]; omega)]
        by_cases h0 : val8 (ws ++ [c]) = 0
        · rw [if_pos h0]
          have e3 : ({ rcOf ws with num := val8 (ws ++ [c]), need := (rcOf ws).need - 1, taken := (rcOf ws).taken + 1 } : RC).nextR = (({ rcOf ws with num := val8 (ws ++ [c]), need := (rcOf ws).need - 1, taken := (rcOf ws).taken + 1 } : RC).doneR, some (strOf (rcOf ws).text)) := by
            unfold RC.nextR
            rw [if_neg (by simp only; omega), if_neg (by simp only; omega)]
          rw [e3, htext, strOf_nil] at e2
          exact ⟨_, e2, rfl, rfl⟩
        · rw [if_neg h0]
          show _ = _
          rw [e2]
          have e3 : ({ rcOf ws with num := val8 (ws ++ [c]), need := (rcOf ws).need - 1, taken := (rcOf ws).taken + 1 } : RC).nextR = ({ rcOf ws with num := val8 (ws ++ [c]), taken := (rcOf ws).taken + 1, state := 1, need := val8 (ws ++ [c]) }, none) := by
            unfold RC.nextR
            rw [if_pos ⟨hst, by simp only; omega⟩]
          rw [e3]
          congr 1
          refine rc_eq ?_ rfl rfl rfl rfl ?_ ?_ ?_ ?_
          · simp only [rcOf, hl1]
          · simp only [rcOf, hl1, ht9]; rw [if_neg (by omega), if_pos (by omega)]
          · simp only [rcOf, ht9]
          · simp only [rcOf, hl1, ht9]; rw [if_neg (by omega), if_pos (by omega)]; omega
          · simp only [rcOf, hd9, hd8, List.take_nil]
    · rw [if_neg h7]
      show _ = _
      have e : (rcOf ws).head c ws.length = ({ rcOf ws with num := val8 (ws ++ [c]), need := (rcOf ws).need - 1 }, true) := by
        unfold RC.head
        rw [hnum, if_neg (fun h => h7 h.1)]
      unfold RC.feedB
      rw [htake, e, if_neg (by simp), if_pos (by show 0 < (rcOf ws).need - 1; rw [hneed]; omega)]
      congr 1
      refine rc_eq ?_ rfl rfl rfl rfl ?_ ?_ ?_ ?_
      · simp only [rcOf, hl1]
      · simp only [rcOf, hl1]; rw [if_pos h8, if_pos (by omega)]
      · simp only [rcOf, ht9]
      · simp only [rcOf, hl1]; rw [if_pos h8, if_pos (by omega)]; omega
      · simp only [rcOf, hd9, hd8, List.take_nil]
  · have h8' : 8 ≤ ws.length := by omega
    have h1 := h.le h8'
    have h2 := h.lt h8'
    have ht := take8_snoc (c := c) h8'
    have hdr : (ws ++ [c]).drop 8 = ws.drop 8 ++ [c] := List.drop_append_of_le_length h8'
    have hdl : (ws.drop 8).length = ws.length - 8 := by simp
    unfold frStep
    rw [if_neg h8]
    by_cases hn : ws.length < 8 + val8 (ws.take 8)
    · rw [if_pos hn]
      have hst : (rcOf ws).state = 1 := by simp only [rcOf, if_neg h8, if_pos hn]
      have hneed : (rcOf ws).need = 8 + val8 (ws.take 8) - ws.length := by simp only [rcOf, if_neg h8, if_pos hn]
      have htext : (rcOf ws).text = ws.drop 8 := by simp only [rcOf]; exact List.take_of_length_le (by omega)
      have htake : (rcOf ws).takeB c = ({ rcOf ws with text := ws.drop 8 ++ [c], need := (rcOf ws).need - 1 }, true) := by
        unfold RC.takeB
        rw [if_neg (by omega), if_pos hst, htext]
      by_cases hlast : ws.length + 1 = 8 + val8 (ws.take 8)
      · have e2 : (rcOf ws).feedB c = (({ rcOf ws with text := ws.drop 8 ++ [c], need := (rcOf ws).need - 1, taken := (rcOf ws).taken + 1 } : RC).nextR.1, true, ({ rcOf ws with text := ws.drop 8 ++ [c], need := (rcOf ws).need - 1, taken := (rcOf ws).taken + 1 } : RC).nextR.2) := by
          unfold RC.feedB
          rw [htake, if_neg (by simp), if_neg (by show ¬ 0 < (rcOf ws).need - 1; rw [hneed]; omega)]
        by_cases hm : val8 (ws.take 8) % 8 = 0
        · rw [if_pos ⟨hlast, hm⟩]
          have e3 : ({ rcOf ws with text := ws.drop 8 ++ [c], need := (rcOf ws).need - 1, taken := (rcOf ws).taken + 1 } : RC).nextR = (({ rcOf ws with text := ws.drop 8 ++ [c], need := (rcOf ws).need - 1, taken := (rcOf ws).taken + 1 } : RC).doneR, some (strOf (ws.drop 8 ++ [c]))) := by
            unfold RC.nextR
            rw [if_neg (by simp only; omega), if_neg (fun hh => hh.2 hm)]
          rw [e3] at e2
          exact ⟨_, e2, rfl, rfl⟩
        · rw [if_neg (fun hh => hm hh.2)]
          show _ = _
          have e3 : ({ rcOf ws with text := ws.drop 8 ++ [c], need := (rcOf ws).need - 1, taken := (rcOf ws).taken + 1 } : RC).nextR = ({ rcOf ws with text := ws.drop 8 ++ [c], taken := (rcOf ws).taken + 1, state := 2, need := 8 - val8 (ws.take 8) % 8 }, none) := by
            unfold RC.nextR
            rw [if_neg (by simp only; omega), if_pos ⟨hst, hm⟩]
            rfl
          rw [e2, e3]
          congr 1
          refine rc_eq ?_ rfl rfl rfl rfl ?_ ?_ ?_ ?_
          · simp only [rcOf, hl1]
          · simp only [rcOf, hl1, ht]; rw [if_neg (by omega), if_neg (by omega)]
          · simp only [rcOf, ht]
          · simp only [rcOf, hl1, ht]; rw [if_neg (by omega), if_neg (by omega)]; unfold fr; omega
          · simp only [rcOf, ht, hdr]; exact (List.take_of_length_le (by simp; omega)).symm
      · rw [if_neg (fun hh => hlast hh.1)]
        show _ = _
        unfold RC.feedB
        rw [htake, if_neg (by simp), if_pos (by show 0 < (rcOf ws).need - 1; rw [hneed]; omega)]
        congr 1
        refine rc_eq ?_ rfl rfl rfl rfl ?_ ?_ ?_ ?_
        · simp only [rcOf, hl1]
        · simp only [rcOf, hl1, ht]; rw [if_neg h8, if_pos hn, if_neg (by omega), if_pos (by omega)]
        · simp only [rcOf, ht]
        · simp only [rcOf, hl1, ht]; rw [if_neg h8, if_pos hn, if_neg (by omega), if_pos (by omega)]; omega
        · simp only [rcOf, ht, hdr]; exact (List.take_of_length_le (by simp; omega)).symm
    · rw [if_neg hn]
      have hst : (rcOf ws).state = 2 := by simp only [rcOf, if_neg h8, if_neg hn]
      have hneed : (rcOf ws).need = fr (val8 (ws.take 8)) - ws.length := by simp only [rcOf, if_neg h8, if_neg hn]
      have htk : (ws.drop 8 ++ [c]).take (val8 (ws.take 8)) = (ws.drop 8).take (val8 (ws.take 8)) := List.take_append_of_le_length (by omega)
      by_cases h0 : c = 0
      · rw [if_neg (by omega)]
        have htake : (rcOf ws).takeB c = ({ rcOf ws with need := (rcOf ws).need - 1 }, true) := by
          unfold RC.takeB
          rw [if_neg (by omega), if_neg (by omega), if_pos h0]
        by_cases hw : ws.length + 1 = fr (val8 (ws.take 8))
        · rw [if_pos hw]
          have e2 : (rcOf ws).feedB c = (({ rcOf ws with need := (rcOf ws).need - 1, taken := (rcOf ws).taken + 1 } : RC).nextR.1, true, ({ rcOf ws with need := (rcOf ws).need - 1, taken := (rcOf ws).taken + 1 } : RC).nextR.2) := by
            unfold RC.feedB
            rw [htake, if_neg (by simp), if_neg (by show ¬ 0 < (rcOf ws).need - 1; rw [hneed]; omega)]
          have e3 : ({ rcOf ws with need := (rcOf ws).need - 1, taken := (rcOf ws).taken + 1 } : RC).nextR = (({ rcOf ws with need := (rcOf ws).need - 1, taken := (rcOf ws).taken + 1 } : RC).doneR, some (strOf ((ws.drop 8).take (val8 (ws.take 8))))) := by
            unfold RC.nextR
            rw [if_neg (by simp only; omega), if_neg (by simp only; omega)]
            rfl
          rw [e3] at e2
          exact ⟨_, e2, rfl, rfl⟩
        · rw [if_neg hw]
          show _ = _
          unfold RC.feedB
          rw [htake, if_neg (by simp), if_pos (by show 0 < (rcOf ws).need - 1; rw [hneed]; omega)]
          congr 1
          refine rc_eq ?_ rfl rfl rfl rfl ?_ ?_ ?_ ?_
          · simp only [rcOf, hl1]
          · simp only [rcOf, hl1, ht]; rw [if_neg h8, if_neg hn, if_neg (by omega), if_neg (by omega)]
          · simp only [rcOf, ht]
          · simp only [rcOf, hl1, ht]; rw [if_neg h8, if_neg hn, if_neg (by omega), if_neg (by omega)]; omega
          · simp only [rcOf, ht, hdr]; exact htk.symm
      · rw [if_pos h0]
        have htake : (rcOf ws).takeB c = ({ rcOf ws with code := 7, fat := (rcOf ws).taken }, false) := by
          unfold RC.takeB
          rw [if_neg (by omega), if_neg (by omega), if_neg h0]
        refine ⟨{ rcOf ws with code := 7, fat := (rcOf ws).taken }, ?_, rfl, rfl⟩
        unfold RC.feedB
        rw [htake, if_pos rfl]
set_option maxRecDepth 100000 in
set_option maxHeartbeats 2000000 in
theorem newr_any (w : World) :
    Calls Tryd.prog 24 #[.string ⟨#[116]⟩, .int .i64 1048576] w fun e w' => e = .returned (.pointer (some ⟨w.heap.size, 0, none⟩)) ∧ RdS w (fun _ => False) w' w.heap.size w.heap.size (.slice none 0 0) (rcOf []) := by
  have hk1 : ∀ q, (((((⟨#[116]⟩ : ByteArray)[0]'q).toNat : Int)) != 105) = true := fun _ => rfl
  have hk2 : ∀ q, (((((⟨#[116]⟩ : ByteArray)[0]'q).toNat : Int)) != 116) = false := fun _ => rfl
  go_enter Tryd.func24, Tryd.ntmps24
  go_wp2_with fail
  go_loopw [14] (fun x14 wr => ∃ j : Nat, j ≤ 1 ∧ x14 = .int .i64 (j : Nat) ∧ wr = w.alloc (.cells (rcells (rcOf []) (.slice none 0 0)) 87)) (fun x14 _ => 1 - (intOf x14).toNat)
  case atStart => exact ⟨0, by omega, rfl, rfl⟩
  case round =>
    obtain ⟨j, hj, rfl, rfl⟩ := hrel
    by_cases h : j = 0
    · subst h
      have k0 : ((0 : Nat) : Int) = 0 := rfl
      rw [k0]
      go_wp2_with fail
      go_roundw
      case rel => exact ⟨1, by omega, rfl, by trivial⟩
      case measure => simp [intOf]
    · obtain rfl : j = 1 := by omega
      have k0 : ((1 : Nat) : Int) = 1 := rfl
      rw [k0]
      go_wp2_with fail
      go_ret
      exact ⟨rfl, heap_alloc_new w _, OwnB.nil _ _, Nat.le_refl _, Away.of_below ((Below.refl _ _).alloc (Nat.le_refl _) _), fun h => by omega, fun k e => by simp [Value.ownBlock] at e⟩
end Go.Proofs.YtlcppkcclolgcaaDoor
