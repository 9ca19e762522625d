/- A framed word's reader in memory; the walks of its small functions. -/
import Derived.Test.YtlcppkcclolgcaaOwn
import Derived.Test.YtlcppkcclolgcaaNd
import Derived.Test.YtlcppkcclolgcaaWLast
import Derived.IntWalk
import Derived.Laws.BitsAllLaws
import Derived.Deep.DeepCutAuto
namespace Go.Proofs.Ytlcppkcclolgcaa
set_option linter.unusedVariables false
set_option linter.unusedSimpArgs false
open Go.RowKit
open Go.Proofs.YtlcppkcclolgcaaW.PrintLast

/-- w is w0 but for the blocks in S and new ones -/
structure Away (w0 : World) (S : Nat → Prop) (w : World) : Prop where
  os : w.os = w0.os
  tape : w.tape = w0.tape
  output : w.output = w0.output
  size : w0.heap.size ≤ w.heap.size
  block : ∀ k, k < w0.heap.size → ¬ S k → w.heap[k]? = w0.heap[k]?
theorem Away.refl (w : World) (S : Nat → Prop) : Away w S w := ⟨rfl, rfl, rfl, Nat.le_refl _, fun _ _ _ => rfl⟩
theorem Away.of_below {w0 w : World} {S : Nat → Prop} (h : Below w0.heap.size w0 w) : Away w0 S w := ⟨h.os, h.tape, h.output, h.size, fun k hk _ => h.block k hk⟩
theorem Away.below {B : Nat} {w0 w : World} {S : Nat → Prop} (h : Away w0 S w) (hB : B ≤ w0.heap.size) (hS : ∀ k, S k → B ≤ k) : Below B w0 w :=
  ⟨h.os, h.tape, h.output, h.size, fun k hk => h.block k (by omega) (fun hs => by have := hS k hs; omega)⟩
theorem Away.later {w0 w w' : World} {S : Nat → Prop} (h : Away w0 S w) (hb : Below w.heap.size w w') : Away w0 S w' :=
  ⟨hb.os.trans h.os, hb.tape.trans h.tape, hb.output.trans h.output, Nat.le_trans h.size hb.size, fun k hk hs => (hb.block k (Nat.lt_of_lt_of_le hk h.size)).trans (h.block k hk hs)⟩
theorem Away.grown {w0 w w' : World} {S : Nat → Prop} {row : Option Nat} (h : Away w0 S w) (hg : w.grownBy w' row) (hr : ∀ k, row = some k → k < w0.heap.size → S k) : Away w0 S w' :=
  ⟨hg.os.trans h.os, hg.tape.trans h.tape, hg.output.trans h.output, Nat.le_trans h.size hg.size, fun k hk hs => (hg.block k (Nat.lt_of_lt_of_le hk h.size) (fun e => hs (hr k e.symm hk))).trans (h.block k hk hs)⟩
theorem Away.join {w0 w w' : World} {S S' : Nat → Prop} (h : Away w0 S w) (h' : Away w S' w') (hs : ∀ k, k < w0.heap.size → S' k → S k) : Away w0 S w' :=
  ⟨h'.os.trans h.os, h'.tape.trans h.tape, h'.output.trans h.output, Nat.le_trans h.size h'.size, fun k hk hn => (h'.block k (Nat.lt_of_lt_of_le hk h.size) (fun e => hn (hs k hk e))).trans (h.block k hk hn)⟩
theorem Away.set {w0 w : World} {S : Nat → Prop} (h : Away w0 S w) (g i : Nat) (x : Value) (hg : g < w0.heap.size → S g) : Away w0 S (w.setCell ⟨g, i, none⟩ x) :=
  h.grown (only_setG (World.grownBy.refl w (some g)) i x) (fun k e hk => by injection e with e; subst e; exact hg hk)

/-- the reader's fields -/
structure RC where
  taken : Nat
  code : Int
  fat : Nat
  item : Nat
  start : Nat
  state : Nat
  num : Nat
  need : Nat
  text : List Nat
def rcells (c : RC) (v : Value) : Array Value := #[.int .i64 (c.taken : Nat), .int .i64 c.code, .int .i64 (c.fat : Nat), .bool false, .string ⟨#[116]⟩, .int .i64 1048576, .int .i64 (c.item : Nat), .int .i64 (c.start : Nat), .int .i64 (c.state : Nat), .int .u64 (c.num : Nat), .int .i64 (c.need : Nat), v]
/-- block g is a reader that stands as c says; since w0 only blocks in S have changed -/
structure RdS (w0 : World) (S : Nat → Prop) (w : World) (B g : Nat) (v : Value) (c : RC) : Prop where
  row : w.heap[g]? = some (.cells (rcells c v) 73 (0, 0))
  own : OwnB w B v c.text
  hB : B ≤ g
  away : Away w0 S w
  sg : g < w0.heap.size → S g
  sv : ∀ k, v.ownBlock = some k → k < w0.heap.size → S k
section
variable {w0 w w' : World} {S : Nat → Prop} {B g : Nat} {v : Value} {c : RC}
theorem RdS.cell (H : RdS w0 S w B g v c) (i : Nat) : w.cell? ⟨g, i, none⟩ = (rcells c v)[i]? := cell_of_row w g i _ _ _ H.row
theorem RdS.free (H : RdS w0 S w B g v c) (i : Nat) : w.frozen? ⟨g, i, none⟩ = false := frozen_of_row w g i _ _ H.row
theorem RdS.lt (H : RdS w0 S w B g v c) : g < w.heap.size := lt_of_row H.row
theorem own_neB {v : Value} {xs : List Nat} {cs : Array Value} {t : TypeId} {b : Nat} (h : OwnB w b v xs) (hg : w.heap[g]? = some (.cells cs t (0, 0))) (ht : t ≠ 5) : v.ownBlock ≠ some g := by
  rcases h with ⟨rfl, _⟩ | ⟨g', cap, cur, fz, rfl, _, hg', _⟩
  · simp [Value.ownBlock]
  · intro e
    simp only [Value.ownBlock, Option.some.injEq] at e
    subst e
    rw [hg] at hg'
    simp only [Option.some.injEq, Obj.cells.injEq] at hg'
    exact ht hg'.2.1
theorem RdS.vg (H : RdS w0 S w B g v c) : v.ownBlock ≠ some g := own_neB H.own H.row (by decide)
theorem RdS.later (H : RdS w0 S w B g v c) (hb : Below w.heap.size w w') : RdS w0 S w' B g v c :=
  ⟨(hb.block _ H.lt).trans H.row, H.own.later hb, H.hB, H.away.later hb, H.sg, H.sv⟩
theorem RdS.drew (H : RdS w0 S w B g v c) : RdS w0 S w.drew B g v c := H.later (Below.refl _ _).drew
theorem RdS.drewN (H : RdS w0 S w B g v c) (n : Nat) : RdS w0 S (w.drewN n) B g v c := H.later ⟨rfl, rfl, rfl, Nat.le_refl _, fun _ _ => rfl⟩
theorem RdS.put (H : RdS w0 S w B g v c) (i : Nat) (x : Value) (c' : RC) (hc : (rcells c v).setIfInBounds i x = rcells c' v) (ho : c'.text = c.text) : RdS w0 S (w.setCell ⟨g, i, none⟩ x) B g v c' := by
  have hset : w.grownBy (w.setCell ⟨g, i, none⟩ x) (some g) := only_setG (World.grownBy.refl w _) i _
  refine ⟨?_, by rw [ho]; exact H.own.kept hset (.inr H.vg), H.hB, H.away.set g i x H.sg, H.sg, H.sv⟩
  rw [heap_setCell_same w g i _ _ _ H.row, hc]
/-- the text's slice is put back -/
theorem RdS.putText {w1 : World} {v' : Value} {xs : List Nat} (H : RdS w0 S w B g v c) (ho : OwnB w1 B v' xs) (hg : w.grownBy w1 v.ownBlock) (hat : v'.ownBlock = v.ownBlock ∨ v'.ownBlock = some w.heap.size) : RdS w0 S (w1.setCell ⟨g, 11, none⟩ v') B g v' { c with text := xs } := by
  have hrow1 : w1.heap[g]? = some (.cells (rcells c v) 73 (0, 0)) := (hg.block _ H.lt (fun e => H.vg e.symm)).trans H.row
  have hset : w1.grownBy (w1.setCell ⟨g, 11, none⟩ v') (some g) := only_setG (World.grownBy.refl w1 _) 11 _
  have hl := H.away.size
  refine ⟨?_, ho.kept hset (.inr (own_neB ho hrow1 (by decide))), H.hB, (H.away.grown hg (fun k e hk => H.sv k e hk)).set g 11 v' H.sg, H.sg, fun k e hk => ?_⟩
  · rw [heap_setCell_same w1 g 11 _ _ _ hrow1]
    rfl
  · rcases hat with h | h
    · exact H.sv k (h.symm.trans e) hk
    · rw [e] at h
      injection h with h
      omega
theorem RdS.c0 (H : RdS w0 S w B g v c) : w.cell? ⟨g, 0, none⟩ = some (.int .i64 (c.taken : Nat)) := H.cell 0
theorem RdS.c1 (H : RdS w0 S w B g v c) : w.cell? ⟨g, 1, none⟩ = some (.int .i64 c.code) := H.cell 1
theorem RdS.c2 (H : RdS w0 S w B g v c) : w.cell? ⟨g, 2, none⟩ = some (.int .i64 (c.fat : Nat)) := H.cell 2
theorem RdS.c3 (H : RdS w0 S w B g v c) : w.cell? ⟨g, 3, none⟩ = some (.bool false) := H.cell 3
theorem RdS.c4 (H : RdS w0 S w B g v c) : w.cell? ⟨g, 4, none⟩ = some (.string ⟨#[116]⟩) := H.cell 4
theorem RdS.c5 (H : RdS w0 S w B g v c) : w.cell? ⟨g, 5, none⟩ = some (.int .i64 1048576) := H.cell 5
theorem RdS.c6 (H : RdS w0 S w B g v c) : w.cell? ⟨g, 6, none⟩ = some (.int .i64 (c.item : Nat)) := H.cell 6
theorem RdS.c7 (H : RdS w0 S w B g v c) : w.cell? ⟨g, 7, none⟩ = some (.int .i64 (c.start : Nat)) := H.cell 7
theorem RdS.c8 (H : RdS w0 S w B g v c) : w.cell? ⟨g, 8, none⟩ = some (.int .i64 (c.state : Nat)) := H.cell 8
theorem RdS.c9 (H : RdS w0 S w B g v c) : w.cell? ⟨g, 9, none⟩ = some (.int .u64 (c.num : Nat)) := H.cell 9
theorem RdS.c10 (H : RdS w0 S w B g v c) : w.cell? ⟨g, 10, none⟩ = some (.int .i64 (c.need : Nat)) := H.cell 10
theorem RdS.c11 (H : RdS w0 S w B g v c) : w.cell? ⟨g, 11, none⟩ = some v := H.cell 11
end
set_option maxRecDepth 100000 in
set_option maxHeartbeats 1000000 in
theorem rfail_any (w0 : World) (S : Nat → Prop) (B g : Nat) (q : Int) (a : Nat) (v : Value) (c : RC) (w : World) (H : RdS w0 S w B g v c) :
    Calls Try.prog 39 #[.pointer (some ⟨g, 0, none⟩), .int .i64 q, .int .i64 (a : Int)] w fun e w' => e = .returned (.tuple #[]) ∧ RdS w0 S w' B g v { c with code := q, fat := a } := by
  have c1 := H.c1
  have c2 := H.c2
  have f1 := H.free 1
  have f2 := H.free 2
  have hfin : RdS w0 S ((w.setCell ⟨g, 1, none⟩ (.int .i64 q)).setCell ⟨g, 2, none⟩ (.int .i64 (a : Int))) B g v { c with code := q, fat := a } := (H.put 1 (.int .i64 q) { c with code := q } rfl rfl).put 2 _ _ rfl rfl
  have HF := Lib.hid hfin
  clear H hfin
  go_enter Try.func39, Try.ntmps39
  go_wp2_with fail
  go_end0
  exact ⟨rfl, HF.out⟩
theorem stopped_any (w0 : World) (S : Nat → Prop) (B g : Nat) (v : Value) (c : RC) (w : World) (H : RdS w0 S w B g v c) (h0 : c.code = 0) :
    Calls Try.prog 40 #[.pointer (some ⟨g, 0, none⟩)] w fun e w' => e = .returned (.bool false) ∧ w = w' := by
  have c1 := H.c1
  have c3 := H.c3
  rw [h0] at c1
  clear H
  go_enter Try.func40, Try.ntmps40
  go_wp2_with fail
  go_ret
  exact ⟨rfl, rfl⟩
set_option maxRecDepth 100000 in
set_option maxHeartbeats 1000000 in
theorem rfault_any (g : Nat) (q a : Int) (w : World) (c1 : w.cell? ⟨g, 1, none⟩ = some (.int .i64 q)) (c2 : w.cell? ⟨g, 2, none⟩ = some (.int .i64 a)) :
    Calls Try.prog 26 #[.pointer (some ⟨g, 0, none⟩)] w fun e w' => e = .returned (.agg #[.int .i64 q, .int .i64 a]) ∧ Below w.heap.size w w' := by
  have hlt : g < w.heap.size := block_lt_of_cell c1
  have hne : g ≠ w.heap.size := by omega
  go_enter Try.func26, Try.ntmps26
  go_wp2_with fail
  exact bodyPost_ret (v := .agg #[.int .i64 q, .int .i64 a]) (by simp [results, Try.results26, go_sem]) rfl ⟨rfl, (Below.refl _ _).alloc (Nat.le_refl _) _⟩
/-- an operation that yields in every world, taken first -/
theorem last_pure8 {P : Program} {ops : Array Oper} {Q : Exit → Act → World → Prop} {md : Region.Mode} {S : World → Prop} {ds : List Nat} {i : Nat} {oi : Oper} {v : Value} {fuel : Nat} {listed : Array Bool} {a : Act} {w : World} (hi : ops[i]? = some oi)
    (hs : Region.noSelect ops = true) (hf : Region.free md ops listed i = true) (hr : (Region.ready md ops listed).contains i = true)
    (hQ : ∀ c a w, Q (.panic c) (a.put oi.dst v) w → Q (.panic c) a w) (hy : Yields P ops oi v a)
    (h : wpAnyLast P md ops Q S ds fuel (listed.setIfInBounds i true) (a.put oi.dst v) w) : wpAnyLast P md ops Q S ds (fuel + 1) listed a w :=
  wpAnyLast_any hi (Region.noSelect_spec hs) hQ fuel listed a w (Region.free_spec hi hf) (by simpa using hr) hy h
theorem or_high8 (s c h : Nat) (hs : s < 2 ^ h) : s ||| c * 2 ^ h = s + c * 2 ^ h := by
  have := Nat.two_pow_add_eq_or_of_lt hs c
  rw [Nat.or_comm, Nat.mul_comm c, ← this, Nat.add_comm]
/-- a byte of the head; is it fine? -/
def RC.head (c : RC) (b h : Nat) : RC × Bool :=
  if h = 7 ∧ 1048576 < c.num + b * 2 ^ (8 * h) then ({ c with num := c.num + b * 2 ^ (8 * h), code := 6, fat := c.start }, false) else ({ c with num := c.num + b * 2 ^ (8 * h), need := c.need - 1 }, true)
set_option maxRecDepth 100000 in
set_option maxHeartbeats 4000000 in
/-- a byte of the head -/
theorem rtake_head (w0 : World) (S : Nat → Prop) (B g b h : Nat) (v : Value) (c : RC) (w : World) (H : RdS w0 S w B g v c) (hb : b < 256) (hst : c.state = 0) (hit : c.item = 0) (hh : h < 8) (hn : c.need = 8 - h) (hs : c.num < 2 ^ (8 * h)) :
    Calls Try.prog 41 #[.pointer (some ⟨g, 0, none⟩), .int .u8 (b : Int)] w fun e w' => e = .returned (.bool (c.head b h).2) ∧ RdS w0 S w' B g v (c.head b h).1 := by
  obtain ⟨r, hr⟩ : ∃ r, c.head b h = r := ⟨_, rfl⟩
  rw [hr]
  unfold RC.head at hr
  obtain ⟨y, hy⟩ : ∃ y, y = b * 2 ^ (8 * h) := ⟨_, rfl⟩
  obtain ⟨s, hse⟩ : ∃ s, s = c.num := ⟨_, rfl⟩
  rw [← hy, ← hse] at hr
  rw [← hse] at hs
  have hp : 2 ^ (8 * h) ≤ 2 ^ 56 := Nat.pow_le_pow_right (by omega) (by omega)
  have hp0 : 0 < 2 ^ (8 * h) := Nat.pow_pos (by omega)
  have hyb : y ≤ 255 * 2 ^ 56 := by rw [hy]; exact Nat.mul_le_mul (by omega) hp
  have hor : bits .or .u64 (s : Int) (y : Int) = ((s + y : Nat) : Int) := by
    rw [u64_or_nat s y (by omega) (by omega), hy, or_high8 s b _ hs]
  obtain ⟨s2, hs2⟩ : ∃ s2, s2 = s + y := ⟨_, rfl⟩
  rw [← hs2] at hor hr
  have HR := Lib.hid hr
  clear hr
  have hs2b : s2 < 18446744073709551616 := by omega
  have c9 := H.c9
  have c10 := H.c10
  have c8 := H.c8
  rw [← hse] at c9
  rw [hn] at c10
  rw [hst] at c8
  have h0 : (0 : Int) ≤ h := by omega
  have h8 : (h : Int) < 8 := by omega
  have b0 : (0 : Int) ≤ s := by omega
  have b2 : (0 : Int) ≤ s2 := by omega
  have b3 : (s2 : Int) < 18446744073709551616 := by omega
  have by0 : (0 : Int) ≤ y := by omega
  have by1 : (y : Int) < 18446744073709551616 := by omega
  have bc0 : (0 : Int) ≤ b := by omega
  have bc1 : (b : Int) < 256 := by omega
  have e1 : ((8 : Int) * (h : Int)).toNat = 8 * h := by omega
  have e2 : (b : Int) * 2 ^ (8 * h) = (y : Int) := by rw [hy, Int.natCast_mul, Int.natCast_pow]; rfl
  have e3 : (0 : Int) ≤ 8 * (h : Int) := by omega
  have e4 : (8 : Int) * (h : Int) < 64 := by omega
  obtain ⟨nd, hnd⟩ : ∃ nd, nd = 8 - h := ⟨_, rfl⟩
  rw [← hnd] at c10
  have e5 : (8 : Int) - nd = h := by omega
  have HH := Lib.hid H
  have HSE := Lib.hid hse
  have HND := Lib.hid (hn.trans hnd.symm)
  have HST := Lib.hid hst
  have HIT := Lib.hid hit
  have f9 := H.free 9
  have w5 : IntKind.i64.wrap ((8 : Int) - nd) = h := by rw [e5]; exact IntWalk.i64_in _ (by omega)
  have w8 : IntKind.i64.wrap ((8 : Int) * h) = 8 * h := IntWalk.i64_in _ (by omega)
  have wy : IntKind.u64.wrap (y : Int) = y := IntWalk.u64_in _ (by omega)
  have wc : IntKind.u64.wrap (b : Int) = b := IntWalk.u64_in _ (by omega)
  have hn1 : (nd = 1) = (h = 7) := by rw [hnd]; apply propext; omega
  have HN1 := Lib.hid hn1
  have hnd1 : 1 ≤ nd := by omega
  have hnd2 : (1 : Int) ≤ nd := by omega
  have hnd3 : (nd : Int) ≤ 8 := by omega
  clear H hs hp hp0 hyb hy hs2 hs2b hn hse hh hb hst hnd hn1 hit e5
  go_enter Try.func41, Try.ntmps41
  go_upto_region 3 with fail
  refine wp_region_noPanic ?_
  refine wp_region_last_drew (S := fun w' => w'.cell? ⟨g, 9, none⟩ = some (.int .u64 (s : Int)) ∧ w'.cell? ⟨g, 10, none⟩ = some (.int .i64 (nd : Int))) (ds := [16]) (by kernel_rfl) ⟨c9, c10⟩ (fun hHeld => ?_)
  refine last_pure8 (i := 0) (oi := _) (v := (.pointer (some ⟨g, 0, none⟩))) rfl (by kernel_rfl) (by kernel_rfl) (by kernel_rfl) (fun _ _ _ h => h) (Or.inl ⟨by rfl, fun w' => by go_simp⟩) ?_
  try simp only [Act.put, List.getElem_toArray, List.getElem_cons_succ, List.getElem_cons_zero, List.setIfInBounds_toArray, List.set_cons_zero, List.set_cons_succ]
  refine wpAnyLast_take (i := 1) (oi := _) (v := (.pointer (some ⟨g, 0, none⟩))) rfl (by kernel_rfl) (by kernel_rfl) (by kernel_rfl) (by kernel_rfl) (by kernel_rfl) (fun _ _ _ h => h) (Or.inl ⟨by rfl, fun w' _ => by go_simp⟩) hHeld ?_
  try simp only [Act.put, List.getElem_toArray, List.getElem_cons_succ, List.getElem_cons_zero, List.setIfInBounds_toArray, List.set_cons_zero, List.set_cons_succ]
  refine wpAnyLast_take (i := 2) (oi := _) (v := (.pointer (some ⟨g, 9, none⟩))) rfl (by kernel_rfl) (by kernel_rfl) (by kernel_rfl) (by kernel_rfl) (by kernel_rfl) (fun _ _ _ h => h) (Or.inl ⟨by rfl, fun w' _ => by go_simp⟩) hHeld ?_
  try simp only [Act.put, List.getElem_toArray, List.getElem_cons_succ, List.getElem_cons_zero, List.setIfInBounds_toArray, List.set_cons_zero, List.set_cons_succ]
  refine wpAnyLast_take (i := 3) (oi := _) (v := (.int .u64 (s : Int))) rfl (by kernel_rfl) (by kernel_rfl) (by kernel_rfl) (by kernel_rfl) (by kernel_rfl) (fun _ _ _ h => h) (Or.inl ⟨by rfl, fun w' hSw => by have h1 := hSw.1; go_simp⟩) hHeld ?_
  try simp only [Act.put, List.getElem_toArray, List.getElem_cons_succ, List.getElem_cons_zero, List.setIfInBounds_toArray, List.set_cons_zero, List.set_cons_succ]
  refine wpAnyLast_take (i := 4) (oi := _) (v := (.int .u8 (b : Int))) rfl (by kernel_rfl) (by kernel_rfl) (by kernel_rfl) (by kernel_rfl) (by kernel_rfl) (fun _ _ _ h => h) (Or.inl ⟨by rfl, fun w' _ => by go_simp⟩) hHeld ?_
  try simp only [Act.put, List.getElem_toArray, List.getElem_cons_succ, List.getElem_cons_zero, List.setIfInBounds_toArray, List.set_cons_zero, List.set_cons_succ]
  refine wpAnyLast_take (i := 5) (oi := _) (v := (.int .u64 (b : Int))) rfl (by kernel_rfl) (by kernel_rfl) (by kernel_rfl) (by kernel_rfl) (by kernel_rfl) (fun _ _ _ h => h) (Or.inl ⟨by rfl, fun w' _ => by go_simp⟩) hHeld ?_
  try simp only [Act.put, List.getElem_toArray, List.getElem_cons_succ, List.getElem_cons_zero, List.setIfInBounds_toArray, List.set_cons_zero, List.set_cons_succ]
  refine wpAnyLast_take (i := 6) (oi := _) (v := (.pointer (some ⟨g, 0, none⟩))) rfl (by kernel_rfl) (by kernel_rfl) (by kernel_rfl) (by kernel_rfl) (by kernel_rfl) (fun _ _ _ h => h) (Or.inl ⟨by rfl, fun w' _ => by go_simp⟩) hHeld ?_
  try simp only [Act.put, List.getElem_toArray, List.getElem_cons_succ, List.getElem_cons_zero, List.setIfInBounds_toArray, List.set_cons_zero, List.set_cons_succ]
  refine wpAnyLast_take (i := 7) (oi := _) (v := (.pointer (some ⟨g, 0, none⟩))) rfl (by kernel_rfl) (by kernel_rfl) (by kernel_rfl) (by kernel_rfl) (by kernel_rfl) (fun _ _ _ h => h) (Or.inl ⟨by rfl, fun w' _ => by go_simp⟩) hHeld ?_
  try simp only [Act.put, List.getElem_toArray, List.getElem_cons_succ, List.getElem_cons_zero, List.setIfInBounds_toArray, List.set_cons_zero, List.set_cons_succ]
  refine wpAnyLast_take (i := 8) (oi := _) (v := (.pointer (some ⟨g, 10, none⟩))) rfl (by kernel_rfl) (by kernel_rfl) (by kernel_rfl) (by kernel_rfl) (by kernel_rfl) (fun _ _ _ h => h) (Or.inl ⟨by rfl, fun w' _ => by go_simp⟩) hHeld ?_
  try simp only [Act.put, List.getElem_toArray, List.getElem_cons_succ, List.getElem_cons_zero, List.setIfInBounds_toArray, List.set_cons_zero, List.set_cons_succ]
  refine wpAnyLast_take (i := 9) (oi := _) (v := (.int .i64 (nd : Int))) rfl (by kernel_rfl) (by kernel_rfl) (by kernel_rfl) (by kernel_rfl) (by kernel_rfl) (fun _ _ _ h => h) (Or.inl ⟨by rfl, fun w' hSw => by have h1 := hSw.2; go_simp⟩) hHeld ?_
  try simp only [Act.put, List.getElem_toArray, List.getElem_cons_succ, List.getElem_cons_zero, List.setIfInBounds_toArray, List.set_cons_zero, List.set_cons_succ]
  refine wpAnyLast_take (i := 10) (oi := _) (v := (.int .i64 (h : Int))) rfl (by kernel_rfl) (by kernel_rfl) (by kernel_rfl) (by kernel_rfl) (by kernel_rfl) (fun _ _ _ h => h) (Or.inl ⟨by rfl, fun w' _ => by go_simp⟩) hHeld ?_
  try simp only [Act.put, List.getElem_toArray, List.getElem_cons_succ, List.getElem_cons_zero, List.setIfInBounds_toArray, List.set_cons_zero, List.set_cons_succ]
  refine wpAnyLast_take (i := 11) (oi := _) (v := (.int .i64 (8 * (h : Int)))) rfl (by kernel_rfl) (by kernel_rfl) (by kernel_rfl) (by kernel_rfl) (by kernel_rfl) (fun _ _ _ h => h) (Or.inl ⟨by rfl, fun w' _ => by go_simp⟩) hHeld ?_
  try simp only [Act.put, List.getElem_toArray, List.getElem_cons_succ, List.getElem_cons_zero, List.setIfInBounds_toArray, List.set_cons_zero, List.set_cons_succ]
  refine wpAnyLast_take (i := 12) (oi := _) (v := (.int .u64 (y : Int))) rfl (by kernel_rfl) (by kernel_rfl) (by kernel_rfl) (by kernel_rfl) (by kernel_rfl) (fun _ _ _ h => h) (Or.inl ⟨by rfl, fun w' _ => by go_simp⟩) hHeld ?_
  try simp only [Act.put, List.getElem_toArray, List.getElem_cons_succ, List.getElem_cons_zero, List.setIfInBounds_toArray, List.set_cons_zero, List.set_cons_succ]
  refine wpAnyLast_take (i := 13) (oi := _) (v := (.int .u64 (s2 : Int))) rfl (by kernel_rfl) (by kernel_rfl) (by kernel_rfl) (by kernel_rfl) (by kernel_rfl) (fun _ _ _ h => h) (Or.inl ⟨by rfl, fun w' _ => by go_simp⟩) hHeld ?_
  try simp only [Act.put, List.getElem_toArray, List.getElem_cons_succ, List.getElem_cons_zero, List.setIfInBounds_toArray, List.set_cons_zero, List.set_cons_succ]
  refine last_pure8 (i := 14) (oi := _) (v := (.pointer (some ⟨g, 0, none⟩))) rfl (by kernel_rfl) (by kernel_rfl) (by kernel_rfl) (fun _ _ _ h => h) (Or.inl ⟨by rfl, fun w' => by go_simp⟩) ?_
  try simp only [Act.put, List.getElem_toArray, List.getElem_cons_succ, List.getElem_cons_zero, List.setIfInBounds_toArray, List.set_cons_zero, List.set_cons_succ]
  refine last_pure8 (i := 15) (oi := _) (v := (.pointer (some ⟨g, 9, none⟩))) rfl (by kernel_rfl) (by kernel_rfl) (by kernel_rfl) (fun _ _ _ h => h) (Or.inl ⟨by rfl, fun w' => by go_simp⟩) ?_
  try simp only [Act.put, List.getElem_toArray, List.getElem_cons_succ, List.getElem_cons_zero, List.setIfInBounds_toArray, List.set_cons_zero, List.set_cons_succ]
  refine wpAnyLast_ready (rs := [16]) (by kernel_rfl) (by simp) ?_
  refine AllReadyL.cons_last (o := _) rfl (by decide) (fun K hK => ?_) AllReadyL.nil
  rw [if_pos (by rfl)]
  go_simp
  refine hK.out _ _ ?_
  clear hK K
  try dsimp only
  try simp only [Act.put, List.getElem_toArray, List.getElem_cons_succ, List.getElem_cons_zero, List.setIfInBounds_toArray, List.set_cons_zero, List.set_cons_succ]
  refine wpAnyLast_done (by kernel_rfl) ?_ _
  refine NoPanic.normal ?_
  have hu1 := (HH.out.put 9 (.int .u64 (s2 : Int)) { c with num := s2 } rfl rfl).drew
  have HS1 := Lib.hid hu1
  clear hu1 c9 c10 c8 f9 HH w8 wy wc w5 e1 e2 e3 e4 hor by0 by1 b0 b3 hHeld
  generalize (w.setCell ⟨g, 9, none⟩ (.int .u64 (s2 : Int))).drew = w1 at *
  have c9 := HS1.out.c9
  have c10 := HS1.out.c10
  have c7 := HS1.out.c7
  have c6 := HS1.out.c6
  have c5 := HS1.out.c5
  have c4 := HS1.out.c4
  simp only [HND.out] at c10
  simp only [HIT.out] at c6
  replace c6 : w1.cell? ⟨g, 6, none⟩ = some (.int .i64 0) := c6
  simp only at c9 c7
  have k1 : ∀ q, (((((⟨#[116]⟩ : ByteArray)[0]'q).toNat : Int)) == 116) = true := fun _ => rfl
  have k2 : IntKind.u64.wrap 1048576 = 1048576 := by decide +kernel
  have f10 := HS1.out.free 10
  have hu2 := HS1.out.put 10 (.int .i64 ((nd - 1 : Nat) : Int)) { c with num := s2, need := nd - 1 } rfl rfl
  rw [show ((nd - 1 : Nat) : Int) = (nd : Int) - 1 by omega] at hu2
  have HS2 := Lib.hid hu2
  clear hu2
  by_cases h7 : h = 7
  · have hd : nd = 1 := by rw [HN1.out]; exact h7
    have h7I : ((nd : Int) == 1) = true := by simp; omega
    by_cases hbig : 1048576 < s2
    · have hbI : (1048576 : Int) < s2 := by omega
      have hr := HR.out
      rw [if_pos ⟨h7, hbig⟩] at hr
      subst hr
      clear h7 hbig hd HS2 HR
      go_upto_region 4 with fail
      go_quiet (fail)
      have HQ := Lib.hid (HS1.out.drewN nq)
      generalize w1.drewN nq = w2 at *
      have c7 := HQ.out.c7
      simp only at c7
      go_upto_region 5 with fail
      go_still_tail 7, (by kernel_rfl)
      change wpList _ _ _ _ _ w2.drew
      have HQ2 := Lib.hid HQ.out.drew
      generalize w2.drew = w3 at *
      go_wp2_with (go_at_call 39; refine (rfail_any w0 S B g 6 c.start v _ _ HQ2.out).mono ?_; rintro e w4 ⟨rfl, hf⟩; have HF := Lib.hid hf; clear hf)
      go_ret
      exact ⟨rfl, HF.out⟩
    · have hbI : ¬ (1048576 : Int) < s2 := by omega
      have hr := HR.out
      rw [if_neg (fun e => hbig e.2), HND.out] at hr
      subst hr
      clear h7 hbig hd HR
      go_upto_region 4 with fail
      go_quiet (fail)
      have HQ := Lib.hid (HS1.out.drewN nq)
      have c10 := HQ.out.c10
      have f10 := HQ.out.free 10
      have hu2 := HQ.out.put 10 (.int .i64 ((nd - 1 : Nat) : Int)) { c with num := s2, need := nd - 1 } rfl rfl
      rw [show ((nd - 1 : Nat) : Int) = (nd : Int) - 1 by omega] at hu2
      simp only [HND.out] at c10
      have HS3 := Lib.hid hu2
      clear hu2
      generalize w1.drewN nq = w2 at *
      go_wp2_with fail
      go_ret
      exact ⟨rfl, HS3.out⟩
  · have hd : nd ≠ 1 := by rw [Ne, HN1.out]; exact h7
    have h7I : ((nd : Int) == 1) = false := by simp; omega
    have hr := HR.out
    rw [if_neg (fun e => h7 e.1), HND.out] at hr
    subst hr
    clear h7 hd HR
    go_upto_region 4 with fail
    go_quiet (fail)
    have HQ := Lib.hid (HS1.out.drewN nq)
    have c10 := HQ.out.c10
    have f10 := HQ.out.free 10
    have hu2 := HQ.out.put 10 (.int .i64 ((nd - 1 : Nat) : Int)) { c with num := s2, need := nd - 1 } rfl rfl
    rw [show ((nd - 1 : Nat) : Int) = (nd : Int) - 1 by omega] at hu2
    simp only [HND.out] at c10
    have HS3 := Lib.hid hu2
    clear hu2
    generalize w1.drewN nq = w2 at *
    go_wp2_with fail
    go_ret
    exact ⟨rfl, HS3.out⟩
set_option maxRecDepth 100000 in
set_option maxHeartbeats 2000000 in
/-- a byte of the text -/
theorem rtake_text (w0 : World) (S : Nat → Prop) (B g b : Nat) (v : Value) (c : RC) (w : World) (H : RdS w0 S w B g v c) (hb : b < 256) (hst : c.state = 1) (hl : c.text.length ≤ 1048576) (hn : 1 ≤ c.need) (hn2 : c.need ≤ 1048576) :
    Calls Try.prog 41 #[.pointer (some ⟨g, 0, none⟩), .int .u8 (b : Int)] w fun e w' => e = .returned (.bool true) ∧ ∃ v', RdS w0 S w' B g v' { c with text := c.text ++ [b], need := c.need - 1 } := by
  obtain ⟨A8, k8, hv8⟩ := H.own.slice
  obtain ⟨lt, hlt⟩ : ∃ lt, c.text.length = lt := ⟨_, rfl⟩
  rw [hlt] at hv8
  have c8 := H.c8
  rw [hst] at c8
  replace c8 : w.cell? ⟨g, 8, none⟩ = some (.int .i64 1) := c8
  have c11 := H.c11
  rw [hv8] at c11
  have HV8 := Lib.hid hv8
  have HLT := Lib.hid hlt
  have HPA := Lib.hid (H.later ((Below.refl w.heap.size w).alloc (Nat.le_refl _) (.cells #[.int .u8 (b : Int)] 5)))
  have HNEW := Lib.hid (news_bytes w [b] 5)
  have hbt : c.text.length + [b].length ≤ 140737488355328 := by simp only [List.length_cons, List.length_nil]; omega
  have HBT := Lib.hid hbt
  have hBw : B ≤ (w.alloc (.cells #[.int .u8 (b : Int)] 5)).heap.size := Nat.le_trans H.hB (by have := H.lt; simp; omega)
  have HBW := Lib.hid hBw
  have hn0 : (1 : Int) ≤ c.need := by omega
  have hn1 : (c.need : Int) ≤ 1048576 := by omega
  clear hbt H hv8 hlt hst hb hBw hl
  go_enter Try.func41, Try.ntmps41
  go_upto_region 13 with (at_builtin; refine wpList_app_bytes _ rfl (.tmp 70) (.tmp 72) rfl B v c.text (by first | exact HV8.out.symm | rfl) HPA.out.own ⟨w.heap.size, 0, none⟩ [b] 1 rfl HNEW.out HBT.out HBW.out ?_; intro v5 w5 ho5 hg5 ha5; obtain ⟨A5, k5, hv5⟩ := ho5.slice; generalize (c.text ++ [b]).length = l5 at hv5; subst hv5; have hrow5 := (hg5.block _ HPA.out.lt (fun e => HPA.out.vg e.symm)).trans HPA.out.row; have c65 := cell_of_row w5 g 11 _ _ _ hrow5; have f65 := frozen_of_row w5 g 11 _ _ hrow5; have hst := HPA.out.putText ho5 hg5 ha5; have HS5 := Lib.hid hst; clear ho5 hg5 ha5 hrow5 hst)
  generalize w5.setCell ⟨g, 11, none⟩ (.slice A5 l5 k5) = w6 at *
  have c10 := HS5.out.c10
  have f10 := HS5.out.free 10
  simp only at c10
  have hu2 := HS5.out.put 10 (.int .i64 ((c.need - 1 : Nat) : Int)) { c with text := c.text ++ [b], need := c.need - 1 } rfl rfl
  rw [show ((c.need - 1 : Nat) : Int) = (c.need : Int) - 1 by omega] at hu2
  have HS2 := Lib.hid hu2
  clear hu2 c65 f65
  go_wp2_with fail
  go_ret
  exact ⟨rfl, _, HS2.out⟩
set_option maxRecDepth 100000 in
set_option maxHeartbeats 2000000 in
/-- a byte of the padding -/
theorem rtake_pad (w0 : World) (S : Nat → Prop) (B g b : Nat) (v : Value) (c : RC) (w : World) (H : RdS w0 S w B g v c) (hb : b < 256) (hst : c.state = 2) (hn : 1 ≤ c.need) (hn2 : c.need ≤ 1048576) (ht : c.taken ≤ 100000000) :
    Calls Try.prog 41 #[.pointer (some ⟨g, 0, none⟩), .int .u8 (b : Int)] w fun e w' => e = .returned (.bool (decide (b = 0))) ∧ RdS w0 S w' B g v (if b = 0 then { c with need := c.need - 1 } else { c with code := 7, fat := c.taken }) := by
  have c8 := H.c8
  rw [hst] at c8
  replace c8 : w.cell? ⟨g, 8, none⟩ = some (.int .i64 2) := c8
  have c0 := H.c0
  have c10 := H.c10
  have f10 := H.free 10
  have hu2 := H.put 10 (.int .i64 ((c.need - 1 : Nat) : Int)) { c with need := c.need - 1 } rfl rfl
  rw [show ((c.need - 1 : Nat) : Int) = (c.need : Int) - 1 by omega] at hu2
  have HS2 := Lib.hid hu2
  have HH := Lib.hid H
  have hn0 : (1 : Int) ≤ c.need := by omega
  have hn1 : (c.need : Int) ≤ 1048576 := by omega
  clear hu2 H hst
  by_cases h0 : b = 0
  · subst h0
    rw [if_pos rfl]
    have hd : decide (0 = 0) = true := rfl
    go_enter Try.func41, Try.ntmps41
    go_wp2_with fail
    go_ret
    exact ⟨rfl, HS2.out⟩
  · rw [if_neg h0]
    have hd : decide (b = 0) = false := decide_eq_false h0
    rw [hd]
    have hbI : ((b : Int) != 0) = true := by simp; omega
    clear h0 hd
    go_enter Try.func41, Try.ntmps41
    go_upto_region 11 with fail
    go_still_tail 8, (by kernel_rfl)
    change wpList _ _ _ _ _ w.drew
    have HQ2 := Lib.hid HH.out.drew
    generalize w.drew = w3 at *
    go_wp2_with (go_at_call 39; refine (rfail_any w0 S B g 7 c.taken v _ _ HQ2.out).mono ?_; rintro e w4 ⟨rfl, hf⟩; have HF := Lib.hid hf; clear hf)
    go_ret
    exact ⟨rfl, HF.out⟩
end Go.Proofs.Ytlcppkcclolgcaa

