/- The walk of equal: two trees in memory. -/
import Derived.Test.YtlcppkcclolgcaaQg
namespace Go.Proofs.Ytlcppkcclolgcaa
set_option linter.unusedVariables false
set_option linter.unusedSimpArgs false
open Go.RowKit
/-- the counts alone, of all nodes -/
def ND.cnts (m : Nat) : ND → Prop
  | .leaf _ _ _ => True
  | .add p _ c => p.cnts m ∧ c.cnts m ∧ p.cnt + 1 ≤ m
theorem ND.small.cnts {m : Nat} : ∀ {n : ND}, n.small m → n.cnts m := by
  intro n
  induction n with
  | leaf => exact fun _ => trivial
  | add p nm c ih1 ih2 => exact fun h => ⟨ih1 h.1, ih2 h.2.2.1, h.2.2.2⟩
theorem ND.cnts.cnt {m : Nat} {n : ND} (h : n.cnts m) : n.cnt ≤ m := by
  cases n with
  | leaf => exact Nat.zero_le _
  | add p nm c => exact h.2.2
theorem ND.cnts.kid {m : Nat} : ∀ {n : ND}, n.cnts m → ∀ {i : Nat} {nm : ByteArray} {c : ND}, n.pre (i + 1) = .add (n.pre i) nm c → c.cnts m := by
  intro n
  induction n with
  | leaf => intro _ i nm c h; cases h
  | add p s d ih _ =>
    intro h i nm c e
    simp only [ND.pre] at e
    by_cases h1 : i + 1 ≤ p.cnt
    · rw [if_pos h1, if_pos (by omega)] at e
      exact ih h.1 e
    · rw [if_neg h1] at e
      injection e with _ _ e3
      rw [← e3]
      exact h.2.1
theorem toList_bne {s t : ByteArray} (h : s ≠ t) : (s.toList == t.toList) = false := by
  rw [toList_data, toList_data]
  cases hb : (s.data.toList == t.data.toList) with
  | false => rfl
  | true =>
    refine absurd ?_ h
    have h1 : s.data.toList = t.data.toList := by simpa using hb
    cases s
    cases t
    simp only [ByteArray.mk.injEq]
    exact Array.toList_inj.1 h1
theorem toList_beq {s t : ByteArray} (h : s = t) : (s.toList == t.toList) = true := by subst h; simp
theorem ND.ext_pre {a b : ND} (h : a.cnt = b.cnt) (hp : a.pre a.cnt = b.pre a.cnt) : a = b := by
  have h1 := a.pre_all
  have h2 := b.pre_all
  rw [← h] at h2
  rw [← h1, ← h2, hp]
theorem ND.pre_zero2 {a b : ND} (h1 : a.kind = b.kind) (h2 : a.exec = b.exec) (h3 : a.text = b.text) : a.pre 0 = b.pre 0 := by
  have key : ∀ n : ND, n.pre 0 = .leaf n.kind n.exec n.text := by
    intro n
    induction n with
    | leaf => rfl
    | add p s c ih _ =>
      simp only [ND.pre]
      rw [if_pos (Nat.zero_le _), ih]
      rfl
  rw [key, key, h1, h2, h3]
theorem ND.pre_ne {a b : ND} {i : Nat} {s t : ByteArray} {c d : ND} (e1 : a.pre (i + 1) = .add (a.pre i) s c) (e2 : b.pre (i + 1) = .add (b.pre i) t d) (h : s ≠ t ∨ c ≠ d) : a ≠ b := by
  intro e
  subst e
  rw [e1] at e2
  injection e2 with _ h2 h3
  rcases h with h | h
  · exact h h2
  · exact h h3
theorem ND.pre_next {a b : ND} {i : Nat} {s t : ByteArray} {c d : ND} (e1 : a.pre (i + 1) = .add (a.pre i) s c) (e2 : b.pre (i + 1) = .add (b.pre i) t d) (hp : a.pre i = b.pre i) (h1 : s = t) (h2 : c = d) : a.pre (i + 1) = b.pre (i + 1) := by
  rw [e1, e2, hp, h1, h2]
noncomputable def eqN (a b : ND) : Bool := @decide (a = b) (Classical.propDecidable _)
theorem eqN_true {a b : ND} (h : a = b) : eqN a b = true := by unfold eqN; exact @decide_eq_true _ (Classical.propDecidable _) h
theorem eqN_false {a b : ND} (h : a ≠ b) : eqN a b = false := by unfold eqN; exact @decide_eq_false _ (Classical.propDecidable _) h
theorem eqN_iff {a b : ND} : eqN a b = true ↔ a = b := ⟨fun h => Classical.byContradiction fun hn => (by rw [eqN_false hn] at h; exact absurd h (by decide)), eqN_true⟩
def EqP (w : World) (a b : ND) (e : Ending) (w' : World) : Prop := e = .returned (.bool (eqN a b)) ∧ Below w.heap.size w w'
def EqOk (a : ND) : Prop := ∀ (b : ND) (x y : Option Addr) (cx cy : Nat) (w : World), a.In w.heap.size w x → b.In w.heap.size w y → a.cnts 1048576 →
  Calls Try.prog 12 #[a.val x cx, b.val y cy] w fun e w' => EqP w a b e w'
set_option maxRecDepth 100000 in
set_option maxHeartbeats 8000000 in
theorem eq_node (a b : ND) (x y : Option Addr) (cx cy : Nat) (w : World) (ha : a.In w.heap.size w x) (hb : b.In w.heap.size w y) (hsm : a.cnts 1048576) (ih : ∀ c : ND, c.sz < a.sz → EqOk c) :
    Calls Try.prog 12 #[.agg #[.int .i64 a.kind, .bool a.exec, .string a.text, .slice x a.cnt cx], .agg #[.int .i64 b.kind, .bool b.exec, .string b.text, .slice y b.cnt cy]] w fun e w' => EqP w a b e w' := by
  obtain ⟨W2, hW2⟩ : ∃ W2, W2 = (w.alloc (.cells #[.int .i64 a.kind, .bool a.exec, .string a.text, .slice x a.cnt cx] 26)).alloc (.cells #[.int .i64 b.kind, .bool b.exec, .string b.text, .slice y b.cnt cy] 26) := ⟨_, rfl⟩
  have hz2 : W2.heap.size = w.heap.size + 2 := by rw [hW2]; simp
  have hb2 : Below w.heap.size w W2 := by rw [hW2]; exact ((Below.refl _ _).alloc (Nat.le_refl _) _).alloc (by simp) _
  have hr1 : W2.heap[w.heap.size]? = some (.cells #[.int .i64 a.kind, .bool a.exec, .string a.text, .slice x a.cnt cx] 26 (0, 0)) := by rw [hW2]; exact row_past (heap_alloc_new w _) _
  have hr2 : W2.heap[w.heap.size + 1]? = some (.cells #[.int .i64 b.kind, .bool b.exec, .string b.text, .slice y b.cnt cy] 26 (0, 0)) := by rw [hW2]; exact alloc_new2 w _ _ _
  have hct := hsm.cnt
  have hl0 : (0 : Int) ≤ a.cnt := by omega
  have hl1 : (a.cnt : Int) ≤ 1048576 := by omega
  have hcs0 := Lib.hid hsm
  have HHA := Lib.hid ha
  have HHB := Lib.hid hb
  have HSM := Lib.hid hsm
  have HI := Lib.hid ih
  have HW2 := Lib.hid hW2
  have HZ2 := Lib.hid hz2
  have HB2 := Lib.hid hb2
  have HR1 := Lib.hid hr1
  have HR2 := Lib.hid hr2
  clear ha hb hsm ih hW2 hz2 hb2 hr1 hr2 hct
  go_enter Try.func12, Try.ntmps12
  go_upto_region 1 with fail
  rw [← HW2.out]
  generalize hm : w.heap.size = m at *
  have HM := Lib.hid hm
  clear hm
  have a0 := cell_of_row W2 m 0 _ _ _ HR1.out
  have a1 := cell_of_row W2 m 1 _ _ _ HR1.out
  have a2 := cell_of_row W2 m 2 _ _ _ HR1.out
  have a3 := cell_of_row W2 m 3 _ _ _ HR1.out
  have b0 := cell_of_row W2 (m + 1) 0 _ _ _ HR2.out
  have b1 := cell_of_row W2 (m + 1) 1 _ _ _ HR2.out
  have b2 := cell_of_row W2 (m + 1) 2 _ _ _ HR2.out
  have b3 := cell_of_row W2 (m + 1) 3 _ _ _ HR2.out
  by_cases hk : a.kind = b.kind
  · by_cases hx : a.exec = b.exec
    · by_cases ht : a.text = b.text
      · by_cases hc : a.cnt = b.cnt
        · have e1 : (a.kind != b.kind) = false := by simpa using hk
          have e2 : (a.exec != b.exec) = false := by simpa using hx
          have e4 : ((a.cnt : Int) != (b.cnt : Int)) = false := by simp [hc]
          go_upto_region 3 with fail
          have hp0 := ND.pre_zero2 hk hx ht
          have HC := Lib.hid hc
          clear hk hx ht hc e1 e2 e4 a0 a1 a2 b0 b1 b2
          have HP0 := Lib.hid hp0
          clear hp0
          go_wp2_with fail
          go_loopw [37] (fun x37 wr => ∃ i : Nat, x37 = .int .i64 (i : Int) ∧ i ≤ a.cnt ∧ Below W2.heap.size W2 wr ∧ a.pre i = b.pre i) (fun x37 _ => a.cnt - (intOf x37).toNat)
          case atStart => exact ⟨0, rfl, Nat.zero_le _, Below.refl _ _, HP0.out⟩
          case round =>
            obtain ⟨i, rfl, hi, hW, hpi⟩ := hrel
            have hi0 : (0 : Int) ≤ i := by omega
            have r1 := (hW.block m (by rw [HZ2.out]; omega)).trans HR1.out
            have r2 := (hW.block (m + 1) (by rw [HZ2.out]; omega)).trans HR2.out
            have hbw : Below w.heap.size w wr := by rw [HM.out]; exact HB2.out.trans (hW.mono (by rw [HZ2.out]; omega))
            clear a3 b3
            by_cases hlt : i < a.cnt
            · have hltI : (i : Int) < b.cnt := by have := HC.out; omega
              have hltJ : (i : Int) < a.cnt := by omega
              obtain ⟨X, rfl, hatA⟩ : ∃ X, x = some X ∧ a.At m w X := by
                rcases HHA.out with h | h
                · omega
                · exact h
              obtain ⟨Y, rfl, hatB⟩ : ∃ Y, y = some Y ∧ b.At m w Y := by
                rcases HHB.out with h | h
                · have := HC.out; omega
                · exact h
              obtain ⟨s, c, e1, e2, -, e4, ka, kc, c0, c1, c2, c3, c4, hc⟩ := hatA.kid hlt
              obtain ⟨t, d, f1, -, -, f4, la, lc, d0, d1, d2, d3, d4, hd⟩ := hatB.kid (i := i) (by have := HC.out; omega)
              have hcs := hcs0.out.kid e1
              have hkk : ∀ q : Addr, q.block < m → wr.cell? q = w.cell? q := fun q e => hbw.cell (by rw [HM.out]; exact e)
              replace c0 := (hkk (X.add (i * 5)) (by rw [block_add]; exact e4)).trans c0
              replace c1 := (hkk ⟨(X.add (i * 5)).block, (X.add (i * 5)).off + 1, none⟩ (by rw [block_add]; exact e4)).trans c1
              replace c2 := (hkk ⟨(X.add (i * 5)).block, (X.add (i * 5)).off + 2, none⟩ (by rw [block_add]; exact e4)).trans c2
              replace c3 := (hkk ⟨(X.add (i * 5)).block, (X.add (i * 5)).off + 3, none⟩ (by rw [block_add]; exact e4)).trans c3
              replace c4 := (hkk ⟨(X.add (i * 5)).block, (X.add (i * 5)).off + 4, none⟩ (by rw [block_add]; exact e4)).trans c4
              replace d0 := (hkk (Y.add (i * 5)) (by rw [block_add]; exact f4)).trans d0
              replace d1 := (hkk ⟨(Y.add (i * 5)).block, (Y.add (i * 5)).off + 1, none⟩ (by rw [block_add]; exact f4)).trans d1
              replace d2 := (hkk ⟨(Y.add (i * 5)).block, (Y.add (i * 5)).off + 2, none⟩ (by rw [block_add]; exact f4)).trans d2
              replace d3 := (hkk ⟨(Y.add (i * 5)).block, (Y.add (i * 5)).off + 3, none⟩ (by rw [block_add]; exact f4)).trans d3
              replace d4 := (hkk ⟨(Y.add (i * 5)).block, (Y.add (i * 5)).off + 4, none⟩ (by rw [block_add]; exact f4)).trans d4
              have a3 := cell_of_row wr m 3 _ _ _ r1
              have b3 := cell_of_row wr (m + 1) 3 _ _ _ r2
              have hmr : m + 1 < wr.heap.size := lt_of_row r2
              have hM : ∀ w' : World, (∀ k, k < wr.heap.size → w'.heap[k]? = wr.heap[k]?) → w'.cell? ⟨m, 3, none⟩ = some (.slice (some X) a.cnt cx) ∧ w'.cell? ⟨m + 1, 3, none⟩ = some (.slice (some Y) b.cnt cy) :=
                fun w' h => ⟨(World.cell?_of_block (a := ⟨m, 3, none⟩) (h m (by omega))).trans a3, (World.cell?_of_block (a := ⟨m + 1, 3, none⟩) (h (m + 1) hmr)).trans b3⟩
              have hA : ∀ w' : World, (∀ k, k < wr.heap.size → w'.heap[k]? = wr.heap[k]?) → w'.cell? (X.add (i * 5)) = some (.string s) ∧ w'.cell? ⟨(X.add (i * 5)).block, (X.add (i * 5)).off + 1, none⟩ = some (.int .i64 c.kind) ∧ w'.cell? ⟨(X.add (i * 5)).block, (X.add (i * 5)).off + 2, none⟩ = some (.bool c.exec) ∧ w'.cell? ⟨(X.add (i * 5)).block, (X.add (i * 5)).off + 3, none⟩ = some (.string c.text) ∧ w'.cell? ⟨(X.add (i * 5)).block, (X.add (i * 5)).off + 4, none⟩ = some (.slice ka c.cnt kc) :=
                fun w' h => by
                  have hx := h X.block (by omega)
                  exact ⟨(World.cell?_of_block (by rw [block_add]; exact hx)).trans c0, (World.cell?_of_block (by rw [block_add]; exact hx)).trans c1, (World.cell?_of_block (by rw [block_add]; exact hx)).trans c2, (World.cell?_of_block (by rw [block_add]; exact hx)).trans c3, (World.cell?_of_block (by rw [block_add]; exact hx)).trans c4⟩
              have hB : ∀ w' : World, (∀ k, k < wr.heap.size → w'.heap[k]? = wr.heap[k]?) → w'.cell? (Y.add (i * 5)) = some (.string t) ∧ w'.cell? ⟨(Y.add (i * 5)).block, (Y.add (i * 5)).off + 1, none⟩ = some (.int .i64 d.kind) ∧ w'.cell? ⟨(Y.add (i * 5)).block, (Y.add (i * 5)).off + 2, none⟩ = some (.bool d.exec) ∧ w'.cell? ⟨(Y.add (i * 5)).block, (Y.add (i * 5)).off + 3, none⟩ = some (.string d.text) ∧ w'.cell? ⟨(Y.add (i * 5)).block, (Y.add (i * 5)).off + 4, none⟩ = some (.slice la d.cnt lc) :=
                fun w' h => by
                  have hx := h Y.block (by omega)
                  exact ⟨(World.cell?_of_block (by rw [block_add]; exact hx)).trans d0, (World.cell?_of_block (by rw [block_add]; exact hx)).trans d1, (World.cell?_of_block (by rw [block_add]; exact hx)).trans d2, (World.cell?_of_block (by rw [block_add]; exact hx)).trans d3, (World.cell?_of_block (by rw [block_add]; exact hx)).trans d4⟩
              have hHI := HI.out c e2 d ka la kc lc
              have HIN := Lib.hid (show c.In w.heap.size w ka ∧ d.In w.heap.size w la from ⟨by rw [HM.out]; exact hc, by rw [HM.out]; exact hd⟩)
              have HCALL := Lib.hid hHI
              have HCS := Lib.hid hcs
              have HBW := Lib.hid hbw
              have HMM := Lib.hid hM
              have HAA := Lib.hid hA
              have HBB := Lib.hid hB
              have HE := Lib.hid e1
              have HF := Lib.hid f1
              have HPI := Lib.hid hpi
              have HWW := Lib.hid hW
              clear hkk hc hd hHI hcs hbw hM hA hB e1 f1 hpi hW c0 c1 c2 c3 c4 d0 d1 d2 d3 d4 a3 b3 r1 r2 e2 hatA hatB
              go_upto_region 6 with fail
              refine wp_region_noPanic ?_
              refine wp_region_held_drew (S := fun w' => ∀ k, k < wr.heap.size → w'.heap[k]? = wr.heap[k]?) (by kernel_rfl) (fun k _ => rfl) (fun hHeld => ?_)
              refine wpAnyH_take (i := 0) (oi := _) (v := (.pointer (some ⟨m, 3, none⟩))) rfl (by kernel_rfl) (by kernel_rfl) (by kernel_rfl) (fun _ _ _ h => h) (Or.inl ⟨by rfl, fun w' _ => by go_simp⟩) hHeld ?_
              try simp only [Act.put, List.getElem_toArray, List.getElem_cons_succ, List.getElem_cons_zero, List.setIfInBounds_toArray, List.set_cons_zero, List.set_cons_succ]
              refine wpAnyH_take (i := 1) (oi := _) (v := (.slice (some X) a.cnt cx)) rfl (by kernel_rfl) (by kernel_rfl) (by kernel_rfl) (fun _ _ _ h => h) (Or.inl ⟨by rfl, fun w' hSw => by have h1 := (HMM.out w' hSw).1; go_simp⟩) hHeld ?_
              try simp only [Act.put, List.getElem_toArray, List.getElem_cons_succ, List.getElem_cons_zero, List.setIfInBounds_toArray, List.set_cons_zero, List.set_cons_succ]
              refine wpAnyH_take (i := 2) (oi := _) (v := (.int .i64 (i : Int))) rfl (by kernel_rfl) (by kernel_rfl) (by kernel_rfl) (fun _ _ _ h => h) (Or.inl ⟨by rfl, fun w' _ => by go_simp⟩) hHeld ?_
              try simp only [Act.put, List.getElem_toArray, List.getElem_cons_succ, List.getElem_cons_zero, List.setIfInBounds_toArray, List.set_cons_zero, List.set_cons_succ]
              refine wpAnyH_take (i := 3) (oi := _) (v := (.pointer (some (X.add (i * 5))))) rfl (by kernel_rfl) (by kernel_rfl) (by kernel_rfl) (fun _ _ _ h => h) (Or.inl ⟨by rfl, fun w' _ => by go_simp⟩) hHeld ?_
              try simp only [Act.put, List.getElem_toArray, List.getElem_cons_succ, List.getElem_cons_zero, List.setIfInBounds_toArray, List.set_cons_zero, List.set_cons_succ]
              refine wpAnyH_take (i := 4) (oi := _) (v := (.pointer (some (X.add (i * 5))))) rfl (by kernel_rfl) (by kernel_rfl) (by kernel_rfl) (fun _ _ _ h => h) (Or.inl ⟨by rfl, fun w' _ => by go_simp⟩) hHeld ?_
              try simp only [Act.put, List.getElem_toArray, List.getElem_cons_succ, List.getElem_cons_zero, List.setIfInBounds_toArray, List.set_cons_zero, List.set_cons_succ]
              refine wpAnyH_take (i := 5) (oi := _) (v := (.string s)) rfl (by kernel_rfl) (by kernel_rfl) (by kernel_rfl) (fun _ _ _ h => h) (Or.inl ⟨by rfl, fun w' hSw => by have h1 := (HAA.out w' hSw).1; go_simp⟩) hHeld ?_
              try simp only [Act.put, List.getElem_toArray, List.getElem_cons_succ, List.getElem_cons_zero, List.setIfInBounds_toArray, List.set_cons_zero, List.set_cons_succ]
              refine wpAnyH_take (i := 6) (oi := _) (v := (.pointer (some ⟨m + 1, 3, none⟩))) rfl (by kernel_rfl) (by kernel_rfl) (by kernel_rfl) (fun _ _ _ h => h) (Or.inl ⟨by rfl, fun w' _ => by go_simp⟩) hHeld ?_
              try simp only [Act.put, List.getElem_toArray, List.getElem_cons_succ, List.getElem_cons_zero, List.setIfInBounds_toArray, List.set_cons_zero, List.set_cons_succ]
              refine wpAnyH_take (i := 7) (oi := _) (v := (.slice (some Y) b.cnt cy)) rfl (by kernel_rfl) (by kernel_rfl) (by kernel_rfl) (fun _ _ _ h => h) (Or.inl ⟨by rfl, fun w' hSw => by have h1 := (HMM.out w' hSw).2; go_simp⟩) hHeld ?_
              try simp only [Act.put, List.getElem_toArray, List.getElem_cons_succ, List.getElem_cons_zero, List.setIfInBounds_toArray, List.set_cons_zero, List.set_cons_succ]
              refine wpAnyH_take (i := 8) (oi := _) (v := (.int .i64 (i : Int))) rfl (by kernel_rfl) (by kernel_rfl) (by kernel_rfl) (fun _ _ _ h => h) (Or.inl ⟨by rfl, fun w' _ => by go_simp⟩) hHeld ?_
              try simp only [Act.put, List.getElem_toArray, List.getElem_cons_succ, List.getElem_cons_zero, List.setIfInBounds_toArray, List.set_cons_zero, List.set_cons_succ]
              refine wpAnyH_take (i := 9) (oi := _) (v := (.pointer (some (Y.add (i * 5))))) rfl (by kernel_rfl) (by kernel_rfl) (by kernel_rfl) (fun _ _ _ h => h) (Or.inl ⟨by rfl, fun w' _ => by go_simp⟩) hHeld ?_
              try simp only [Act.put, List.getElem_toArray, List.getElem_cons_succ, List.getElem_cons_zero, List.setIfInBounds_toArray, List.set_cons_zero, List.set_cons_succ]
              refine wpAnyH_take (i := 10) (oi := _) (v := (.pointer (some (Y.add (i * 5))))) rfl (by kernel_rfl) (by kernel_rfl) (by kernel_rfl) (fun _ _ _ h => h) (Or.inl ⟨by rfl, fun w' _ => by go_simp⟩) hHeld ?_
              try simp only [Act.put, List.getElem_toArray, List.getElem_cons_succ, List.getElem_cons_zero, List.setIfInBounds_toArray, List.set_cons_zero, List.set_cons_succ]
              refine wpAnyH_take (i := 11) (oi := _) (v := (.string t)) rfl (by kernel_rfl) (by kernel_rfl) (by kernel_rfl) (fun _ _ _ h => h) (Or.inl ⟨by rfl, fun w' hSw => by have h1 := (HBB.out w' hSw).1; go_simp⟩) hHeld ?_
              try simp only [Act.put, List.getElem_toArray, List.getElem_cons_succ, List.getElem_cons_zero, List.setIfInBounds_toArray, List.set_cons_zero, List.set_cons_succ]
              by_cases hst : s = t
              · have hs1 := toList_beq hst
                refine wpAnyH_take (i := 12) (oi := _) (v := (.bool false)) rfl (by kernel_rfl) (by kernel_rfl) (by kernel_rfl) (fun _ _ _ h => h) (Or.inl ⟨by rfl, fun w' _ => by go_simp⟩) hHeld ?_
                try simp only [Act.put, List.getElem_toArray, List.getElem_cons_succ, List.getElem_cons_zero, List.setIfInBounds_toArray, List.set_cons_zero, List.set_cons_succ]
                refine wpAnyH_take (i := 13) (oi := _) (v := (.bool false)) rfl (by kernel_rfl) (by kernel_rfl) (by kernel_rfl) (fun _ _ _ h => h) (Or.inl ⟨by rfl, fun w' _ => by go_simp⟩) hHeld ?_
                try simp only [Act.put, List.getElem_toArray, List.getElem_cons_succ, List.getElem_cons_zero, List.setIfInBounds_toArray, List.set_cons_zero, List.set_cons_succ]
                refine wpAnyH_take (i := 14) (oi := _) (v := (.pointer (some ⟨m, 3, none⟩))) rfl (by kernel_rfl) (by kernel_rfl) (by kernel_rfl) (fun _ _ _ h => h) (Or.inl ⟨by rfl, fun w' _ => by go_simp⟩) hHeld ?_
                try simp only [Act.put, List.getElem_toArray, List.getElem_cons_succ, List.getElem_cons_zero, List.setIfInBounds_toArray, List.set_cons_zero, List.set_cons_succ]
                refine wpAnyH_take (i := 15) (oi := _) (v := (.slice (some X) a.cnt cx)) rfl (by kernel_rfl) (by kernel_rfl) (by kernel_rfl) (fun _ _ _ h => h) (Or.inl ⟨by rfl, fun w' hSw => by have h1 := (HMM.out w' hSw).1; go_simp⟩) hHeld ?_
                try simp only [Act.put, List.getElem_toArray, List.getElem_cons_succ, List.getElem_cons_zero, List.setIfInBounds_toArray, List.set_cons_zero, List.set_cons_succ]
                refine wpAnyH_take (i := 16) (oi := _) (v := (.int .i64 (i : Int))) rfl (by kernel_rfl) (by kernel_rfl) (by kernel_rfl) (fun _ _ _ h => h) (Or.inl ⟨by rfl, fun w' _ => by go_simp⟩) hHeld ?_
                try simp only [Act.put, List.getElem_toArray, List.getElem_cons_succ, List.getElem_cons_zero, List.setIfInBounds_toArray, List.set_cons_zero, List.set_cons_succ]
                refine wpAnyH_take (i := 17) (oi := _) (v := (.pointer (some (X.add (i * 5))))) rfl (by kernel_rfl) (by kernel_rfl) (by kernel_rfl) (fun _ _ _ h => h) (Or.inl ⟨by rfl, fun w' _ => by go_simp⟩) hHeld ?_
                try simp only [Act.put, List.getElem_toArray, List.getElem_cons_succ, List.getElem_cons_zero, List.setIfInBounds_toArray, List.set_cons_zero, List.set_cons_succ]
                refine wpAnyH_take (i := 18) (oi := _) (v := (.pointer (some ⟨(X.add (i * 5)).block, (X.add (i * 5)).off + 1, none⟩))) rfl (by kernel_rfl) (by kernel_rfl) (by kernel_rfl) (fun _ _ _ h => h) (Or.inl ⟨by rfl, fun w' _ => by go_simp⟩) hHeld ?_
                try simp only [Act.put, List.getElem_toArray, List.getElem_cons_succ, List.getElem_cons_zero, List.setIfInBounds_toArray, List.set_cons_zero, List.set_cons_succ]
                refine wpAnyH_take (i := 19) (oi := _) (v := (.agg #[.int .i64 c.kind, .bool c.exec, .string c.text, .slice ka c.cnt kc])) rfl (by kernel_rfl) (by kernel_rfl) (by kernel_rfl) (fun _ _ _ h => h) (Or.inl ⟨by rfl, fun w' hSw => by have h1 := (HAA.out w' hSw).2.1; have h2 := (HAA.out w' hSw).2.2.1; have h3 := (HAA.out w' hSw).2.2.2.1; have h4 := (HAA.out w' hSw).2.2.2.2; go_simp⟩) hHeld ?_
                try simp only [Act.put, List.getElem_toArray, List.getElem_cons_succ, List.getElem_cons_zero, List.setIfInBounds_toArray, List.set_cons_zero, List.set_cons_succ]
                refine wpAnyH_take (i := 20) (oi := _) (v := (.pointer (some ⟨m + 1, 3, none⟩))) rfl (by kernel_rfl) (by kernel_rfl) (by kernel_rfl) (fun _ _ _ h => h) (Or.inl ⟨by rfl, fun w' _ => by go_simp⟩) hHeld ?_
                try simp only [Act.put, List.getElem_toArray, List.getElem_cons_succ, List.getElem_cons_zero, List.setIfInBounds_toArray, List.set_cons_zero, List.set_cons_succ]
                refine wpAnyH_take (i := 21) (oi := _) (v := (.slice (some Y) b.cnt cy)) rfl (by kernel_rfl) (by kernel_rfl) (by kernel_rfl) (fun _ _ _ h => h) (Or.inl ⟨by rfl, fun w' hSw => by have h1 := (HMM.out w' hSw).2; go_simp⟩) hHeld ?_
                try simp only [Act.put, List.getElem_toArray, List.getElem_cons_succ, List.getElem_cons_zero, List.setIfInBounds_toArray, List.set_cons_zero, List.set_cons_succ]
                refine wpAnyH_take (i := 22) (oi := _) (v := (.int .i64 (i : Int))) rfl (by kernel_rfl) (by kernel_rfl) (by kernel_rfl) (fun _ _ _ h => h) (Or.inl ⟨by rfl, fun w' _ => by go_simp⟩) hHeld ?_
                try simp only [Act.put, List.getElem_toArray, List.getElem_cons_succ, List.getElem_cons_zero, List.setIfInBounds_toArray, List.set_cons_zero, List.set_cons_succ]
                refine wpAnyH_take (i := 23) (oi := _) (v := (.pointer (some (Y.add (i * 5))))) rfl (by kernel_rfl) (by kernel_rfl) (by kernel_rfl) (fun _ _ _ h => h) (Or.inl ⟨by rfl, fun w' _ => by go_simp⟩) hHeld ?_
                try simp only [Act.put, List.getElem_toArray, List.getElem_cons_succ, List.getElem_cons_zero, List.setIfInBounds_toArray, List.set_cons_zero, List.set_cons_succ]
                refine wpAnyH_take (i := 24) (oi := _) (v := (.pointer (some ⟨(Y.add (i * 5)).block, (Y.add (i * 5)).off + 1, none⟩))) rfl (by kernel_rfl) (by kernel_rfl) (by kernel_rfl) (fun _ _ _ h => h) (Or.inl ⟨by rfl, fun w' _ => by go_simp⟩) hHeld ?_
                try simp only [Act.put, List.getElem_toArray, List.getElem_cons_succ, List.getElem_cons_zero, List.setIfInBounds_toArray, List.set_cons_zero, List.set_cons_succ]
                refine wpAnyH_take (i := 25) (oi := _) (v := (.agg #[.int .i64 d.kind, .bool d.exec, .string d.text, .slice la d.cnt lc])) rfl (by kernel_rfl) (by kernel_rfl) (by kernel_rfl) (fun _ _ _ h => h) (Or.inl ⟨by rfl, fun w' hSw => by have h1 := (HBB.out w' hSw).2.1; have h2 := (HBB.out w' hSw).2.2.1; have h3 := (HBB.out w' hSw).2.2.2.1; have h4 := (HBB.out w' hSw).2.2.2.2; go_simp⟩) hHeld ?_
                try simp only [Act.put, List.getElem_toArray, List.getElem_cons_succ, List.getElem_cons_zero, List.setIfInBounds_toArray, List.set_cons_zero, List.set_cons_succ]
                refine wpAnyH_ready (rs := [26]) (by kernel_rfl) (by simp) ?_
                refine AllReadyH.cons (o := _) rfl (fun K hK => ?_) AllReadyH.nil
                rw [if_pos (by rfl)]
                go_simp
                go_at_call 12
                refine (HCALL.out wr.drew (HIN.out.1.below HBW.out.drew (Nat.le_refl _) |>.mono HBW.out.size) (HIN.out.2.below HBW.out.drew (Nat.le_refl _) |>.mono HBW.out.size) HCS.out).mono ?_
                rintro e w5 ⟨rfl, hb5⟩
                refine hK.out _ _ (fun k hk => hb5.block k hk) (fun hHeld => ?_)
                clear hK K
                try dsimp only
                try simp only [Act.put, List.getElem_toArray, List.getElem_cons_succ, List.getElem_cons_zero, List.setIfInBounds_toArray, List.set_cons_zero, List.set_cons_succ]
                have HB5 := Lib.hid hb5
                clear hb5
                by_cases hcd : c = d
                · have hq := eqN_true hcd
                  rw [hq]
                  refine wpAnyH_take (i := 27) (oi := _) (v := (.bool false)) rfl (by kernel_rfl) (by kernel_rfl) (by kernel_rfl) (fun _ _ _ h => h) (Or.inl ⟨by rfl, fun w' _ => by go_simp⟩) hHeld ?_
                  try simp only [Act.put, List.getElem_toArray, List.getElem_cons_succ, List.getElem_cons_zero, List.setIfInBounds_toArray, List.set_cons_zero, List.set_cons_succ]
                  refine wpAnyH_take (i := 28) (oi := _) (v := (.bool false)) rfl (by kernel_rfl) (by kernel_rfl) (by kernel_rfl) (fun _ _ _ h => h) (Or.inl ⟨by rfl, fun w' _ => by go_simp⟩) hHeld ?_
                  try simp only [Act.put, List.getElem_toArray, List.getElem_cons_succ, List.getElem_cons_zero, List.setIfInBounds_toArray, List.set_cons_zero, List.set_cons_succ]
                  refine wpAnyH_done (by kernel_rfl) ?_ _
                  refine NoPanic.normal ?_
                  have HN := Lib.hid (ND.pre_next HE.out HF.out HPI.out hst hcd)
                  have HW5 := Lib.hid (HWW.out.drew.trans (HB5.out.mono HWW.out.size))
                  clear hst hs1 hcd hq hHeld
                  go_wp2_with fail
                  go_roundw
                  case rel => exact ⟨i + 1, by go_num, by omega, HW5.out, HN.out⟩
                  case measure => simp [intOf]; omega
                · have hq := eqN_false hcd
                  rw [hq]
                  refine wpAnyH_take (i := 27) (oi := _) (v := (.bool true)) rfl (by kernel_rfl) (by kernel_rfl) (by kernel_rfl) (fun _ _ _ h => h) (Or.inl ⟨by rfl, fun w' _ => by go_simp⟩) hHeld ?_
                  try simp only [Act.put, List.getElem_toArray, List.getElem_cons_succ, List.getElem_cons_zero, List.setIfInBounds_toArray, List.set_cons_zero, List.set_cons_succ]
                  refine wpAnyH_take (i := 28) (oi := _) (v := (.bool true)) rfl (by kernel_rfl) (by kernel_rfl) (by kernel_rfl) (fun _ _ _ h => h) (Or.inl ⟨by rfl, fun w' _ => by go_simp⟩) hHeld ?_
                  try simp only [Act.put, List.getElem_toArray, List.getElem_cons_succ, List.getElem_cons_zero, List.setIfInBounds_toArray, List.set_cons_zero, List.set_cons_succ]
                  refine wpAnyH_done (by kernel_rfl) ?_ _
                  refine NoPanic.normal ?_
                  have HNE := Lib.hid (ND.pre_ne HE.out HF.out (.inr hcd))
                  have HB6 := Lib.hid (HBW.out.drew.trans (HB5.out.mono HBW.out.size))
                  clear hst hs1 hcd hq hHeld
                  go_wp2_with fail
                  go_ret
                  exact ⟨by rw [eqN_false HNE.out]; rfl, HB6.out⟩
              · have hs1 := toList_bne hst
                refine wpAnyH_take (i := 12) (oi := _) (v := (.bool true)) rfl (by kernel_rfl) (by kernel_rfl) (by kernel_rfl) (fun _ _ _ h => h) (Or.inl ⟨by rfl, fun w' _ => by go_simp⟩) hHeld ?_
                try simp only [Act.put, List.getElem_toArray, List.getElem_cons_succ, List.getElem_cons_zero, List.setIfInBounds_toArray, List.set_cons_zero, List.set_cons_succ]
                refine wpAnyH_take (i := 13) (oi := _) (v := (.bool true)) rfl (by kernel_rfl) (by kernel_rfl) (by kernel_rfl) (fun _ _ _ h => h) (Or.inl ⟨by rfl, fun w' _ => by go_simp⟩) hHeld ?_
                try simp only [Act.put, List.getElem_toArray, List.getElem_cons_succ, List.getElem_cons_zero, List.setIfInBounds_toArray, List.set_cons_zero, List.set_cons_succ]
                refine wpAnyH_take (i := 14) (oi := _) (v := undef) rfl (by kernel_rfl) (by kernel_rfl) (by kernel_rfl) (fun _ _ _ h => h) (Or.inr ⟨by rfl, rfl⟩) hHeld ?_
                try simp only [Act.put, List.getElem_toArray, List.getElem_cons_succ, List.getElem_cons_zero, List.setIfInBounds_toArray, List.set_cons_zero, List.set_cons_succ]
                refine wpAnyH_take (i := 15) (oi := _) (v := undef) rfl (by kernel_rfl) (by kernel_rfl) (by kernel_rfl) (fun _ _ _ h => h) (Or.inr ⟨by rfl, rfl⟩) hHeld ?_
                try simp only [Act.put, List.getElem_toArray, List.getElem_cons_succ, List.getElem_cons_zero, List.setIfInBounds_toArray, List.set_cons_zero, List.set_cons_succ]
                refine wpAnyH_take (i := 16) (oi := _) (v := undef) rfl (by kernel_rfl) (by kernel_rfl) (by kernel_rfl) (fun _ _ _ h => h) (Or.inr ⟨by rfl, rfl⟩) hHeld ?_
                try simp only [Act.put, List.getElem_toArray, List.getElem_cons_succ, List.getElem_cons_zero, List.setIfInBounds_toArray, List.set_cons_zero, List.set_cons_succ]
                refine wpAnyH_take (i := 17) (oi := _) (v := undef) rfl (by kernel_rfl) (by kernel_rfl) (by kernel_rfl) (fun _ _ _ h => h) (Or.inr ⟨by rfl, rfl⟩) hHeld ?_
                try simp only [Act.put, List.getElem_toArray, List.getElem_cons_succ, List.getElem_cons_zero, List.setIfInBounds_toArray, List.set_cons_zero, List.set_cons_succ]
                refine wpAnyH_take (i := 18) (oi := _) (v := undef) rfl (by kernel_rfl) (by kernel_rfl) (by kernel_rfl) (fun _ _ _ h => h) (Or.inr ⟨by rfl, rfl⟩) hHeld ?_
                try simp only [Act.put, List.getElem_toArray, List.getElem_cons_succ, List.getElem_cons_zero, List.setIfInBounds_toArray, List.set_cons_zero, List.set_cons_succ]
                refine wpAnyH_take (i := 19) (oi := _) (v := undef) rfl (by kernel_rfl) (by kernel_rfl) (by kernel_rfl) (fun _ _ _ h => h) (Or.inr ⟨by rfl, rfl⟩) hHeld ?_
                try simp only [Act.put, List.getElem_toArray, List.getElem_cons_succ, List.getElem_cons_zero, List.setIfInBounds_toArray, List.set_cons_zero, List.set_cons_succ]
                refine wpAnyH_take (i := 20) (oi := _) (v := undef) rfl (by kernel_rfl) (by kernel_rfl) (by kernel_rfl) (fun _ _ _ h => h) (Or.inr ⟨by rfl, rfl⟩) hHeld ?_
                try simp only [Act.put, List.getElem_toArray, List.getElem_cons_succ, List.getElem_cons_zero, List.setIfInBounds_toArray, List.set_cons_zero, List.set_cons_succ]
                refine wpAnyH_take (i := 21) (oi := _) (v := undef) rfl (by kernel_rfl) (by kernel_rfl) (by kernel_rfl) (fun _ _ _ h => h) (Or.inr ⟨by rfl, rfl⟩) hHeld ?_
                try simp only [Act.put, List.getElem_toArray, List.getElem_cons_succ, List.getElem_cons_zero, List.setIfInBounds_toArray, List.set_cons_zero, List.set_cons_succ]
                refine wpAnyH_take (i := 22) (oi := _) (v := undef) rfl (by kernel_rfl) (by kernel_rfl) (by kernel_rfl) (fun _ _ _ h => h) (Or.inr ⟨by rfl, rfl⟩) hHeld ?_
                try simp only [Act.put, List.getElem_toArray, List.getElem_cons_succ, List.getElem_cons_zero, List.setIfInBounds_toArray, List.set_cons_zero, List.set_cons_succ]
                refine wpAnyH_take (i := 23) (oi := _) (v := undef) rfl (by kernel_rfl) (by kernel_rfl) (by kernel_rfl) (fun _ _ _ h => h) (Or.inr ⟨by rfl, rfl⟩) hHeld ?_
                try simp only [Act.put, List.getElem_toArray, List.getElem_cons_succ, List.getElem_cons_zero, List.setIfInBounds_toArray, List.set_cons_zero, List.set_cons_succ]
                refine wpAnyH_take (i := 24) (oi := _) (v := undef) rfl (by kernel_rfl) (by kernel_rfl) (by kernel_rfl) (fun _ _ _ h => h) (Or.inr ⟨by rfl, rfl⟩) hHeld ?_
                try simp only [Act.put, List.getElem_toArray, List.getElem_cons_succ, List.getElem_cons_zero, List.setIfInBounds_toArray, List.set_cons_zero, List.set_cons_succ]
                refine wpAnyH_take (i := 25) (oi := _) (v := undef) rfl (by kernel_rfl) (by kernel_rfl) (by kernel_rfl) (fun _ _ _ h => h) (Or.inr ⟨by rfl, rfl⟩) hHeld ?_
                try simp only [Act.put, List.getElem_toArray, List.getElem_cons_succ, List.getElem_cons_zero, List.setIfInBounds_toArray, List.set_cons_zero, List.set_cons_succ]
                refine wpAnyH_take (i := 26) (oi := _) (v := undef) rfl (by kernel_rfl) (by kernel_rfl) (by kernel_rfl) (fun _ _ _ h => h) (Or.inr ⟨by rfl, rfl⟩) hHeld ?_
                try simp only [Act.put, List.getElem_toArray, List.getElem_cons_succ, List.getElem_cons_zero, List.setIfInBounds_toArray, List.set_cons_zero, List.set_cons_succ]
                refine wpAnyH_take (i := 27) (oi := _) (v := undef) rfl (by kernel_rfl) (by kernel_rfl) (by kernel_rfl) (fun _ _ _ h => h) (Or.inr ⟨by rfl, rfl⟩) hHeld ?_
                try simp only [Act.put, List.getElem_toArray, List.getElem_cons_succ, List.getElem_cons_zero, List.setIfInBounds_toArray, List.set_cons_zero, List.set_cons_succ]
                refine wpAnyH_take (i := 28) (oi := _) (v := (.bool true)) rfl (by kernel_rfl) (by kernel_rfl) (by kernel_rfl) (fun _ _ _ h => h) (Or.inl ⟨by rfl, fun w' _ => by go_simp⟩) hHeld ?_
                try simp only [Act.put, List.getElem_toArray, List.getElem_cons_succ, List.getElem_cons_zero, List.setIfInBounds_toArray, List.set_cons_zero, List.set_cons_succ]
                refine wpAnyH_done (by kernel_rfl) ?_ _
                refine NoPanic.normal ?_
                have HNE := Lib.hid (ND.pre_ne HE.out HF.out (.inl hst))
                clear hst hs1
                go_wp2_with fail
                go_ret
                exact ⟨by rw [eqN_false HNE.out]; rfl, HBW.out.drew⟩
            · have hltI : ¬ (i : Int) < b.cnt := by have := HC.out; omega
              have hltJ : ¬ (i : Int) < a.cnt := by omega
              have hii : i = a.cnt := by omega
              rw [hii] at hpi
              have HEQ := Lib.hid (ND.ext_pre HC.out hpi)
              have HBW := Lib.hid hbw
              clear hpi hbw hW
              go_wp2_with fail
              go_ret
              exact ⟨by rw [eqN_true HEQ.out]; rfl, HBW.out⟩
        · have e1 : (a.kind != b.kind) = false := by simpa using hk
          have e2 : (a.exec != b.exec) = false := by simpa using hx
          have e4 : ((a.cnt : Int) != (b.cnt : Int)) = true := by simp; omega
          go_wp2_with fail
          go_ret
          exact ⟨by rw [eqN_false (fun h => hc (by rw [h]))]; rfl, by rw [HM.out]; exact HB2.out⟩
      · have e1 : (a.kind != b.kind) = false := by simpa using hk
        have e2 : (a.exec != b.exec) = false := by simpa using hx
        have e3 := toList_bne ht
        go_wp2_with fail
        go_ret
        exact ⟨by rw [eqN_false (fun h => ht (by rw [h]))]; rfl, by rw [HM.out]; exact HB2.out⟩
    · have e1 : (a.kind != b.kind) = false := by simpa using hk
      have e2 : (a.exec != b.exec) = true := by simpa using hx
      go_wp2_with fail
      go_ret
      exact ⟨by rw [eqN_false (fun h => hx (by rw [h]))]; rfl, by rw [HM.out]; exact HB2.out⟩
  · have e1 : (a.kind != b.kind) = true := by simpa using hk
    go_wp2_with fail
    go_ret
    exact ⟨by rw [eqN_false (fun h => hk (by rw [h]))]; rfl, by rw [HM.out]; exact HB2.out⟩
theorem equal_any : ∀ (k : Nat) (a : ND), a.sz ≤ k → EqOk a := by
  intro k
  induction k with
  | zero => intro a h; cases a <;> simp [ND.sz] at h
  | succ k ih =>
    intro a hk b x y cx cy w ha hb hsm
    exact eq_node a b x y cx cy w ha hb hsm (fun c hc => ih c (by omega))
end Go.Proofs.Ytlcppkcclolgcaa

