/- The walks of (*sha.State).WriteText and Write. The walks of (*sha.State).Reset, sha.New, (*sha.State).Fork and (*sha.count).Size. Rows of zeros, a new row written whole. The padding as a list: plain facts on the printed functions of sha.Pad. The contracts of sha.Pad and depotref01.Pad: the padding of n bytes as a list of bytes. '==' and '!=' of two arrays of whole numbers that are laid by one list each. The walks of (*sha.State).Sum and sha.Of. Two digests compared; depotlaw01.awake. -/
import Derived.Test.YtlcppkcclolgcaaDoorDBk
import Derived.Lib.SlBuf
import Derived.Deep.WholeRow
import Derived.Test.YtlcppkcclolgcaaDoorPPadx1
import Derived.ChangeKeysEq
namespace Go.Proofs.YtlcppkcclolgcaaDoor.Hs
set_option maxRecDepth 20000
set_option linter.unusedVariables false
set_option linter.unusedSimpArgs false
open Go.RowKit

/-- 'copy(dst, t)' of a string: as many bytes as the shorter has -/
theorem run_copy_text {P : Program} (w : World) (dT sT ty elem : TypeId) (g o dLen dCap n : Nat) (t : ByteArray)
    (hu : P.underlying dT = some (.slice elem)) (hz : ∀ w, (Go.sizeOf elem).run P w = .ok 1 w) (hn : Nat.min t.size dLen = n) (hth : w.there g o n) :
    (Builtin.copy_ #[dT, sT] ty #[.slice (some ⟨g, o, none⟩) dLen dCap, .string t]).run P w = .ok (goInt n) (w.setCells g o (cl .u8 ((nb t).take n))) := by
  have hle : n ≤ t.size := by rw [← hn]; exact Nat.min_le_left _ _
  have hl : (cl .u8 ((nb t).take n)).length = n := by rw [cl_length, List.length_take, nb_length]; omega
  have hst := run_storeCells_cells (P := P) g o (cl .u8 ((nb t).take n)) 0 w (by rw [hl]; simpa using fun j hj => (hth j hj).1) (by rw [hl]; simpa using fun j hj => (hth j hj).2) (cl_one _ _)
  have e : List.take n (List.map (fun b : UInt8 => Value.int IntKind.u8 (b.toNat : Int)) t.data.toList) = cl .u8 ((nb t).take n) := by
    simp [cl, nb, List.map_take]
    rfl
  simp [Builtin.copy_, run_underlying hu, Builtin.lenOf, Builtin.firstCells, hz, hn]
  rw [e, hst]
  rfl

theorem size_u8 : ∀ w, (Go.sizeOf 5).run Tryd.prog w = .ok 1 w := by
  intro w
  have h : (Tryd.prog.info? 5).map (·.size) = some 1 := by kernel_rfl
  cases hq : Tryd.prog.info? 5 with
  | none => simp [hq] at h
  | some i =>
    have hi : i.size = 1 := by simpa [hq] using h
    simp [sizeOf, typeInfo, hq, hi]

/-- what Write, WriteText leave -/
def WtOut (w : World) (g : Nat) (T : List Nat) (e : Ending) (w' : World) : Prop := e = .returned (.tuple #[]) ∧ StAt w' g T ∧ w.grownBy w' (some g)
def WtOut2 (w0 w : World) (g : Nat) (T : List Nat) (e : Ending) (w' : World) : Prop := e = .returned (.tuple #[]) ∧ StAt w' g T ∧ w0.grownBy w' (some g) ∧ w.grownBy w' (some g)

/-- one round behind the copy: took takes the bytes in -/
theorem took_at (g m n used : Nat) (T h buf u : List Nat) (w w0 : World) (hst : IsSt w g n h (over buf used u) used) (hS : Stt T n h buf used) (hu : Bytes u) (hm : u.length = m) (hT : Tab w) (hg : 2 ≤ g) (ho : w0.grownBy w (some g))
    (hn : n + m < 9223372036854775807) (hle : used + m ≤ 64) :
    Calls Tryd.prog 30 #[.pointer (some ⟨g, 0, none⟩), .int .i64 (m : Int)] w (WtOut2 w0 w g (T ++ u)) := by
  subst hm
  by_cases heq : used + u.length = 64
  · refine (took_full g n u.length used h (over buf used u) w hst hS.hs (over_bytes hS.byt hu _) hT hg hn heq).mono ?_
    rintro e w' ⟨rfl, h1, h2⟩
    exact ⟨rfl, ⟨_, _, _, _, h1, hS.full u hu heq⟩, only_trans ho h2, h2⟩
  · refine (took_part g n u.length used h (over buf used u) w hst hn (by omega)).mono ?_
    rintro e w' ⟨rfl, h1, h2⟩
    exact ⟨rfl, ⟨_, _, _, _, h1, hS.more u hu (by omega)⟩, only_trans ho h2, h2⟩

theorem nb_extract (u : ByteArray) (m : Nat) : nb (u.extract m u.size) = (nb u).drop m := by
  have hs : u.data.toList.length = u.size := by simp
  simp only [nb, ByteArray.data_extract, Array.toList_extract, List.extract_eq_drop_take', List.map_drop, List.map_take]
  rw [List.take_of_length_le (by simp)]

/-- how long a string is that lies in a slot -/
def strLen : Value → Nat | .string u => u.size | _ => 0

structure WtR (w0 : World) (g : Nat) (T : List Nat) (s : ByteArray) (u : ByteArray) (D : List Nat) (wr : World) : Prop where
  st : StAt wr g (T ++ D)
  tab : Tab wr
  ot : w0.grownBy wr (some g)
  eq : nb s = D ++ nb u

set_option maxRecDepth 100000 in
set_option maxHeartbeats 2000000 in
theorem writeText_any (g : Nat) (T : List Nat) (s : ByteArray) (w : World) (hst : StAt w g T) (hT : Tab w) (hg : 2 ≤ g) (hlen : T.length + s.size < 4611686018427387904) :
    Calls Tryd.prog 12 #[.pointer (some ⟨g, 0, none⟩), .string s] w (WtOut w g (T ++ nb s)) := by
  have H0 := Lib.hid (show WtR w g T s s [] w from ⟨by simpa using hst, hT, World.grownBy.refl w _, rfl⟩)
  clear hst hT
  go_enter Tryd.func12, Tryd.ntmps12
  go_wp2_with fail
  go_loopw [1] (fun t wr => ∃ (u : ByteArray) (D : List Nat), t = .string u ∧ WtR w g T s u D wr) (fun t _ => strLen t)
  case atStart => exact ⟨s, [], rfl, H0.out⟩
  case round =>
    clear H0
    obtain ⟨u, D, rfl, hR⟩ := hrel
    have hsz : D.length + u.size = s.size := by rw [← nb_length, ← nb_length, hR.eq, List.length_append]
    by_cases h0 : u.size = 0
    · have he : nb u = [] := List.eq_nil_of_length_eq_zero (by rw [nb_length, h0])
      have hout : WtOut w g (T ++ nb s) (.returned (.tuple #[])) wr := ⟨rfl, by rw [hR.eq, he, List.append_nil]; exact hR.st, hR.ot⟩
      have HO := Lib.hid hout
      clear hout hR he hsz
      go_wp2_with fail
      go_end0
      exact HO.out
    · obtain ⟨n, h, buf, used, hs1, hS⟩ := hR.st
      have hlt := hS.lt
      have h1 : 0 < u.size := by omega
      have hneq := hS.n_eq
      rw [List.length_append] at hneq
      obtain ⟨m, hm⟩ : ∃ m, m = Nat.min u.size (64 - used) := ⟨_, rfl⟩
      have hm1 : m ≤ u.size := by rw [hm]; exact Nat.min_le_left _ _
      have hm2 : m ≤ 64 - used := by rw [hm]; exact Nat.min_le_right _ _
      have hm0 : 0 < m := by
        have : m = min u.size (64 - used) := hm
        omega
      have hul : ((nb u).take m).length = m := by rw [List.length_take, nb_length]; omega
      have hub : Bytes ((nb u).take m) := fun x hx => nb_bytes u x (List.mem_of_mem_take hx)
      have hsd : IsSt wr.drew g n h buf used := hs1.far rfl
      have hs2 := hsd.setB used ((nb u).take m) (by rw [hul]; omega)
      have ot2 : w.grownBy (wr.drew.setCells g (9 + used) (cl .u8 ((nb u).take m))) (some g) := only_setCells (cl .u8 ((nb u).take m)) (9 + used) wr.drew (only_drew hR.ot)
      have tab2 : Tab (wr.drew.setCells g (9 + used) (cl .u8 ((nb u).take m))) := hR.tab.only hg (only_setCells _ _ _ (only_drew (World.grownBy.refl wr _)))
      have hth : wr.drew.there g (9 + used) m := hsd.there (9 + used) m (by omega)
      have hrun : ∀ ty, (Builtin.copy_ #[38, 9] ty #[.slice (some ⟨g, 9 + used, none⟩) (64 - used) (64 - used), .string u]).run Tryd.prog wr.drew = .ok (goInt m) (wr.drew.setCells g (9 + used) (cl .u8 ((nb u).take m))) :=
        fun ty => run_copy_text wr.drew _ _ ty 5 g (9 + used) _ _ m u Tryd.underlying38 size_u8 hm.symm hth
      have c73 : wr.drew.cell? ⟨g, 73, none⟩ = some (.int .i64 (used : Int)) := hs1.cell73
      have H2 := Lib.hid hs2
      have O2 := Lib.hid ot2
      have T2 := Lib.hid tab2
      have HE := Lib.hid hR.eq
      have HS := Lib.hid hS
      have HM := Lib.hid hm
      have HN := Lib.hid hneq
      have HZ := Lib.hid hsz
      have hUL := Lib.hid hul
      have hu0 : (0 : Int) ≤ used := by omega
      have hu1 : (used : Int) ≤ 64 := by omega
      have hu2 : (used : Int) < 64 := by omega
      clear hs2 ot2 tab2 hR hs1 hsd hS hneq hm hth hsz hul
      go_wp2_with fail
      refine wp_region_any (by kernel_rfl) ?_
      change wpAny _ _ _ _ _ _ _ (World.drew _)
      refine wpAny_take (i := 0) (oi := _) (v := (.pointer (some ⟨g, 0, none⟩))) rfl (by kernel_rfl) (by kernel_rfl) (by kernel_rfl) (fun _ _ _ h => h) (Or.inl ⟨by rfl, fun w' => by go_simp⟩) ?_
      try simp only [Act.put, List.getElem_toArray, List.getElem_cons_succ, List.getElem_cons_zero, List.setIfInBounds_toArray, List.set_cons_zero, List.set_cons_succ]
      refine wpAny_take (i := 1) (oi := _) (v := (.pointer (some ⟨g, 0, none⟩))) rfl (by kernel_rfl) (by kernel_rfl) (by kernel_rfl) (fun _ _ _ h => h) (Or.inl ⟨by rfl, fun w' => by go_simp⟩) ?_
      try simp only [Act.put, List.getElem_toArray, List.getElem_cons_succ, List.getElem_cons_zero, List.setIfInBounds_toArray, List.set_cons_zero, List.set_cons_succ]
      refine wpAny_take (i := 2) (oi := _) (v := (.pointer (some ⟨g, 9, none⟩))) rfl (by kernel_rfl) (by kernel_rfl) (by kernel_rfl) (fun _ _ _ h => h) (Or.inl ⟨by rfl, fun w' => by go_simp⟩) ?_
      try simp only [Act.put, List.getElem_toArray, List.getElem_cons_succ, List.getElem_cons_zero, List.setIfInBounds_toArray, List.set_cons_zero, List.set_cons_succ]
      refine wpAny_take (i := 3) (oi := _) (v := (.pointer (some ⟨g, 0, none⟩))) rfl (by kernel_rfl) (by kernel_rfl) (by kernel_rfl) (fun _ _ _ h => h) (Or.inl ⟨by rfl, fun w' => by go_simp⟩) ?_
      try simp only [Act.put, List.getElem_toArray, List.getElem_cons_succ, List.getElem_cons_zero, List.setIfInBounds_toArray, List.set_cons_zero, List.set_cons_succ]
      refine wpAny_take (i := 4) (oi := _) (v := (.pointer (some ⟨g, 0, none⟩))) rfl (by kernel_rfl) (by kernel_rfl) (by kernel_rfl) (fun _ _ _ h => h) (Or.inl ⟨by rfl, fun w' => by go_simp⟩) ?_
      try simp only [Act.put, List.getElem_toArray, List.getElem_cons_succ, List.getElem_cons_zero, List.setIfInBounds_toArray, List.set_cons_zero, List.set_cons_succ]
      refine wpAny_take (i := 5) (oi := _) (v := (.pointer (some ⟨g, 73, none⟩))) rfl (by kernel_rfl) (by kernel_rfl) (by kernel_rfl) (fun _ _ _ h => h) (Or.inl ⟨by rfl, fun w' => by go_simp⟩) ?_
      try simp only [Act.put, List.getElem_toArray, List.getElem_cons_succ, List.getElem_cons_zero, List.setIfInBounds_toArray, List.set_cons_zero, List.set_cons_succ]
      refine wpAny_take (i := 8) (oi := _) (v := (.string u)) rfl (by kernel_rfl) (by kernel_rfl) (by kernel_rfl) (fun _ _ _ h => h) (Or.inl ⟨by rfl, fun w' => by go_simp⟩) ?_
      try simp only [Act.put, List.getElem_toArray, List.getElem_cons_succ, List.getElem_cons_zero, List.setIfInBounds_toArray, List.set_cons_zero, List.set_cons_succ]
      refine wpAny_ready (rs := [6]) (by kernel_rfl) (by simp) ?_
      refine AllReady.cons (o := _) rfl (fun K hK => ?_) AllReady.nil
      rw [if_pos (by rfl)]
      go_simp
      refine hK _ _ ?_
      clear hK K
      try simp only [Act.put, List.getElem_toArray, List.getElem_cons_succ, List.getElem_cons_zero, List.setIfInBounds_toArray, List.set_cons_zero, List.set_cons_succ]
      refine wpAny_take (i := 7) (oi := _) (v := (.slice (some ⟨g, 9 + used, none⟩) (64 - used) (64 - used))) rfl (by kernel_rfl) (by kernel_rfl) (by kernel_rfl) (fun _ _ _ h => h) (Or.inl ⟨by rfl, fun w' => by go_simp; omega⟩) ?_
      try simp only [Act.put, List.getElem_toArray, List.getElem_cons_succ, List.getElem_cons_zero, List.setIfInBounds_toArray, List.set_cons_zero, List.set_cons_succ]
      refine wpAny_ready (rs := [9]) (by kernel_rfl) (by simp) ?_
      refine AllReady.cons (o := _) rfl (fun K hK => ?_) AllReady.nil
      rw [if_pos (by rfl)]
      refine Lib.wp_copy_run _ (.tmp 15) (.tmp 16) _ _ rfl _ _ rfl rfl (hrun _) ?_
      refine hK _ _ ?_
      clear hK K hrun c73
      try simp only [Act.put, List.getElem_toArray, List.getElem_cons_succ, List.getElem_cons_zero, List.setIfInBounds_toArray, List.set_cons_zero, List.set_cons_succ]
      refine wpAny_take (i := 10) (oi := _) (v := (goInt m)) rfl (by kernel_rfl) (by kernel_rfl) (by kernel_rfl) (fun _ _ _ h => h) (Or.inl ⟨by rfl, fun w' => by go_simp⟩) ?_
      try simp only [Act.put, List.getElem_toArray, List.getElem_cons_succ, List.getElem_cons_zero, List.setIfInBounds_toArray, List.set_cons_zero, List.set_cons_succ]
      refine wpAny_done (by kernel_rfl) ?_ _
      clear hu0 hu1 hu2
      generalize wr.drew.setCells g (9 + used) (cl .u8 ((nb u).take m)) = W2 at *
      have hmi0 : (0 : Int) ≤ m := by omega
      have hmi1 : (m : Int) ≤ u.size := by omega
      go_wp2_with fail
      go_at_call 30
      refine (took_at g m n used (T ++ D) h buf ((nb u).take m) W2 w H2.out HS.out hub hUL.out T2.out hg O2.out (by have := HN.out; have := HZ.out; omega) (by omega)).mono ?_
      rintro e w' ⟨rfl, hs3, ho3, hoW⟩
      have hd1 : nb s = (D ++ (nb u).take m) ++ nb (u.extract m u.size) := by
        rw [nb_extract, List.append_assoc, List.take_append_drop]; exact HE.out
      have hR3 : WtR w g T s (u.extract m u.size) (D ++ (nb u).take m) w' := ⟨by rw [← List.append_assoc]; exact hs3, T2.out.only hg (by exact hoW), ho3, hd1⟩
      have HR3 := Lib.hid hR3
      clear hR3 hd1 hs3 ho3 hoW H2 HS hUL T2 O2 HN HZ HE HM
      go_wp2_with fail
      go_roundw
      case rel => exact ⟨_, _, rfl, HR3.out⟩
      case measure => simp [strLen]; omega

/-- a slice's bytes, none of them in block g -/
structure RdB (w : World) (g : Nat) (A : Option Addr) (xs : List Nat) : Prop where
  at_ : 0 < xs.length → ∃ ad, A = some ad ∧ ad.block ≠ g ∧ ad.block < w.heap.size ∧ ∀ j, j < xs.length → w.cell? (ad.add j) = some (.int .u8 (xs.getD j 0 : Nat))
theorem RdB.only {w w' : World} {g : Nat} {A : Option Addr} {xs : List Nat} (h : RdB w g A xs) (ho : w.grownBy w' (some g)) : RdB w' g A xs := ⟨fun h0 => by
  obtain ⟨ad, rfl, h1, h2, h3⟩ := h.at_ h0
  have hb : ∀ j, (ad.add j).block = ad.block := fun j => by unfold Addr.add; split <;> rfl
  exact ⟨ad, rfl, h1, Nat.lt_of_lt_of_le h2 ho.size, fun j hj => by
    rw [World.cell?_of_block (ho.block (ad.add j).block (by rw [hb]; exact h2) (by rw [hb]; simp; omega))]
    exact h3 j hj⟩⟩
theorem add_add (a : Addr) (i j : Nat) : (a.add i).add j = a.add (i + j) := by
  unfold Addr.add
  by_cases hi : i = 0 <;> by_cases hj : j = 0 <;> simp [hi, hj, Nat.add_assoc]
theorem RdB.cut {w : World} {g : Nat} {A : Option Addr} {xs : List Nat} (h : RdB w g A xs) (k cap : Nat) (hk : k ≤ xs.length) (hc : xs.length ≤ cap) : RdB w g (if cap = k then A else A.map (·.add k)) (xs.drop k) := ⟨fun h0 => by
  rw [List.length_drop] at h0
  obtain ⟨ad, rfl, h1, h2, h3⟩ := h.at_ (by omega)
  have hb : ∀ j, (ad.add j).block = ad.block := fun j => by unfold Addr.add; split <;> rfl
  rw [if_neg (by omega)]
  refine ⟨ad.add k, rfl, by rw [hb]; exact h1, by rw [hb]; exact h2, fun j hj => ?_⟩
  rw [List.length_drop] at hj
  rw [add_add, h3 (k + j) (by omega)]
  congr 3
  simp [List.getD_eq_getElem?_getD, List.getElem?_drop]⟩

/-- how long a slice is that lies in a slot -/
def slcLen : Value → Nat | .slice _ n _ => n | _ => 0

structure WrR (w0 : World) (g : Nat) (T xs ys : List Nat) (A : Option Addr) (D : List Nat) (wr : World) : Prop where
  st : StAt wr g (T ++ D)
  tab : Tab wr
  ot : w0.grownBy wr (some g)
  eq : xs = D ++ ys
  rd : RdB wr g A ys

end Go.Proofs.YtlcppkcclolgcaaDoor.Hs

namespace Go.Proofs.YtlcppkcclolgcaaDoor.Hs
set_option maxRecDepth 20000
set_option linter.unusedVariables false
set_option linter.unusedSimpArgs false
open Go.RowKit

theorem info74 : (Tryd.prog.info? 77).map (·.size) = some 74 := by kernel_rfl
theorem under74 : ∃ d, Tryd.prog.underlying 77 = some d ∧ d.isRow = true := ⟨_, Tryd.underlying77, rfl⟩
theorem stc_one (n : Nat) (h buf : List Nat) (used : Nat) : ∀ v ∈ stc n h buf used, v.oneCell' = true := by
  intro v hv
  simp only [stc, List.mem_cons, List.mem_append, List.not_mem_nil, or_false] at hv
  rcases hv with rfl | h | h | rfl
  · rfl
  · exact cl_one _ _ _ h
  · exact cl_one _ _ _ h
  · rfl
theorem only_row {w w' : World} {g : Nat} {cs : Array Value} (h : w.grownBy w' (some g)) : w.grownBy (w'.setRow g cs) (some g) :=
  ⟨h.os, h.tape, h.output, by simpa using h.size, fun i hi hne => (setRow_other w' g i cs (by simpa using fun e => hne (by rw [e]))).trans (h.block i hi hne)⟩

set_option maxRecDepth 100000 in
set_option maxHeartbeats 1000000 in
theorem reset_any (g : Nat) (old : Array Value) (w : World) (hrow : w.heap[g]? = some (.cells old 77 (0, 0))) (hold : old.size = 74) (hT : Tab w) :
    Calls Tryd.prog 25 #[.pointer (some ⟨g, 0, none⟩)] w (WtOut w g []) := by
  obtain ⟨TS, hS⟩ := hT.s
  have hout : WtOut w g [] (.returned (.tuple #[])) (w.setRow g (stc 0 ST (List.replicate 64 0) 0).toArray) :=
    ⟨rfl, ⟨_, _, _, _, ⟨setRow_heap _ _ _ _ _ _ hrow, rfl, by simp⟩, Stt.start⟩, only_row (World.grownBy.refl w _)⟩
  have HO := Lib.hid hout
  clear hout
  go_enter Tryd.func25, Tryd.ntmps25
  go_wp2_with (first | (with_reducible refine wpList_load_row rfl 74 _ rfl 0 rfl TS (cw .u32 ST) (0, 0) _ hS Tryd.underlying74 rfl (by kernel_rfl) ?_) | (refine wpList_build_to rfl 77 _ rfl (stc 0 ST (List.replicate 64 0) 0).toArray (by kernel_rfl) ?_) | (with_reducible refine wpList_store_row rfl 77 _ _ rfl g _ rfl rfl 77 old hrow ?_ ?_ ?_ ?_))
  · kernel_rfl
  · exact hold
  · exact all_oneCell_toArray (stc_one _ _ _ _)
  · go_wp2_with fail
    go_end0
    exact HO.out

/-- a new State is handed back -/
def NewOut (w : World) (T : List Nat) (e : Ending) (w' : World) : Prop := ∃ g, w.heap.size ≤ g ∧ e = .returned (.pointer (some ⟨g, 0, none⟩)) ∧ StAt w' g T ∧ Below w.heap.size w w'

set_option maxRecDepth 100000 in
set_option maxHeartbeats 1000000 in
theorem new_any (w : World) (hT : Tab w) : Calls Tryd.prog 8 #[] w (NewOut w []) := by
  have h1 : (w.alloc (.cells (stc 0 (List.replicate 8 0) (List.replicate 64 0) 0).toArray 77)).heap[w.heap.size]? = some (.cells (stc 0 (List.replicate 8 0) (List.replicate 64 0) 0).toArray 77 (0, 0)) := heap_alloc_new _ _
  have hb : Below w.heap.size w (w.alloc (.cells (stc 0 (List.replicate 8 0) (List.replicate 64 0) 0).toArray 77)) := (Below.refl _ _).alloc (Nat.le_refl _) _
  have hT2 := hT.below hb hT.two
  have H1 := Lib.hid h1
  have HB := Lib.hid hb
  have HT := Lib.hid hT2
  clear h1 hb hT2 hT
  go_enter Tryd.func8, Tryd.ntmps8
  go_wp2_with (first | (refine wpList_build_to rfl 77 _ rfl (stc 0 (List.replicate 8 0) (List.replicate 64 0) 0).toArray (by kernel_rfl) ?_))
  refine (reset_any w.heap.size _ _ H1.out (by rw [List.size_toArray, stc_length rfl (by simp)]) HT.out).mono ?_
  rintro e w' ⟨rfl, hs, ho⟩
  have hout : NewOut w [] (.returned (.pointer (some ⟨w.heap.size, 0, none⟩))) w' := ⟨_, Nat.le_refl _, rfl, hs, only_new HB.out ho (by simp) (Nat.le_refl _)⟩
  have HO := Lib.hid hout
  clear hs ho H1 HB HT hout
  go_wp2_with fail
  go_ret
  exact HO.out

end Go.Proofs.YtlcppkcclolgcaaDoor.Hs

namespace Go.Proofs.YtlcppkcclolgcaaDoor.Hs
set_option maxRecDepth 20000
set_option linter.unusedVariables false
open Go.RowKit
/-- so many zeros -/
def zr (n : Nat) : List Nat := List.replicate n 0
end Go.Proofs.YtlcppkcclolgcaaDoor.Hs

namespace Go.Proofs.YtlcppkcclolgcaaDoor.Hs.PadwShaOf
set_option linter.unusedVariables false
open Go.RowKit Go.Proofs.YtlcppkcclolgcaaDoor.PPad Go.Proofs.YtlcppkcclolgcaaDoorW.PrintWords Go.Proofs.YtlcppkcclolgcaaDoorW.PrintLast

/-- how many zero bytes stand behind the first -/
def zs (n : Int) : Nat := ((119 - n % 64) % 64).toNat
/-- byte i of the length in bits -/
def bx (n : Int) (i : Nat) : Int := (n * 8 % 18446744073709551616) / 2 ^ (8 * i) % 256
def tail8 (n : Int) : List Int := [bx n 7, bx n 6, bx n 5, bx n 4, bx n 3, bx n 2, bx n 1, bx n 0]
def padL (n : Int) : List Int := 128 :: (List.replicate (zs n) 0 ++ tail8 n)

theorem zs_le (n : Int) : zs n ≤ 63 := by unfold zs; omega

theorem shr8 (x : Int) (i : Nat) (hi : i < 8) : shr .u64 x (8 * (i : Int)) = x / 2 ^ (8 * i) := by
  unfold shr
  have h1 : (8 * (i : Int)).toNat = 8 * i := by omega
  have h2 : IntKind.u64.bits = 64 := rfl
  rw [h1, h2, Nat.min_eq_left (by omega)]

theorem step (k : Nat) (xs : List Int) (x : Int) (i : Nat) (hi : i < 8) (h1 : 9 ≤ xs.length) (h2 : xs.length ≤ 100) :
    sha_Pad.l0 (k + 1) xs x (i : Int) = sha_Pad.l0 k (xs.set (xs.length - 1 - i) (x / 2 ^ (8 * i) % 256)) x ((i + 1 : Nat) : Int) := by
  have e0 : wrap64 (8 * (i : Int)) = 8 * (i : Int) := by unfold wrap64; omega
  have e1 : wrap64 ((xs.length : Int) - 1) = (xs.length : Int) - 1 := by unfold wrap64; omega
  have e2 : wrap64 ((xs.length : Int) - 1 - (i : Int)) = (xs.length : Int) - 1 - (i : Int) := by unfold wrap64; omega
  have e3 : wrap64 ((i : Int) + 1) = ((i + 1 : Nat) : Int) := by unfold wrap64; omega
  have e4 : ((xs.length : Int) - 1 - (i : Int)).toNat = xs.length - 1 - i := by omega
  simp only [sha_Pad.l0]
  rw [if_pos (by omega), e0, e1, e2, e3, e4, if_pos (by omega), if_pos (by omega), if_pos (by omega), shr8 x i hi]

theorem set_tail (A : List Int) (b0 b1 b2 b3 b4 b5 b6 b7 : Int) :
    ((((((((A ++ [b0, b1, b2, b3, b4, b5, b6, b7]) : List Int)))))).length = A.length + 8) := by simp

theorem set_app (A B : List Int) (j : Nat) (v : Int) : (A ++ B).set (A.length + j) v = A ++ B.set j v := by
  rw [List.set_append_right _ _ (by omega)]
  congr 2; omega

theorem loop (A : List Int) (x : Int) (h1 : 1 ≤ A.length) (h2 : A.length ≤ 90) (k : Nat) :
    sha_Pad.l0 (k + 9) (A ++ [0, 0, 0, 0, 0, 0, 0, 0]) x 0 =
      some (strOfNums (A ++ [x / 2 ^ 56 % 256, x / 2 ^ 48 % 256, x / 2 ^ 40 % 256, x / 2 ^ 32 % 256, x / 2 ^ 24 % 256, x / 2 ^ 16 % 256, x / 2 ^ 8 % 256, x / 2 ^ 0 % 256])) := by
  have st : ∀ (k : Nat) (B : List Int) (i : Nat), i < 8 → B.length = 8 → sha_Pad.l0 (k + 1) (A ++ B) x (i : Int) = sha_Pad.l0 k (A ++ B.set (7 - i) (x / 2 ^ (8 * i) % 256)) x ((i + 1 : Nat) : Int) := by
    intro k B i hi hB
    rw [step k _ x i hi (by simp; omega) (by simp; omega)]
    rw [show (A ++ B).length - 1 - i = A.length + (7 - i) by simp; omega, set_app]
  show sha_Pad.l0 (k + 8 + 1) _ x ((0 : Nat) : Int) = _
  rw [st (k + 8) _ 0 (by omega) rfl, st (k + 7) _ 1 (by omega) rfl, st (k + 6) _ 2 (by omega) rfl, st (k + 5) _ 3 (by omega) rfl, st (k + 4) _ 4 (by omega) rfl, st (k + 3) _ 5 (by omega) rfl, st (k + 2) _ 6 (by omega) rfl, st (k + 1) _ 7 (by omega) rfl]
  simp only [sha_Pad.l0]
  rw [if_neg (by omega)]
  rfl

theorem wrapu (n : Int) : IntKind.u64.wrap (IntKind.u64.wrap n * 8) = n * 8 % 18446744073709551616 := by
  have e : ∀ m : Int, IntKind.u64.wrap m = m % 18446744073709551616 := fun m => by simp [IntKind.wrap, IntKind.bits, IntKind.signed]
  rw [e, e]; omega

theorem pad_is (n : Int) (h : 0 ≤ n) (h' : n ≤ 9223372036854775807) (k : Nat) : sha_Pad.f (k + 9) n = some (strOfNums (padL n)) := by
  unfold sha_Pad.f
  rw [if_neg (by omega)]
  have e : wrap64 (wrap64 (1 + (wrap64 (119 - n.tmod 64)).tmod 64) + 8) = (zs n : Int) + 9 := by
    rw [Int.tmod_eq_emod_of_nonneg h]
    have h0 : wrap64 (119 - n % 64) = 119 - n % 64 := by unfold wrap64; omega
    rw [h0, Int.tmod_eq_emod_of_nonneg (by omega)]
    unfold zs wrap64
    omega
  rw [e, wrapu n]
  have hz := zs_le n
  rw [if_pos (by omega), if_pos (by omega)]
  simp only [Option.bind_some, List.length_replicate]
  rw [if_pos (by omega)]
  have e2 : (List.replicate ((zs n : Int) + 9).toNat 0 : List Int).set (0 : Int).toNat 128 = (128 :: List.replicate (zs n) 0) ++ [0, 0, 0, 0, 0, 0, 0, 0] := by
    rw [show ((zs n : Int) + 9).toNat = zs n + 8 + 1 by omega, List.replicate_succ, show (0 : Int).toNat = 0 from rfl, List.set_cons_zero, ← List.replicate_append_replicate]
    rfl
  rw [e2, loop _ _ (by simp) (by simp; omega)]
  simp only [padL, tail8, bx]
  rfl

theorem pad_neg (n : Int) (h : n < 0) (k : Nat) : sha_Pad.f k n = some ⟨#[]⟩ := by
  unfold sha_Pad.f; rw [if_pos h]

theorem str_app (xs ys : List Int) : strOfNums (xs ++ ys) = strOfNums xs ++ strOfNums ys := by
  apply ByteArray.ext
  simp [strOfNums]
theorem str_size (xs : List Int) : (strOfNums xs).size = xs.length := by
  simp [strOfNums, ByteArray.size]
theorem bt_str (xs : List Int) (i : Nat) (h : i < xs.length) (hb : 0 ≤ xs[i] ∧ xs[i] < 256) : bt (strOfNums xs) (i : Int) = xs[i] := by
  unfold bt
  rw [dif_pos (by rw [str_size]; omega)]
  have e : (strOfNums xs)[(i : Int).toNat]'(by rw [str_size]; omega) = UInt8.ofNat xs[i].toNat := by
    simp [strOfNums, ByteArray.getElem_eq_getElem_data]
  rw [e]
  simp
  omega
theorem bx_bound (n : Int) (i : Nat) : 0 ≤ bx n i ∧ bx n i < 256 := by unfold bx; omega
theorem padL_length (n : Int) : (padL n).length = zs n + 9 := by simp [padL, tail8]
end Go.Proofs.YtlcppkcclolgcaaDoor.Hs.PadwShaOf

namespace Go.Proofs.YtlcppkcclolgcaaDoor.Hs
set_option maxRecDepth 20000
set_option linter.unusedVariables false
set_option linter.unusedSimpArgs false
open Go.RowKit Go.Proofs.YtlcppkcclolgcaaDoor.PPad Go.Proofs.YtlcppkcclolgcaaDoorW.PrintWords Go.Proofs.YtlcppkcclolgcaaDoorW.PrintLast
open Go.Proofs.YtlcppkcclolgcaaDoor.Hs.PadwShaOf

theorem nb_nums : ∀ xs : List Int, (∀ x ∈ xs, 0 ≤ x ∧ x < 256) → nb (strOfNums xs) = xs.map Int.toNat := by
  intro xs h
  simp only [nb, strOfNums, List.map_map]
  apply List.map_congr_left
  intro x hx
  have := h x hx
  simp
  omega
theorem padL_bound (n : Int) : ∀ x ∈ padL n, 0 ≤ x ∧ x < 256 := by
  intro x hx
  simp only [padL, tail8, List.mem_cons, List.mem_append, List.mem_replicate, List.not_mem_nil, or_false] at hx
  rcases hx with rfl | ⟨_, rfl⟩ | rfl | rfl | rfl | rfl | rfl | rfl | rfl | rfl
  · omega
  · omega
  all_goals exact bx_bound _ _
theorem bx_nat (n i : Nat) : (bx (n : Int) i).toNat = bxN n i := by
  unfold bx bxN
  have e : ((n : Int) * 8 % 18446744073709551616) / 2 ^ (8 * i) % 256 = ((n * 8 % 18446744073709551616 / 2 ^ (8 * i) % 256 : Nat) : Int) := by
    have h : ∀ M P : Nat, ((n : Int) * 8 % (M : Int)) / (P : Int) % 256 = ((n * 8 % M / P % 256 : Nat) : Int) := by
      intro M P
      rw [Int.natCast_emod, Int.natCast_ediv, Int.natCast_emod, Int.natCast_mul]
      rfl
    have h2 := h 18446744073709551616 (2 ^ (8 * i))
    rw [Int.natCast_pow] at h2
    exact h2
  rw [e, Int.toNat_natCast]
theorem padL_nat (n : Nat) : (padL (n : Int)).map Int.toNat = padN n := by
  have hz : zs (n : Int) = zsN n := by unfold zs zsN; omega
  simp only [padL, tail8, padN, List.map_cons, List.map_append, List.map_replicate, List.map_nil, bx_nat, hz]
  rfl

/-- a padding is handed back -/
def PadOut (w : World) (n : Nat) (e : Ending) (w' : World) : Prop := ∃ s : ByteArray, e = .returned (.string s) ∧ nb s = padN n ∧ Below w.heap.size w w'
theorem spad_any (n : Nat) (h : n ≤ 9223372036854775807) (w : World) : Calls Tryd.prog 33 #[.int .i64 (n : Int)] w (PadOut w n) :=
  (sha_Pad.calls 9 n _ w (pad_is n (by omega) (by omega) 0)).mono fun _ _ ⟨he, hb⟩ => ⟨_, he, by rw [nb_nums _ (padL_bound n), padL_nat], hb⟩
end Go.Proofs.YtlcppkcclolgcaaDoor.Hs

namespace Go.Proofs.YtlcppkcclolgcaaDoor.Hs
set_option maxRecDepth 20000


/-- the cells of a row of numbers -/
def cwE (k : IntKind) (xs : List Nat) : Array Value := (xs.map fun (x : Nat) => Value.int k (x : Int)).toArray

theorem eqr_part {P : Program} {k : IntKind} {e : TypeId} (he : P.underlying e = some (.int k)) (xs : List Nat) (i : Nat) (h : i < xs.length) (w : World) :
    (part e (cwE k xs) (i * 1)).run P w = .ok (.int k (xs.getD i 0 : Nat)) w := by
  have hx : (cwE k xs)[i * 1]? = some (.int k (xs.getD i 0 : Nat)) := by simp [cwE, h]
  simp only [part, isAgg, Sem.run_bind, run_underlying he, Result.andThen_ok, Sem.run_pure, Bool.false_eq_true, if_false, hx]

theorem eqr_items {P : Program} {k : IntKind} {e : TypeId} (he : P.underlying e = some (.int k)) (d : Nat) (xs ys : List Nat) (w : World) :
    ∀ is : List Nat, (∀ i ∈ is, i < xs.length ∧ i < ys.length) → (Op.eqItems (d + 1) e 1 (cwE k xs) (cwE k ys) is).run P w = .ok (is.all fun i => xs.getD i 0 == ys.getD i 0) w
  | [], _ => rfl
  | i :: is, h => by
    have hi := h i (by simp)
    have ih := eqr_items he d xs ys w is (fun j hj => h j (by simp [hj]))
    have hb : (((xs.getD i 0 : Nat) : Int) == ((ys.getD i 0 : Nat) : Int)) = (xs.getD i 0 == ys.getD i 0) := by
      rw [Bool.eq_iff_iff]; simp only [beq_iff_eq]; omega
    simp only [Op.eqItems, Sem.run_bind, eqr_part he xs i hi.1 w, eqr_part he ys i hi.2 w, run_equalIn_int w d e k k _ _ he, Result.andThen_ok, hb, List.all_cons]
    cases (xs.getD i 0 == ys.getD i 0)
    · rfl
    · simpa using ih

theorem eqr_all : ∀ (xs ys : List Nat), xs.length = ys.length → ((List.range xs.length).all fun i => xs.getD i 0 == ys.getD i 0) = decide (xs = ys)
  | [], [], _ => rfl
  | x :: xs, y :: ys, h => by
    have ih := eqr_all xs ys (by simpa using h)
    rw [List.length_cons, List.range_succ_eq_map, List.all_cons, List.all_map]
    simp only [List.getD_cons_zero, Function.comp_def, List.getD_cons_succ, ih]
    rw [Bool.eq_iff_iff]
    simp
  | [], _ :: _, h => by simp at h
  | _ :: _, [], h => by simp at h

/-- '==' of two arrays of 'n' numbers -/
theorem eqr_eql {P : Program} {k : IntKind} {t e : TypeId} {n : Nat} {inf : TypeInfo} (ht : P.underlying t = some (.array n e)) (he : P.underlying e = some (.int k)) (hi : P.info? e = some inf) (hc : P.cellsOf e = 1)
    (xs ys : List Nat) (hx : xs.length = n) (hy : ys.length = n) (w : World) :
    (binOp .eql t (.agg (cwE k xs)) (.agg (cwE k ys))).run P w = .ok (.bool (decide (xs = ys))) w := by
  have h := run_equalIn_array (w := w) 9999 (cwE k xs) (cwE k ys) ht hi
  rw [hc, eqr_items he 9998 xs ys w _ (fun i hm => by have := List.mem_range.1 hm; omega), ← hx, eqr_all xs ys (hx.trans hy.symm)] at h
  rw [run_eql_struct, h]
  rfl
/-- '!=' of two arrays of 'n' numbers -/
theorem eqr_neq {P : Program} {k : IntKind} {t e : TypeId} {n : Nat} {inf : TypeInfo} (ht : P.underlying t = some (.array n e)) (he : P.underlying e = some (.int k)) (hi : P.info? e = some inf) (hc : P.cellsOf e = 1)
    (xs ys : List Nat) (hx : xs.length = n) (hy : ys.length = n) (w : World) :
    (binOp .neq t (.agg (cwE k xs)) (.agg (cwE k ys))).run P w = .ok (.bool (!decide (xs = ys))) w := by
  have h := run_equalIn_array (w := w) 9999 (cwE k xs) (cwE k ys) ht hi
  rw [hc, eqr_items he 9998 xs ys w _ (fun i hm => by have := List.mem_range.1 hm; omega), ← hx, eqr_all xs ys (hx.trans hy.symm)] at h
  rw [run_neq_struct, h]
  rfl
end Go.Proofs.YtlcppkcclolgcaaDoor.Hs

namespace Go.Proofs.YtlcppkcclolgcaaDoor.Hs
set_option maxRecDepth 20000
set_option linter.unusedVariables false
set_option linter.unusedSimpArgs false
open Go.RowKit

theorem size_u32 : ∀ w, (Go.sizeOf 73).run Tryd.prog w = .ok 1 w := by
  intro w
  have h : (Tryd.prog.info? 73).map (·.size) = some 1 := by kernel_rfl
  cases hq : Tryd.prog.info? 73 with
  | none => simp [hq] at h
  | some i =>
    have hi : i.size = 1 := by simpa [hq] using h
    simp [sizeOf, typeInfo, hq, hi]

/-- one number out of a row by value -/
theorem run_index_row {P : Program} {t e : TypeId} {n : Nat} {kk : IntKind} (ht : P.underlying t = some (.array n e)) (he : P.underlying e = some (.int kk)) (hz : ∀ w, (Go.sizeOf e).run P w = .ok 1 w)
    (xs : List Nat) (hx : xs.length = n) (i : Nat) (hi : i < n) (w : World) : (Instr.index t (.agg (cl kk xs).toArray) (.int .i64 (i : Int))).run P w = .ok (.int kk (xs.getD i 0 : Nat)) w := by
  have hp := eqr_part (P := P) (k := kk) (e := e) he xs i (by omega) w
  have h1 : (0 : Int) ≤ i ∧ (i : Int) < n := by omega
  unfold Instr.index
  simp only [asIntOf, Sem.run_bind, Sem.run_pure, Result.andThen_ok, run_underlying ht, h1, and_self, if_true, hz, Int.toNat_natCast]
  exact hp

/-- the digest's bytes, so far -/
def dgs (h : List Nat) : Nat → List Nat
  | 0 => List.replicate 32 0
  | k + 1 => ((((dgs h k).set (4 * k) (h.getD k 0 / 16777216 % 256)).set (4 * k + 1) (h.getD k 0 / 65536 % 256)).set (4 * k + 2) (h.getD k 0 / 256 % 256)).set (4 * k + 3) (h.getD k 0 % 256)
theorem dgs_length (h : List Nat) : ∀ k, (dgs h k).length = 32
  | 0 => by simp [dgs]
  | k + 1 => by simp [dgs, dgs_length h k]
theorem dgs_is (h : List Nat) (hl : h.length = 8) : ∀ k, k ≤ 8 → dgs h k = dig (h.take k) ++ List.replicate (32 - 4 * k) 0
  | 0, _ => by simp [dgs, dig]
  | k + 1, hk => by
    rw [dgs, dgs_is h hl k (by omega), List.take_succ_eq_append_getElem (by omega)]
    have e1 : (dig (h.take k)).length = 4 * k := by rw [dig_length, List.length_take]; omega
    have e2 : 32 - 4 * k = (32 - 4 * (k + 1)) + 4 := by omega
    have e3 : h.getD k 0 = h[k] := by simp [List.getD_eq_getElem?_getD, show k < h.length by omega]
    rw [e2, List.replicate_succ, List.replicate_succ, List.replicate_succ, List.replicate_succ, e3]
    simp only [dig, List.flatMap_append, List.flatMap_cons, List.flatMap_nil, four, List.append_nil]
    generalize hA : h.take k = A at *
    have e4 : (A.flatMap four).length = 4 * k := e1
    rw [List.set_append_right _ _ (by omega), e4, show 4 * k - 4 * k = 0 by omega]
    simp only [List.set_cons_zero]
    rw [List.set_append_right _ _ (by omega), e4, show 4 * k + 1 - 4 * k = 1 by omega]
    simp only [List.set_cons_succ, List.set_cons_zero]
    rw [List.set_append_right _ _ (by omega), e4, show 4 * k + 2 - 4 * k = 2 by omega]
    simp only [List.set_cons_succ, List.set_cons_zero]
    rw [List.set_append_right _ _ (by omega), e4, show 4 * k + 3 - 4 * k = 3 by omega]
    simp only [List.set_cons_succ, List.set_cons_zero, List.append_assoc, List.cons_append, List.nil_append]
theorem dgs_all (h : List Nat) (hl : h.length = 8) : dgs h 8 = dig h := by
  rw [dgs_is h hl 8 (Nat.le_refl _), List.take_of_length_le (by omega)]
  simp

/-- what stands in memory while the digest is written out: the result's block, the digest's -/
structure SmH (w wr : World) (bd : Nat) (d : List Nat) : Prop where
  o : w.heap.size < bd
  size : bd < wr.heap.size
  hr : wr.heap[w.heap.size]? = some (.cells (cw .u8 (zr 32)) 46 (0, 0))
  hd : wr.heap[bd]? = some (.cells (cw .u8 d) 46 (0, 0))
  below : Below w.heap.size w wr
theorem SmH.store {w wr : World} {bd : Nat} {d : List Nat} (H : SmH w wr bd d) (i x : Nat) : SmH w (wr.setCell ⟨bd, i, none⟩ (.int .u8 (x : Int))) bd (d.set i x) :=
  have h1 := H.o
  ⟨h1, by simpa [World.setCell] using H.size, row_other H.hr (by omega), row_store H.hd i x, H.below.setCell (by simp; omega) _⟩

theorem info32 : (Tryd.prog.info? 46).map (·.size) = some 32 := by kernel_rfl

set_option maxRecDepth 100000 in
set_option maxHeartbeats 2000000 in
theorem sum_any (g : Nat) (T : List Nat) (w : World) (hst : StAt w g T) (hT : Tab w) (hlen : T.length < 2305843009213693952) :
    Calls Tryd.prog 16 #[.pointer (some ⟨g, 0, none⟩)] w fun e w' => e = .returned (.agg (cw .u8 (shaL T))) ∧ Below w.heap.size w w' := by
  obtain ⟨n, h, buf, used, hs, hS⟩ := hst
  have hl : (stc n h buf used).length = 74 := stc_length hs.h8 hs.b64
  have i74 : (Tryd.prog.info? 77).map (·.size) = some (stc n h buf used).toArray.size := by rw [List.size_toArray, hl]; exact info74
  obtain ⟨W, hW⟩ : ∃ W, W = w.alloc (.cells (cw .u8 (zr 32)) 46) := ⟨_, rfl⟩
  have hWs : W.heap.size = w.heap.size + 1 := by rw [hW]; simp
  have hWb : Below w.heap.size w W := by rw [hW]; exact (Below.refl _ _).alloc (Nat.le_refl _) _
  have hWr : W.heap[w.heap.size]? = some (.cells (cw .u8 (zr 32)) 46 (0, 0)) := by rw [hW]; exact heap_alloc_new _ _
  have hrow : W.heap[g]? = some (.cells (stc n h buf used).toArray 77 (0, 0)) := (hWb.block g hs.lt).trans hs.row
  obtain ⟨W2, hW2⟩ : ∃ W2, W2 = (W.alloc (.cells (stc 0 (zr 8) (zr 64) 0).toArray 77)).setRow W.heap.size (stc n h buf used).toArray := ⟨_, rfl⟩
  have hnew : NewRow W W2 (stc n h buf used).toArray 77 := by rw [hW2]; exact new_row _ _ _ _
  have hz := (zero_of_info (P := Tryd.prog) (t := 77) (v := .agg (stc 0 (zr 8) (zr 64) 0).toArray) (n := 74) (by kernel_rfl)).1
  have hst2 : StAt W2 (w.heap.size + 1) T := ⟨n, h, buf, used, ⟨by have := hnew.new; rw [hWs] at this; exact this, hs.h8, hs.b64⟩, hS⟩
  have hb2 : Below w.heap.size w W2 := hWb.trans (hnew.below.mono (by omega))
  have hr2 : W2.heap[w.heap.size]? = some (.cells (cw .u8 (zr 32)) 46 (0, 0)) := (hnew.below.block _ (by omega)).trans hWr
  have hT2 : Tab W2 := hT.below hb2 hT.two
  have hnr := heap_alloc_new W (.cells (stc 0 (zr 8) (zr 64) 0).toArray 77)
  have hc0 : W2.cell? ⟨w.heap.size + 1, 0, none⟩ = some (.int .i64 (T.length : Int)) := by
    have h1 := hnew.new
    rw [hWs] at h1
    rw [cell_of_row W2 _ 0 _ _ _ h1, ← hS.n_eq]
    rfl
  have hw2 := hT.two
  rw [hWs] at hnr hW2
  rw [hW2] at hc0
  subst hW
  have HROW := Lib.hid hrow
  have HNR := Lib.hid hnr
  have I74 := Lib.hid i74
  have HL := Lib.hid hl
  have HST := Lib.hid hst2
  have HB2 := Lib.hid hb2
  have HR2 := Lib.hid hr2
  have HT2 := Lib.hid hT2
  have HW2 := Lib.hid hW2
  have hz32 := (zero_of_info (P := Tryd.prog) (t := 46) (v := .agg (cw .u8 (zr 32))) (n := 32) (by kernel_rfl)).1
  clear hrow hnr i74 hl hst2 hb2 hr2 hT2 hW2 hWs hWb hWr hnew hs hS hT
  go_enter Tryd.func16, Tryd.ntmps16
  go_wp2_with (first | (with_reducible refine wpList_load_row rfl 77 _ rfl g rfl 77 (stc n h buf used).toArray (0, 0) _ ?_ Tryd.underlying77 rfl ?_ ?_) | (with_reducible refine wpList_store_row rfl 77 _ _ rfl (w.heap.size + 1) _ rfl rfl 77 (stc 0 (zr 8) (zr 64) 0).toArray ?_ ?_ ?_ ?_ ?_))
  · exact HROW.out
  · exact I74.out
  · exact HNR.out
  · exact I74.out
  · rw [List.size_toArray, List.size_toArray, stc_length rfl rfl, HL.out]
  · exact all_oneCell_toArray (stc_one _ _ _ _)
  · rw [← HW2.out] at hc0
    rw [← HW2.out]
    clear HROW HNR I74 HL HW2
    refine (spad_any T.length (by omega) _).mono ?_
    rintro e w3 ⟨s, rfl, hs, hb3⟩
    have hst3 := HST.out.below hb3 HST.out.lt
    have hT3 := HT2.out.below hb3 HT2.out.two
    have hB3 := HB2.out.trans (hb3.mono (by have := HB2.out.size; omega))
    have hR3 := (hb3.block w.heap.size (by have := HST.out.lt; omega)).trans HR2.out
    have hslen : s.size = (padN T.length).length := by rw [← hs, nb_length]
    have hpl := padN_length T.length
    have hzl := zsN_le T.length
    have HS3 := Lib.hid hst3
    have HT3 := Lib.hid hT3
    have HB3 := Lib.hid hB3
    have HR3 := Lib.hid hR3
    have HS := Lib.hid hs
    have HSL := Lib.hid hslen
    have HPL := Lib.hid hpl
    clear hst3 hT3 hB3 hR3 hs hslen hpl hb3 HST HT2 HB2 HR2 hc0 W2
    go_wp2_with fail
    refine (writeText_any (w.heap.size + 1) T s w3 HS3.out HT3.out (by omega) (by have := HSL.out; have := HPL.out; omega)).mono ?_
    rintro e w4 ⟨rfl, hst4, ho4⟩
    obtain ⟨n4, h4, buf4, used4, hs4, hS4⟩ := hst4
    have hB4 : Below w.heap.size w w4 := only_new HB3.out ho4 (Nat.le_refl _) (by omega)
    have hR4 := (ho4.block w.heap.size (by have := HB3.out.size; have := HS3.out.lt; omega) (by simp)).trans HR3.out
    have hlt4 := hs4.lt
    have hb5 : Below w4.heap.size w4 (w4.alloc (.cells (cw .u8 (zr 32)) 46)) := (Below.refl _ _).alloc (Nat.le_refl _) _
    have hs5 := hs4.below hb5 hs4.lt
    have hsm : SmH w (w4.alloc (.cells (cw .u8 (zr 32)) 46)) w4.heap.size (dgs h4 0) :=
      ⟨by omega, by simp, (hb5.block _ (by omega)).trans hR4, heap_alloc_new _ _, hB4.trans (hb5.mono (by omega))⟩
    have hdig : dig h4 = shaL T := by
      unfold shaL
      rw [hS4.h_eq, HS.out, List.length_append]
    have hrH := hs5.rangeH
    have hh8 := hs4.h8
    have hsm4 := hS4.hs
    have HSM := Lib.hid hsm
    have HDG := Lib.hid hdig
    have HRH := Lib.hid hrH
    have HH8 := Lib.hid hh8
    have i8 : (Tryd.prog.info? 74).map (·.size) = some (cl .u32 h4).length := by rw [cl_length, hh8]; exact info8s
    have I8 := Lib.hid i8
    clear hsm hdig hrH hh8 hs5 hs4 hS4 hB4 hR4 ho4 hb5 HS3 HT3 HB3 HR3 HS HSL HPL i8
    go_wp2_with (first | (with_reducible refine wpList_load_mid rfl 74 _ rfl (w.heap.size + 1) 1 rfl (cl .u32 h4) _ ?_ Tryd.underlying74 rfl ?_ ?_))
    · exact HRH.out
    · exact I8.out
    · go_wp2_with fail
      go_loopw [17] (fun i wx => ∃ k : Nat, k ≤ 8 ∧ i = .int .i64 k ∧ SmH w wx w4.heap.size (dgs h4 k)) (fun i _ => 8 - (intOf i).toNat)
      case atStart => exact ⟨0, by omega, rfl, HSM.out⟩
      case round =>
        clear HSM HRH I8
        obtain ⟨k, hk, rfl, hheld⟩ := hrel
        by_cases hlt : k < 8
        · have hix := fun W => run_index_row (P := Tryd.prog) Tryd.underlying74 Tryd.underlying73 size_u32 h4 HH8.out k hlt W
          have hx := hsm4.get k
          have dl := dgs_length h4 k
          obtain ⟨x, hxe⟩ : ∃ x, x = h4.getD k 0 := ⟨_, rfl⟩
          rw [← hxe] at hx
          have s1 := hheld.store (4 * k) (x / 16777216)
          have s2 := s1.store (4 * k + 1) (x / 65536 % 256)
          have s3 := s2.store (4 * k + 2) (x / 256 % 256)
          have s4 := s3.store (4 * k + 3) (x % 256)
          have e4 : ((((dgs h4 k).set (4 * k) (x / 16777216)).set (4 * k + 1) (x / 65536 % 256)).set (4 * k + 2) (x / 256 % 256)).set (4 * k + 3) (x % 256) = dgs h4 (k + 1) := by rw [dgs, ← hxe, show x / 16777216 % 256 = x / 16777216 by omega]
          rw [e4] at s4
          have c1 := row_cell hheld.hd (4 * k) (by omega)
          have f1 := row_free hheld.hd (4 * k)
          have c2 := row_cell s1.hd (4 * k + 1) (by rw [List.length_set]; omega)
          have f2 := row_free s1.hd (4 * k + 1)
          have c3 := row_cell s2.hd (4 * k + 2) (by rw [List.length_set, List.length_set]; omega)
          have f3 := row_free s2.hd (4 * k + 2)
          have c4 := row_cell s3.hd (4 * k + 3) (by rw [List.length_set, List.length_set, List.length_set]; omega)
          have f4 := row_free s3.hd (4 * k + 3)
          have v1 : (x : Int) / 16777216 = ((x / 16777216 : Nat) : Int) := by omega
          have v2 : (x : Int) / 65536 % 256 = ((x / 65536 % 256 : Nat) : Int) := by omega
          have v3 : (x : Int) / 256 % 256 = ((x / 256 % 256 : Nat) : Int) := by omega
          have v4 : (x : Int) % 256 = ((x % 256 : Nat) : Int) := by omega
          simp only [← v1, ← v2, ← v3, ← v4] at c2 f2 c3 f3 c4 f4 s4
          have S4 := Lib.hid s4
          rw [← hxe] at hix
          clear s1 s2 s3 s4 e4 hheld dl hxe v1 v2 v3 v4
          have t0 : (4 * (k : Int)).toNat = 4 * k := by omega
          have t1 : (4 * (k : Int) + 1).toNat = 4 * k + 1 := by omega
          have t2 : (4 * (k : Int) + 2).toNat = 4 * k + 2 := by omega
          have t3 : (4 * (k : Int) + 3).toNat = 4 * k + 3 := by omega
          have k0 : (0 : Int) ≤ k := by omega
          have k1 : (k : Int) < 8 := by omega
          go_wp2_with fail
          go_roundw
          case rel => exact ⟨k + 1, by omega, by go_num, S4.out⟩
          case measure => simp [intOf]; omega
        · obtain rfl : k = 8 := by omega
          rw [show ((8 : Nat) : Int) = 8 from rfl]
          have hcd := hheld.hd
          have hcr := hheld.hr
          have dl := dgs_length h4 8
          have hfin : Below w.heap.size w (wr.setRow w.heap.size (cw .u8 (dgs h4 8))) := below_setRow hheld.below (Nat.le_refl _) _
          have hrow := setRow_heap wr w.heap.size (cw .u8 (zr 32)) (cw .u8 (dgs h4 8)) 46 (0, 0) hcr
          have h32 : (cw .u8 (dgs h4 8)).size = 32 := by rw [cw_size, dl]
          have hval : dgs h4 8 = shaL T := by rw [dgs_all h4 HH8.out, HDG.out]
          have CD := Lib.hid hcd
          have CR := Lib.hid hcr
          have HF := Lib.hid hfin
          have HW := Lib.hid hrow
          have HV := Lib.hid hval
          have H32 := Lib.hid h32
          clear hcd hcr hfin hrow hval hheld dl hlt hk h32
          go_wp2_with (first | (with_reducible refine wpList_load_row rfl 46 _ rfl w4.heap.size rfl 46 (cw .u8 (dgs h4 8)) (0, 0) _ ?_ Tryd.underlying46 rfl ?_ ?_) | (with_reducible refine wpList_store_row rfl 46 _ _ rfl w.heap.size _ rfl rfl 46 (cw .u8 (zr 32)) ?_ ?_ ?_ ?_ ?_))
          · exact CD.out
          · rw [H32.out]; exact info32
          · exact CR.out
          · rw [H32.out]; exact info32
          · rw [H32.out]; rfl
          · exact cw_one _ _
          · go_wp2_with fail
            refine bodyPost_ret (results_cell_row rfl _ _ w.heap.size 46 _ (0, 0) _ rfl HW.out Tryd.underlying46 rfl (by rw [H32.out]; exact info32)) rfl ⟨?_, HF.out⟩
            rw [HV.out]

set_option maxRecDepth 100000 in
set_option maxHeartbeats 1000000 in
theorem of_any (s : ByteArray) (w : World) (hT : Tab w) (hlen : s.size < 2305843009213693952) :
    Calls Tryd.prog 32 #[.string s] w fun e w' => e = .returned (.agg (cw .u8 (shaL (nb s)))) ∧ Below w.heap.size w w' := by
  obtain ⟨W, hW⟩ : ∃ W, W = w.alloc (.cells (cw .u8 (zr 32)) 46) := ⟨_, rfl⟩
  have hWb : Below w.heap.size w W := by rw [hW]; exact (Below.refl _ _).alloc (Nat.le_refl _) _
  have hWr : W.heap[w.heap.size]? = some (.cells (cw .u8 (zr 32)) 46 (0, 0)) := by rw [hW]; exact heap_alloc_new _ _
  have hWs : W.heap.size = w.heap.size + 1 := by rw [hW]; simp
  have hT2 := hT.below hWb hT.two
  have hw2 := hT.two
  have hz32 := (zero_of_info (P := Tryd.prog) (t := 46) (v := .agg (cw .u8 (zr 32))) (n := 32) (by kernel_rfl)).1
  have HWB := Lib.hid hWb
  have HWR := Lib.hid hWr
  have HWS := Lib.hid hWs
  have HT2 := Lib.hid hT2
  have HW := Lib.hid hW
  clear hWb hWr hT2 hW hWs hT
  go_enter Tryd.func32, Tryd.ntmps32
  go_wp2_with fail
  rw [← HW.out]
  refine (new_any W HT2.out).mono ?_
  rintro e w3 ⟨g, hg, rfl, hst, hb3⟩
  have hT3 := HT2.out.below hb3 HT2.out.two
  have hB3 := HWB.out.trans (hb3.mono (by have := HWB.out.size; omega))
  have hR3 := (hb3.block w.heap.size (by have := HWS.out; omega)).trans HWR.out
  have hgw : w.heap.size + 1 ≤ g := by have := HWS.out; omega
  have HST := Lib.hid hst
  have HT3 := Lib.hid hT3
  have HB3 := Lib.hid hB3
  have HR3 := Lib.hid hR3
  clear hst hT3 hB3 hR3 hb3 HWB HWR HT2 HW HWS hg
  go_wp2_with fail
  refine (writeText_any g [] s w3 HST.out HT3.out (by omega) (by simp; omega)).mono ?_
  rintro e w4 ⟨rfl, hst4, ho4⟩
  rw [List.nil_append] at hst4
  have hT4 := HT3.out.only (by omega) ho4
  have hB4 : Below w.heap.size w w4 := only_new HB3.out ho4 (Nat.le_refl _) (by omega)
  have hR4 := (ho4.block w.heap.size (by have := HST.out.lt; omega) (by simp; omega)).trans HR3.out
  have HST4 := Lib.hid hst4
  have HT4 := Lib.hid hT4
  have HB4 := Lib.hid hB4
  have HR4 := Lib.hid hR4
  clear hst4 hT4 hB4 hR4 ho4 HST HT3 HB3 HR3
  go_wp2_with fail
  refine (sum_any g (nb s) w4 HST4.out HT4.out (by rw [nb_length]; omega)).mono ?_
  rintro e w5 ⟨rfl, hb5⟩
  have hB5 := HB4.out.trans (hb5.mono HB4.out.size)
  have hR5 := (hb5.block w.heap.size (by have := HST4.out.lt; omega)).trans HR4.out
  have hl := shaL_length (nb s)
  have h32 : (cw .u8 (shaL (nb s))).size = 32 := by rw [cw_size, hl]
  have hrow := setRow_heap w5 w.heap.size (cw .u8 (zr 32)) (cw .u8 (shaL (nb s))) 46 (0, 0) hR5
  have hfin : Below w.heap.size w (w5.setRow w.heap.size (cw .u8 (shaL (nb s)))) := below_setRow hB5 (Nat.le_refl _) _
  have HR5 := Lib.hid hR5
  have HROW := Lib.hid hrow
  have HF := Lib.hid hfin
  have H32 := Lib.hid h32
  clear hB5 hR5 hl h32 hrow hfin hb5 HB4 HST4 HT4 HR4
  go_wp2_with (first | (with_reducible refine wpList_store_row rfl 46 _ _ rfl w.heap.size _ rfl rfl 46 (cw .u8 (zr 32)) ?_ ?_ ?_ ?_ ?_))
  · exact HR5.out
  · rw [H32.out]; exact info32
  · rw [H32.out]; rfl
  · exact cw_one _ _
  · go_wp2_with fail
    exact bodyPost_ret (results_cell_row rfl _ _ w.heap.size 46 _ (0, 0) _ rfl HROW.out Tryd.underlying46 rfl (by rw [H32.out]; exact info32)) rfl ⟨rfl, HF.out⟩
end Go.Proofs.YtlcppkcclolgcaaDoor.Hs

namespace Go.Proofs.YtlcppkcclolgcaaDoor.Hs
set_option maxRecDepth 20000
set_option linter.unusedVariables false
set_option linter.unusedSimpArgs false
open Go.RowKit

theorem dig_eq {P : Program} {t e : TypeId} {inf : TypeInfo} (ht : P.underlying t = some (.array 32 e)) (he : P.underlying e = some (.int .u8)) (hi : P.info? e = some inf) (hc : P.cellsOf e = 1) (xs ys : List Nat) (hx : xs.length = 32) (hy : ys.length = 32) (w : World) :
    (binOp .eql t (.agg (cw .u8 xs)) (.agg (cw .u8 ys))).run P w = .ok (.bool (decide (xs = ys))) w := eqr_eql ht he hi hc xs ys hx hy w
theorem dig_same (T : List Nat) (w : World) : (binOp .eql 46 (.agg (cw .u8 (shaL T))) (.agg (cw .u8 (shaL T)))).run Tryd.prog w = .ok (.bool true) w := by
  obtain ⟨inf, hinf⟩ := Option.isSome_iff_exists.1 (show (Tryd.prog.info? 5).isSome = true by kernel_rfl)
  rw [dig_eq Tryd.underlying46 Tryd.underlying5 hinf (by kernel_rfl) _ _ (shaL_length T) (shaL_length T) w, decide_eq_true rfl]
theorem dig_neq {P : Program} {t e : TypeId} {inf : TypeInfo} (ht : P.underlying t = some (.array 32 e)) (he : P.underlying e = some (.int .u8)) (hi : P.info? e = some inf) (hc : P.cellsOf e = 1) (xs ys : List Nat) (hx : xs.length = 32) (hy : ys.length = 32) (w : World) :
    (binOp .neq t (.agg (cw .u8 xs)) (.agg (cw .u8 ys))).run P w = .ok (.bool (!decide (xs = ys))) w := eqr_neq ht he hi hc xs ys hx hy w
theorem dig_nsame (T : List Nat) (w : World) : (binOp .neq 46 (.agg (cw .u8 (shaL T))) (.agg (cw .u8 (shaL T)))).run Tryd.prog w = .ok (.bool false) w := by
  obtain ⟨inf, hinf⟩ := Option.isSome_iff_exists.1 (show (Tryd.prog.info? 5).isSome = true by kernel_rfl)
  rw [dig_neq Tryd.underlying46 Tryd.underlying5 hinf (by kernel_rfl) _ _ (shaL_length T) (shaL_length T) w, decide_eq_true rfl]
  rfl

end Go.Proofs.YtlcppkcclolgcaaDoor.Hs
