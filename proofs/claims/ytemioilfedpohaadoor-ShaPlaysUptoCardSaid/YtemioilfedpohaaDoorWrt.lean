/- The walks of (*sha.State).WriteText and Write. -/
import Derived.Test.YtemioilfedpohaaDoorTook
import Derived.Lib.SlBuf
namespace Go.Proofs.YtemioilfedpohaaDoor
set_option linter.unusedVariables false
set_option linter.unusedSimpArgs false
open Go.RowKit

/-- 'copy(dst, t)' of a string: as many bytes as the shorter has -/
theorem run_copy_text {P : Program} (w : World) (dT sT ty elem : TypeId) (g o dLen dCap n : Nat) (t : ByteArray)
    (hu : P.underlying dT = some (.slice elem)) (hz : ∀ w, (Go.sizeOf elem).run P w = .ok 1 w) (hn : Nat.min t.size dLen = n) (hth : w.there g o n) :
    (Builtin.copy_ #[dT, sT] ty #[.slice (some ⟨g, o, none⟩) dLen dCap, .string t]).run P w = .ok (goInt n) (w.setCells g o (cl .u8 ((nb t).take n))) := by
  have hle : n ≤ t.size := by rw [← hn]; exact Nat.min_le_left _ _
  have hl : (cl .u8 ((nb t).take n)).length = n := by rw [cl_length, List.length_take, nb_length]; omega
  have hst := run_storeCells_cells (P := P) g o (cl .u8 ((nb t).take n)) 0 w (by rw [hl]; simpa using fun j hj => (hth j hj).1) (by rw [hl]; simpa using fun j hj => (hth j hj).2) (cl_one _ _)
  have e : List.take n (List.map (fun b : UInt8 => Value.int IntKind.u8 (b.toNat : Int)) t.data.toList) = cl .u8 ((nb t).take n) := by
    simp [cl, nb, List.map_take]
    rfl
  simp [Builtin.copy_, run_underlying hu, Builtin.lenOf, Builtin.firstCells, hz, hn]
  rw [e, hst]
  rfl

theorem size_u8 : ∀ w, (Go.sizeOf 5).run Tryd.prog w = .ok 1 w := by
  intro w
  have h : (Tryd.prog.info? 5).map (·.size) = some 1 := by kernel_rfl
  cases hq : Tryd.prog.info? 5 with
  | none => simp [hq] at h
  | some i =>
    have hi : i.size = 1 := by simpa [hq] using h
    simp [sizeOf, typeInfo, hq, hi]

/-- what Write, WriteText leave -/
def WtOut (w : World) (g : Nat) (T : List Nat) (e : Ending) (w' : World) : Prop := e = .returned (.tuple #[]) ∧ StAt w' g T ∧ w.grownBy w' (some g)
def WtOut2 (w0 w : World) (g : Nat) (T : List Nat) (e : Ending) (w' : World) : Prop := e = .returned (.tuple #[]) ∧ StAt w' g T ∧ w0.grownBy w' (some g) ∧ w.grownBy w' (some g)

/-- one round behind the copy: took takes the bytes in -/
theorem took_at (g m n used : Nat) (T h buf u : List Nat) (w w0 : World) (hst : IsSt w g n h (over buf used u) used) (hS : Stt T n h buf used) (hu : Bytes u) (hm : u.length = m) (hT : Tab w) (hg : 2 ≤ g) (ho : w0.grownBy w (some g))
    (hn : n + m < 9223372036854775807) (hle : used + m ≤ 64) :
    Calls Tryd.prog 35 #[.pointer (some ⟨g, 0, none⟩), .int .i64 (m : Int)] w (WtOut2 w0 w g (T ++ u)) := by
  subst hm
  by_cases heq : used + u.length = 64
  · refine (took_full g n u.length used h (over buf used u) w hst hS.hs (over_bytes hS.byt hu _) hT hg hn heq).mono ?_
    rintro e w' ⟨rfl, h1, h2⟩
    exact ⟨rfl, ⟨_, _, _, _, h1, hS.full u hu heq⟩, only_trans ho h2, h2⟩
  · refine (took_part g n u.length used h (over buf used u) w hst hn (by omega)).mono ?_
    rintro e w' ⟨rfl, h1, h2⟩
    exact ⟨rfl, ⟨_, _, _, _, h1, hS.more u hu (by omega)⟩, only_trans ho h2, h2⟩

theorem nb_extract (u : ByteArray) (m : Nat) : nb (u.extract m u.size) = (nb u).drop m := by
  have hs : u.data.toList.length = u.size := by simp
  simp only [nb, ByteArray.data_extract, Array.toList_extract, List.extract_eq_drop_take', List.map_drop, List.map_take]
  rw [List.take_of_length_le (by simp)]

/-- how long a string is that lies in a slot -/
def strLen : Value → Nat | .string u => u.size | _ => 0

structure WtR (w0 : World) (g : Nat) (T : List Nat) (s : ByteArray) (u : ByteArray) (D : List Nat) (wr : World) : Prop where
  st : StAt wr g (T ++ D)
  tab : Tab wr
  ot : w0.grownBy wr (some g)
  eq : nb s = D ++ nb u

set_option maxRecDepth 100000 in
set_option maxHeartbeats 2000000 in
theorem writeText_any (g : Nat) (T : List Nat) (s : ByteArray) (w : World) (hst : StAt w g T) (hT : Tab w) (hg : 2 ≤ g) (hlen : T.length + s.size < 4611686018427387904) :
    Calls Tryd.prog 22 #[.pointer (some ⟨g, 0, none⟩), .string s] w (WtOut w g (T ++ nb s)) := by
  have H0 := Lib.hid (show WtR w g T s s [] w from ⟨by simpa using hst, hT, World.grownBy.refl w _, rfl⟩)
  clear hst hT
  go_enter Tryd.func22, Tryd.ntmps22
  go_wp2_with fail
  go_loopw [1] (fun t wr => ∃ (u : ByteArray) (D : List Nat), t = .string u ∧ WtR w g T s u D wr) (fun t _ => strLen t)
  case atStart => exact ⟨s, [], rfl, H0.out⟩
  case round =>
    clear H0
    obtain ⟨u, D, rfl, hR⟩ := hrel
    have hsz : D.length + u.size = s.size := by rw [← nb_length, ← nb_length, hR.eq, List.length_append]
    by_cases h0 : u.size = 0
    · have he : nb u = [] := List.eq_nil_of_length_eq_zero (by rw [nb_length, h0])
      have hout : WtOut w g (T ++ nb s) (.returned (.tuple #[])) wr := ⟨rfl, by rw [hR.eq, he, List.append_nil]; exact hR.st, hR.ot⟩
      have HO := Lib.hid hout
      clear hout hR he hsz
      go_wp2_with fail
      go_end0
      exact HO.out
    · obtain ⟨n, h, buf, used, hs1, hS⟩ := hR.st
      have hlt := hS.lt
      have h1 : 0 < u.size := by omega
      have hneq := hS.n_eq
      rw [List.length_append] at hneq
      obtain ⟨m, hm⟩ : ∃ m, m = Nat.min u.size (64 - used) := ⟨_, rfl⟩
      have hm1 : m ≤ u.size := by rw [hm]; exact Nat.min_le_left _ _
      have hm2 : m ≤ 64 - used := by rw [hm]; exact Nat.min_le_right _ _
      have hm0 : 0 < m := by
        have : m = min u.size (64 - used) := hm
        omega
      have hul : ((nb u).take m).length = m := by rw [List.length_take, nb_length]; omega
      have hub : Bytes ((nb u).take m) := fun x hx => nb_bytes u x (List.mem_of_mem_take hx)
      have hsd : IsSt wr.drew g n h buf used := hs1.far rfl
      have hs2 := hsd.setB used ((nb u).take m) (by rw [hul]; omega)
      have ot2 : w.grownBy (wr.drew.setCells g (9 + used) (cl .u8 ((nb u).take m))) (some g) := only_setCells (cl .u8 ((nb u).take m)) (9 + used) wr.drew (only_drew hR.ot)
      have tab2 : Tab (wr.drew.setCells g (9 + used) (cl .u8 ((nb u).take m))) := hR.tab.only hg (only_setCells _ _ _ (only_drew (World.grownBy.refl wr _)))
      have hth : wr.drew.there g (9 + used) m := hsd.there (9 + used) m (by omega)
      have hrun : ∀ ty, (Builtin.copy_ #[45, 9] ty #[.slice (some ⟨g, 9 + used, none⟩) (64 - used) (64 - used), .string u]).run Tryd.prog wr.drew = .ok (goInt m) (wr.drew.setCells g (9 + used) (cl .u8 ((nb u).take m))) :=
        fun ty => run_copy_text wr.drew _ _ ty 5 g (9 + used) _ _ m u Tryd.underlying45 size_u8 hm.symm hth
      have c73 : wr.drew.cell? ⟨g, 73, none⟩ = some (.int .i64 (used : Int)) := hs1.cell73
      have H2 := Lib.hid hs2
      have O2 := Lib.hid ot2
      have T2 := Lib.hid tab2
      have HE := Lib.hid hR.eq
      have HS := Lib.hid hS
      have HM := Lib.hid hm
      have HN := Lib.hid hneq
      have HZ := Lib.hid hsz
      have hUL := Lib.hid hul
      have hu0 : (0 : Int) ≤ used := by omega
      have hu1 : (used : Int) ≤ 64 := by omega
      have hu2 : (used : Int) < 64 := by omega
      clear hs2 ot2 tab2 hR hs1 hsd hS hneq hm hth hsz hul
      go_wp2_with fail
      refine wp_region_any (by kernel_rfl) ?_
      change wpAny _ _ _ _ _ _ _ (World.drew _)
      refine wpAny_take (i := 0) (oi := _) (v := (.pointer (some ⟨g, 0, none⟩))) rfl (by kernel_rfl) (by kernel_rfl) (by kernel_rfl) (fun _ _ _ h => h) (Or.inl ⟨by rfl, fun w' => by go_simp⟩) ?_
      try simp only [Act.put, List.getElem_toArray, List.getElem_cons_succ, List.getElem_cons_zero, List.setIfInBounds_toArray, List.set_cons_zero, List.set_cons_succ]
      refine wpAny_take (i := 1) (oi := _) (v := (.pointer (some ⟨g, 0, none⟩))) rfl (by kernel_rfl) (by kernel_rfl) (by kernel_rfl) (fun _ _ _ h => h) (Or.inl ⟨by rfl, fun w' => by go_simp⟩) ?_
      try simp only [Act.put, List.getElem_toArray, List.getElem_cons_succ, List.getElem_cons_zero, List.setIfInBounds_toArray, List.set_cons_zero, List.set_cons_succ]
      refine wpAny_take (i := 2) (oi := _) (v := (.pointer (some ⟨g, 9, none⟩))) rfl (by kernel_rfl) (by kernel_rfl) (by kernel_rfl) (fun _ _ _ h => h) (Or.inl ⟨by rfl, fun w' => by go_simp⟩) ?_
      try simp only [Act.put, List.getElem_toArray, List.getElem_cons_succ, List.getElem_cons_zero, List.setIfInBounds_toArray, List.set_cons_zero, List.set_cons_succ]
      refine wpAny_take (i := 3) (oi := _) (v := (.pointer (some ⟨g, 0, none⟩))) rfl (by kernel_rfl) (by kernel_rfl) (by kernel_rfl) (fun _ _ _ h => h) (Or.inl ⟨by rfl, fun w' => by go_simp⟩) ?_
      try simp only [Act.put, List.getElem_toArray, List.getElem_cons_succ, List.getElem_cons_zero, List.setIfInBounds_toArray, List.set_cons_zero, List.set_cons_succ]
      refine wpAny_take (i := 4) (oi := _) (v := (.pointer (some ⟨g, 0, none⟩))) rfl (by kernel_rfl) (by kernel_rfl) (by kernel_rfl) (fun _ _ _ h => h) (Or.inl ⟨by rfl, fun w' => by go_simp⟩) ?_
      try simp only [Act.put, List.getElem_toArray, List.getElem_cons_succ, List.getElem_cons_zero, List.setIfInBounds_toArray, List.set_cons_zero, List.set_cons_succ]
      refine wpAny_take (i := 5) (oi := _) (v := (.pointer (some ⟨g, 73, none⟩))) rfl (by kernel_rfl) (by kernel_rfl) (by kernel_rfl) (fun _ _ _ h => h) (Or.inl ⟨by rfl, fun w' => by go_simp⟩) ?_
      try simp only [Act.put, List.getElem_toArray, List.getElem_cons_succ, List.getElem_cons_zero, List.setIfInBounds_toArray, List.set_cons_zero, List.set_cons_succ]
      refine wpAny_take (i := 8) (oi := _) (v := (.string u)) rfl (by kernel_rfl) (by kernel_rfl) (by kernel_rfl) (fun _ _ _ h => h) (Or.inl ⟨by rfl, fun w' => by go_simp⟩) ?_
      try simp only [Act.put, List.getElem_toArray, List.getElem_cons_succ, List.getElem_cons_zero, List.setIfInBounds_toArray, List.set_cons_zero, List.set_cons_succ]
      refine wpAny_ready (rs := [6]) (by kernel_rfl) (by simp) ?_
      refine AllReady.cons (o := _) rfl (fun K hK => ?_) AllReady.nil
      rw [if_pos (by rfl)]
      go_simp
      refine hK _ _ ?_
      clear hK K
      try simp only [Act.put, List.getElem_toArray, List.getElem_cons_succ, List.getElem_cons_zero, List.setIfInBounds_toArray, List.set_cons_zero, List.set_cons_succ]
      refine wpAny_take (i := 7) (oi := _) (v := (.slice (some ⟨g, 9 + used, none⟩) (64 - used) (64 - used))) rfl (by kernel_rfl) (by kernel_rfl) (by kernel_rfl) (fun _ _ _ h => h) (Or.inl ⟨by rfl, fun w' => by go_simp; omega⟩) ?_
      try simp only [Act.put, List.getElem_toArray, List.getElem_cons_succ, List.getElem_cons_zero, List.setIfInBounds_toArray, List.set_cons_zero, List.set_cons_succ]
      refine wpAny_ready (rs := [9]) (by kernel_rfl) (by simp) ?_
      refine AllReady.cons (o := _) rfl (fun K hK => ?_) AllReady.nil
      rw [if_pos (by rfl)]
      refine Lib.wp_copy_run _ (.tmp 15) (.tmp 16) _ _ rfl _ _ rfl rfl (hrun _) ?_
      refine hK _ _ ?_
      clear hK K hrun c73
      try simp only [Act.put, List.getElem_toArray, List.getElem_cons_succ, List.getElem_cons_zero, List.setIfInBounds_toArray, List.set_cons_zero, List.set_cons_succ]
      refine wpAny_take (i := 10) (oi := _) (v := (goInt m)) rfl (by kernel_rfl) (by kernel_rfl) (by kernel_rfl) (fun _ _ _ h => h) (Or.inl ⟨by rfl, fun w' => by go_simp⟩) ?_
      try simp only [Act.put, List.getElem_toArray, List.getElem_cons_succ, List.getElem_cons_zero, List.setIfInBounds_toArray, List.set_cons_zero, List.set_cons_succ]
      refine wpAny_done (by kernel_rfl) ?_ _
      clear hu0 hu1 hu2
      generalize wr.drew.setCells g (9 + used) (cl .u8 ((nb u).take m)) = W2 at *
      have hmi0 : (0 : Int) ≤ m := by omega
      have hmi1 : (m : Int) ≤ u.size := by omega
      go_wp2_with fail
      go_at_call 35
      refine (took_at g m n used (T ++ D) h buf ((nb u).take m) W2 w H2.out HS.out hub hUL.out T2.out hg O2.out (by have := HN.out; have := HZ.out; omega) (by omega)).mono ?_
      rintro e w' ⟨rfl, hs3, ho3, hoW⟩
      have hd1 : nb s = (D ++ (nb u).take m) ++ nb (u.extract m u.size) := by
        rw [nb_extract, List.append_assoc, List.take_append_drop]; exact HE.out
      have hR3 : WtR w g T s (u.extract m u.size) (D ++ (nb u).take m) w' := ⟨by rw [← List.append_assoc]; exact hs3, T2.out.only hg (by exact hoW), ho3, hd1⟩
      have HR3 := Lib.hid hR3
      clear hR3 hd1 hs3 ho3 hoW H2 HS hUL T2 O2 HN HZ HE HM
      go_wp2_with fail
      go_roundw
      case rel => exact ⟨_, _, rfl, HR3.out⟩
      case measure => simp [strLen]; omega

/-- a slice's bytes, none of them in block g -/
structure RdB (w : World) (g : Nat) (A : Option Addr) (xs : List Nat) : Prop where
  at_ : 0 < xs.length → ∃ ad, A = some ad ∧ ad.block ≠ g ∧ ad.block < w.heap.size ∧ ∀ j, j < xs.length → w.cell? (ad.add j) = some (.int .u8 (xs.getD j 0 : Nat))
theorem RdB.only {w w' : World} {g : Nat} {A : Option Addr} {xs : List Nat} (h : RdB w g A xs) (ho : w.grownBy w' (some g)) : RdB w' g A xs := ⟨fun h0 => by
  obtain ⟨ad, rfl, h1, h2, h3⟩ := h.at_ h0
  have hb : ∀ j, (ad.add j).block = ad.block := fun j => by unfold Addr.add; split <;> rfl
  exact ⟨ad, rfl, h1, Nat.lt_of_lt_of_le h2 ho.size, fun j hj => by
    rw [World.cell?_of_block (ho.block (ad.add j).block (by rw [hb]; exact h2) (by rw [hb]; simp; omega))]
    exact h3 j hj⟩⟩
theorem add_add (a : Addr) (i j : Nat) : (a.add i).add j = a.add (i + j) := by
  unfold Addr.add
  by_cases hi : i = 0 <;> by_cases hj : j = 0 <;> simp [hi, hj, Nat.add_assoc]
theorem RdB.cut {w : World} {g : Nat} {A : Option Addr} {xs : List Nat} (h : RdB w g A xs) (k cap : Nat) (hk : k ≤ xs.length) (hc : xs.length ≤ cap) : RdB w g (if cap = k then A else A.map (·.add k)) (xs.drop k) := ⟨fun h0 => by
  rw [List.length_drop] at h0
  obtain ⟨ad, rfl, h1, h2, h3⟩ := h.at_ (by omega)
  have hb : ∀ j, (ad.add j).block = ad.block := fun j => by unfold Addr.add; split <;> rfl
  rw [if_neg (by omega)]
  refine ⟨ad.add k, rfl, by rw [hb]; exact h1, by rw [hb]; exact h2, fun j hj => ?_⟩
  rw [List.length_drop] at hj
  rw [add_add, h3 (k + j) (by omega)]
  congr 3
  simp [List.getD_eq_getElem?_getD, List.getElem?_drop]⟩

/-- how long a slice is that lies in a slot -/
def slcLen : Value → Nat | .slice _ n _ => n | _ => 0

structure WrR (w0 : World) (g : Nat) (T xs ys : List Nat) (A : Option Addr) (D : List Nat) (wr : World) : Prop where
  st : StAt wr g (T ++ D)
  tab : Tab wr
  ot : w0.grownBy wr (some g)
  eq : xs = D ++ ys
  rd : RdB wr g A ys

set_option maxRecDepth 100000 in
set_option maxHeartbeats 2000000 in
theorem write_any (g : Nat) (T xs : List Nat) (A : Option Addr) (cap : Nat) (w : World) (hst : StAt w g T) (hT : Tab w) (hg : 2 ≤ g) (hlen : T.length + xs.length < 4611686018427387904) (hx : Bytes xs) (hA : RdB w g A xs) (hcap : xs.length ≤ cap) :
    Calls Tryd.prog 27 #[.pointer (some ⟨g, 0, none⟩), .slice A xs.length cap] w (WtOut w g (T ++ xs)) := by
  have H0 := Lib.hid (show WrR w g T xs xs A [] w from ⟨by simpa using hst, hT, World.grownBy.refl w _, rfl, hA⟩)
  clear hst hT hA
  go_enter Tryd.func27, Tryd.ntmps27
  go_wp2_with fail
  go_loopw [1] (fun t wr => ∃ (ys D : List Nat) (A : Option Addr) (cap : Nat), t = .slice A ys.length cap ∧ ys.length ≤ cap ∧ WrR w g T xs ys A D wr) (fun t _ => slcLen t)
  case atStart => exact ⟨xs, [], A, cap, rfl, hcap, H0.out⟩
  case round =>
    clear H0 hcap
    obtain ⟨ys, D, A, cap, rfl, hcap, hR⟩ := hrel
    have hsz : D.length + ys.length = xs.length := by rw [hR.eq, List.length_append]
    by_cases h0 : ys.length = 0
    · have he : ys = [] := List.eq_nil_of_length_eq_zero h0
      have hout : WtOut w g (T ++ xs) (.returned (.tuple #[])) wr := ⟨rfl, by rw [hR.eq, he, List.append_nil]; exact hR.st, hR.ot⟩
      have HO := Lib.hid hout
      clear hout hR he hsz
      go_wp2_with fail
      go_end0
      exact HO.out
    · obtain ⟨n, h, buf, used, hs1, hS⟩ := hR.st
      have hlt := hS.lt
      have h1 : 0 < ys.length := by omega
      have hneq := hS.n_eq
      rw [List.length_append] at hneq
      obtain ⟨m, hm⟩ : ∃ m, m = Nat.min ys.length (64 - used) := ⟨_, rfl⟩
      have hm1 : m ≤ ys.length := by rw [hm]; exact Nat.min_le_left _ _
      have hm2 : m ≤ 64 - used := by rw [hm]; exact Nat.min_le_right _ _
      have hm0 : 0 < m := by
        have : m = min ys.length (64 - used) := hm
        omega
      have hul : (ys.take m).length = m := by rw [List.length_take]; omega
      have hub : Bytes (ys.take m) := fun x hx' => hx x (by rw [hR.eq]; exact List.mem_append_right _ (List.mem_of_mem_take hx'))
      have hsd : IsSt wr.drew g n h buf used := hs1.far rfl
      have hs2 := hsd.setB used (ys.take m) (by rw [hul]; omega)
      have ot2 : w.grownBy (wr.drew.setCells g (9 + used) (cl .u8 (ys.take m))) (some g) := only_setCells (cl .u8 (ys.take m)) (9 + used) wr.drew (only_drew hR.ot)
      have ot2' : wr.grownBy (wr.drew.setCells g (9 + used) (cl .u8 (ys.take m))) (some g) := only_setCells _ _ _ (only_drew (World.grownBy.refl wr _))
      have tab2 : Tab (wr.drew.setCells g (9 + used) (cl .u8 (ys.take m))) := hR.tab.only hg ot2'
      have rd2 := hR.rd.only ot2'
      have hth : wr.drew.there g (9 + used) m := hsd.there (9 + used) m (by omega)
      obtain ⟨ad, hA, hne, hbl, hcells⟩ := hR.rd.at_ h1
      have hrun : ∀ ty, (Builtin.copy_ #[45, 45] ty #[.slice (some ⟨g, 9 + used, none⟩) (64 - used) (64 - used), .slice A ys.length cap]).run Tryd.prog wr.drew = .ok (goInt m) (wr.drew.setCells g (9 + used) (cl .u8 (ys.take m))) := by
        intro ty
        have := run_copy_cells (P := Tryd.prog) wr.drew 45 45 ty 5 g (9 + used) (64 - used) (64 - used) ad ys.length cap (cl .u8 (ys.take m)) Tryd.underlying45 (by kernel_rfl) (by rw [cl_length, hul]; exact hm) (fun j v hv => by
            have hj : j < (cl .u8 (ys.take m)).length := (List.getElem?_eq_some_iff.1 hv).1
            rw [cl_length, hul] at hj
            rw [cl_get _ _ _ (by omega)] at hv
            have e : (ys.take m).getD j 0 = ys.getD j 0 := by simp [List.getD_eq_getElem?_getD, List.getElem?_take, hj]
            rw [e] at hv
            rw [← hv]
            exact hcells j (by omega)) (fun j hj => (hth j (by rw [cl_length, hul] at hj; exact hj)).1) (fun j hj => (hth j (by rw [cl_length, hul] at hj; exact hj)).2) (cl_one _ _)
        rw [hA]
        rw [cl_length, hul] at this
        exact this
      have c73 : wr.drew.cell? ⟨g, 73, none⟩ = some (.int .i64 (used : Int)) := hs1.cell73
      have H2 := Lib.hid hs2
      have O2 := Lib.hid ot2
      have T2 := Lib.hid tab2
      have R2 := Lib.hid rd2
      have HE := Lib.hid hR.eq
      have HS := Lib.hid hS
      have HM := Lib.hid hm
      have HN := Lib.hid hneq
      have HZ := Lib.hid hsz
      have hUL := Lib.hid hul
      have hu0 : (0 : Int) ≤ used := by omega
      have hu1 : (used : Int) ≤ 64 := by omega
      have hu2 : (used : Int) < 64 := by omega
      clear hs2 ot2 ot2' tab2 rd2 hR hs1 hsd hS hneq hm hth hsz hul hA hne hbl hcells
      go_wp2_with fail
      refine wp_region_any (by kernel_rfl) ?_
      change wpAny _ _ _ _ _ _ _ (World.drew _)
      refine wpAny_take (i := 0) (oi := _) (v := (.pointer (some ⟨g, 0, none⟩))) rfl (by kernel_rfl) (by kernel_rfl) (by kernel_rfl) (fun _ _ _ h => h) (Or.inl ⟨by rfl, fun w' => by go_simp⟩) ?_
      try simp only [Act.put, List.getElem_toArray, List.getElem_cons_succ, List.getElem_cons_zero, List.setIfInBounds_toArray, List.set_cons_zero, List.set_cons_succ]
      refine wpAny_take (i := 1) (oi := _) (v := (.pointer (some ⟨g, 0, none⟩))) rfl (by kernel_rfl) (by kernel_rfl) (by kernel_rfl) (fun _ _ _ h => h) (Or.inl ⟨by rfl, fun w' => by go_simp⟩) ?_
      try simp only [Act.put, List.getElem_toArray, List.getElem_cons_succ, List.getElem_cons_zero, List.setIfInBounds_toArray, List.set_cons_zero, List.set_cons_succ]
      refine wpAny_take (i := 2) (oi := _) (v := (.pointer (some ⟨g, 9, none⟩))) rfl (by kernel_rfl) (by kernel_rfl) (by kernel_rfl) (fun _ _ _ h => h) (Or.inl ⟨by rfl, fun w' => by go_simp⟩) ?_
      try simp only [Act.put, List.getElem_toArray, List.getElem_cons_succ, List.getElem_cons_zero, List.setIfInBounds_toArray, List.set_cons_zero, List.set_cons_succ]
      refine wpAny_take (i := 3) (oi := _) (v := (.pointer (some ⟨g, 0, none⟩))) rfl (by kernel_rfl) (by kernel_rfl) (by kernel_rfl) (fun _ _ _ h => h) (Or.inl ⟨by rfl, fun w' => by go_simp⟩) ?_
      try simp only [Act.put, List.getElem_toArray, List.getElem_cons_succ, List.getElem_cons_zero, List.setIfInBounds_toArray, List.set_cons_zero, List.set_cons_succ]
      refine wpAny_take (i := 4) (oi := _) (v := (.pointer (some ⟨g, 0, none⟩))) rfl (by kernel_rfl) (by kernel_rfl) (by kernel_rfl) (fun _ _ _ h => h) (Or.inl ⟨by rfl, fun w' => by go_simp⟩) ?_
      try simp only [Act.put, List.getElem_toArray, List.getElem_cons_succ, List.getElem_cons_zero, List.setIfInBounds_toArray, List.set_cons_zero, List.set_cons_succ]
      refine wpAny_take (i := 5) (oi := _) (v := (.pointer (some ⟨g, 73, none⟩))) rfl (by kernel_rfl) (by kernel_rfl) (by kernel_rfl) (fun _ _ _ h => h) (Or.inl ⟨by rfl, fun w' => by go_simp⟩) ?_
      try simp only [Act.put, List.getElem_toArray, List.getElem_cons_succ, List.getElem_cons_zero, List.setIfInBounds_toArray, List.set_cons_zero, List.set_cons_succ]
      refine wpAny_take (i := 8) (oi := _) (v := (.slice A ys.length cap)) rfl (by kernel_rfl) (by kernel_rfl) (by kernel_rfl) (fun _ _ _ h => h) (Or.inl ⟨by rfl, fun w' => by go_simp⟩) ?_
      try simp only [Act.put, List.getElem_toArray, List.getElem_cons_succ, List.getElem_cons_zero, List.setIfInBounds_toArray, List.set_cons_zero, List.set_cons_succ]
      refine wpAny_ready (rs := [6]) (by kernel_rfl) (by simp) ?_
      refine AllReady.cons (o := _) rfl (fun K hK => ?_) AllReady.nil
      rw [if_pos (by rfl)]
      go_simp
      refine hK _ _ ?_
      clear hK K
      try simp only [Act.put, List.getElem_toArray, List.getElem_cons_succ, List.getElem_cons_zero, List.setIfInBounds_toArray, List.set_cons_zero, List.set_cons_succ]
      refine wpAny_take (i := 7) (oi := _) (v := (.slice (some ⟨g, 9 + used, none⟩) (64 - used) (64 - used))) rfl (by kernel_rfl) (by kernel_rfl) (by kernel_rfl) (fun _ _ _ h => h) (Or.inl ⟨by rfl, fun w' => by go_simp; omega⟩) ?_
      try simp only [Act.put, List.getElem_toArray, List.getElem_cons_succ, List.getElem_cons_zero, List.setIfInBounds_toArray, List.set_cons_zero, List.set_cons_succ]
      refine wpAny_ready (rs := [9]) (by kernel_rfl) (by simp) ?_
      refine AllReady.cons (o := _) rfl (fun K hK => ?_) AllReady.nil
      rw [if_pos (by rfl)]
      refine Lib.wp_copy_run _ (.tmp 15) (.tmp 16) _ _ rfl _ _ rfl rfl (hrun _) ?_
      refine hK _ _ ?_
      clear hK K hrun c73
      try simp only [Act.put, List.getElem_toArray, List.getElem_cons_succ, List.getElem_cons_zero, List.setIfInBounds_toArray, List.set_cons_zero, List.set_cons_succ]
      refine wpAny_take (i := 10) (oi := _) (v := (goInt m)) rfl (by kernel_rfl) (by kernel_rfl) (by kernel_rfl) (fun _ _ _ h => h) (Or.inl ⟨by rfl, fun w' => by go_simp⟩) ?_
      try simp only [Act.put, List.getElem_toArray, List.getElem_cons_succ, List.getElem_cons_zero, List.setIfInBounds_toArray, List.set_cons_zero, List.set_cons_succ]
      refine wpAny_done (by kernel_rfl) ?_ _
      clear hu0 hu1 hu2
      generalize wr.drew.setCells g (9 + used) (cl .u8 (ys.take m)) = W2 at *
      have hmi0 : (0 : Int) ≤ m := by omega
      have hmi1 : (m : Int) ≤ ys.length := by omega
      have hmi2 : (m : Int) ≤ cap := by omega
      have hmi3 : (ys.length : Int) ≤ cap := by omega
      go_wp2_with fail
      all_goals
        go_at_call 35
        refine (took_at g m n used (T ++ D) _ buf (ys.take m) W2 w H2.out HS.out hub hUL.out T2.out hg O2.out (by have := HN.out; have := HZ.out; omega) (by omega)).mono ?_
        rintro e w' ⟨rfl, hs3, ho3, hoW⟩
        have hR3 : WrR w g T xs (ys.drop m) (if cap = m then A else A.map (·.add m)) (D ++ ys.take m) w' :=
          ⟨by rw [← List.append_assoc]; exact hs3, T2.out.only hg hoW, ho3, by rw [List.append_assoc, List.take_append_drop]; exact HE.out, (R2.out.cut m cap hm1 hcap).only hoW⟩
        have HR3 := Lib.hid hR3
        have hdl : (ys.drop m).length = ys.length - m := List.length_drop
        have HDL := Lib.hid hdl
        clear hdl
        clear hR3 hs3 ho3 hoW H2 HS hUL T2 O2 R2 HN HZ HE HM
        go_wp2_with fail
        go_roundw
        case rel => exact ⟨ys.drop m, D ++ ys.take m, if cap = m then A else A.map (·.add m), cap - m, by rw [HDL.out]; first | rw [if_neg ‹_›] | rw [if_pos ‹_›, show cap - m = 0 by omega], by rw [HDL.out]; omega, HR3.out⟩
        case measure => simp [slcLen]; omega
end Go.Proofs.YtemioilfedpohaaDoor

