/- The walk of the law ShaKeeps. -/
import Derived.Test.YtemioilfedpohaaDoorDigEq
import Derived.Test.YtemioilfedpohaaDoorShaCuts
import Derived.Laws.MakeOwn
import Derived.Laws.OwnMore
import Derived.Laws.BytesArg
namespace Go.Proofs.YtemioilfedpohaaDoor
set_option linter.unusedVariables false
set_option linter.unusedSimpArgs false
open Go.RowKit

theorem run_make_u8 (n : Nat) (hn : n ≤ 281474976710656) (W : World) :
    (Instr.makeSlice 45 (.int .i64 (n : Int)) (.int .i64 (n : Int))).run Tryd.prog W = .ok (.slice (some ⟨W.heap.size, 0, none⟩) n n) (W.alloc (.cells (cw .u8 (zr n)) 5)) := by
  obtain ⟨i0, hi, hz0, hz1, hz2⟩ := info_parts (show (Tryd.prog.info? 5).map (fun i => (i.zero, i.size, i.bytes)) = some (some (.int .u8 0), 1, 1) by kernel_rfl)
  have hr := run_make (P := Tryd.prog) W 45 5 i0 (.int .u8 0) Tryd.underlying45 hi hz0 .i64 .i64 (n : Int) (n : Int) (by omega) (by omega) (by rw [hz2]; omega) (by omega)
  rw [hr, hz1, Int.toNat_natCast, Nat.mul_one]
  congr 3
  apply Array.ext'
  rw [show (Value.int .u8 0).cells = #[Value.int .u8 0] from rfl, toList_madeCells_one]
  simp [cw, zr]

/-- the bytes of a slice that came in -/
def natsOf (zs : List Int) (len : Nat) : List Nat := (zs.take len).map Int.toNat
structure PRd (w : World) (a : Option Addr) (len cap : Nat) (ps : List Nat) : Prop where
  len_eq : ps.length = len
  byt : Bytes ps
  le : len ≤ cap
  at_ : 0 < len → ∃ x, a = some x ∧ x.block < w.heap.size ∧ ∀ j, j < len → w.cell? (x.add j) = some (.int .u8 (ps.getD j 0 : Nat))
theorem prd_of {w : World} {a : Option Addr} {len cap : Nat} {zs : List Int} (h : IsRow .u8 w a len cap zs) : PRd w a len cap (natsOf zs len) := by
  have hwf := h.wf
  have hl : (natsOf zs len).length = len := by
    rcases h with ⟨_, rfl, _, rfl⟩ | ⟨_, _, h1, _, h2, _⟩
    · rfl
    · simp [natsOf]; omega
  have hz : ∀ j, j < len → j < zs.length → (zs.getD j 0 : Int) = ((natsOf zs len).getD j 0 : Nat) := by
    intro j hj hj2
    have hb := bounds_u8 (hwf zs[j] (List.getElem_mem hj2))
    simp [natsOf, List.getD_eq_getElem?_getD, List.getElem?_take, hj, hj2]
    omega
  refine ⟨hl, ?_, ?_, ?_⟩
  · intro x hx
    simp only [natsOf, List.mem_map] at hx
    obtain ⟨z, hz', rfl⟩ := hx
    have hb := bounds_u8 (hwf z (List.mem_of_mem_take hz'))
    omega
  · rcases h with ⟨_, rfl, rfl, _⟩ | ⟨_, _, h1, _⟩
    · omega
    · exact h1
  · intro h0
    obtain ⟨x, rfl, h1, h2, h3⟩ := h.at_ h0
    exact ⟨x, rfl, h1, fun j hj => by rw [h3 j hj, hz j hj (by omega)]⟩
theorem PRd.below {w w' : World} {a : Option Addr} {len cap : Nat} {ps : List Nat} (h : PRd w a len cap ps) (hb : Below w.heap.size w w') : ∀ x, a = some x → ∀ j, j < len → w'.cell? (x.add j) = some (.int .u8 (ps.getD j 0 : Nat)) := by
  intro x hx j hj
  obtain ⟨y, hy, h1, h2⟩ := h.at_ (by omega)
  rw [hy] at hx
  obtain rfl := Option.some.inj hx
  rw [hb.cell (by rw [block_add]; exact h1)]
  exact h2 j hj

/-- copy of it into a new row -/
theorem run_copy_prd {w W : World} {a : Option Addr} {len cap : Nat} {ps : List Nat} (h : PRd w a len cap ps) (hb : Below w.heap.size w W) (g n : Nat) (hn : len ≤ n) (hr : W.heap[g]? = some (.cells (cw .u8 (zr n)) 5 (0, 0))) (ty : TypeId) :
    ∃ W', (Builtin.copy_ #[45, 45] ty #[.slice (some ⟨g, 0, none⟩) n n, .slice a len cap]).run Tryd.prog W = .ok (goInt len) W' ∧ W'.heap[g]? = some (.cells (cw .u8 (ps ++ zr (n - len))) 5 (0, 0)) ∧ W.grownBy W' (some g) := by
  have hz : (zr n).length = n := by simp [zr]
  by_cases h0 : 0 < len
  · obtain ⟨x, rfl, h1, h2⟩ := h.at_ h0
    have hcl : (cl .u8 ps).length = len := by rw [cl_length, h.len_eq]
    have hrun := run_copy_cells (P := Tryd.prog) W 45 45 ty 5 g 0 n n x len cap (cl .u8 ps) Tryd.underlying45 (by kernel_rfl) (by rw [hcl]; exact (Nat.min_eq_left hn).symm) (fun j v hv => by
        have hj : j < (cl .u8 ps).length := (List.getElem?_eq_some_iff.1 hv).1
        rw [hcl] at hj
        rw [cl_get _ _ _ (by rw [h.len_eq]; exact hj)] at hv
        rw [← hv]
        exact h.below hb x rfl j hj) (fun j hj => by
          rw [hcl] at hj
          rw [row_cell hr (0 + j) (by omega)]; rfl) (fun j hj => row_free hr _) (cl_one _ _)
    rw [hcl] at hrun
    refine ⟨_, hrun, ?_, only_setCells _ _ _ (World.grownBy.refl W _)⟩
    have hs := heap_setCells (t := 5) (cl .u8 ps) 0 W (cl .u8 (zr n)) hr (by rw [hcl, cl_length, hz]; omega)
    rw [hs]
    congr 2
    simp only [splice, hcl, Nat.zero_add, List.take_zero, List.nil_append, cw, cl, List.map_append, zr, List.drop_replicate, List.map_replicate]
    rw [List.length_map, h.len_eq]
  · have hl0 : len = 0 := by omega
    subst hl0
    have hp : ps = [] := List.eq_nil_of_length_eq_zero h.len_eq
    refine ⟨W, run_copy_none (P := Tryd.prog) W _ _ ty 5 _ _ _ _ _ _ Tryd.underlying45 (by kernel_rfl) (Nat.min_eq_left (Nat.zero_le _)), ?_, World.grownBy.refl W _⟩
    rw [hr, hp]; simp

/-- 'string(p)' -/
theorem run_conv_prd {w W : World} {a : Option Addr} {len cap : Nat} {ps : List Nat} (h : PRd w a len cap ps) (hb : Below w.heap.size w W) :
    ∃ s : ByteArray, nb s = ps ∧ (convert 45 9 (.slice a len cap)).run Tryd.prog W = .ok (.string s) W := by
  by_cases h0 : 0 < len
  · obtain ⟨x, rfl, h1, h2⟩ := h.at_ h0
    have hl : (loadCells x len).run Tryd.prog W = .ok ((ps.map fun (n : Nat) => (n : Int)).map (Value.int .u8)).toArray W := by
      have := run_loadCells_list (P := Tryd.prog) W x (cl .u8 ps) (fun j v hv => by
        have hj : j < (cl .u8 ps).length := (List.getElem?_eq_some_iff.1 hv).1
        rw [cl_length, h.len_eq] at hj
        rw [cl_get _ _ _ (by rw [h.len_eq]; exact hj)] at hv
        rw [← hv]
        exact h.below hb x rfl j hj)
      rw [cl_length, h.len_eq] at this
      rw [this]
      simp [cl]
    have hr := run_bytesToString (P := Tryd.prog) W x len cap _ hl
    refine ⟨_, ?_, by rw [run_convert_bytes_string W _ _ 5 _ len cap Tryd.underlying45 Tryd.underlying5 Tryd.underlying9]; exact hr⟩
    rw [foldl_push_bytes]
    have hbt := h.byt
    rw [nb]
    have e : (⟨ByteArray.empty.data ++ (List.map (fun n : Int => UInt8.ofNat n.toNat) (List.map (fun n : Nat => (n : Int)) ps)).toArray⟩ : ByteArray).data.toList = ps.map fun n => UInt8.ofNat n := by
      rw [List.map_map]
      show (ByteArray.empty.data ++ _).toList = _
      rw [Array.toList_append]
      show [] ++ _ = _
      rw [List.nil_append]
      apply List.map_congr_left
      intro x _
      simp
    rw [e, List.map_map]
    conv => rhs; rw [← List.map_id ps]
    apply List.map_congr_left
    intro x hx
    have := hbt x hx
    simp
    omega
  · have hl0 : len = 0 := by omega
    subst hl0
    have hp : ps = [] := List.eq_nil_of_length_eq_zero h.len_eq
    refine ⟨⟨#[]⟩, by rw [hp]; rfl, ?_⟩
    rw [run_convert_bytes_string W _ _ 5 _ 0 cap Tryd.underlying45 Tryd.underlying5 Tryd.underlying9]
    cases a with
    | none => simp [Conv.bytesToString, Sem.run_pure]; rfl
    | some x =>
      have hr := run_bytesToString (P := Tryd.prog) W x 0 cap [] (by simpa using run_loadCells_list (P := Tryd.prog) W x [] (by simp))
      rw [hr]; rfl

/-- the new row, filled with gap from the bytes' end on -/
def qrow (ps : List Nat) (gap j : Nat) : List Nat := ps ++ (List.replicate j gap ++ List.replicate (80 - j) 0)
theorem qrow_zero (ps : List Nat) (gap : Nat) : qrow ps gap 0 = ps ++ zr 80 := by simp [qrow, zr]
theorem qrow_length (ps : List Nat) (gap j : Nat) (h : j ≤ 80) : (qrow ps gap j).length = ps.length + 80 := by simp [qrow]; omega
theorem qrow_set (ps : List Nat) (gap j : Nat) (h : j < 80) : (qrow ps gap j).set (ps.length + j) gap = qrow ps gap (j + 1) := by
  unfold qrow
  rw [List.set_append_right _ _ (by omega), show ps.length + j - ps.length = j by omega, List.set_append_right _ _ (by simp), List.length_replicate, Nat.sub_self, show 80 - j = (80 - (j + 1)) + 1 by omega, List.replicate_succ (n := 80 - (j + 1)), List.set_cons_zero, List.replicate_succ' (n := j), List.append_assoc]
  rfl
theorem qrow_lo (ps : List Nat) (gap i : Nat) (h : i < ps.length) : (qrow ps gap 80).getD i 0 = ps.getD i 0 := by
  simp [qrow, List.getD_eq_getElem?_getD, List.getElem?_append, h]
theorem qrow_hi (ps : List Nat) (gap i : Nat) (h : ps.length ≤ i) (h2 : i < ps.length + 80) : (qrow ps gap 80).getD i 0 = gap := by
  rw [List.getD_eq_getElem?_getD, qrow, List.getElem?_append_right h, List.getElem?_append_left (by rw [List.length_replicate]; omega), List.getElem?_replicate, if_pos (by omega)]
  rfl
/-- the row written over from the head on -/
def qover (L : List Nat) (v : Nat) : Nat → List Nat
  | 0 => L
  | i + 1 => (qover L v i).set i v
theorem qover_length (L : List Nat) (v : Nat) : ∀ i, (qover L v i).length = L.length
  | 0 => rfl
  | i + 1 => by simp [qover, qover_length L v i]
theorem qover_later (L : List Nat) (v : Nat) : ∀ i j, i ≤ j → (qover L v i).getD j 0 = L.getD j 0
  | 0, _, _ => rfl
  | i + 1, j, h => by
    have ih := qover_later L v i j (by omega)
    rw [List.getD_eq_getElem?_getD] at ih ⊢
    rw [qover, List.getElem?_set_ne (by omega)]
    exact ih

/-- what stands: the new row -/
structure KpQ (w0 w : World) (gq : Nat) (qs : List Nat) : Prop where
  tab : Tab w
  o : w0.heap.size ≤ gq
  q : w.heap[gq]? = some (.cells (cw .u8 qs) 5 (0, 0))
  below : Below w0.heap.size w0 w
theorem KpQ.lt {w0 w : World} {gq : Nat} {qs : List Nat} (H : KpQ w0 w gq qs) : gq < w.heap.size := by
  rcases Nat.lt_or_ge gq w.heap.size with h | h
  · exact h
  · have := H.q; rw [Array.getElem?_eq_none h] at this; cases this
theorem KpQ.later {w0 w w' : World} {gq : Nat} {qs : List Nat} (H : KpQ w0 w gq qs) (hb : Below w.heap.size w w') : KpQ w0 w' gq qs :=
  ⟨H.tab.below hb H.tab.two, H.o, (hb.block _ H.lt).trans H.q, H.below.trans (hb.mono H.below.size)⟩
theorem KpQ.store {w0 w : World} {gq : Nat} {qs : List Nat} (H : KpQ w0 w gq qs) (hw : 2 ≤ w0.heap.size) (i v : Nat) : KpQ w0 (w.setCell ⟨gq, i, none⟩ (.int .u8 (v : Int))) gq (qs.set i v) :=
  ⟨H.tab.only (g := gq) (by have := H.o; omega) (only_setG (World.grownBy.refl w _) i _), H.o, row_store H.q i v, H.below.setCell (by have := H.o; simpa using this) _⟩

/-- .. and the State, and the first digest -/
structure KpS (w0 w : World) (gq gs gd : Nat) (qs T D : List Nat) : Prop where
  q : KpQ w0 w gq qs
  o1 : gq < gs
  o2 : gs < gd
  st : StAt w gs T
  d : w.heap[gd]? = some (.cells (cw .u8 D) 29 (0, 0))
theorem KpS.dlt {w0 w : World} {gq gs gd : Nat} {qs T D : List Nat} (H : KpS w0 w gq gs gd qs T D) : gd < w.heap.size := by
  rcases Nat.lt_or_ge gd w.heap.size with h | h
  · exact h
  · have := H.d; rw [Array.getElem?_eq_none h] at this; cases this
theorem KpS.later {w0 w w' : World} {gq gs gd : Nat} {qs T D : List Nat} (H : KpS w0 w gq gs gd qs T D) (hb : Below w.heap.size w w') : KpS w0 w' gq gs gd qs T D :=
  ⟨H.q.later hb, H.o1, H.o2, H.st.below hb H.st.lt, (hb.block _ H.dlt).trans H.d⟩
theorem KpS.store {w0 w : World} {gq gs gd : Nat} {qs T D : List Nat} (H : KpS w0 w gq gs gd qs T D) (hw : 2 ≤ w0.heap.size) (i v : Nat) : KpS w0 (w.setCell ⟨gq, i, none⟩ (.int .u8 (v : Int))) gq gs gd (qs.set i v) T D :=
  have h1 := H.o1; have h2 := H.o2
  ⟨H.q.store hw i v, H.o1, H.o2, H.st.far (Below.heap_setCell _ _ _ _ (by simp; omega)), (Below.heap_setCell _ _ _ _ (by simp; omega)).trans H.d⟩
theorem KpS.drew {w0 w : World} {gq gs gd : Nat} {qs T D : List Nat} (H : KpS w0 w gq gs gd qs T D) : KpS w0 w.drew gq gs gd qs T D :=
  H.later ⟨rfl, rfl, rfl, Nat.le_refl _, fun _ _ => rfl⟩

theorem KpQ.rdb {w0 w : World} {gq : Nat} {ps : List Nat} {gap : Nat} (H : KpQ w0 w gq (qrow ps gap 80)) (gs : Nat) (hne : gq ≠ gs) : RdB w gs (some ⟨gq, 0, none⟩) ps := ⟨fun h0 => by
  refine ⟨_, rfl, hne, H.lt, fun j hj => ?_⟩
  have hadd : (⟨gq, 0, none⟩ : Addr).add j = ⟨gq, j, none⟩ := by unfold Addr.add; split <;> simp_all
  rw [hadd, row_cell H.q j (by rw [qrow_length _ _ _ (Nat.le_refl _)]; omega), qrow_lo ps gap j hj]⟩

/-- the string of these bytes -/
def strOf (ps : List Nat) : ByteArray := ⟨(ps.map UInt8.ofNat).toArray⟩
theorem strOf_size (ps : List Nat) : (strOf ps).size = ps.length := by simp [strOf, ByteArray.size]
theorem nb_strOf (ps : List Nat) (h : Bytes ps) : nb (strOf ps) = ps := by
  simp only [nb, strOf, List.map_map]
  conv => rhs; rw [← List.map_id ps]
  apply List.map_congr_left
  intro x hx
  have := h x hx
  simp
  omega
theorem nb_inj {s t : ByteArray} (h : nb s = nb t) : s = t := by
  apply ByteArray.ext
  apply Array.ext'
  unfold nb at h
  exact (List.map_inj_right (fun a b hab => UInt8.toNat_inj.1 hab)).1 h
theorem run_conv_at {w W : World} {a : Option Addr} {len cap : Nat} {ps : List Nat} (h : PRd w a len cap ps) (hb : Below w.heap.size w W) : (convert 45 9 (.slice a len cap)).run Tryd.prog W = .ok (.string (strOf ps)) W := by
  obtain ⟨s, hs, hr⟩ := run_conv_prd h hb
  rw [hr, nb_inj (hs.trans (nb_strOf ps h.byt).symm)]
theorem dig_range {w0 w : World} {gq gs gd : Nat} {T D : List Nat} (H : ∃ qs, KpS w0 w gq gs gd qs T D) : w.rangeAt gd 0 (cl .u8 D) := by
  obtain ⟨qs, h⟩ := H
  intro j v hv
  rw [Nat.zero_add, cell_of_row w _ j _ _ _ h.d]
  simpa [cl, cw] using hv

set_option maxRecDepth 100000 in
set_option maxHeartbeats 3000000 in
theorem shaKeeps_walk (a : Option Addr) (len cap : Nat) (ps : List Nat) (gap : Nat) (w : World) (hp : PRd w a len cap ps) (hlen : len * 1 ≤ 140737488351232) (hgap : gap < 256) (hT : Tab w) :
    Calls Tryd.prog 8 #[.slice a len cap, .int .u8 (gap : Int)] w fun e w' => e = .returned (.bool true) ∧ Below w.heap.size w w' := by
  have HT := Lib.hid hT
  have HP := Lib.hid hp
  have hw2 := hT.two
  have hde := dig_same
  have hmk := run_make_u8 (len + 80) (by omega)
  have HPL := Lib.hid hp.len_eq
  have hd32 : (Tryd.prog.info? 29).map (·.size) = some (cl .u8 (shaL ps)).length := by rw [cl_length, shaL_length]; exact info32
  have HD32 := Lib.hid hd32
  clear hd32
  clear hT hp
  rw [Int.natCast_add, show ((80 : Nat) : Int) = 80 from rfl] at hmk
  go_enter Tryd.func8, Tryd.ntmps8
  go_wp2_with fail
  refine (awake_any w HT.out).mono ?_
  rintro e w1 ⟨rfl, hb1⟩
  obtain ⟨W1, hW1⟩ : ∃ W1, W1 = w1.alloc (.cells (cw .u8 (zr (len + 80))) 5) := ⟨_, rfl⟩
  have hba : Below w1.heap.size w1 W1 := by rw [hW1]; exact (Below.refl _ _).alloc (Nat.le_refl _) _
  have hbw : Below w.heap.size w W1 := hb1.trans (hba.mono hb1.size)
  have hq1 : W1.heap[w1.heap.size]? = some (.cells (cw .u8 (zr (len + 80))) 5 (0, 0)) := by rw [hW1]; exact heap_alloc_new _ _
  obtain ⟨W2, hrun, hrow, ho⟩ := run_copy_prd HP.out hbw w1.heap.size (len + 80) (by omega) hq1 3
  rw [show len + 80 - len = 80 by omega, ← qrow_zero ps gap] at hrow
  have hK2 : KpQ w W2 w1.heap.size (qrow ps gap 0) := ⟨(HT.out.below hbw hw2).only (by have := hb1.size; omega) ho, hb1.size, hrow, only_new hbw ho (Nat.le_refl _) hb1.size⟩
  rw [hW1] at hrun
  have K2 := Lib.hid hK2
  clear hK2 hrow ho hq1 hbw hba hW1 W1 hb1
  go_wp2_with (first | (refine Lib.wpList_copy_run _ rfl (.tmp 16) (.tmp 17) _ _ rfl _ _ rfl rfl hrun ?_))
  clear hrun hmk
  have hgq := K2.out.o
  generalize w1.heap.size = gq at *
  go_loopw [6] (fun i wr => ∃ j : Nat, j ≤ 80 ∧ i = .int .i64 (len + j : Nat) ∧ KpQ w wr gq (qrow ps gap j)) (fun i _ => len + 80 - (intOf i).toNat)
  case atStart => exact ⟨0, by omega, rfl, K2.out⟩
  case round =>
    clear K2
    obtain ⟨j, hj, rfl, hkq⟩ := hrel
    by_cases hlt : j < 80
    · have hl := qrow_length ps gap j hj
      have c0 := row_cell hkq.q (len + j) (by rw [hl, HPL.out]; omega)
      have f0 := row_free hkq.q (len + j)
      have k2 := hkq.store hw2 (len + j) gap
      rw [← HPL.out, qrow_set ps gap j hlt, HPL.out] at k2
      obtain ⟨i, hi⟩ : ∃ i, i = len + j := ⟨_, rfl⟩
      rw [← hi] at c0 f0 k2
      rw [← hi]
      have K3 := Lib.hid k2
      have HI := Lib.hid hi
      have i0 : (0 : Int) ≤ i := by omega
      have i1 : (i : Int) < (len : Int) + 80 := by omega
      have HKQ := Lib.hid hkq
      clear hl k2 hi hkq
      go_wp2_with fail
      go_roundw
      case rel => exact ⟨j + 1, by omega, by have := HI.out; rw [show len + (j + 1) = i + 1 by omega]; go_num, K3.out⟩
      case measure => simp [intOf]; omega
    · obtain rfl : j = 80 := by omega
      have HKQ := Lib.hid hkq
      obtain ⟨i, hi⟩ : ∃ i, i = len + 80 := ⟨_, rfl⟩
      rw [← hi]
      have i1 : ¬ (i : Int) < (len : Int) + 80 := by omega
      have i2 : i ≤ len + 80 := by omega
      have i3 : len + 80 ≤ i := by omega
      clear hkq hi hlt hj
      obtain ⟨wk, rfl⟩ : ∃ wk : World, wk = wr := ⟨_, rfl⟩
      go_wp2_with fail
      refine (new_any wk HKQ.out.tab).mono ?_
      rintro e w2 ⟨gs, hgs, rfl, hst, hb2⟩
      have Q2 := Lib.hid (HKQ.out.later hb2)
      have S2 := Lib.hid hst
      have hqs : gq < gs := Nat.lt_of_lt_of_le HKQ.out.lt hgs
      clear hst hb2 hgs HKQ
      go_wp2_with fail
      have hrd := Q2.out.rdb gs (by omega)
      rw [← HPL.out]
      refine (write_any gs [] ps _ _ w2 S2.out Q2.out.tab (by omega) (by rw [HPL.out]; simp; omega) HP.out.byt hrd (by have := HPL.out; omega)).mono ?_
      rw [HPL.out]
      rintro e w3 ⟨rfl, hst, ho⟩
      rw [List.nil_append] at hst
      have Q3 := Lib.hid (show KpQ w w3 gq (qrow ps gap 80) from ⟨Q2.out.tab.only (by omega) ho, hgq, (ho.block _ Q2.out.lt (by simp; omega)).trans Q2.out.q, only_new Q2.out.below ho (Nat.le_refl _) (by omega)⟩)
      have S3 := Lib.hid hst
      clear hst ho hrd Q2 S2
      go_wp2_with fail
      refine (sum_any gs ps w3 S3.out Q3.out.tab (by rw [HPL.out]; omega)).mono ?_
      rintro e w4 ⟨rfl, hb4⟩
      have hq4 := Q3.out.later hb4
      have hs4 := S3.out.below hb4 S3.out.lt
      obtain ⟨W5, hW5⟩ : ∃ W5, W5 = (w4.alloc (.cells (cw .u8 (zr 32)) 29)).setRow w4.heap.size (cw .u8 (shaL ps)) := ⟨_, rfl⟩
      have hn5 : NewRow w4 W5 (cw .u8 (shaL ps)) 29 := by rw [hW5]; exact new_row _ _ _ _
      have hk5 : KpS w W5 gq gs w4.heap.size (qover (qrow ps gap 80) ((gap + 1) % 256) 0) ps (shaL ps) := ⟨hq4.later hn5.below, hqs, hs4.lt, hs4.below hn5.below hs4.lt, hn5.new⟩
      have hnr := heap_alloc_new w4 (.cells (cw .u8 (zr 32)) 29)
      have h32 : (cw .u8 (shaL ps)).size = 32 := by rw [cw_size, shaL_length]
      have hz32 := (zero_of_info (P := Tryd.prog) (t := 29) (v := .agg (cw .u8 (zr 32))) (n := 32) (by kernel_rfl)).1
      have K5 := Lib.hid hk5
      have HNR := Lib.hid hnr
      have H32 := Lib.hid h32
      have HW5 := Lib.hid hW5
      clear hq4 hs4 hn5 hk5 hnr h32 hb4 Q3 S3 hW5
      go_wp2_with (first | (with_reducible refine wpList_store_row rfl 29 _ _ rfl w4.heap.size _ rfl rfl 29 (cw .u8 (zr 32)) ?_ ?_ ?_ ?_ ?_))
      · exact HNR.out
      · rw [H32.out]; exact info32
      · rw [H32.out]; rfl
      · exact cw_one _ _
      · rw [← HW5.out]
        clear HW5 HNR H32
        go_wp2_with fail
        have hgd := K5.out.o2
        generalize w4.heap.size = gd at *
        go_loopw [44] (fun i wr => ∃ k : Nat, k ≤ len + 80 ∧ i = .int .i64 k ∧ KpS w wr gq gs gd (qover (qrow ps gap 80) ((gap + 1) % 256) k) ps (shaL ps)) (fun i _ => len + 80 - (intOf i).toNat)
        case atStart => exact ⟨0, by omega, rfl, K5.out⟩
        case round =>
          clear K5
          obtain ⟨k, hk, rfl, hks⟩ := hrel
          by_cases hlt : k < len + 80
          · have hl := qover_length (qrow ps gap 80) ((gap + 1) % 256) k
            have hl2 := qrow_length ps gap 80 (Nat.le_refl _)
            have c0 := row_cell hks.q.q k (by rw [hl, hl2, HPL.out]; omega)
            rw [qover_later _ _ k k (Nat.le_refl _)] at c0
            have f0 := row_free hks.q.q k
            have k3 := hks.store hw2 k ((gap + 1) % 256)
            rw [show (qover (qrow ps gap 80) ((gap + 1) % 256) k).set k ((gap + 1) % 256) = qover (qrow ps gap 80) ((gap + 1) % 256) (k + 1) from rfl] at k3
            have k0 : (0 : Int) ≤ k := by omega
            have k1 : (k : Int) < (len : Int) + 80 := by omega
            have k2 : (k : Int) < i := by omega
            have eg : (((gap + 1) % 256 : Nat) : Int) = ((gap : Int) + 1) % 256 := by omega
            rw [eg] at k3
            have K3 := Lib.hid k3
            by_cases hkl : k < len
            · obtain ⟨x, rfl, hxb, hxc⟩ := HP.out.at_ (by omega)
              have cp := HP.out.below hks.q.below x rfl k hkl
              rw [qrow_lo ps gap k (by rw [HPL.out]; exact hkl)] at c0
              generalize ps.getD k 0 = y at *
              have d1 : decide ((k : Int) < len) = true := by simp; omega
              have d2 : decide ((len : Int) ≤ k) = false := by simp; omega
              have hks' := hks
              have HKS := Lib.hid hks'
              clear hl hl2 k3 eg hxc hks'
              go_wp2_with fail
              refine wp_region_noPanic ?_
              refine wp_region_held_drew (S := fun w' => w'.cell? ⟨gq, k, none⟩ = some (.int .u8 (y : Int)) ∧ w'.cell? (x.add k) = some (.int .u8 (y : Int))) (by kernel_rfl) ⟨c0, cp⟩ (fun hHeld => ?_)
              refine wpAnyH_take (i := 0) (oi := _) (v := (.int .i64 (k : Int))) rfl (by kernel_rfl) (by kernel_rfl) (by kernel_rfl) (fun _ _ _ h => h) (Or.inl ⟨by rfl, fun w' _ => by go_simp⟩) hHeld ?_
              try simp only [Act.put, List.getElem_toArray, List.getElem_cons_succ, List.getElem_cons_zero, List.setIfInBounds_toArray, List.set_cons_zero, List.set_cons_succ]
              refine wpAnyH_take (i := 1) (oi := _) (v := (.slice (some x) len cap)) rfl (by kernel_rfl) (by kernel_rfl) (by kernel_rfl) (fun _ _ _ h => h) (Or.inl ⟨by rfl, fun w' _ => by go_simp⟩) hHeld ?_
              try simp only [Act.put, List.getElem_toArray, List.getElem_cons_succ, List.getElem_cons_zero, List.setIfInBounds_toArray, List.set_cons_zero, List.set_cons_succ]
              refine wpAnyH_take (i := 2) (oi := _) (v := (.int .i64 (len : Int))) rfl (by kernel_rfl) (by kernel_rfl) (by kernel_rfl) (fun _ _ _ h => h) (Or.inl ⟨by rfl, fun w' _ => by go_simp⟩) hHeld ?_
              try simp only [Act.put, List.getElem_toArray, List.getElem_cons_succ, List.getElem_cons_zero, List.setIfInBounds_toArray, List.set_cons_zero, List.set_cons_succ]
              refine wpAnyH_take (i := 3) (oi := _) (v := (.bool true)) rfl (by kernel_rfl) (by kernel_rfl) (by kernel_rfl) (fun _ _ _ h => h) (Or.inl ⟨by rfl, fun w' _ => by go_simp⟩) hHeld ?_
              try simp only [Act.put, List.getElem_toArray, List.getElem_cons_succ, List.getElem_cons_zero, List.setIfInBounds_toArray, List.set_cons_zero, List.set_cons_succ]
              refine wpAnyH_take (i := 4) (oi := _) (v := (.bool true)) rfl (by kernel_rfl) (by kernel_rfl) (by kernel_rfl) (fun _ _ _ h => h) (Or.inl ⟨by rfl, fun w' _ => by go_simp⟩) hHeld ?_
              try simp only [Act.put, List.getElem_toArray, List.getElem_cons_succ, List.getElem_cons_zero, List.setIfInBounds_toArray, List.set_cons_zero, List.set_cons_succ]
              refine wpAnyH_take (i := 5) (oi := _) (v := (.slice (some ⟨gq, 0, none⟩) i i)) rfl (by kernel_rfl) (by kernel_rfl) (by kernel_rfl) (fun _ _ _ h => h) (Or.inl ⟨by rfl, fun w' _ => by go_simp⟩) hHeld ?_
              try simp only [Act.put, List.getElem_toArray, List.getElem_cons_succ, List.getElem_cons_zero, List.setIfInBounds_toArray, List.set_cons_zero, List.set_cons_succ]
              refine wpAnyH_take (i := 6) (oi := _) (v := (.int .i64 (k : Int))) rfl (by kernel_rfl) (by kernel_rfl) (by kernel_rfl) (fun _ _ _ h => h) (Or.inl ⟨by rfl, fun w' _ => by go_simp⟩) hHeld ?_
              try simp only [Act.put, List.getElem_toArray, List.getElem_cons_succ, List.getElem_cons_zero, List.setIfInBounds_toArray, List.set_cons_zero, List.set_cons_succ]
              refine wpAnyH_take (i := 7) (oi := _) (v := (.pointer (some ⟨gq, k, none⟩))) rfl (by kernel_rfl) (by kernel_rfl) (by kernel_rfl) (fun _ _ _ h => h) (Or.inl ⟨by rfl, fun w' _ => by go_simp⟩) hHeld ?_
              try simp only [Act.put, List.getElem_toArray, List.getElem_cons_succ, List.getElem_cons_zero, List.setIfInBounds_toArray, List.set_cons_zero, List.set_cons_succ]
              refine wpAnyH_take (i := 8) (oi := _) (v := (.int .u8 (y : Int))) rfl (by kernel_rfl) (by kernel_rfl) (by kernel_rfl) (fun _ _ _ h => h) (Or.inl ⟨by rfl, fun w' hSw => by have h1 := hSw.1; go_simp⟩) hHeld ?_
              try simp only [Act.put, List.getElem_toArray, List.getElem_cons_succ, List.getElem_cons_zero, List.setIfInBounds_toArray, List.set_cons_zero, List.set_cons_succ]
              refine wpAnyH_take (i := 9) (oi := _) (v := (.slice (some x) len cap)) rfl (by kernel_rfl) (by kernel_rfl) (by kernel_rfl) (fun _ _ _ h => h) (Or.inl ⟨by rfl, fun w' _ => by go_simp⟩) hHeld ?_
              try simp only [Act.put, List.getElem_toArray, List.getElem_cons_succ, List.getElem_cons_zero, List.setIfInBounds_toArray, List.set_cons_zero, List.set_cons_succ]
              refine wpAnyH_take (i := 10) (oi := _) (v := (.int .i64 (k : Int))) rfl (by kernel_rfl) (by kernel_rfl) (by kernel_rfl) (fun _ _ _ h => h) (Or.inl ⟨by rfl, fun w' _ => by go_simp⟩) hHeld ?_
              try simp only [Act.put, List.getElem_toArray, List.getElem_cons_succ, List.getElem_cons_zero, List.setIfInBounds_toArray, List.set_cons_zero, List.set_cons_succ]
              refine wpAnyH_take (i := 11) (oi := _) (v := (.pointer (some (x.add k)))) rfl (by kernel_rfl) (by kernel_rfl) (by kernel_rfl) (fun _ _ _ h => h) (Or.inl ⟨by rfl, fun w' _ => by go_simp⟩) hHeld ?_
              try simp only [Act.put, List.getElem_toArray, List.getElem_cons_succ, List.getElem_cons_zero, List.setIfInBounds_toArray, List.set_cons_zero, List.set_cons_succ]
              refine wpAnyH_take (i := 12) (oi := _) (v := (.int .u8 (y : Int))) rfl (by kernel_rfl) (by kernel_rfl) (by kernel_rfl) (fun _ _ _ h => h) (Or.inl ⟨by rfl, fun w' hSw => by have h1 := hSw.2; go_simp⟩) hHeld ?_
              try simp only [Act.put, List.getElem_toArray, List.getElem_cons_succ, List.getElem_cons_zero, List.setIfInBounds_toArray, List.set_cons_zero, List.set_cons_succ]
              refine wpAnyH_take (i := 13) (oi := _) (v := (.bool false)) rfl (by kernel_rfl) (by kernel_rfl) (by kernel_rfl) (fun _ _ _ h => h) (Or.inl ⟨by rfl, fun w' _ => by go_simp⟩) hHeld ?_
              try simp only [Act.put, List.getElem_toArray, List.getElem_cons_succ, List.getElem_cons_zero, List.setIfInBounds_toArray, List.set_cons_zero, List.set_cons_succ]
              refine wpAnyH_take (i := 14) (oi := _) (v := (.bool false)) rfl (by kernel_rfl) (by kernel_rfl) (by kernel_rfl) (fun _ _ _ h => h) (Or.inl ⟨by rfl, fun w' _ => by go_simp⟩) hHeld ?_
              try simp only [Act.put, List.getElem_toArray, List.getElem_cons_succ, List.getElem_cons_zero, List.setIfInBounds_toArray, List.set_cons_zero, List.set_cons_succ]
              refine wpAnyH_take (i := 15) (oi := _) (v := (.bool false)) rfl (by kernel_rfl) (by kernel_rfl) (by kernel_rfl) (fun _ _ _ h => h) (Or.inl ⟨by rfl, fun w' _ => by go_simp⟩) hHeld ?_
              try simp only [Act.put, List.getElem_toArray, List.getElem_cons_succ, List.getElem_cons_zero, List.setIfInBounds_toArray, List.set_cons_zero, List.set_cons_succ]
              refine wpAnyH_take (i := 16) (oi := _) (v := (.int .i64 (k : Int))) rfl (by kernel_rfl) (by kernel_rfl) (by kernel_rfl) (fun _ _ _ h => h) (Or.inl ⟨by rfl, fun w' _ => by go_simp⟩) hHeld ?_
              try simp only [Act.put, List.getElem_toArray, List.getElem_cons_succ, List.getElem_cons_zero, List.setIfInBounds_toArray, List.set_cons_zero, List.set_cons_succ]
              refine wpAnyH_take (i := 17) (oi := _) (v := (.slice (some x) len cap)) rfl (by kernel_rfl) (by kernel_rfl) (by kernel_rfl) (fun _ _ _ h => h) (Or.inl ⟨by rfl, fun w' _ => by go_simp⟩) hHeld ?_
              try simp only [Act.put, List.getElem_toArray, List.getElem_cons_succ, List.getElem_cons_zero, List.setIfInBounds_toArray, List.set_cons_zero, List.set_cons_succ]
              refine wpAnyH_take (i := 18) (oi := _) (v := (.int .i64 (len : Int))) rfl (by kernel_rfl) (by kernel_rfl) (by kernel_rfl) (fun _ _ _ h => h) (Or.inl ⟨by rfl, fun w' _ => by go_simp⟩) hHeld ?_
              try simp only [Act.put, List.getElem_toArray, List.getElem_cons_succ, List.getElem_cons_zero, List.setIfInBounds_toArray, List.set_cons_zero, List.set_cons_succ]
              refine wpAnyH_take (i := 19) (oi := _) (v := (.bool false)) rfl (by kernel_rfl) (by kernel_rfl) (by kernel_rfl) (fun _ _ _ h => h) (Or.inl ⟨by rfl, fun w' _ => by go_simp⟩) hHeld ?_
              try simp only [Act.put, List.getElem_toArray, List.getElem_cons_succ, List.getElem_cons_zero, List.setIfInBounds_toArray, List.set_cons_zero, List.set_cons_succ]
              refine wpAnyH_take (i := 20) (oi := _) (v := (.bool false)) rfl (by kernel_rfl) (by kernel_rfl) (by kernel_rfl) (fun _ _ _ h => h) (Or.inl ⟨by rfl, fun w' _ => by go_simp⟩) hHeld ?_
              try simp only [Act.put, List.getElem_toArray, List.getElem_cons_succ, List.getElem_cons_zero, List.setIfInBounds_toArray, List.set_cons_zero, List.set_cons_succ]
              refine wpAnyH_take (i := 21) (oi := _) (v := undef) rfl (by kernel_rfl) (by kernel_rfl) (by kernel_rfl) (fun _ _ _ h => h) (Or.inr ⟨by rfl, rfl⟩) hHeld ?_
              try simp only [Act.put, List.getElem_toArray, List.getElem_cons_succ, List.getElem_cons_zero, List.setIfInBounds_toArray, List.set_cons_zero, List.set_cons_succ]
              refine wpAnyH_take (i := 22) (oi := _) (v := undef) rfl (by kernel_rfl) (by kernel_rfl) (by kernel_rfl) (fun _ _ _ h => h) (Or.inr ⟨by rfl, rfl⟩) hHeld ?_
              try simp only [Act.put, List.getElem_toArray, List.getElem_cons_succ, List.getElem_cons_zero, List.setIfInBounds_toArray, List.set_cons_zero, List.set_cons_succ]
              refine wpAnyH_take (i := 23) (oi := _) (v := undef) rfl (by kernel_rfl) (by kernel_rfl) (by kernel_rfl) (fun _ _ _ h => h) (Or.inr ⟨by rfl, rfl⟩) hHeld ?_
              try simp only [Act.put, List.getElem_toArray, List.getElem_cons_succ, List.getElem_cons_zero, List.setIfInBounds_toArray, List.set_cons_zero, List.set_cons_succ]
              refine wpAnyH_take (i := 24) (oi := _) (v := undef) rfl (by kernel_rfl) (by kernel_rfl) (by kernel_rfl) (fun _ _ _ h => h) (Or.inr ⟨by rfl, rfl⟩) hHeld ?_
              try simp only [Act.put, List.getElem_toArray, List.getElem_cons_succ, List.getElem_cons_zero, List.setIfInBounds_toArray, List.set_cons_zero, List.set_cons_succ]
              refine wpAnyH_take (i := 25) (oi := _) (v := undef) rfl (by kernel_rfl) (by kernel_rfl) (by kernel_rfl) (fun _ _ _ h => h) (Or.inr ⟨by rfl, rfl⟩) hHeld ?_
              try simp only [Act.put, List.getElem_toArray, List.getElem_cons_succ, List.getElem_cons_zero, List.setIfInBounds_toArray, List.set_cons_zero, List.set_cons_succ]
              refine wpAnyH_take (i := 26) (oi := _) (v := undef) rfl (by kernel_rfl) (by kernel_rfl) (by kernel_rfl) (fun _ _ _ h => h) (Or.inr ⟨by rfl, rfl⟩) hHeld ?_
              try simp only [Act.put, List.getElem_toArray, List.getElem_cons_succ, List.getElem_cons_zero, List.setIfInBounds_toArray, List.set_cons_zero, List.set_cons_succ]
              refine wpAnyH_take (i := 27) (oi := _) (v := (.bool false)) rfl (by kernel_rfl) (by kernel_rfl) (by kernel_rfl) (fun _ _ _ h => h) (Or.inl ⟨by rfl, fun w' _ => by go_simp⟩) hHeld ?_
              try simp only [Act.put, List.getElem_toArray, List.getElem_cons_succ, List.getElem_cons_zero, List.setIfInBounds_toArray, List.set_cons_zero, List.set_cons_succ]
              refine wpAnyH_take (i := 28) (oi := _) (v := (.bool false)) rfl (by kernel_rfl) (by kernel_rfl) (by kernel_rfl) (fun _ _ _ h => h) (Or.inl ⟨by rfl, fun w' _ => by go_simp⟩) hHeld ?_
              try simp only [Act.put, List.getElem_toArray, List.getElem_cons_succ, List.getElem_cons_zero, List.setIfInBounds_toArray, List.set_cons_zero, List.set_cons_succ]
              refine wpAnyH_done (by kernel_rfl) ?_ _
              refine NoPanic.normal ?_
              clear hHeld c0 f0 cp K3
              have hkd := HKS.out.drew
              have c1 := row_cell hkd.q.q k (by rw [qover_length, qrow_length _ _ _ (Nat.le_refl _), HPL.out]; omega)
              have f1 := row_free hkd.q.q k
              have k4 := hkd.store hw2 k ((gap + 1) % 256)
              rw [show (qover (qrow ps gap 80) ((gap + 1) % 256) k).set k ((gap + 1) % 256) = qover (qrow ps gap 80) ((gap + 1) % 256) (k + 1) from rfl, show (((gap + 1) % 256 : Nat) : Int) = ((gap : Int) + 1) % 256 by omega] at k4
              have K4 := Lib.hid k4
              clear hkd k4 HKS
              generalize wr.drew = wd at *
              go_wp2_with fail
              go_roundw
              case rel => exact ⟨k + 1, by omega, by go_num, K4.out⟩
              case measure => simp [intOf]; omega
            · rw [qrow_hi ps gap k (by rw [HPL.out]; omega) (by rw [HPL.out]; exact hlt)] at c0
              have d1 : decide ((k : Int) < len) = false := by simp; omega
              have d2 : decide ((len : Int) ≤ k) = true := by simp; omega
              have hks' := hks
              have HKS := Lib.hid hks'
              clear hl hl2 k3 eg hks'
              go_wp2_with fail
              refine wp_region_noPanic ?_
              refine wp_region_held_drew (S := fun w' => w'.cell? ⟨gq, k, none⟩ = some (.int .u8 (gap : Int))) (by kernel_rfl) c0 (fun hHeld => ?_)
              refine wpAnyH_take (i := 0) (oi := _) (v := (.int .i64 (k : Int))) rfl (by kernel_rfl) (by kernel_rfl) (by kernel_rfl) (fun _ _ _ h => h) (Or.inl ⟨by rfl, fun w' _ => by go_simp⟩) hHeld ?_
              try simp only [Act.put, List.getElem_toArray, List.getElem_cons_succ, List.getElem_cons_zero, List.setIfInBounds_toArray, List.set_cons_zero, List.set_cons_succ]
              refine wpAnyH_take (i := 1) (oi := _) (v := (.slice a len cap)) rfl (by kernel_rfl) (by kernel_rfl) (by kernel_rfl) (fun _ _ _ h => h) (Or.inl ⟨by rfl, fun w' _ => by go_simp⟩) hHeld ?_
              try simp only [Act.put, List.getElem_toArray, List.getElem_cons_succ, List.getElem_cons_zero, List.setIfInBounds_toArray, List.set_cons_zero, List.set_cons_succ]
              refine wpAnyH_take (i := 2) (oi := _) (v := (.int .i64 (len : Int))) rfl (by kernel_rfl) (by kernel_rfl) (by kernel_rfl) (fun _ _ _ h => h) (Or.inl ⟨by rfl, fun w' _ => by go_simp⟩) hHeld ?_
              try simp only [Act.put, List.getElem_toArray, List.getElem_cons_succ, List.getElem_cons_zero, List.setIfInBounds_toArray, List.set_cons_zero, List.set_cons_succ]
              refine wpAnyH_take (i := 3) (oi := _) (v := (.bool false)) rfl (by kernel_rfl) (by kernel_rfl) (by kernel_rfl) (fun _ _ _ h => h) (Or.inl ⟨by rfl, fun w' _ => by go_simp⟩) hHeld ?_
              try simp only [Act.put, List.getElem_toArray, List.getElem_cons_succ, List.getElem_cons_zero, List.setIfInBounds_toArray, List.set_cons_zero, List.set_cons_succ]
              refine wpAnyH_take (i := 4) (oi := _) (v := (.bool false)) rfl (by kernel_rfl) (by kernel_rfl) (by kernel_rfl) (fun _ _ _ h => h) (Or.inl ⟨by rfl, fun w' _ => by go_simp⟩) hHeld ?_
              try simp only [Act.put, List.getElem_toArray, List.getElem_cons_succ, List.getElem_cons_zero, List.setIfInBounds_toArray, List.set_cons_zero, List.set_cons_succ]
              refine wpAnyH_take (i := 5) (oi := _) (v := undef) rfl (by kernel_rfl) (by kernel_rfl) (by kernel_rfl) (fun _ _ _ h => h) (Or.inr ⟨by rfl, rfl⟩) hHeld ?_
              try simp only [Act.put, List.getElem_toArray, List.getElem_cons_succ, List.getElem_cons_zero, List.setIfInBounds_toArray, List.set_cons_zero, List.set_cons_succ]
              refine wpAnyH_take (i := 6) (oi := _) (v := undef) rfl (by kernel_rfl) (by kernel_rfl) (by kernel_rfl) (fun _ _ _ h => h) (Or.inr ⟨by rfl, rfl⟩) hHeld ?_
              try simp only [Act.put, List.getElem_toArray, List.getElem_cons_succ, List.getElem_cons_zero, List.setIfInBounds_toArray, List.set_cons_zero, List.set_cons_succ]
              refine wpAnyH_take (i := 7) (oi := _) (v := undef) rfl (by kernel_rfl) (by kernel_rfl) (by kernel_rfl) (fun _ _ _ h => h) (Or.inr ⟨by rfl, rfl⟩) hHeld ?_
              try simp only [Act.put, List.getElem_toArray, List.getElem_cons_succ, List.getElem_cons_zero, List.setIfInBounds_toArray, List.set_cons_zero, List.set_cons_succ]
              refine wpAnyH_take (i := 8) (oi := _) (v := undef) rfl (by kernel_rfl) (by kernel_rfl) (by kernel_rfl) (fun _ _ _ h => h) (Or.inr ⟨by rfl, rfl⟩) hHeld ?_
              try simp only [Act.put, List.getElem_toArray, List.getElem_cons_succ, List.getElem_cons_zero, List.setIfInBounds_toArray, List.set_cons_zero, List.set_cons_succ]
              refine wpAnyH_take (i := 9) (oi := _) (v := undef) rfl (by kernel_rfl) (by kernel_rfl) (by kernel_rfl) (fun _ _ _ h => h) (Or.inr ⟨by rfl, rfl⟩) hHeld ?_
              try simp only [Act.put, List.getElem_toArray, List.getElem_cons_succ, List.getElem_cons_zero, List.setIfInBounds_toArray, List.set_cons_zero, List.set_cons_succ]
              refine wpAnyH_take (i := 10) (oi := _) (v := undef) rfl (by kernel_rfl) (by kernel_rfl) (by kernel_rfl) (fun _ _ _ h => h) (Or.inr ⟨by rfl, rfl⟩) hHeld ?_
              try simp only [Act.put, List.getElem_toArray, List.getElem_cons_succ, List.getElem_cons_zero, List.setIfInBounds_toArray, List.set_cons_zero, List.set_cons_succ]
              refine wpAnyH_take (i := 11) (oi := _) (v := undef) rfl (by kernel_rfl) (by kernel_rfl) (by kernel_rfl) (fun _ _ _ h => h) (Or.inr ⟨by rfl, rfl⟩) hHeld ?_
              try simp only [Act.put, List.getElem_toArray, List.getElem_cons_succ, List.getElem_cons_zero, List.setIfInBounds_toArray, List.set_cons_zero, List.set_cons_succ]
              refine wpAnyH_take (i := 12) (oi := _) (v := undef) rfl (by kernel_rfl) (by kernel_rfl) (by kernel_rfl) (fun _ _ _ h => h) (Or.inr ⟨by rfl, rfl⟩) hHeld ?_
              try simp only [Act.put, List.getElem_toArray, List.getElem_cons_succ, List.getElem_cons_zero, List.setIfInBounds_toArray, List.set_cons_zero, List.set_cons_succ]
              refine wpAnyH_take (i := 13) (oi := _) (v := undef) rfl (by kernel_rfl) (by kernel_rfl) (by kernel_rfl) (fun _ _ _ h => h) (Or.inr ⟨by rfl, rfl⟩) hHeld ?_
              try simp only [Act.put, List.getElem_toArray, List.getElem_cons_succ, List.getElem_cons_zero, List.setIfInBounds_toArray, List.set_cons_zero, List.set_cons_succ]
              refine wpAnyH_take (i := 14) (oi := _) (v := (.bool false)) rfl (by kernel_rfl) (by kernel_rfl) (by kernel_rfl) (fun _ _ _ h => h) (Or.inl ⟨by rfl, fun w' _ => by go_simp⟩) hHeld ?_
              try simp only [Act.put, List.getElem_toArray, List.getElem_cons_succ, List.getElem_cons_zero, List.setIfInBounds_toArray, List.set_cons_zero, List.set_cons_succ]
              refine wpAnyH_take (i := 15) (oi := _) (v := (.bool false)) rfl (by kernel_rfl) (by kernel_rfl) (by kernel_rfl) (fun _ _ _ h => h) (Or.inl ⟨by rfl, fun w' _ => by go_simp⟩) hHeld ?_
              try simp only [Act.put, List.getElem_toArray, List.getElem_cons_succ, List.getElem_cons_zero, List.setIfInBounds_toArray, List.set_cons_zero, List.set_cons_succ]
              refine wpAnyH_take (i := 16) (oi := _) (v := (.int .i64 (k : Int))) rfl (by kernel_rfl) (by kernel_rfl) (by kernel_rfl) (fun _ _ _ h => h) (Or.inl ⟨by rfl, fun w' _ => by go_simp⟩) hHeld ?_
              try simp only [Act.put, List.getElem_toArray, List.getElem_cons_succ, List.getElem_cons_zero, List.setIfInBounds_toArray, List.set_cons_zero, List.set_cons_succ]
              refine wpAnyH_take (i := 17) (oi := _) (v := (.slice a len cap)) rfl (by kernel_rfl) (by kernel_rfl) (by kernel_rfl) (fun _ _ _ h => h) (Or.inl ⟨by rfl, fun w' _ => by go_simp⟩) hHeld ?_
              try simp only [Act.put, List.getElem_toArray, List.getElem_cons_succ, List.getElem_cons_zero, List.setIfInBounds_toArray, List.set_cons_zero, List.set_cons_succ]
              refine wpAnyH_take (i := 18) (oi := _) (v := (.int .i64 (len : Int))) rfl (by kernel_rfl) (by kernel_rfl) (by kernel_rfl) (fun _ _ _ h => h) (Or.inl ⟨by rfl, fun w' _ => by go_simp⟩) hHeld ?_
              try simp only [Act.put, List.getElem_toArray, List.getElem_cons_succ, List.getElem_cons_zero, List.setIfInBounds_toArray, List.set_cons_zero, List.set_cons_succ]
              refine wpAnyH_take (i := 19) (oi := _) (v := (.bool true)) rfl (by kernel_rfl) (by kernel_rfl) (by kernel_rfl) (fun _ _ _ h => h) (Or.inl ⟨by rfl, fun w' hSw => by go_simp; omega⟩) hHeld ?_
              try simp only [Act.put, List.getElem_toArray, List.getElem_cons_succ, List.getElem_cons_zero, List.setIfInBounds_toArray, List.set_cons_zero, List.set_cons_succ]
              refine wpAnyH_take (i := 20) (oi := _) (v := (.bool true)) rfl (by kernel_rfl) (by kernel_rfl) (by kernel_rfl) (fun _ _ _ h => h) (Or.inl ⟨by rfl, fun w' _ => by go_simp⟩) hHeld ?_
              try simp only [Act.put, List.getElem_toArray, List.getElem_cons_succ, List.getElem_cons_zero, List.setIfInBounds_toArray, List.set_cons_zero, List.set_cons_succ]
              refine wpAnyH_take (i := 21) (oi := _) (v := (.slice (some ⟨gq, 0, none⟩) i i)) rfl (by kernel_rfl) (by kernel_rfl) (by kernel_rfl) (fun _ _ _ h => h) (Or.inl ⟨by rfl, fun w' _ => by go_simp⟩) hHeld ?_
              try simp only [Act.put, List.getElem_toArray, List.getElem_cons_succ, List.getElem_cons_zero, List.setIfInBounds_toArray, List.set_cons_zero, List.set_cons_succ]
              refine wpAnyH_take (i := 22) (oi := _) (v := (.int .i64 (k : Int))) rfl (by kernel_rfl) (by kernel_rfl) (by kernel_rfl) (fun _ _ _ h => h) (Or.inl ⟨by rfl, fun w' _ => by go_simp⟩) hHeld ?_
              try simp only [Act.put, List.getElem_toArray, List.getElem_cons_succ, List.getElem_cons_zero, List.setIfInBounds_toArray, List.set_cons_zero, List.set_cons_succ]
              refine wpAnyH_take (i := 23) (oi := _) (v := (.pointer (some ⟨gq, k, none⟩))) rfl (by kernel_rfl) (by kernel_rfl) (by kernel_rfl) (fun _ _ _ h => h) (Or.inl ⟨by rfl, fun w' _ => by go_simp⟩) hHeld ?_
              try simp only [Act.put, List.getElem_toArray, List.getElem_cons_succ, List.getElem_cons_zero, List.setIfInBounds_toArray, List.set_cons_zero, List.set_cons_succ]
              refine wpAnyH_take (i := 24) (oi := _) (v := (.int .u8 (gap : Int))) rfl (by kernel_rfl) (by kernel_rfl) (by kernel_rfl) (fun _ _ _ h => h) (Or.inl ⟨by rfl, fun w' hSw => by have h1 := hSw; go_simp⟩) hHeld ?_
              try simp only [Act.put, List.getElem_toArray, List.getElem_cons_succ, List.getElem_cons_zero, List.setIfInBounds_toArray, List.set_cons_zero, List.set_cons_succ]
              refine wpAnyH_take (i := 25) (oi := _) (v := (.int .u8 (gap : Int))) rfl (by kernel_rfl) (by kernel_rfl) (by kernel_rfl) (fun _ _ _ h => h) (Or.inl ⟨by rfl, fun w' _ => by go_simp⟩) hHeld ?_
              try simp only [Act.put, List.getElem_toArray, List.getElem_cons_succ, List.getElem_cons_zero, List.setIfInBounds_toArray, List.set_cons_zero, List.set_cons_succ]
              refine wpAnyH_take (i := 26) (oi := _) (v := (.bool false)) rfl (by kernel_rfl) (by kernel_rfl) (by kernel_rfl) (fun _ _ _ h => h) (Or.inl ⟨by rfl, fun w' _ => by go_simp⟩) hHeld ?_
              try simp only [Act.put, List.getElem_toArray, List.getElem_cons_succ, List.getElem_cons_zero, List.setIfInBounds_toArray, List.set_cons_zero, List.set_cons_succ]
              refine wpAnyH_take (i := 27) (oi := _) (v := (.bool false)) rfl (by kernel_rfl) (by kernel_rfl) (by kernel_rfl) (fun _ _ _ h => h) (Or.inl ⟨by rfl, fun w' _ => by go_simp⟩) hHeld ?_
              try simp only [Act.put, List.getElem_toArray, List.getElem_cons_succ, List.getElem_cons_zero, List.setIfInBounds_toArray, List.set_cons_zero, List.set_cons_succ]
              refine wpAnyH_take (i := 28) (oi := _) (v := (.bool false)) rfl (by kernel_rfl) (by kernel_rfl) (by kernel_rfl) (fun _ _ _ h => h) (Or.inl ⟨by rfl, fun w' _ => by go_simp⟩) hHeld ?_
              try simp only [Act.put, List.getElem_toArray, List.getElem_cons_succ, List.getElem_cons_zero, List.setIfInBounds_toArray, List.set_cons_zero, List.set_cons_succ]
              refine wpAnyH_done (by kernel_rfl) ?_ _
              refine NoPanic.normal ?_
              clear hHeld c0 f0 K3
              have hkd := HKS.out.drew
              have c1 := row_cell hkd.q.q k (by rw [qover_length, qrow_length _ _ _ (Nat.le_refl _), HPL.out]; omega)
              have f1 := row_free hkd.q.q k
              have k4 := hkd.store hw2 k ((gap + 1) % 256)
              rw [show (qover (qrow ps gap 80) ((gap + 1) % 256) k).set k ((gap + 1) % 256) = qover (qrow ps gap 80) ((gap + 1) % 256) (k + 1) from rfl, show (((gap + 1) % 256 : Nat) : Int) = ((gap : Int) + 1) % 256 by omega] at k4
              have K4 := Lib.hid k4
              clear hkd k4 HKS
              generalize wr.drew = wd at *
              go_wp2_with fail
              go_roundw
              case rel => exact ⟨k + 1, by omega, by go_num, K4.out⟩
              case measure => simp [intOf]; omega
          · have ik : (i : Int) ≤ k := by omega
            have HKS := Lib.hid hks
            clear hks hlt
            go_wp2_with fail
            refine wp_region_noPanic ?_
            refine wp_region_held_drew (S := fun w' => ∃ qs, KpS w w' gq gs gd qs ps (shaL ps)) (by kernel_rfl) ⟨_, HKS.out.drew⟩ (fun hHeld => ?_)
            clear HKS
            have hde2 : ∀ w : World, (binOp .eql 29 (.agg (cl .u8 (shaL ps)).toArray) (.agg (cw .u8 (shaL ps)))).run Tryd.prog w = .ok (.bool true) w := fun w => dig_same ps w
            have hde3 : ∀ w : World, (binOp .eql 29 (.agg (cw .u8 (shaL ps))) (.agg (cl .u8 (shaL ps)).toArray)).run Tryd.prog w = .ok (.bool true) w := fun w => dig_same ps w
            refine wpAnyH_take (i := 0) (oi := _) (v := _) rfl (by kernel_rfl) (by kernel_rfl) (by kernel_rfl) (fun _ _ _ h => h) (yieldsIf_load_mid (by rfl) _ _ rfl gd 0 rfl (cl .u8 (shaL ps)) _ (fun _ H => dig_range H) Tryd.underlying29 rfl HD32.out) hHeld ?_
            try simp only [Act.put, List.getElem_toArray, List.getElem_cons_succ, List.getElem_cons_zero, List.setIfInBounds_toArray, List.set_cons_zero, List.set_cons_succ]
            refine wpAnyH_take (i := 1) (oi := _) (v := (.slice a len cap)) rfl (by kernel_rfl) (by kernel_rfl) (by kernel_rfl) (fun _ _ _ h => h) (Or.inl ⟨by rfl, fun w' _ => by go_simp⟩) hHeld ?_
            try simp only [Act.put, List.getElem_toArray, List.getElem_cons_succ, List.getElem_cons_zero, List.setIfInBounds_toArray, List.set_cons_zero, List.set_cons_succ]
            refine wpAnyH_take (i := 2) (oi := _) (v := (.string (strOf ps))) rfl (by kernel_rfl) (by kernel_rfl) (by kernel_rfl) (fun _ _ _ h => h) (Or.inl ⟨by rfl, fun w' hSw => by obtain ⟨_, hq'⟩ := hSw; have h1 := run_conv_at HP.out hq'.q.below; go_simp⟩) hHeld ?_
            try simp only [Act.put, List.getElem_toArray, List.getElem_cons_succ, List.getElem_cons_zero, List.setIfInBounds_toArray, List.set_cons_zero, List.set_cons_succ]
            refine wpAnyH_ready (rs := [3]) (by kernel_rfl) (by simp) ?_
            refine AllReadyH.cons (o := _) rfl (fun K hK => ?_) AllReadyH.nil
            rw [if_pos (by rfl)]
            go_simp
            go_at_call 16
            obtain ⟨qs, hh⟩ := hHeld
            refine (of_any (strOf ps) _ hh.q.tab (by rw [strOf_size, HPL.out]; omega)).mono ?_
            rintro e w6 ⟨rfl, hb6⟩
            rw [nb_strOf ps HP.out.byt]
            refine hK.out _ _ ⟨qs, hh.later hb6⟩ (fun hHeld => ?_)
            clear hK K hb6 hh
            try dsimp only
            try simp only [Act.put, List.getElem_toArray, List.getElem_cons_succ, List.getElem_cons_zero, List.setIfInBounds_toArray, List.set_cons_zero, List.set_cons_succ]
            refine wpAnyH_take (i := 4) (oi := _) (v := (.bool true)) rfl (by kernel_rfl) (by kernel_rfl) (by kernel_rfl) (fun _ _ _ h => h) (Or.inl ⟨by rfl, fun w' _ => by go_simp⟩) hHeld ?_
            try simp only [Act.put, List.getElem_toArray, List.getElem_cons_succ, List.getElem_cons_zero, List.setIfInBounds_toArray, List.set_cons_zero, List.set_cons_succ]
            refine wpAnyH_take (i := 5) (oi := _) (v := (.bool true)) rfl (by kernel_rfl) (by kernel_rfl) (by kernel_rfl) (fun _ _ _ h => h) (Or.inl ⟨by rfl, fun w' _ => by go_simp⟩) hHeld ?_
            try simp only [Act.put, List.getElem_toArray, List.getElem_cons_succ, List.getElem_cons_zero, List.setIfInBounds_toArray, List.set_cons_zero, List.set_cons_succ]
            refine wpAnyH_take (i := 6) (oi := _) (v := (.pointer (some ⟨gs, 0, none⟩))) rfl (by kernel_rfl) (by kernel_rfl) (by kernel_rfl) (fun _ _ _ h => h) (Or.inl ⟨by rfl, fun w' _ => by go_simp⟩) hHeld ?_
            try simp only [Act.put, List.getElem_toArray, List.getElem_cons_succ, List.getElem_cons_zero, List.setIfInBounds_toArray, List.set_cons_zero, List.set_cons_succ]
            refine wpAnyH_take (i := 8) (oi := _) (v := _) rfl (by kernel_rfl) (by kernel_rfl) (by kernel_rfl) (fun _ _ _ h => h) (yieldsIf_load_mid (by rfl) _ _ rfl gd 0 rfl (cl .u8 (shaL ps)) _ (fun _ H => dig_range H) Tryd.underlying29 rfl HD32.out) hHeld ?_
            try simp only [Act.put, List.getElem_toArray, List.getElem_cons_succ, List.getElem_cons_zero, List.setIfInBounds_toArray, List.set_cons_zero, List.set_cons_succ]
            refine wpAnyH_ready (rs := [7]) (by kernel_rfl) (by simp) ?_
            refine AllReadyH.cons (o := _) rfl (fun K hK => ?_) AllReadyH.nil
            rw [if_pos (by rfl)]
            go_simp
            go_at_call 25
            obtain ⟨qs2, hh⟩ := hHeld
            refine (sum_any gs ps _ hh.st hh.q.tab (by rw [HPL.out]; omega)).mono ?_
            rintro e w7 ⟨rfl, hb7⟩
            refine hK.out _ _ ⟨qs2, hh.later hb7⟩ (fun hHeld => ?_)
            clear hK K hb7 hh
            try dsimp only
            try simp only [Act.put, List.getElem_toArray, List.getElem_cons_succ, List.getElem_cons_zero, List.setIfInBounds_toArray, List.set_cons_zero, List.set_cons_succ]
            refine wpAnyH_take (i := 9) (oi := _) (v := (.bool true)) rfl (by kernel_rfl) (by kernel_rfl) (by kernel_rfl) (fun _ _ _ h => h) (Or.inl ⟨by rfl, fun w' _ => by go_simp⟩) hHeld ?_
            try simp only [Act.put, List.getElem_toArray, List.getElem_cons_succ, List.getElem_cons_zero, List.setIfInBounds_toArray, List.set_cons_zero, List.set_cons_succ]
            refine wpAnyH_take (i := 10) (oi := _) (v := (.bool true)) rfl (by kernel_rfl) (by kernel_rfl) (by kernel_rfl) (fun _ _ _ h => h) (Or.inl ⟨by rfl, fun w' _ => by go_simp⟩) hHeld ?_
            try simp only [Act.put, List.getElem_toArray, List.getElem_cons_succ, List.getElem_cons_zero, List.setIfInBounds_toArray, List.set_cons_zero, List.set_cons_succ]
            refine wpAnyH_take (i := 11) (oi := _) (v := (.bool true)) rfl (by kernel_rfl) (by kernel_rfl) (by kernel_rfl) (fun _ _ _ h => h) (Or.inl ⟨by rfl, fun w' _ => by go_simp⟩) hHeld ?_
            try simp only [Act.put, List.getElem_toArray, List.getElem_cons_succ, List.getElem_cons_zero, List.setIfInBounds_toArray, List.set_cons_zero, List.set_cons_succ]
            refine wpAnyH_done (by kernel_rfl) ?_ _
            refine NoPanic.normal ?_
            obtain ⟨qs3, hh⟩ := hHeld
            have HB := Lib.hid hh.q.below
            clear hh
            go_wp2_with fail
            go_ret
            exact ⟨rfl, HB.out⟩
theorem shaKeeps_all (a : Option Addr) (len cap : Nat) (zs : List Int) (w : World) (hrow : IsRow .u8 w a len cap zs) (hlen : len * 1 ≤ 140737488351232) (gap : Int) (hg : (Lit.int .u8 gap).wf = true) (hT : Tab w) :
    Calls Tryd.prog 8 #[.slice a len cap, .int .u8 gap] w fun e w' => e = .returned (.bool true) ∧ Below w.heap.size w w' := by
  have hb := bounds_u8 hg
  obtain ⟨g, rfl⟩ : ∃ g : Nat, gap = g := ⟨gap.toNat, by omega⟩
  exact shaKeeps_walk a len cap _ g w (prd_of hrow) hlen (by omega) hT
end Go.Proofs.YtemioilfedpohaaDoor

