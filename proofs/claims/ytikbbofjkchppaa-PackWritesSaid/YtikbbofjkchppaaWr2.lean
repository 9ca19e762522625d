/- The walks of the reference's four and chains. -/
import Derived.Test.YtikbbofjkchppaaWr1
namespace Go.Proofs.Ytikbbofjkchppaa
set_option linter.unusedVariables false
set_option linter.unusedSimpArgs false
open Go.RowKit

theorem loop_eq (x : ByteArray) : ∀ (d i : Nat) (r : List UInt8), x.size - i = d → ByteArray.toList.loop x i r = r.reverse ++ x.data.toList.drop i := by
  intro d
  induction d with
  | zero =>
    intro i r h
    unfold ByteArray.toList.loop
    rw [if_neg (by omega), List.drop_eq_nil_of_le (by simp; omega)]
    simp
  | succ d ih =>
    intro i r h
    unfold ByteArray.toList.loop
    rw [if_pos (by omega), ih (i + 1) _ (by omega)]
    have hi : i < x.data.toList.length := by simp; omega
    rw [List.drop_eq_getElem_cons hi]
    have : x.get! i = x.data.toList[i] := by
      simp [ByteArray.get!]
      rw [getElem!_pos]
    rw [this]
    simp
theorem toList_data (x : ByteArray) : x.toList = x.data.toList := by
  unfold ByteArray.toList
  rw [loop_eq x _ 0 [] rfl]
  simp
theorem text_eq (x y : ByteArray) : (x.toList == y.toList) = decide (nb x = nb y) := by
  by_cases h : nb x = nb y
  · obtain rfl := nb_inj h
    simp
  · rw [decide_eq_false h]
    have : x.toList ≠ y.toList := fun e => h (by
      rw [toList_data, toList_data] at e
      unfold nb
      rw [e])
    simpa using this
theorem win_take (L : List Nat) (a : Nat) (h : a + 4 ≤ L.length) : (L.drop a).take 4 = win L a := by
  have e : ∀ j, j < L.length → L[j]? = some (L.getD j 0) := fun j hj => by simp [List.getD_eq_getElem?_getD, hj]
  rw [drop_cons L a (by omega), drop_cons L (a + 1) (by omega), drop_cons L (a + 1 + 1) (by omega), drop_cons L (a + 1 + 1 + 1) (by omega)]
  rfl

set_option maxRecDepth 100000 in
set_option maxHeartbeats 2000000 in
theorem rfour_any (s : ByteArray) (a b : Nat) (ha : a + 4 ≤ s.size) (hb : b + 4 ≤ s.size) (hs : s.size ≤ 1048576) (w : World) : Calls Try.prog 34 #[.string s, .int .i64 (a : Int), .int .i64 (b : Int)] w fun e w' => e = .returned (.bool (decide (win (nb s) a = win (nb s) b))) ∧ Below w.heap.size w w' := by
  obtain ⟨x, hx⟩ : ∃ x, s.extract a (a + 4) = x := ⟨_, rfl⟩
  obtain ⟨y, hy⟩ : ∃ y, s.extract b (b + 4) = y := ⟨_, rfl⟩
  have hxn : nb x = win (nb s) a := by rw [← hx, nb_extract s a _ ha, show a + 4 - a = 4 by omega, win_take _ _ (by rw [nb_length]; exact ha)]
  have hyn : nb y = win (nb s) b := by rw [← hy, nb_extract s b _ hb, show b + 4 - b = 4 by omega, win_take _ _ (by rw [nb_length]; exact hb)]
  have he := text_eq x y
  rw [hxn, hyn] at he
  generalize decide (win (nb s) a = win (nb s) b) = t at *
  have a0 : (0 : Int) ≤ a := by omega
  have b0 : (0 : Int) ≤ b := by omega
  have a1 : (a : Int) + 4 ≤ s.size := by omega
  have b1 : (b : Int) + 4 ≤ s.size := by omega
  have a2 : (0 : Int) ≤ (a : Int) + 4 := by omega
  have b2 : (0 : Int) ≤ (b : Int) + 4 := by omega
  have a3 : (a : Int) ≤ (a : Int) + 4 := by omega
  have b3 : (b : Int) ≤ (b : Int) + 4 := by omega
  have a4 : ((a : Int) + 4).toNat = a + 4 := by omega
  have b4 : ((b : Int) + 4).toNat = b + 4 := by omega
  have wa : IntKind.i64.wrap ((a : Int) + 4) = (a : Int) + 4 := IntWalk.i64_in _ (by omega)
  have wb : IntKind.i64.wrap ((b : Int) + 4) = (b : Int) + 4 := IntWalk.i64_in _ (by omega)
  clear hxn hyn
  go_enter Try.func34, Try.ntmps34
  go_upto_region 1 with fail
  go_quiet (fail)
  go_wp2_with fail
  go_ret
  exact ⟨rfl, ⟨rfl, rfl, rfl, Nat.le_refl _, fun _ _ => rfl⟩⟩

/-! ### rows told by a function -/
def rowF (f : Nat → Int) (n : Nat) : Array Value := ((List.range n).map fun j => Value.int .i64 (f j)).toArray
theorem rowF_size (f : Nat → Int) (n : Nat) : (rowF f n).size = n := by simp [rowF]
theorem rowF_get (f : Nat → Int) (n i : Nat) (h : i < n) : (rowF f n)[i]? = some (.int .i64 (f i)) := by
  simp [rowF, h]
theorem rowF_set (f : Nat → Int) (n i : Nat) (v : Int) : (rowF f n).setIfInBounds i (.int .i64 v) = rowF (upd f i v) n := by
  apply Array.ext
  · simp [rowF]
  · intro j h1 h2
    simp only [rowF, Array.size_setIfInBounds, List.size_toArray, List.length_map, List.length_range] at h1 h2
    rw [Array.getElem_setIfInBounds (by simpa [rowF] using h1)]
    simp only [rowF, List.getElem_toArray, List.getElem_map, List.getElem_range, upd]
    by_cases e : i = j
    · rw [if_pos e, if_pos e.symm]
    · rw [if_neg e, if_neg (fun q => e q.symm)]
theorem make_rowF (n : Nat) (hn : n ≤ 35184372088832) (W : World) : (Instr.makeSlice 51 (.int .i64 (n : Int)) (.int .i64 (n : Int))).run Try.prog W = .ok (.slice (some ⟨W.heap.size, 0, none⟩) n n) (W.alloc (.cells (rowF (fun _ => 0) n) 3)) := by
  obtain ⟨i0, hi, hz0, hz1, hz2⟩ := info_parts (show (Try.prog.info? 3).map (fun i => (i.zero, i.size, i.bytes)) = some (some (.int .i64 0), 1, 8) by kernel_rfl)
  have hr := run_make (P := Try.prog) W 51 3 i0 (.int .i64 0) Try.underlying51 hi hz0 .i64 .i64 (n : Int) (n : Int) (by omega) (by omega) (by rw [hz2]; omega) (by omega)
  rw [hr, hz1, Int.toNat_natCast, Nat.mul_one]
  congr 3
  apply Array.ext'
  rw [show (Value.int .i64 0).cells = #[Value.int .i64 0] from rfl, toList_madeCells_one]
  simp only [rowF]
  apply List.ext_getElem
  · simp
  · intro j h1 h2
    simp
theorem rowF_cell {w : World} {g : Nat} {f : Nat → Int} {n : Nat} {t : TypeId} (h : w.heap[g]? = some (.cells (rowF f n) t (0, 0))) (i : Nat) (hi : i < n) : w.cell? ⟨g, i, none⟩ = some (.int .i64 (f i)) := by
  rw [cell_of_row w g i _ t _ h, rowF_get f n i hi]
theorem rowF_store {w : World} {g : Nat} {f : Nat → Int} {n : Nat} {t : TypeId} (h : w.heap[g]? = some (.cells (rowF f n) t (0, 0))) (i : Nat) (v : Int) : (w.setCell ⟨g, i, none⟩ (.int .i64 v)).heap[g]? = some (.cells (rowF (upd f i v) n) t (0, 0)) := by
  rw [heap_setCell_same w g i _ t _ h, rowF_set]
/-- the two bytes at a place -/
def two (L : List Nat) (i : Nat) : Nat := L.getD i 0 * 256 + L.getD (i + 1) 0
/-- the last place ahead of i with these two bytes, and one; 0: none -/
def headsF (L : List Nat) : Nat → Nat → Int
  | 0 => fun _ => 0
  | i + 1 => upd (headsF L i) (two L i) ((i : Int) + 1)
def prevF (L : List Nat) : Nat → Nat → Int
  | 0 => fun _ => 0
  | i + 1 => upd (prevF L i) i (headsF L i (two L i) - 1)
theorem headsF_bd (L : List Nat) : ∀ i x, 0 ≤ headsF L i x ∧ headsF L i x ≤ i
  | 0, x => by simp [headsF]
  | i + 1, x => by
    have := headsF_bd L i x
    simp only [headsF, upd]
    split <;> omega
theorem prevF_at (L : List Nat) (j : Nat) : ∀ i, j < i → prevF L i j = headsF L j (two L j) - 1
  | 0, h => by omega
  | i + 1, h => by
    simp only [prevF, upd]
    by_cases e : j = i
    · rw [if_pos e, e]
    · rw [if_neg e, prevF_at L j i (by omega)]

set_option maxRecDepth 100000 in
set_option maxHeartbeats 3000000 in
theorem chains_any (s : ByteArray) (hs : s.size ≤ 1048576) (w : World) : Calls Try.prog 32 #[.string s] w fun e w' => ∃ g, w.heap.size ≤ g ∧ e = .returned (.slice (some ⟨g, 0, none⟩) s.size s.size) ∧ w'.heap[g]? = some (.cells (rowF (prevF (nb s) (s.size - 1)) s.size) 3 (0, 0)) ∧ Below w.heap.size w w' := by
  have hm1 := fun W => make_rowF 65536 (by omega) W
  have hm2 := fun W => make_rowF s.size (by omega) W
  obtain ⟨N, hN⟩ : ∃ N : Nat, N = 65536 := ⟨_, rfl⟩
  rw [← hN] at hm1
  have hNI : ((N : Nat) : Int) = 65536 := by omega
  rw [hNI] at hm1
  have HN := Lib.hid hN
  clear hN hNI
  have hs0 : (0 : Int) ≤ s.size := by omega
  have hsI : (s.size : Int) ≤ 1048576 := by omega
  have hb1 : Below w.heap.size w ((w.alloc (.cells (rowF (fun _ => 0) N) 3)).alloc (.cells (rowF (fun _ => 0) s.size) 3)) := bl_alloc (bl_alloc (Below.refl _ _) _) _
  have hr1 : ((w.alloc (.cells (rowF (fun _ => 0) N) 3)).alloc (.cells (rowF (fun _ => 0) s.size) 3)).heap[w.heap.size]? = some (.cells (rowF (headsF (nb s) 0) N) 3 (0, 0)) := (Below.heap_alloc _ _ _ (by simp)).trans (heap_alloc_new w _)
  have hr2 : ((w.alloc (.cells (rowF (fun _ => 0) N) 3)).alloc (.cells (rowF (fun _ => 0) s.size) 3)).heap[w.heap.size + 1]? = some (.cells (rowF (prevF (nb s) 0) s.size) 3 (0, 0)) := by
    have h := heap_alloc_new (w.alloc (.cells (rowF (fun _ => 0) N) 3)) (.cells (rowF (fun _ => 0) s.size) 3)
    rw [show prevF (nb s) 0 = fun _ => 0 from rfl]
    simpa using h
  have HB1 := Lib.hid hb1
  have HR1 := Lib.hid hr1
  have HR2 := Lib.hid hr2
  clear hb1 hr1 hr2
  go_enter Try.func32, Try.ntmps32
  go_upto_region 3 with fail
  clear hm1 hm2
  have hgh : w.heap.size ≤ w.heap.size := Nat.le_refl _
  have hgp : w.heap.size ≤ w.heap.size + 1 := Nat.le_succ _
  have hne : w.heap.size ≠ w.heap.size + 1 := by omega
  have HGP := Lib.hid hgp
  generalize hg1 : (w.alloc (.cells (rowF (fun _ => 0) N) 3)).alloc (.cells (rowF (fun _ => 0) s.size) 3) = W1 at *
  generalize hg2 : w.heap.size + 1 = gp at *
  obtain ⟨gh, hg3⟩ : ∃ gh, gh = w.heap.size := ⟨_, rfl⟩
  rw [← hg3] at hne
  have hr1 := HR1.out
  rw [← hg3] at hr1
  have HR1' := Lib.hid hr1
  have HG3 := Lib.hid (Nat.le_of_eq hg3.symm)
  rw [← hg3]
  clear hg1 hg2 hg3 hgh hgp HR1 hr1
  go_wp2_with fail
  go_loopw [5] (fun x5 wr => ∃ i : Nat, x5 = .int .i64 (i : Nat) ∧ i ≤ s.size - 1 ∧ wr.heap[gh]? = some (.cells (rowF (headsF (nb s) i) N) 3 (0, 0)) ∧ wr.heap[gp]? = some (.cells (rowF (prevF (nb s) i) s.size) 3 (0, 0)) ∧ Below w.heap.size w wr) (fun x5 _ => s.size - (intOf x5).toNat)
  case atStart => exact ⟨0, rfl, Nat.zero_le _, HR1'.out, HR2.out, HB1.out⟩
  case round =>
    clear HR1' HR2 HB1
    obtain ⟨i, rfl, hi, hh, hp, hb⟩ := hrel
    have hi0 : (0 : Int) ≤ i := by omega
    by_cases hlt : i + 1 < s.size
    · have hltI : (i : Int) + 1 < s.size := by omega
      have hlt2 : (i : Int) < s.size := by omega
      obtain ⟨x, hx1⟩ : ∃ x, (nb s).getD i 0 = x := ⟨_, rfl⟩
      obtain ⟨y, hy1⟩ : ∃ y, (nb s).getD (i + 1) 0 = y := ⟨_, rfl⟩
      have hxs : (s[i]'(by omega)).toNat = x := by rw [← hx1]; exact (getD_nb s i (by omega)).symm
      have hys : (s[i + 1]'hlt).toNat = y := by rw [← hy1]; exact (getD_nb s (i + 1) hlt).symm
      have hxb : x < 256 := by rw [← hx1]; exact bytes_getD (nb_bytes s) _
      have hyb : y < 256 := by rw [← hy1]; exact bytes_getD (nb_bytes s) _
      obtain ⟨tw, htw⟩ : ∃ tw, two (nb s) i = tw := ⟨_, rfl⟩
      have htw2 : tw = x * 256 + y := by rw [← htw, two, hx1, hy1]
      have htwI : (x : Int) * 256 + y = tw := by omega
      have htN : tw < N := by rw [HN.out]; omega
      have t0 : (0 : Int) ≤ tw := by omega
      have t1 : (tw : Int) < N := by omega
      have hbd := headsF_bd (nb s) i tw
      have ch := rowF_cell hh tw htN
      have cp := rowF_cell hp i (by omega)
      have fh := frozen_of_row _ gh tw _ _ hh
      have fp := frozen_of_row _ gp i _ _ hp
      have hp2 := rowF_store hp i (headsF (nb s) i tw - 1)
      have hh2 : (wr.setCell ⟨gp, i, none⟩ (.int .i64 (headsF (nb s) i tw - 1))).heap[gh]? = some (.cells (rowF (headsF (nb s) i) N) 3 (0, 0)) := row_other hh hne
      have hh3 := rowF_store hh2 tw ((i : Int) + 1)
      have hp3 : ((wr.setCell ⟨gp, i, none⟩ (.int .i64 (headsF (nb s) i tw - 1))).setCell ⟨gh, tw, none⟩ (.int .i64 ((i : Int) + 1))).heap[gp]? = _ := row_other hp2 (Ne.symm hne)
      rw [show upd (headsF (nb s) i) tw ((i : Int) + 1) = headsF (nb s) (i + 1) by rw [← htw]; rfl] at hh3
      rw [show upd (prevF (nb s) i) i (headsF (nb s) i tw - 1) = prevF (nb s) (i + 1) by rw [← htw]; rfl] at hp3
      have hb3 : Below w.heap.size w ((wr.setCell ⟨gp, i, none⟩ (.int .i64 (headsF (nb s) i tw - 1))).setCell ⟨gh, tw, none⟩ (.int .i64 ((i : Int) + 1))) := (hb.setCell HGP.out _).setCell HG3.out _
      have a1 : ((i : Int) + 1).toNat = i + 1 := by omega
      have a2 : (0 : Int) ≤ (i : Int) + 1 := by omega
      have x0 : (0 : Int) ≤ x := by omega
      have x1 : (x : Int) < 256 := by omega
      have y0 : (0 : Int) ≤ y := by omega
      have y1 : (y : Int) < 256 := by omega
      have c2 := cell_of_row _ gh tw _ _ _ hh2
      rw [rowF_get _ _ _ htN] at c2
      have f2 := frozen_of_row _ gh tw _ _ hh2
      have wi1 : IntKind.i64.wrap ((i : Int) + 1) = (i : Int) + 1 := IntWalk.i64_in _ (by omega)
      generalize headsF (nb s) i tw = hv at *
      have HTW := Lib.hid htwI
      have HH3 := Lib.hid hh3
      have HP3 := Lib.hid hp3
      have HB3 := Lib.hid hb3
      have hvI : hv ≤ 1048576 := by omega
      have HV := Lib.hid hbd
      clear hx1 hy1 hxb hyb htw htw2 htwI hh2 hh3 hp2 hp3 hb3 hh hp hb
      go_upto_region 6 with fail
      go_cut [6] from 11 to 41 (fun x6 wx => x6 = .int .i64 (tw : Int) ∧ ∃ nq, wx = wr.drewN nq)
      case first =>
        go_quiet (fail)
        go_wp2_with fail
        go_meet
        exact ⟨by rw [HTW.out], nq, rfl⟩
      case rest =>
        obtain ⟨rfl, nq, rfl⟩ := hcut
        have c1d : (wr.drewN nq).cell? ⟨gh, tw, none⟩ = some (.int .i64 hv) := ch
        have c2d : (wr.drewN nq).cell? ⟨gp, i, none⟩ = some (.int .i64 (prevF (nb s) i i)) := cp
        have f1d : (wr.drewN nq).frozen? ⟨gp, i, none⟩ = false := fp
        have c3d : ((wr.drewN nq).setCell ⟨gp, i, none⟩ (.int .i64 (hv - 1))).cell? ⟨gh, tw, none⟩ = some (.int .i64 hv) := c2
        have f3d : ((wr.drewN nq).setCell ⟨gp, i, none⟩ (.int .i64 (hv - 1))).frozen? ⟨gh, tw, none⟩ = false := f2
        have hh4 : (((wr.drewN nq).setCell ⟨gp, i, none⟩ (.int .i64 (hv - 1))).setCell ⟨gh, tw, none⟩ (.int .i64 ((i : Int) + 1))).heap[gh]? = _ := HH3.out
        have hp4 : (((wr.drewN nq).setCell ⟨gp, i, none⟩ (.int .i64 (hv - 1))).setCell ⟨gh, tw, none⟩ (.int .i64 ((i : Int) + 1))).heap[gp]? = _ := HP3.out
        have hb4 : Below w.heap.size w (((wr.drewN nq).setCell ⟨gp, i, none⟩ (.int .i64 (hv - 1))).setCell ⟨gh, tw, none⟩ (.int .i64 ((i : Int) + 1))) := ⟨HB3.out.os, HB3.out.tape, HB3.out.output, HB3.out.size, HB3.out.block⟩
        have HH4 := Lib.hid hh4
        have HP4 := Lib.hid hp4
        have HB4 := Lib.hid hb4
        have hv0 := HV.out.1
        clear ch cp fh fp c2 f2 hh4 hp4 hb4 HH3 HP3 HB3 hxs hys wi1
        generalize wr.drewN nq = wd at *
        go_wp2_with fail
        go_roundw
        case rel => exact ⟨i + 1, by go_num, by omega, HH4.out, HP4.out, HB4.out⟩
        case measure => simp [intOf]; omega
    · have hltI : ¬ (i : Int) + 1 < s.size := by omega
      obtain rfl : i = s.size - 1 := by omega
      have HP := Lib.hid hp
      have HB := Lib.hid hb
      clear hp hb hh
      go_wp2_with fail
      go_ret
      exact ⟨gp, HGP.out, rfl, HP.out, HB.out⟩
end Go.Proofs.Ytikbbofjkchppaa

