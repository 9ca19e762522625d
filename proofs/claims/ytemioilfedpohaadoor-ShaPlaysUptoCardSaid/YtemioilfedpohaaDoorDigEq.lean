/- Two digests compared; depotlaw01.awake. -/
import Derived.Test.YtemioilfedpohaaDoorSum
namespace Go.Proofs.YtemioilfedpohaaDoor
set_option linter.unusedVariables false
set_option linter.unusedSimpArgs false
open Go.RowKit

theorem dig_eq {P : Program} {t e : TypeId} {inf : TypeInfo} (ht : P.underlying t = some (.array 32 e)) (he : P.underlying e = some (.int .u8)) (hi : P.info? e = some inf) (hc : P.cellsOf e = 1) (xs ys : List Nat) (hx : xs.length = 32) (hy : ys.length = 32) (w : World) :
    (binOp .eql t (.agg (cw .u8 xs)) (.agg (cw .u8 ys))).run P w = .ok (.bool (decide (xs = ys))) w := eqr_eql ht he hi hc xs ys hx hy w
theorem dig_same (T : List Nat) (w : World) : (binOp .eql 29 (.agg (cw .u8 (shaL T))) (.agg (cw .u8 (shaL T)))).run Tryd.prog w = .ok (.bool true) w := by
  obtain ⟨inf, hinf⟩ := Option.isSome_iff_exists.1 (show (Tryd.prog.info? 5).isSome = true by kernel_rfl)
  rw [dig_eq Tryd.underlying29 Tryd.underlying5 hinf (by kernel_rfl) _ _ (shaL_length T) (shaL_length T) w, decide_eq_true rfl]
theorem dig_neq {P : Program} {t e : TypeId} {inf : TypeInfo} (ht : P.underlying t = some (.array 32 e)) (he : P.underlying e = some (.int .u8)) (hi : P.info? e = some inf) (hc : P.cellsOf e = 1) (xs ys : List Nat) (hx : xs.length = 32) (hy : ys.length = 32) (w : World) :
    (binOp .neq t (.agg (cw .u8 xs)) (.agg (cw .u8 ys))).run P w = .ok (.bool (!decide (xs = ys))) w := eqr_neq ht he hi hc xs ys hx hy w
theorem dig_nsame (T : List Nat) (w : World) : (binOp .neq 29 (.agg (cw .u8 (shaL T))) (.agg (cw .u8 (shaL T)))).run Tryd.prog w = .ok (.bool false) w := by
  obtain ⟨inf, hinf⟩ := Option.isSome_iff_exists.1 (show (Tryd.prog.info? 5).isSome = true by kernel_rfl)
  rw [dig_neq Tryd.underlying29 Tryd.underlying5 hinf (by kernel_rfl) _ _ (shaL_length T) (shaL_length T) w, decide_eq_true rfl]
  rfl

theorem sha_abc : (shaL [97, 98, 99]).getD 0 0 = 186 ∧ (shaL [97, 98, 99]).getD 1 0 = 120 ∧ (shaL [97, 98, 99]).getD 2 0 = 22 ∧ (shaL [97, 98, 99]).getD 3 0 = 191 ∧ (shaL [97, 98, 99]).getD 30 0 = 21 ∧ (shaL [97, 98, 99]).getD 31 0 = 173 := by decide +kernel

set_option maxRecDepth 100000 in
set_option maxHeartbeats 1000000 in
theorem awake_any (w : World) (hT : Tab w) : Calls Tryd.prog 18 #[] w fun e w' => e = .returned (.bool true) ∧ Below w.heap.size w w' := by
  have HT := Lib.hid hT
  have hz32 := (zero_of_info (P := Tryd.prog) (t := 29) (v := .agg (cw .u8 (zr 32))) (n := 32) (by kernel_rfl)).1
  clear hT
  go_enter Tryd.func18, Tryd.ntmps18
  go_wp2_with fail
  refine (of_any ⟨#[97, 98, 99]⟩ w HT.out (by decide)).mono ?_
  rintro e w1 ⟨rfl, hb1⟩
  have he : nb ⟨#[97, 98, 99]⟩ = [97, 98, 99] := rfl
  rw [he]
  have hl := shaL_length [97, 98, 99]
  have h32 : (cw .u8 (shaL [97, 98, 99])).size = 32 := by rw [cw_size, hl]
  have hn := heap_alloc_new w1 (.cells (cw .u8 (zr 32)) 29)
  obtain ⟨W, hW⟩ : ∃ W, W = (w1.alloc (.cells (cw .u8 (zr 32)) 29)).setRow w1.heap.size (cw .u8 (shaL [97, 98, 99])) := ⟨_, rfl⟩
  have hnew : NewRow w1 W (cw .u8 (shaL [97, 98, 99])) 29 := by rw [hW]; exact new_row _ _ _ _
  have hB := Lib.hid (hb1.trans (hnew.below.mono hb1.size))
  obtain ⟨e0, e1, e2, e3, e4, e5⟩ := sha_abc
  have c0 := row_cell hnew.new 0 (by rw [hl]; omega)
  have c1 := row_cell hnew.new 1 (by rw [hl]; omega)
  have c2 := row_cell hnew.new 2 (by rw [hl]; omega)
  have c3 := row_cell hnew.new 3 (by rw [hl]; omega)
  have c4 := row_cell hnew.new 30 (by rw [hl]; omega)
  have c5 := row_cell hnew.new 31 (by rw [hl]; omega)
  rw [e0] at c0; rw [e1] at c1; rw [e2] at c2; rw [e3] at c3; rw [e4] at c4; rw [e5] at c5
  have HN := Lib.hid hn
  have H32 := Lib.hid h32
  rw [hW] at c0 c1 c2 c3 c4 c5 hB
  clear e0 e1 e2 e3 e4 e5 he hl h32 hn hnew hW hb1 W
  generalize shaL [97, 98, 99] = D at *
  go_wp2_with (first | (with_reducible refine wpList_store_row rfl 29 _ _ rfl w1.heap.size _ rfl rfl 29 (cw .u8 (zr 32)) ?_ ?_ ?_ ?_ ?_))
  · exact HN.out
  · rw [H32.out]; exact info32
  · rw [H32.out]; rfl
  · exact cw_one _ _
  · go_wp2_with fail
    go_ret
    exact ⟨rfl, hB.out⟩
end Go.Proofs.YtemioilfedpohaaDoor

