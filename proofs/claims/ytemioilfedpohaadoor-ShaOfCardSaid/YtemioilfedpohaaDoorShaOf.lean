/- The walk of the law ShaOf: it returns true. -/
import Derived.Test.YtemioilfedpohaaDoorRof
namespace Go.Proofs.YtemioilfedpohaaDoor
set_option linter.unusedVariables false
set_option linter.unusedSimpArgs false
open Go.RowKit

theorem dig_eq {P : Program} {t e : TypeId} {inf : TypeInfo} (ht : P.underlying t = some (.array 32 e)) (he : P.underlying e = some (.int .u8)) (hi : P.info? e = some inf) (hc : P.cellsOf e = 1) (xs ys : List Nat) (hx : xs.length = 32) (hy : ys.length = 32) (w : World) :
    (binOp .eql t (.agg (cw .u8 xs)) (.agg (cw .u8 ys))).run P w = .ok (.bool (decide (xs = ys))) w := eqr_eql ht he hi hc xs ys hx hy w
theorem dig_same (T : List Nat) (w : World) : (binOp .eql 29 (.agg (cw .u8 (shaL T))) (.agg (cw .u8 (shaL T)))).run Tryd.prog w = .ok (.bool true) w := by
  obtain ⟨inf, hinf⟩ := Option.isSome_iff_exists.1 (show (Tryd.prog.info? 5).isSome = true by kernel_rfl)
  rw [dig_eq Tryd.underlying29 Tryd.underlying5 hinf (by kernel_rfl) _ _ (shaL_length T) (shaL_length T) w, decide_eq_true rfl]

set_option maxRecDepth 100000 in
set_option maxHeartbeats 1000000 in
theorem shaOf_walk (s : ByteArray) (hs : s.size ≤ 140737488351232) (w : World) (hT : Tab w) :
    Calls Tryd.prog 5 #[.string s] w fun e w' => e = .returned (.bool true) ∧ Below w.heap.size w w' := by
  have HT := Lib.hid hT
  have hd := dig_same (nb s)
  clear hT
  go_enter Tryd.func5, Tryd.ntmps5
  go_wp2_with fail
  refine (of_any s w HT.out (by omega)).mono ?_
  rintro e w1 ⟨rfl, hb1⟩
  have HB := Lib.hid hb1
  clear hb1
  go_wp2_with fail
  refine (rof_any s w1 (by omega)).mono ?_
  rintro e w2 ⟨rfl, hb2⟩
  have HB2 := Lib.hid (HB.out.trans (hb2.mono HB.out.size))
  clear hb2 HB
  go_wp2_with fail
  go_ret
  exact ⟨rfl, HB2.out⟩
end Go.Proofs.YtemioilfedpohaaDoor

