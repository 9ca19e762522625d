/- The walk of math/bits.TrailingZeros64 over its table. -/
import Derived.Test.YtfecgfefchdapaaDoorFz
import Derived.Shelf.Spec.TrailingZeros
namespace Go.Proofs.YtfecgfefchdapaaDoor
set_option linter.unusedVariables false
set_option linter.unusedSimpArgs false
open Go.RowKit FL Go.Shelf

theorem tz_core (x k idx : Nat) (wd : World) (hx0 : ((x : Int) == 0) = false)
    (key : IntKind.u64.wrap (bits BinOp.and IntKind.u64 (x : Int) (IntKind.u64.wrap (-(x : Int))) * 285870213051353865) / 288230376151711744 = (idx : Int))
    (hi : idx < 64) (hk : k < 64) (hcell : wd.cell? ⟨1, idx, none⟩ = some (.int .u8 k)) :
    Calls Tryd.prog 29 #[.int .u64 x] wd fun e w' => e = .returned (.int .i64 k) ∧ w' = wd := by
  have hi0 : (0 : Int) ≤ idx := by omega
  have hi1 : (idx : Int) < 64 := by omega
  go_enter Tryd.func29, Tryd.ntmps29
  go_wp2_with fail
  go_ret
  exact ⟨rfl, rfl⟩
theorem tz_any (x : Nat) (hx : x < 18446744073709551616) (hx0 : x ≠ 0) (wd : World) (hT : TabAt 1 Lib.deBruijn64tab wd) :
    Calls Tryd.prog 29 #[.int .u64 x] wd fun e w' => e = .returned (.int .i64 (Lib.ctz 64 x)) ∧ w' = wd := by
  obtain ⟨hlow, hk⟩ := Lib.lowest_bit 64 x hx0 hx
  obtain ⟨hi, htab⟩ := Lib.deBruijn64_at _ hk
  have hcell := hT _ hi
  rw [htab] at hcell
  exact tz_core x _ _ wd (by simp; omega) (tz64_key x _ hx hx0 hlow) hi hk hcell
/-- the integer that the program makes of the fraction -/
def sigI (s : Bool) (r : Nat) : Int := if s then -((sig r : Nat) : Int) else ((sig r : Nat) : Int)
def sigU (s : Bool) (r : Nat) : Nat := if s then 18446744073709551616 - sig r else sig r
theorem sig_bd (r : Nat) : 4503599627370496 ≤ sig r ∧ sig r < 9007199254740992 := by
  unfold sig
  have := Nat.mod_lt (nrm r) (show 0 < 4503599627370496 by decide)
  omega
theorem toint_sig (s : Bool) (r : Nat) : floatToIntVal .f64 (word s (rg (nrm r % 4503599627370496) 1075)) .i64 = some (sigI s r) := by
  have hv := toint53 s (nrm r % 4503599627370496) (Nat.mod_lt (nrm r) (by decide))
  unfold sigI sig
  exact hv
theorem sig_u (s : Bool) (r : Nat) : IntKind.u64.wrap (sigI s r) = ((sigU s r : Nat) : Int) ∧ sigU s r < 18446744073709551616 ∧ sigU s r ≠ 0 := by
  have hb := sig_bd r
  unfold sigI sigU
  generalize sig r = g at *
  rw [IntKind.wrap_u64]
  cases s
  · simp only [Bool.false_eq_true, if_false]; omega
  · simp only [if_true]; omega
end Go.Proofs.YtfecgfefchdapaaDoor

