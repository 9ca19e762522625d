/- The walks of pack.Share and the law PackShares. -/
import Derived.Test.YtikbbofjkchppaaShrPackShares
import Derived.Test.YtikbbofjkchppaaPPackSharesx3
import Derived.Test.YtikbbofjkchppaaSh
import Derived.Test.YtikbbofjkchppaaLs
namespace Go.Proofs.Ytikbbofjkchppaa
open Go.RowKit FL Go.Proofs.Ytikbbofjkchppaa.PPackShares Go.Proofs.YtikbbofjkchppaaW.PrintWords Go.Proofs.Ytikbbofjkchppaa.NearPackShares

theorem shareZero_ev (p : Int) : Ev (fun k => depotref04_Share.f k p 0) (0, 41) := by
  refine Ev.congr (fun k => ?_) (Ev.now _)
  unfold depotref04_Share.f
  rw [if_pos rfl]

/-- what both give: the bits, the error's number -/
def psB (a b : Int) : Nat := if a < 0 ∨ b < 0 ∨ a = 0 then 0 else shB b a
def psE (a b : Int) : Int := if a < 0 ∨ b < 0 then 1 else if a = 0 then 41 else 0

theorem psRef (a b : Int) (ha : a ≤ 9223372036854775807) (hb : b ≤ 9223372036854775807) : Ev (fun k => depotref10_Share.f k a b) ((psB a b : Int), psE a b) := by
  unfold depotref10_Share.f psB psE
  by_cases h1 : a < 0
  · rw [if_pos (by omega), if_pos (by omega)]
    exact Ev.congr (fun k => by rw [if_pos h1]; rfl) (Ev.now _)
  · by_cases h2 : b < 0
    · rw [if_pos (by omega), if_pos (by omega)]
      exact Ev.congr (fun k => by rw [if_neg h1, if_pos h2]; rfl) (Ev.now _)
    · have e1 : IntKind.u64.wrap b = b := by rw [IntKind.wrap_u64]; omega
      have e2 : IntKind.u64.wrap a = a := by rw [IntKind.wrap_u64]; omega
      by_cases h3 : a = 0
      · subst h3
        rw [if_pos (by omega), if_neg (by omega), if_pos rfl]
        refine Ev.congr (f := fun k => (depotref04_Share.f k b 0).bind fun x => some (x.1, x.2)) (fun k => ?_) (Ev.bind (shareZero_ev b) (Ev.now _))
        rw [if_neg h1, if_neg h2, e1, e2]
      · rw [if_neg (by omega), if_neg (by omega), if_neg h3]
        refine Ev.congr (f := fun k => (depotref04_Share.f k b a).bind fun x => some (x.1, x.2)) (fun k => ?_) (Ev.bind (share_ev b a (by omega) (by omega) (by omega) (by omega)) (Ev.now _))
        rw [if_neg h1, if_neg h2, e1, e2]

theorem packShare_any (a b : Int) (ha : a ≤ 9223372036854775807) (hb : b ≤ 9223372036854775807) (wd : World) :
    Calls Try.prog 12 #[.int .i64 a, .int .i64 b] wd fun e w' => e = .returned (.tuple #[.float .f64 (psB a b), .int .i64 (psE a b)]) ∧ wd = w' := by
  unfold psB psE
  by_cases h1 : a < 0
  · rw [if_pos (by omega), if_pos (by omega)]
    go_enter Try.func12, Try.ntmps12
    go_wp2_with fail
    go_ret2
    exact ⟨rfl, rfl⟩
  · by_cases h2 : b < 0
    · rw [if_pos (by omega), if_pos (by omega)]
      go_enter Try.func12, Try.ntmps12
      go_wp2_with fail
      go_ret2
      exact ⟨rfl, rfl⟩
    · have e1 : IntKind.u64.wrap b = b := by rw [IntKind.wrap_u64]; omega
      have e2 : IntKind.u64.wrap a = a := by rw [IntKind.wrap_u64]; omega
      by_cases h3 : a = 0
      · subst h3
        rw [if_pos (by omega), if_neg (by omega), if_pos rfl]
        have C := Lib.hid (share_zero b wd)
        go_enter Try.func12, Try.ntmps12
        go_wp2_with fail
        refine C.out.mono ?_; rintro e w' ⟨rfl, rfl⟩
        go_wp2_with fail
        go_ret2
        exact ⟨rfl, rfl⟩
      · rw [if_neg (by omega), if_neg (by omega), if_neg h3]
        have C := Lib.hid (share_ok b a (by omega) (by omega) (by omega) (by omega) wd)
        go_enter Try.func12, Try.ntmps12
        go_wp2_with fail
        refine C.out.mono ?_; rintro e w' ⟨rfl, rfl⟩
        go_wp2_with fail
        go_ret2
        exact ⟨rfl, rfl⟩

theorem quarter : (FloatKind.f64.format.order (psB 8 2) 4598175219545276416 != some .eq) = false := by decide +kernel

set_option maxHeartbeats 1000000 in
theorem ps_walk (a b : Int) (ha : a ≤ 9223372036854775807) (hb : b ≤ 9223372036854775807) (wd : World) :
    Calls Try.prog 3 #[.int .i64 a, .int .i64 b] wd fun e w' => e = .returned (.bool true) ∧ Drawn0 wd w' := by
  have C1 := Lib.hid (packShare_any 8 2 (by omega) (by omega) wd)
  have C2 := Lib.hid (packShare_any a b ha hb wd)
  have C3 := Lib.hid (fun wd => (psRef a b ha hb).rounds.elim fun k hk => depotref10_Share.calls k a b _ _ wd hk)
  have f8 := quarter
  have e8 : psE 8 2 = 0 := by decide
  have tb : ∀ w1, (callFunc 14 #[.float .f64 (psB a b)]).run Try.prog w1 = .ok (.value (.int .u64 (psB a b : Int))) w1 := tobits _
  rw [e8] at C1
  clear e8
  generalize psB a b = s at *
  generalize psE a b = t at *
  clear ha hb
  go_enter Try.func3, Try.ntmps3
  go_wp2_with fail
  refine C1.out.mono ?_; rintro e w' ⟨rfl, rfl⟩
  go_wp2_with fail
  refine C2.out.mono ?_; rintro e w' ⟨rfl, rfl⟩
  go_wp2_with fail
  refine (C3.out _).mono ?_; rintro e w1 ⟨rfl, hd⟩
  go_wp2_with fail
  go_ret
  exact ⟨rfl, hd⟩
end Go.Proofs.Ytikbbofjkchppaa
