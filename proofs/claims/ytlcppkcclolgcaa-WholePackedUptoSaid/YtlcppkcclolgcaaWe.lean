/- The walk of tree's walker over every node. -/
import Derived.Test.YtlcppkcclolgcaaWd
namespace Go.Proofs.Ytlcppkcclolgcaa
set_option linter.unusedVariables false
set_option linter.unusedSimpArgs false
open Go.RowKit

theorem fld_kind {n : ND} (h : n.fldE = 0) : n.kind = 1 ∨ n.kind = 2 ∨ n.kind = 3 := by
  unfold ND.fldE at h
  by_cases k1 : n.kind = 1
  · exact .inl k1
  · by_cases k2 : n.kind = 2
    · exact .inr (.inl k2)
    · by_cases k3 : n.kind = 3
      · exact .inr (.inr k3)
      · rw [if_neg k1, if_neg k2, if_neg k3] at h; cases h
theorem small_text {n : ND} {m : Nat} (h : n.small m) : n.text.size ≤ m := by
  induction n with
  | leaf => exact h
  | add p s c ih _ => exact ih h.1
theorem small_cnt {n : ND} {m : Nat} (h : n.small m) : n.cnt ≤ m := by
  cases n with
  | leaf => simp [ND.cnt]
  | add p s c => exact h.2.2.2
theorem node_any (nm : ByteArray → Int) (w0 : World) (B g : Nat)
    (CN : ∀ s w, s.size ≤ 1048576 → Calls Try.prog 58 #[.string s] w fun e w' => e = .returned (.int .i64 (nm s)) ∧ Below w.heap.size w w') :
    ∀ (k : Nat) (n : ND), n.sz ≤ k → NodeOk nm w0 B g n := by
  intro k
  induction k with
  | zero => intro n h; cases n <;> simp [ND.sz] at h
  | succ k ih =>
    intro n hk d b path a cap w H hb hin hsm hd1 hd33 hpath
    have htx : n.text.size ≤ 1048576 := small_text (m := 1048576) hsm
    have hct : n.cnt ≤ 1048576 := small_cnt (m := 1048576) hsm
    by_cases hd : 32 < d
    · have e : n.nodeC (fun b3 => n.kidsC nm d b3) d b = .error 61 := by unfold ND.nodeC; rw [if_pos hd]
      rw [e]
      exact node_deep w0 B g b d path n a cap w H hd
    · by_cases hf : n.fldE = 0
      · unfold ND.nodeC
        rw [if_neg hd, if_neg (by simpa using hf)]
        rcases fld_kind hf with h1 | h1 | h1
        · rw [if_pos h1]
          have ev : n.val a cap = .agg #[.int .i64 1, .bool n.exec, .string n.text, .slice a n.cnt cap] := by unfold ND.val; rw [h1]
          have CF : ∀ w, Calls Try.prog 69 #[.agg #[.int .i64 1, .bool n.exec, .string n.text, .slice a n.cnt cap]] w fun e w' => e = .returned (.int .i64 0) ∧ Below w.heap.size w w' := by
            intro w
            have h := fields_any n a cap w
            rw [hf, ev] at h
            exact h
          rw [ev]
          have h := node_file w0 B g b d path n.text n.exec a n.cnt cap w H hb (by omega) htx CF
          rw [q_exec] at h
          exact h
        · rw [if_neg (by omega), if_pos h1]
          have ev : n.val a cap = .agg #[.int .i64 2, .bool n.exec, .string n.text, .slice a n.cnt cap] := by unfold ND.val; rw [h1]
          have CF : ∀ w, Calls Try.prog 69 #[.agg #[.int .i64 2, .bool n.exec, .string n.text, .slice a n.cnt cap]] w fun e w' => e = .returned (.int .i64 0) ∧ Below w.heap.size w w' := by
            intro w
            have h := fields_any n a cap w
            rw [hf, ev] at h
            exact h
          rw [ev]
          exact node_link w0 B g b d path n.text n.exec a n.cnt cap w H hb (by omega) htx CF
        · rw [if_neg (by omega), if_neg (by omega)]
          have ev : n.val a cap = .agg #[.int .i64 3, .bool n.exec, .string n.text, .slice a n.cnt cap] := by unfold ND.val; rw [h1]
          have CF : ∀ w, Calls Try.prog 69 #[.agg #[.int .i64 3, .bool n.exec, .string n.text, .slice a n.cnt cap]] w fun e w' => e = .returned (.int .i64 0) ∧ Below w.heap.size w w' := by
            intro w
            have h := fields_any n a cap w
            rw [hf, ev] at h
            exact h
          rw [ev]
          exact node_dir nm w0 B g b d path n.text n.exec a n.cnt cap n w H hb hd1 (by omega) hpath rfl hsm hin hct CF CN (fun c hc => ih c (by omega))
      · have e : n.nodeC (fun b3 => n.kidsC nm d b3) d b = .error n.fldE := by unfold ND.nodeC; rw [if_neg hd, if_pos hf]
        rw [e]
        exact node_bad w0 B g b d path n a cap w H (by omega) hf
end Go.Proofs.Ytlcppkcclolgcaa

