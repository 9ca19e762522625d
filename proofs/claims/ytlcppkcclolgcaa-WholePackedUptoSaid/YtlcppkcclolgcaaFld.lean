/- The walks of tree.Target and tree.fields. -/
import Derived.Test.YtlcppkcclolgcaaFrm
namespace Go.Proofs.Ytlcppkcclolgcaa
set_option linter.unusedVariables false
set_option linter.unusedSimpArgs false
open Go.RowKit

theorem toList_data (s : ByteArray) : s.toList = s.data.toList := ByteArray.toList_eq s
theorem toList_emp : (⟨#[]⟩ : ByteArray).toList.isEmpty = true := by rw [toList_data]; rfl
theorem toList_ne (s : ByteArray) (h : s ≠ ⟨#[]⟩) : s.toList.isEmpty = false := by
  rw [toList_data]
  cases hb : s.data.toList.isEmpty with
  | false => rfl
  | true =>
    exfalso
    apply h
    apply ByteArray.ext
    apply Array.ext'
    rw [List.isEmpty_iff.1 hb]
/-- what Target tells -/
def tgE (s : ByteArray) : Int := if s = ⟨#[]⟩ ∨ 0 ≤ Lib.indexByte s.data.toList 0 then 63 else 0
theorem target_any (s : ByteArray) (w : World) :
    Calls Try.prog 47 #[.string s] w fun e w' => e = .returned (.int .i64 (tgE s)) ∧ w = w' := by
  have C : Hid (∀ w, Calls Try.prog 57 #[.string s, .int .u8 0] w fun e w' => e = .returned (.int .i64 (Lib.indexByte s.data.toList 0)) ∧ w' = w) := fun w => Go.Proofs.Try.strings_IndexByte s 0 w
  by_cases h1 : s = ⟨#[]⟩
  · have e : tgE s = 63 := by unfold tgE; rw [if_pos (.inl h1)]
    rw [e]
    subst h1
    go_enter Try.func47, Try.ntmps47
    go_wp2_with fail
    go_ret
    exact ⟨rfl, rfl⟩
  · have h2 := toList_ne s h1
    by_cases h3 : 0 ≤ Lib.indexByte s.data.toList 0
    · have e : tgE s = 63 := by unfold tgE; rw [if_pos (.inr h3)]
      rw [e]
      generalize Lib.indexByte s.data.toList 0 = i at *
      go_enter Try.func47, Try.ntmps47
      go_wp2_with (go_at_call 57; refine (C.out _).mono ?_; rintro e w' ⟨rfl, rfl⟩)
      go_ret
      exact ⟨rfl, rfl⟩
    · have e : tgE s = 0 := by unfold tgE; rw [if_neg (by rintro (h | h); exact h1 h; exact h3 h)]
      rw [e]
      generalize Lib.indexByte s.data.toList 0 = i at *
      go_enter Try.func47, Try.ntmps47
      go_wp2_with (go_at_call 57; refine (C.out _).mono ?_; rintro e w' ⟨rfl, rfl⟩)
      go_ret
      exact ⟨rfl, rfl⟩
/-- what fields tells -/
def ND.fldE (n : ND) : Int :=
  if n.kind = 1 then (if 0 < n.cnt then 62 else 0)
  else if n.kind = 2 then (if n.exec = true ∨ 0 < n.cnt then 62 else tgE n.text)
  else if n.kind = 3 then (if n.exec = true ∨ n.text ≠ ⟨#[]⟩ then 62 else 0)
  else 60
set_option maxRecDepth 100000 in
set_option maxHeartbeats 2000000 in
theorem fields_any (n : ND) (a : Option Addr) (cap : Nat) (w : World) :
    Calls Try.prog 69 #[n.val a cap] w fun e w' => e = .returned (.int .i64 n.fldE) ∧ Below w.heap.size w w' := by
  have C := Lib.hid (fun w => target_any n.text w)
  unfold ND.val ND.fldE
  generalize n.kind = k at *
  generalize n.exec = x at *
  generalize n.text = t at *
  generalize n.cnt = c at *
  have hc0 : (0 : Int) ≤ c := by omega
  by_cases k1 : k = 1
  · subst k1
    rw [if_pos rfl]
    by_cases hc : 0 < c
    · rw [if_pos hc]
      have hcI : (0 : Int) < c := by omega
      go_enter Try.func69, Try.ntmps69
      go_wp2_with fail
      go_ret
      exact ⟨rfl, (Below.refl _ _).alloc (Nat.le_refl _) _⟩
    · rw [if_neg hc]
      have hcI : ¬ (0 : Int) < c := by omega
      go_enter Try.func69, Try.ntmps69
      go_wp2_with fail
      go_ret
      exact ⟨rfl, (Below.refl _ _).alloc (Nat.le_refl _) _⟩
  · have k1b : (k == 1) = false := by simpa using k1
    rw [if_neg k1]
    by_cases k2 : k = 2
    · subst k2
      rw [if_pos rfl]
      cases x with
      | true =>
        rw [if_pos (.inl rfl)]
        go_enter Try.func69, Try.ntmps69
        go_wp2_with fail
        go_ret
        exact ⟨rfl, (Below.refl _ _).alloc (Nat.le_refl _) _⟩
      | false =>
        by_cases hc : 0 < c
        · rw [if_pos (.inr hc)]
          have hcI : (0 : Int) < c := by omega
          go_enter Try.func69, Try.ntmps69
          go_wp2_with fail
          go_ret
          exact ⟨rfl, (Below.refl _ _).alloc (Nat.le_refl _) _⟩
        · rw [if_neg (by rintro (h | h); cases h; exact hc h)]
          have hcI : ¬ (0 : Int) < c := by omega
          generalize tgE t = q at *
          go_enter Try.func69, Try.ntmps69
          go_wp2_with (go_at_call 47; refine (C.out _).mono ?_; rintro e w' ⟨rfl, rfl⟩)
          go_ret
          exact ⟨rfl, (Below.refl _ _).alloc (Nat.le_refl _) _⟩
    · have k2b : (k == 2) = false := by simpa using k2
      rw [if_neg k2]
      by_cases k3 : k = 3
      · subst k3
        rw [if_pos rfl]
        cases x with
        | true =>
          rw [if_pos (.inl rfl)]
          go_enter Try.func69, Try.ntmps69
          go_wp2_with fail
          go_ret
          exact ⟨rfl, (Below.refl _ _).alloc (Nat.le_refl _) _⟩
        | false =>
          by_cases ht : t = ⟨#[]⟩
          · rw [if_neg (by rintro (h | h); cases h; exact h ht)]
            subst ht
            have te := toList_emp
            go_enter Try.func69, Try.ntmps69
            go_wp2_with fail
            go_ret
            exact ⟨rfl, (Below.refl _ _).alloc (Nat.le_refl _) _⟩
          · rw [if_pos (.inr ht)]
            have te := toList_ne t ht
            go_enter Try.func69, Try.ntmps69
            go_wp2_with fail
            go_ret
            exact ⟨rfl, (Below.refl _ _).alloc (Nat.le_refl _) _⟩
      · have k3b : (k == 3) = false := by simpa using k3
        rw [if_neg k3]
        go_enter Try.func69, Try.ntmps69
        go_wp2_with fail
        go_ret
        exact ⟨rfl, (Below.refl _ _).alloc (Nat.le_refl _) _⟩
end Go.Proofs.Ytlcppkcclolgcaa

