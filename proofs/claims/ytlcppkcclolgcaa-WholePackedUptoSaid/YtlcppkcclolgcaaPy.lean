/- The walk of the parser's word. -/
import Derived.Test.YtlcppkcclolgcaaPx
namespace Go.Proofs.Ytlcppkcclolgcaa
set_option linter.unusedVariables false
set_option linter.unusedSimpArgs false
open Go.RowKit

set_option maxRecDepth 100000 in
set_option maxHeartbeats 4000000 in
theorem wd_plain (w0 : World) (S : Nat → Prop) (B gp : Nat) (fl : Nat → Nat) (p : PS) (gf : Nat) (sv rv : Value) (s : ByteArray) (w : World) (H : PaW w0 S w B gp fl p gf sv rv) (want : ByteArray) (t : Nat) (hp : plainW p.x.next = some (want, t)) :
    Calls Try.prog 27 #[.pointer (some ⟨gp, 0, none⟩), .string s] w fun e w' => WordR w0 S B gp p gf (if s = want then .ok { p.x with next := t } else .error 70) e w' := by
  have CP : ∀ w, Calls Try.prog 43 #[.int .i64 (p.x.next : Int)] w fun e w' => e = .returned (.tuple #[.string want, .int .i64 (t : Int), .bool true]) ∧ w = w' := fun w => by
    have h := plain_any p.x.next w
    rw [hp] at h
    exact h
  have CP := Lib.hid CP
  have c7 := H.c7
  have f7 := H.free 7
  have c1 := H.c1
  have HH := Lib.hid H
  clear hp
  by_cases h1 : s = want
  · rw [if_pos h1]
    have he : (s.toList == want.toList) = true := by rw [h1]; exact beq_self_eq_true _
    have hq := HH.out.put (p' := { p with x := { p.x with next := t } }) 7 (.int .i64 (t : Nat)) rfl rfl rfl
    have HQ := Lib.hid hq
    clear hq h1 H
    go_enter Try.func27, Try.ntmps27
    go_wp2_with (go_at_call 43; refine (CP.out _).mono ?_; rintro e w' ⟨rfl, rfl⟩)
    go_ret
    exact ⟨rfl, _, _, _, HQ.out⟩
  · rw [if_neg h1]
    have he : (s.toList == want.toList) = false := by
      rw [toList_data, toList_data]
      cases hb : (s.data.toList == want.data.toList) with
      | false => rfl
      | true =>
        exfalso
        apply h1
        apply ByteArray.ext
        apply Array.ext'
        exact eq_of_beq hb
    clear h1 H
    go_enter Try.func27, Try.ntmps27
    go_wp2_with (first | (go_at_call 43; refine (CP.out _).mono ?_; rintro e w' ⟨rfl, rfl⟩) | (go_at_call 24; refine (pfail_any w0 S B gp fl p gf sv rv 70 p.start _ HH.out).mono ?_; rintro e w6 ⟨rfl, hf⟩; have HF := Lib.hid hf; clear hf))
    go_ret
    exact ⟨rfl, _, _, _, HF.out⟩
set_option maxRecDepth 100000 in
set_option maxHeartbeats 4000000 in
/-- a word that another function looks at -/
theorem wd_call (w0 : World) (S : Nat → Prop) (B gp : Nat) (fl : Nat → Nat) (p : PS) (gf : Nat) (sv rv : Value) (s : ByteArray) (w : World) (H : PaW w0 S w B gp fl p gf sv rv) (hsz : s.size ≤ 1048576) (hl : p.x.stack.length ≤ 32) (hcn : ∀ m ∈ p.x.stack, m.node.cnt ≤ 1048576)
    (hk : p.x.next = 1 ∨ ((p.x.next = 3 ∨ p.x.next = 4 ∨ p.x.next = 11 ∨ p.x.next = 14) ∧ ∃ l r, p.x.stack = l :: r)) :
    Calls Try.prog 27 #[.pointer (some ⟨gp, 0, none⟩), .string s] w fun e w' => WordR w0 S B gp p gf (p.x.word s) e w' := by
  have hpn : plainW p.x.next = none := by
    unfold plainW
    rcases hk with h | ⟨h | h | h | h, _⟩ <;> rw [h] <;> rfl
  have CP : ∀ w, Calls Try.prog 43 #[.int .i64 (p.x.next : Int)] w fun e w' => e = .returned (.tuple #[.string ⟨#[]⟩, .int .i64 0, .bool false]) ∧ w = w' := fun w => by
    have h := plain_any p.x.next w
    rw [hpn] at h
    exact h
  obtain ⟨R, hR⟩ : ∃ R, p.x.word s = R := ⟨_, rfl⟩
  rw [hR]
  have c7 := H.c7
  rcases hk with hk | ⟨hk | hk | hk | hk, l, r, hs⟩
  · have CC := open_any w0 S B gp fl p gf sv rv s w H hk hl
    rw [hR] at CC
    rw [hk] at c7 CP
    replace c7 : w.cell? ⟨gp, 7, none⟩ = some (.int .i64 1) := c7
    have CC := Lib.hid CC
    have CP : Hid (∀ w, Calls Try.prog 43 #[.int .i64 1] w fun e w' => e = .returned (.tuple #[.string ⟨#[]⟩, .int .i64 0, .bool false]) ∧ w = w') := Lib.hid CP
    clear H hR hk hcn hpn
    cases R with
    | ok y =>
      go_enter Try.func27, Try.ntmps27
      go_wp2_with (first | (go_at_call 43; refine (CP.out _).mono ?_; rintro e w' ⟨rfl, rfl⟩) | (go_at_call 44; refine CC.out.mono ?_; rintro e w6 ⟨rfl, hf⟩; have HF := Lib.hid hf; clear hf))
      go_ret
      exact ⟨rfl, HF.out⟩
    | error q =>
      go_enter Try.func27, Try.ntmps27
      go_wp2_with (first | (go_at_call 43; refine (CP.out _).mono ?_; rintro e w' ⟨rfl, rfl⟩) | (go_at_call 44; refine CC.out.mono ?_; rintro e w6 ⟨rfl, hf⟩; have HF := Lib.hid hf; clear hf))
      go_ret
      exact ⟨rfl, HF.out⟩
  all_goals
    have hlr : r.length ≤ 32 := by rw [hs] at hl; simp only [List.length_cons] at hl; omega
    have hcr : ∀ m ∈ r, m.node.cnt ≤ 1048576 := fun m hm => hcn m (by rw [hs]; exact List.mem_cons_of_mem _ hm)
    have hcl : l.node.cnt ≤ 1048576 := hcn l (by rw [hs]; exact List.mem_cons_self ..)
  · have CC := choose_any w0 S B gp fl p gf sv rv s w H (.inl hk) l r hs hlr hcr
    rw [hR] at CC
    rw [hk] at c7 CP
    replace c7 : w.cell? ⟨gp, 7, none⟩ = some (.int .i64 3) := c7
    have CC := Lib.hid CC
    have CP : Hid (∀ w, Calls Try.prog 43 #[.int .i64 3] w fun e w' => e = .returned (.tuple #[.string ⟨#[]⟩, .int .i64 0, .bool false]) ∧ w = w') := Lib.hid CP
    clear H hR hk hcn hpn hs hcr
    cases R with
    | ok y =>
      go_enter Try.func27, Try.ntmps27
      go_wp2_with (first | (go_at_call 43; refine (CP.out _).mono ?_; rintro e w' ⟨rfl, rfl⟩) | (go_at_call 45; refine CC.out.mono ?_; rintro e w6 ⟨rfl, hf⟩; have HF := Lib.hid hf; clear hf))
      go_ret
      exact ⟨rfl, HF.out⟩
    | error q =>
      go_enter Try.func27, Try.ntmps27
      go_wp2_with (first | (go_at_call 43; refine (CP.out _).mono ?_; rintro e w' ⟨rfl, rfl⟩) | (go_at_call 45; refine CC.out.mono ?_; rintro e w6 ⟨rfl, hf⟩; have HF := Lib.hid hf; clear hf))
      go_ret
      exact ⟨rfl, HF.out⟩
  · have CC := choose_any w0 S B gp fl p gf sv rv s w H (.inr (.inl hk)) l r hs hlr hcr
    rw [hR] at CC
    rw [hk] at c7 CP
    replace c7 : w.cell? ⟨gp, 7, none⟩ = some (.int .i64 4) := c7
    have CC := Lib.hid CC
    have CP : Hid (∀ w, Calls Try.prog 43 #[.int .i64 4] w fun e w' => e = .returned (.tuple #[.string ⟨#[]⟩, .int .i64 0, .bool false]) ∧ w = w') := Lib.hid CP
    clear H hR hk hcn hpn hs hcr
    cases R with
    | ok y =>
      go_enter Try.func27, Try.ntmps27
      go_wp2_with (first | (go_at_call 43; refine (CP.out _).mono ?_; rintro e w' ⟨rfl, rfl⟩) | (go_at_call 45; refine CC.out.mono ?_; rintro e w6 ⟨rfl, hf⟩; have HF := Lib.hid hf; clear hf))
      go_ret
      exact ⟨rfl, HF.out⟩
    | error q =>
      go_enter Try.func27, Try.ntmps27
      go_wp2_with (first | (go_at_call 43; refine (CP.out _).mono ?_; rintro e w' ⟨rfl, rfl⟩) | (go_at_call 45; refine CC.out.mono ?_; rintro e w6 ⟨rfl, hf⟩; have HF := Lib.hid hf; clear hf))
      go_ret
      exact ⟨rfl, HF.out⟩
  · have CC := choose_any w0 S B gp fl p gf sv rv s w H (.inr (.inr hk)) l r hs hlr hcr
    rw [hR] at CC
    rw [hk] at c7 CP
    replace c7 : w.cell? ⟨gp, 7, none⟩ = some (.int .i64 11) := c7
    have CC := Lib.hid CC
    have CP : Hid (∀ w, Calls Try.prog 43 #[.int .i64 11] w fun e w' => e = .returned (.tuple #[.string ⟨#[]⟩, .int .i64 0, .bool false]) ∧ w = w') := Lib.hid CP
    clear H hR hk hcn hpn hs hcr
    cases R with
    | ok y =>
      go_enter Try.func27, Try.ntmps27
      go_wp2_with (first | (go_at_call 43; refine (CP.out _).mono ?_; rintro e w' ⟨rfl, rfl⟩) | (go_at_call 45; refine CC.out.mono ?_; rintro e w6 ⟨rfl, hf⟩; have HF := Lib.hid hf; clear hf))
      go_ret
      exact ⟨rfl, HF.out⟩
    | error q =>
      go_enter Try.func27, Try.ntmps27
      go_wp2_with (first | (go_at_call 43; refine (CP.out _).mono ?_; rintro e w' ⟨rfl, rfl⟩) | (go_at_call 45; refine CC.out.mono ?_; rintro e w6 ⟨rfl, hf⟩; have HF := Lib.hid hf; clear hf))
      go_ret
      exact ⟨rfl, HF.out⟩
  · have CC := pname_any w0 S B gp fl p gf sv rv s w H hk l r hs hlr hsz hcl
    rw [hR] at CC
    rw [hk] at c7 CP
    replace c7 : w.cell? ⟨gp, 7, none⟩ = some (.int .i64 14) := c7
    have CC := Lib.hid CC
    have CP : Hid (∀ w, Calls Try.prog 43 #[.int .i64 14] w fun e w' => e = .returned (.tuple #[.string ⟨#[]⟩, .int .i64 0, .bool false]) ∧ w = w') := Lib.hid CP
    clear H hR hk hcn hpn hs hcr
    cases R with
    | ok y =>
      go_enter Try.func27, Try.ntmps27
      go_wp2_with (first | (go_at_call 43; refine (CP.out _).mono ?_; rintro e w' ⟨rfl, rfl⟩) | (go_at_call 48; refine CC.out.mono ?_; rintro e w6 ⟨rfl, hf⟩; have HF := Lib.hid hf; clear hf))
      go_ret
      exact ⟨rfl, HF.out⟩
    | error q =>
      go_enter Try.func27, Try.ntmps27
      go_wp2_with (first | (go_at_call 43; refine (CP.out _).mono ?_; rintro e w' ⟨rfl, rfl⟩) | (go_at_call 48; refine CC.out.mono ?_; rintro e w6 ⟨rfl, hf⟩; have HF := Lib.hid hf; clear hf))
      go_ret
      exact ⟨rfl, HF.out⟩
end Go.Proofs.Ytlcppkcclolgcaa

