/- What the walk counts is the archive's length; the walk of nar.Serial. -/
import Derived.Test.YtlcppkcclolgcaaSn
import Derived.Test.YtlcppkcclolgcaaIa
namespace Go.Proofs.Ytlcppkcclolgcaa
set_option linter.unusedVariables false
set_option linter.unusedSimpArgs false
open Go.RowKit

theorem fld_ne {n : ND} : n.fldE ≠ 0 ∨ (n.kind = 1 ∨ n.kind = 2 ∨ n.kind = 3) := by
  by_cases h : n.fldE = 0
  · exact .inr (fld_kind h)
  · exact .inl h
theorem addC_ok {b n b' : Nat} (h : addC b n = .ok b') : b' = b + n ∧ b' ≤ 1048576 := by
  unfold addC at h
  split at h
  · injection h with h; omega
  · cases h
theorem addC_err {b n : Nat} {q : Int} (h : addC b n = .error q) : q = 2 ∧ 1048576 < b + n := by
  unfold addC at h
  split at h
  · cases h
  · injection h with h; exact ⟨h.symm, by omega⟩
theorem bind_ok {x : Except Int Nat} {K : Nat → Except Int Nat} {b' : Nat} (h : x.bind K = .ok b') : ∃ b, x = .ok b ∧ K b = .ok b' := by
  cases x with
  | error q => cases h
  | ok b => exact ⟨b, rfl, h⟩
theorem bind_err {x : Except Int Nat} {K : Nat → Except Int Nat} {q : Int} (h : x.bind K = .error q) : x = .error q ∨ ∃ b, x = .ok b ∧ K b = .error q := by
  cases x with
  | error q' => left; injection h with h; rw [h]
  | ok b => exact .inr ⟨b, rfl, h⟩
def ND.PS (nm : ByteArray → Int) (n : ND) : Prop := ∀ d b b', n.nodeC (fun b3 => n.kidsC nm d b3) d b = .ok b' → b' = b + frSum n.words ∧ b' ≤ 1048576
def ND.KS (nm : ByteArray → Int) (n : ND) : Prop := ∀ d b b', b ≤ 1048576 → n.kidsC nm d b = .ok b' → b' = b + frSum n.kwords ∧ b' ≤ 1048576
theorem PS_of (nm : ByteArray → Int) (n : ND) (h : n.KS nm) : n.PS nm := by
  intro d b b' e
  have q1 := q_exec
  have q2 : frSum [wOpen, wType, wDirectory, wClose] = 72 := by decide +kernel
  unfold ND.nodeC at e
  split at e
  · cases e
  split at e
  · cases e
  rename_i hf
  have hk := fld_kind (Classical.not_not.1 hf)
  unfold ND.words ND.wordsOf
  split at e
  · rename_i h1
    rw [if_pos h1]
    obtain ⟨e1, e2⟩ := addC_ok e
    refine ⟨?_, e2⟩
    rw [e1]
    cases n.exec
    · simp [frSum]
    · simp only [frSum, if_true] at q1 ⊢
      simp [List.map_cons, List.map_nil, List.sum_cons, List.sum_nil] at q1 ⊢
      omega
  · rename_i h1
    rw [if_neg h1]
    split at e
    · rename_i h2
      rw [if_pos h2]
      obtain ⟨e1, e2⟩ := addC_ok e
      refine ⟨?_, e2⟩
      rw [e1]
      simp [frSum]
    · rename_i h2
      rw [if_neg h2]
      obtain ⟨b3, e1, e2⟩ := bind_ok e
      obtain ⟨e3, e4⟩ := addC_ok e1
      obtain ⟨e5, e6⟩ := h d b3 b' e4 e2
      refine ⟨?_, e6⟩
      rw [e5, e3]
      have e9 : frSum ([wOpen, wType] ++ ([wDirectory] ++ n.kwords) ++ [wClose]) = frSum [wOpen, wType, wDirectory, wClose] + frSum n.kwords := by
        simp [frSum]
        omega
      rw [e9, q2]
      omega
theorem KS_all (nm : ByteArray → Int) : ∀ n : ND, n.KS nm := by
  intro n
  induction n with
  | leaf k x t =>
    intro d b b' hb e
    injection e with e
    subst e
    exact ⟨by simp [ND.kwords, frSum], hb⟩
  | add p s c ihp ihc =>
    intro d b b' hb e
    unfold ND.kidsC at e
    obtain ⟨b1, e1, e2⟩ := bind_ok e
    obtain ⟨h1, h2⟩ := ihp d b b1 hb e1
    split at e2
    · cases e2
    split at e2
    · cases e2
    obtain ⟨b2, e3, e4⟩ := bind_ok e2
    obtain ⟨h3, h4⟩ := addC_ok e3
    obtain ⟨h5, h6⟩ := PS_of nm c ihc _ _ _ e4
    refine ⟨?_, h6⟩
    rw [h5, h3, h1]
    have e9 : frSum (ND.add p s c).kwords = frSum p.kwords + frSum [wEntry, wOpen, wName, s, wNode, wClose] + frSum c.words := by
      simp [ND.kwords, ND.words, frSum]
      omega
    rw [e9]
    omega
/-- the walk of a tree that has an archive counts the archive -/
theorem walk_sum {nm : ByteArray → Int} {n : ND} {b : Nat} (h : n.walkC nm = .ok b) : b = (arc n).length ∧ b ≤ 1048576 ∧ b = 24 + frSum n.words := by
  obtain ⟨h1, h2⟩ := PS_of nm n (KS_all nm n) _ _ _ h
  have q : fr wMagic.size = 24 := by decide +kernel
  refine ⟨?_, h2, h1⟩
  rw [h1]
  unfold arc
  rw [frames_length]
  simp only [frSum, List.map_cons, List.sum_cons]
  rw [q]
theorem nm_ne {n : ND} {nm : ByteArray → Int} : ∀ d b q, (n.nodeC (fun b3 => n.kidsC nm d b3) d b = .error q → q ≠ 0) ∧ (n.kidsC nm d b = .error q → q ≠ 0) := by
  induction n with
  | leaf k x t =>
    intro d b q
    have hk : (ND.leaf k x t).kidsC nm d b = .error q → q ≠ 0 := fun h => by cases h
    refine ⟨fun h => ?_, hk⟩
    unfold ND.nodeC at h
    split at h
    · injection h with h; omega
    split at h
    · rename_i hf; injection h with h; rw [← h]; exact hf
    split at h
    · rw [(addC_err h).1]; decide
    split at h
    · rw [(addC_err h).1]; decide
    rcases bind_err h with h | ⟨b3, _, h⟩
    · rw [(addC_err h).1]; decide
    · cases h
  | add p s c ihp ihc =>
    intro d b q
    have hk : ∀ b, (ND.add p s c).kidsC nm d b = .error q → q ≠ 0 := fun b h => by
      unfold ND.kidsC at h
      rcases bind_err h with h | ⟨b1, _, h⟩
      · exact (ihp d b q).2 h
      split at h
      · rename_i hn; injection h with h; rw [← h]; exact hn
      split at h
      · injection h with h; omega
      rcases bind_err h with h | ⟨b2, _, h⟩
      · rw [(addC_err h).1]; decide
      · exact (ihc (d + 1) b2 q).1 h
    refine ⟨fun h => ?_, hk b⟩
    unfold ND.nodeC at h
    split at h
    · injection h with h; omega
    split at h
    · rename_i hf; injection h with h; rw [← h]; exact hf
    split at h
    · rw [(addC_err h).1]; decide
    split at h
    · rw [(addC_err h).1]; decide
    rcases bind_err h with h | ⟨b3, _, h⟩
    · rw [(addC_err h).1]; decide
    · exact hk b3 h
theorem errC_zero {n : ND} {nm : ByteArray → Int} : errC (n.walkC nm) = 0 ↔ ∃ b, n.walkC nm = .ok b := by
  constructor
  · intro h
    cases e : n.walkC nm with
    | ok b => exact ⟨b, rfl⟩
    | error q =>
      rw [e] at h
      exact absurd h ((nm_ne _ _ q).1 e)
  · rintro ⟨b, h⟩
    rw [h]; rfl
/-- what Serial answers -/
def serE (n : ND) : Int := errC (n.walkC nm)
def serT (n : ND) : ByteArray := if serE n = 0 then strOf (arc n) else ⟨#[]⟩
theorem serE_len {n : ND} (h : serE n = 0) : (arc n).length ≤ 1048576 ∧ (arc n).length = 24 + frSum n.words := by
  obtain ⟨b, hb⟩ := errC_zero.1 h
  obtain ⟨h1, h2, h3⟩ := walk_sum hb
  omega
set_option maxRecDepth 100000 in
set_option maxHeartbeats 4000000 in
theorem serial_any (n : ND) (a : Option Addr) (cap : Nat) (w : World) (hsm : n.small 1048576) (hin : n.In w.heap.size w a) :
    Calls Try.prog 13 #[n.val a cap] w fun e w' => e = .returned (.tuple #[.string (serT n), .int .i64 (serE n)]) ∧ Below w.heap.size w w' := by
  have CK : ∀ wq, Below w.heap.size w wq → Calls Try.prog 29 #[n.val a cap] wq fun e w' => ∃ p : ByteArray, e = .returned (.tuple #[.string p, .int .i64 (serE n)]) ∧ Below wq.heap.size wq w' :=
    fun wq h => Check_any nm n a cap wq hsm (hin.up h) (fun s w hs => name_any s w hs)
  by_cases h0 : serE n = 0
  · obtain ⟨hlen, hlen2⟩ := serE_len h0
    have CN : ∀ g w1 r1 xs wq, Wst w w1 w.heap.size g r1 xs wq → xs.length ≤ 24 → Calls Try.prog 31 #[.pointer (some ⟨g, 0, none⟩), n.val a cap] wq fun e w' => e = .returned (.tuple #[]) ∧ Wst w w1 w.heap.size g r1 (xs ++ frames n.words) w' :=
      fun g w1 r1 xs wq S hx => wr_any w w.heap.size g n.sz n (Nat.le_refl _) w1 r1 xs a cap wq S hin hsm (by omega)
    have hT : serT n = strOf (frames [wMagic] ++ frames n.words) := by
      unfold serT
      rw [if_pos h0]
      unfold arc
      rw [frames_cons]
      simp [frames]
    have hTb : Bytes (frames [wMagic] ++ frames n.words) := by rw [← frames_append]; exact frames_bytes _
    rw [h0] at CK ⊢
    rw [hT]
    unfold ND.val at CK CN ⊢
    generalize n.words = ws at *
    generalize n.kind = kd at *
    generalize n.exec = ex at *
    generalize n.text = tx at *
    generalize n.cnt = ct at *
    have KK := Lib.hid CK
    have KN := Lib.hid CN
    have KB := Lib.hid hTb
    have KW := Lib.hid (fun g ss xs w1 r1 wx (S : Wst w w1 w.heap.size g r1 xs wx) hx hs hl cap k hk => words_st ss S hx hs hl cap k hk)
    clear CK CN hT hTb hlen hlen2 hsm hin h0
    go_enter Try.func13, Try.ntmps13
    go_upto_region 4 with (go_at_call 29; refine (KK.out _ ((Below.refl _ _).alloc (Nat.le_refl _) _)).mono ?_; rintro e w3 ⟨p, rfl, h3⟩)
    have hx3 := box_later h3
    have hb3 : Below w.heap.size w w3 := ((Below.refl _ _).alloc (Nat.le_refl _) _).trans (h3.mono (by simp))
    have hlt3 : w.heap.size < w3.heap.size := lt_of_row hx3
    have hba : Below w3.heap.size w3 (w3.alloc (.cells #[.pointer none, .slice none 0 0] 84)) := (Below.refl _ _).alloc (Nat.le_refl _) _
    have S0 : Wst w (w3.alloc (.cells #[.pointer none, .slice none 0 0] 84)) w.heap.size w3.heap.size none [] (w3.alloc (.cells #[.pointer none, .slice none 0 0] 84)) :=
      ⟨hb3.trans (hba.mono hb3.size), Nat.le_trans hb3.size hba.size, none, ⟨hb3.size, ⟨_, _, .inl rfl, heap_alloc_new _ _, OwnB.nil _ _, rfl⟩, by simp⟩, Kp.refl _ _ _⟩
    have hx4 := row_past hx3 (.cells #[.pointer none, .slice none 0 0] 84)
    have HX := Lib.hid hx4
    have HS0 := Lib.hid S0
    have HN1 : Hid (w.heap.size ≠ w3.heap.size) := Lib.hid (by omega)
    have HN2 : Hid (some w.heap.size ≠ none) := Lib.hid (by simp)
    clear hx3 hb3 hba S0 hx4 h3
    go_upto_region 6 with (go_at_call 30; refine (KW.out _ [wMagic] _ _ _ _ HS0.out (by decide) (sz_list (by decide)) (by simp) _ _ (by simp)).mono ?_; rintro e w5 ⟨rfl, hs5⟩; have hx5 := hs5.row HX.out HN1.out HN2.out; have b0 := cell_of_row w5 _ 0 _ _ _ hx5; have b1 := cell_of_row w5 _ 1 _ _ _ hx5; have b2 := cell_of_row w5 _ 2 _ _ _ hx5; have b3 := cell_of_row w5 _ 3 _ _ _ hx5; have H5 := Lib.hid hs5; clear hs5 hx5)
    go_upto_region 7 with (go_at_call 31; refine (KN.out _ _ _ _ _ H5.out (by decide +kernel)).mono ?_; rintro e w6 ⟨rfl, hs6⟩; have H6 := Lib.hid hs6; clear hs6)
    obtain ⟨hbel, hsz, r6, hb6, hk6⟩ := H6.out
    have hB6 := KB.out
    have hne : [] ++ frames [wMagic] ++ frames ws ≠ [] := by
      have h : (frames [wMagic]).length = 24 := by decide +kernel
      intro e
      have e2 := congrArg List.length e
      simp only [List.length_append, h, List.length_nil] at e2
      omega
    have KS := Lib.hid (string_any w6 w.heap.size w3.heap.size _ r6 hB6 hne hb6)
    clear hne
    have HBEL := Lib.hid hbel
    clear hbel hb6 hk6 hB6 hsz
    go_wp2_with (go_at_call 32; refine KS.out.mono ?_; rintro e w7 ⟨rfl, h7⟩)
    go_ret2
    exact ⟨rfl, HBEL.out.trans h7⟩
  · have hT : serT n = ⟨#[]⟩ := by unfold serT; rw [if_neg h0]
    rw [hT]
    generalize serE n = q at *
    unfold ND.val at CK ⊢
    generalize n.kind = kd at *
    generalize n.exec = ex at *
    generalize n.text = tx at *
    generalize n.cnt = ct at *
    have KK := Lib.hid CK
    have hq : (q == 0) = false := by simpa using h0
    clear CK hT hsm hin
    go_enter Try.func13, Try.ntmps13
    go_wp2_with (go_at_call 29; refine (KK.out _ ((Below.refl _ _).alloc (Nat.le_refl _) _)).mono ?_; rintro e w3 ⟨p, rfl, h3⟩)
    go_ret2
    exact ⟨rfl, ((Below.refl _ _).alloc (Nat.le_refl _) _).trans (h3.mono (by simp))⟩
end Go.Proofs.Ytlcppkcclolgcaa

