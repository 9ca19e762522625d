/- The packed text by definition: greedy tokens; what it costs. -/
import Derived.Test.YtikbbofjkchppaaFlush
import Derived.Test.YtikbbofjkchppaaWint
namespace Go.Proofs.Ytikbbofjkchppaa
set_option linter.unusedVariables false
set_option linter.unusedSimpArgs false

/-- the last place ahead of i where these four bytes stand -/
def lastW (L : List Nat) : Nat → List Nat → Option Nat
  | 0, _ => none
  | j + 1, ws => if j + 4 ≤ L.length then (if ws = win L j then some j else lastW L j ws) else lastW L j ws
theorem noted_lastW (s : ByteArray) (i : Nat) : noted s i (lastW (nb s) i) = lastW (nb s) (i + 1) := by
  funext x
  unfold noted
  show _ = if i + 4 ≤ (nb s).length then (if x = win (nb s) i then some i else lastW (nb s) i x) else lastW (nb s) i x
  rw [nb_length]
  split <;> rfl
theorem lastW_some {L : List Nat} : ∀ {i : Nat} {ws : List Nat} {c : Nat}, lastW L i ws = some c → c < i ∧ c + 4 ≤ L.length ∧ ws = win L c
  | 0, _, _, h => by simp [lastW] at h
  | j + 1, ws, c, h => by
    rw [lastW] at h
    split at h
    · split at h
      · rename_i h1 h2
        injection h with h
        subst h
        exact ⟨by omega, h1, h2⟩
      · have := lastW_some h
        exact ⟨by omega, this.2⟩
    · have := lastW_some h
      exact ⟨by omega, this.2⟩
/-- a window that stands at c is found at c or later -/
theorem lastW_from {L : List Nat} {ws : List Nat} {c : Nat} (h4 : c + 4 ≤ L.length) (hw : ws = win L c) : ∀ {i : Nat}, c < i → ∃ d, lastW L i ws = some d ∧ c ≤ d
  | 0, h => by omega
  | j + 1, h => by
    rw [lastW]
    by_cases h1 : j + 4 ≤ L.length
    · rw [if_pos h1]
      by_cases h2 : ws = win L j
      · rw [if_pos h2]
        exact ⟨j, rfl, by omega⟩
      · rw [if_neg h2]
        by_cases hj : c = j
        · subst hj
          exact absurd hw h2
        · exact lastW_from h4 hw (by omega)
    · rw [if_neg h1]
      exact lastW_from h4 hw (by omega)

/-- the tokens from place i on; the bytes from p on are still to be written -/
def packG (L : List Nat) : Nat → Nat → Nat → List Nat
  | 0, _, p => runs L L.length (L.length - p) p
  | k + 1, i, p =>
    if i < L.length then
      if (backP L i (lastW L i)).1 = 0 then packG L k (i + 1) p
      else runs L i (i - p) p ++ ((124 + (backP L i (lastW L i)).1) :: ((backP L i (lastW L i)).2 - 1) % 256 :: ((backP L i (lastW L i)).2 - 1) / 256 % 256 :: packG L k (i + (backP L i (lastW L i)).1) (i + (backP L i (lastW L i)).1))
    else runs L L.length (L.length - p) p
/-- the packed text -/
def packL (L : List Nat) : List Nat := le8 L.length ++ packG L L.length 0 0

theorem mrun_bd (L : List Nat) (c i : Nat) : ∀ k n, n ≤ mrun L c i k n ∧ mrun L c i k n ≤ n + k ∧ (i + n ≤ L.length → i + mrun L c i k n ≤ L.length) ∧ ∀ j, n ≤ j → j < mrun L c i k n → L.getD (c + j) 0 = L.getD (i + j) 0
  | 0, n => ⟨Nat.le_refl _, Nat.le_refl _, fun h => h, fun j h1 h2 => by simp only [mrun] at h2; omega⟩
  | k + 1, n => by
    rw [mrun]
    by_cases h : i + n < L.length ∧ L.getD (c + n) 0 = L.getD (i + n) 0
    · rw [if_pos h]
      obtain ⟨a, b, d, e⟩ := mrun_bd L c i k (n + 1)
      refine ⟨by omega, by omega, fun _ => d (by omega), fun j h1 h2 => ?_⟩
      by_cases hj : j = n
      · subst hj; exact h.2
      · exact e j (by omega) h2
    · rw [if_neg h]
      exact ⟨Nat.le_refl _, by omega, fun h => h, fun j h1 h2 => by omega⟩

/-- what back says is so -/
theorem backP_ok (L : List Nat) (i : Nat) (h : (backP L i (lastW L i)).1 ≠ 0) : ∃ n far, backP L i (lastW L i) = (n, far) ∧ 4 ≤ n ∧ n ≤ 131 ∧ i + n ≤ L.length ∧ 1 ≤ far ∧ far ≤ i ∧ far ≤ 65536 ∧ ∀ j, j < n → L.getD (i - far + j) 0 = L.getD (i + j) 0 := by
  unfold backP at h ⊢
  by_cases h4 : i + 4 ≤ L.length
  · rw [if_pos h4] at h ⊢
    cases hF : lastW L i (win L i) with
    | none => rw [hF] at h; exact absurd rfl h
    | some c =>
      rw [hF] at h
      simp only at h ⊢
      by_cases hf : 65536 < i - c
      · rw [if_pos hf] at h; exact absurd rfl h
      · rw [if_neg hf]
        obtain ⟨hc, hc4, hw⟩ := lastW_some hF
        obtain ⟨b1, b2, b3, b4⟩ := mrun_bd L c i 127 4
        refine ⟨_, _, rfl, b1, by omega, b3 h4, by omega, by omega, by omega, fun j hj => ?_⟩
        rw [show i - (i - c) = c by omega]
        by_cases hj4 : 4 ≤ j
        · exact b4 j hj4 hj
        · simp only [win, List.cons.injEq, and_true] at hw
          obtain ⟨w0, w1, w2, w3⟩ := hw
          rcases (by omega : j = 0 ∨ j = 1 ∨ j = 2 ∨ j = 3) with rfl | rfl | rfl | rfl
          · exact w0.symm
          · exact w1.symm
          · exact w2.symm
          · exact w3.symm
  · rw [if_neg h4] at h; exact absurd rfl h
theorem backP_late (L : List Nat) (i : Nat) (F : List Nat → Option Nat) (h : L.length < i + 4) : (backP L i F).1 = 0 := by
  unfold backP
  rw [if_neg (by omega)]

/-- the room of a run of m bytes -/
def rc (m : Nat) : Nat := m + (m + 127) / 128
theorem runs_length (L : List Nat) (i : Nat) (hi : i ≤ L.length) : ∀ k p, i - p ≤ k → (runs L i k p).length = rc (i - p)
  | 0, p, h => by rw [show i - p = 0 by omega]; rfl
  | k + 1, p, h => by
    rw [runs]
    by_cases hp : p < i
    · rw [if_pos hp]
      simp only [List.length_cons, List.length_append, List.length_take, List.length_drop]
      rw [runs_length L i hi k _ (by omega)]
      unfold rc
      omega
    · rw [if_neg hp, show i - p = 0 by omega]
      rfl
theorem runs_bytes (L : List Nat) (hL : Bytes L) (i : Nat) : ∀ k p, Bytes (runs L i k p)
  | 0, p => by intro x hx; simp [runs] at hx
  | k + 1, p => by
    rw [runs]
    split
    · intro x hx
      simp only [List.mem_cons, List.mem_append] at hx
      rcases hx with h | h | h
      · omega
      · exact hL x (List.mem_of_mem_drop (List.mem_of_mem_take h))
      · exact runs_bytes L hL i k _ x h
    · intro x hx; simp at hx
theorem packG_bytes (L : List Nat) (hL : Bytes L) : ∀ k i p, Bytes (packG L k i p)
  | 0, i, p => runs_bytes L hL _ _ _
  | k + 1, i, p => by
    rw [packG]
    split
    · split
      · exact packG_bytes L hL k _ _
      · rename_i h
        obtain ⟨n, far, e, h4, h131, hin, hf1, hfi, hf, hsame⟩ := backP_ok L i h
        rw [e]
        intro x hx
        simp only [List.mem_cons, List.mem_append] at hx
        rcases hx with h | h | h | h | h
        · exact runs_bytes L hL _ _ _ x h
        · omega
        · omega
        · omega
        · exact packG_bytes L hL k _ _ x h
    · exact runs_bytes L hL _ _ _
/-- whatever the text: no more than its own room and one byte for each 128 -/
theorem packG_room (L : List Nat) : ∀ k i p, p ≤ i → i ≤ L.length → (packG L k i p).length ≤ rc (L.length - p)
  | 0, i, p, hp, hi => by rw [packG, runs_length L _ (Nat.le_refl _) _ _ (Nat.le_refl _)]; exact Nat.le_refl _
  | k + 1, i, p, hp, hi => by
    rw [packG]
    by_cases h : i < L.length
    · rw [if_pos h]
      by_cases hb : (backP L i (lastW L i)).1 = 0
      · rw [if_pos hb]
        exact packG_room L k (i + 1) p (by omega) (by omega)
      · rw [if_neg hb]
        obtain ⟨n, far, e, h4, h131, hin, hf1, hfi, hf, hsame⟩ := backP_ok L i hb
        rw [e]
        simp only [List.length_cons, List.length_append]
        have := packG_room L k (i + n) (i + n) (Nat.le_refl _) hin
        rw [runs_length L i hi _ _ (Nat.le_refl _)]
        unfold rc at *
        omega
    · rw [if_neg h, runs_length L _ (Nat.le_refl _) _ _ (Nat.le_refl _)]
      exact Nat.le_refl _
theorem le8_length (n : Nat) : (le8 n).length = 8 := fl8_length n 8
theorem packL_room (L : List Nat) : (packL L).length ≤ 8 + L.length + (L.length + 127) / 128 := by
  have := packG_room L L.length 0 0 (Nat.le_refl _) (Nat.zero_le _)
  rw [packL, List.length_append, le8_length]
  unfold rc at this
  simp only [Nat.sub_zero] at this
  omega
theorem packL_bytes (L : List Nat) (hL : Bytes L) : Bytes (packL L) := by
  intro x hx
  rw [packL, List.mem_append] at hx
  rcases hx with h | h
  · exact fl8_bytes _ 8 x h
  · exact packG_bytes L hL _ _ _ x h

theorem packG_late (L : List Nat) : ∀ k i p, L.length < i + 4 → p ≤ L.length → (packG L k i p).length = rc (L.length - p)
  | 0, i, p, h, hp => by rw [packG, runs_length _ _ (Nat.le_refl _) _ _ (Nat.le_refl _)]
  | k + 1, i, p, h, hp => by
    rw [packG]
    split
    · rw [if_pos (backP_late _ _ _ h)]
      exact packG_late L k _ _ (by omega) hp
    · rw [runs_length _ _ (Nat.le_refl _) _ _ (Nat.le_refl _)]

/-! ### one byte, however often -/
theorem rep_getD (n b j : Nat) (h : j < n) : (List.replicate n b).getD j 0 = b := by simp [List.getD_eq_getElem?_getD, h]
theorem rep_win (n b j : Nat) (h : j + 4 ≤ n) : win (List.replicate n b) j = [b, b, b, b] := by
  rw [win, rep_getD n b j (by omega), rep_getD n b _ (by omega), rep_getD n b _ (by omega), rep_getD n b _ (by omega)]
theorem rep_mrun (n b c i : Nat) (hc : c ≤ i) : ∀ k m, i + m ≤ n → mrun (List.replicate n b) c i k m = min (m + k) (n - i)
  | 0, m, h => by simp only [mrun]; omega
  | k + 1, m, h => by
    rw [mrun]
    by_cases h1 : i + m < n
    · rw [if_pos ⟨by rw [List.length_replicate]; exact h1, by rw [rep_getD n b _ (by omega), rep_getD n b _ (by omega)]⟩, rep_mrun n b c i hc k (m + 1) (by omega)]
      omega
    · rw [if_neg (by rw [List.length_replicate]; omega)]
      omega
theorem rep_back (n b i : Nat) (h1 : 1 ≤ i) (h4 : i + 4 ≤ n) : (backP (List.replicate n b) i (lastW (List.replicate n b) i)).1 = min 131 (n - i) := by
  have hl : lastW (List.replicate n b) i (win (List.replicate n b) i) = some (i - 1) := by
    obtain ⟨j, rfl⟩ : ∃ j, i = j + 1 := ⟨i - 1, by omega⟩
    rw [lastW, if_pos (by rw [List.length_replicate]; omega), if_pos (by rw [rep_win n b _ h4, rep_win n b _ (by omega)])]
    rfl
  unfold backP
  rw [if_pos (by rw [List.length_replicate]; exact h4), hl]
  simp only
  rw [if_neg (by omega), rep_mrun n b _ _ (by omega) _ _ h4]
theorem rep_room (n b : Nat) : ∀ k i, 1 ≤ i → i ≤ n → n - i ≤ k → (packG (List.replicate n b) k i i).length ≤ 3 * ((n - i) / 131) + 4
  | 0, i, h1, hi, hk => by
    rw [packG, runs_length _ _ (Nat.le_refl _) _ _ (Nat.le_refl _), List.length_replicate]
    unfold rc
    omega
  | k + 1, i, h1, hi, hk => by
    rw [packG, List.length_replicate]
    by_cases h : i < n
    · rw [if_pos h]
      by_cases h4 : i + 4 ≤ n
      · have hb := rep_back n b i h1 h4
        rw [if_neg (by omega), hb]
        simp only [List.length_cons, List.length_append]
        have := rep_room n b k (i + min 131 (n - i)) (by omega) (by omega) (by omega)
        rw [runs_length _ i (by rw [List.length_replicate]; exact hi) _ _ (Nat.le_refl _)]
        unfold rc
        by_cases h5 : 131 ≤ n - i
        · rw [Nat.min_eq_left h5] at this ⊢
          omega
        · rw [Nat.min_eq_right (by omega)] at this ⊢
          rw [packG_late _ k _ _ (by rw [List.length_replicate]; omega) (by rw [List.length_replicate]; omega), List.length_replicate, show n - (i + (n - i)) = 0 by omega]
          unfold rc
          omega
      · have late : ∀ k j, i ≤ j → (packG (List.replicate n b) k j i).length = rc (n - i) := by
          intro k
          induction k with
          | zero => intro j _; rw [packG, runs_length _ _ (Nat.le_refl _) _ _ (Nat.le_refl _), List.length_replicate]
          | succ k ih =>
            intro j hj
            rw [packG]
            split
            · rw [if_pos (backP_late _ _ _ (by rw [List.length_replicate]; omega))]
              exact ih _ (by omega)
            · rw [runs_length _ _ (Nat.le_refl _) _ _ (Nat.le_refl _), List.length_replicate]
        rw [if_pos (backP_late _ _ _ (by rw [List.length_replicate]; omega)), late k (i + 1) (by omega)]
        unfold rc
        omega
    · rw [if_neg h, runs_length _ _ (by rw [List.length_replicate]; exact Nat.le_refl _) _ _ (Nat.le_refl _)]
      unfold rc
      omega
theorem packL_same (n b : Nat) (h1 : 0 < n) : (packL (List.replicate n b)).length ≤ 14 + 3 * ((n - 1) / 131) := by
  rw [packL, List.length_append, le8_length, List.length_replicate]
  by_cases h5 : 5 ≤ n
  · obtain ⟨k, rfl⟩ : ∃ k, n = k + 2 := ⟨n - 2, by omega⟩
    rw [packG, List.length_replicate, if_pos (by omega), if_pos (by simp [backP, lastW])]
    rw [packG, List.length_replicate, if_pos (by omega), rep_back _ _ 1 (by omega) (by omega), if_neg (by omega)]
    simp only [List.length_cons, List.length_append, Nat.zero_add]
    have := rep_room (k + 2) b k (1 + min 131 (k + 2 - 1)) (by omega) (by omega) (by omega)
    rw [runs_length _ 1 (by rw [List.length_replicate]; omega) _ _ (Nat.le_refl _)]
    unfold rc
    by_cases h6 : 131 ≤ k + 1
    · rw [Nat.min_eq_left (by omega)] at this ⊢
      omega
    · rw [Nat.min_eq_right (by omega)] at this ⊢
      have h0 : (packG (List.replicate (k + 2) b) k (1 + (k + 2 - 1)) (1 + (k + 2 - 1))).length = 0 := by
        rw [packG_late _ _ _ _ (by rw [List.length_replicate]; omega) (by rw [List.length_replicate]; omega), List.length_replicate, show k + 2 - (1 + (k + 2 - 1)) = 0 by omega]
        rfl
      omega
  · have := packG_room (List.replicate n b) n 0 0 (Nat.le_refl _) (Nat.zero_le _)
    rw [List.length_replicate] at this
    unfold rc at this
    omega

/-! ### a text twice -/
theorem getD_twice (S : List Nat) (j : Nat) (h : j < S.length) : (S ++ S).getD j 0 = S.getD j 0 := by
  simp [List.getD_eq_getElem?_getD, List.getElem?_append_left h]
theorem getD_twice2 (S : List Nat) (j : Nat) : (S ++ S).getD (S.length + j) 0 = S.getD j 0 := by
  simp [List.getD_eq_getElem?_getD, List.getElem?_append_right]
theorem win_twice (S : List Nat) (j : Nat) (h : j + 4 ≤ S.length) : win (S ++ S) j = win S j := by
  rw [win, win, getD_twice S _ (by omega), getD_twice S _ (by omega), getD_twice S _ (by omega), getD_twice S _ (by omega)]
theorem lastW_twice (S : List Nat) (ws : List Nat) : ∀ i, i + 3 ≤ S.length → lastW (S ++ S) i ws = lastW S i ws
  | 0, h => rfl
  | j + 1, h => by
    rw [lastW, lastW, if_pos (show j + 4 ≤ (S ++ S).length by rw [List.length_append]; omega), if_pos (show j + 4 ≤ S.length by omega), win_twice S j (by omega), lastW_twice S ws j (by omega)]
theorem mrun_twice (S : List Nat) (c i : Nat) (hc : c < i) : ∀ k n, i + n ≤ S.length → mrun (S ++ S) c i k n = mrun S c i k n ∨ (i + mrun S c i k n = S.length ∧ S.length ≤ i + mrun (S ++ S) c i k n)
  | 0, n, h => .inl rfl
  | k + 1, n, h => by
    by_cases h1 : i + n < S.length
    · rw [mrun, mrun, getD_twice S _ (by omega), getD_twice S _ h1, List.length_append]
      by_cases h2 : S.getD (c + n) 0 = S.getD (i + n) 0
      · rw [if_pos ⟨by omega, h2⟩, if_pos ⟨h1, h2⟩]
        exact mrun_twice S c i hc k (n + 1) (by omega)
      · rw [if_neg (fun e => h2 e.2), if_neg (fun e => h2 e.2)]
        exact .inl rfl
    · refine .inr ⟨?_, ?_⟩
      · rw [mrun, if_neg (fun e => h1 e.1)]
        omega
      · have := (mrun_bd (S ++ S) c i (k + 1) n).1
        omega
/-- behind the middle something is always found -/
theorem back_twice (S : List Nat) (hS : S.length ≤ 65536) (j : Nat) (h1 : S.length ≤ j) (h4 : j + 4 ≤ 2 * S.length) : (backP (S ++ S) j (lastW (S ++ S) j)).1 ≠ 0 := by
  have hw : win (S ++ S) j = win (S ++ S) (j - S.length) := by
    obtain ⟨q, rfl⟩ : ∃ q, j = S.length + q := ⟨j - S.length, by omega⟩
    rw [win, Nat.add_assoc, Nat.add_assoc, Nat.add_assoc, getD_twice2, getD_twice2, getD_twice2, getD_twice2, show S.length + q - S.length = q by omega, win_twice S q (by omega)]
    rfl
  obtain ⟨d, hd, hdj⟩ := lastW_from (L := S ++ S) (c := j - S.length) (by rw [List.length_append]; omega) hw (i := j) (by omega)
  have hd2 := (lastW_some hd).1
  unfold backP
  rw [if_pos (by rw [List.length_append]; omega), hd]
  simp only
  rw [if_neg (by omega)]
  have := (mrun_bd (S ++ S) d j 127 4).1
  simp only
  omega
theorem rc_mono {a b : Nat} (h : a ≤ b) : rc a ≤ rc b := by unfold rc; omega
theorem twice_tail (S : List Nat) (hS : S.length ≤ 65536) : ∀ k j p, S.length ≤ j → p ≤ j → j ≤ 2 * S.length → 2 * S.length - j ≤ k → (packG (S ++ S) k j p).length ≤ rc (j - p) + 3 * ((2 * S.length - j) / 4) + 4
  | k, j, p, h1, hp, hj, hk => by
    have hlen : (S ++ S).length = 2 * S.length := by rw [List.length_append]; omega
    by_cases h4 : j + 4 ≤ 2 * S.length
    · obtain ⟨k, rfl⟩ : ∃ k', k = k' + 1 := ⟨k - 1, by omega⟩
      have hb := back_twice S hS j h1 h4
      obtain ⟨n, far, e, hn4, h131, hin, hf1, hfi, hf, hsame⟩ := backP_ok (S ++ S) j hb
      rw [packG, if_pos (by omega), if_neg hb, e]
      simp only [List.length_cons, List.length_append]
      rw [hlen] at hin
      have := twice_tail S hS k (j + n) (j + n) (by omega) (Nat.le_refl _) (by omega) (by omega)
      rw [runs_length _ j (by omega) _ _ (Nat.le_refl _)]
      rw [Nat.sub_self] at this
      have r0 : rc 0 = 0 := rfl
      omega
    · rw [packG_late _ _ _ _ (by omega) (by omega), hlen]
      unfold rc
      omega
  termination_by k => k
theorem twice_mid (S : List Nat) (hS : S.length ≤ 65536) : ∀ d k i p, S.length - i = d → S.length ≤ i + 3 → p ≤ i → i ≤ S.length → 2 * S.length - i ≤ k → (packG (S ++ S) k i p).length ≤ rc (S.length - p) + 3 * (S.length / 4) + 7
  | d, k, i, p, hd, h3, hp, hi, hk => by
    have hlen : (S ++ S).length = 2 * S.length := by rw [List.length_append]; omega
    by_cases he : i = S.length
    · have := twice_tail S hS k i p (by omega) hp (by omega) hk
      rw [show 2 * S.length - i = S.length by omega, he] at this
      rw [he]
      omega
    · obtain ⟨k, rfl⟩ : ∃ k', k = k' + 1 := ⟨k - 1, by omega⟩
      rw [packG, if_pos (by omega)]
      by_cases hb : (backP (S ++ S) i (lastW (S ++ S) i)).1 = 0
      · rw [if_pos hb]
        obtain ⟨d, rfl⟩ : ∃ d', d = d' + 1 := ⟨d - 1, by omega⟩
        exact twice_mid S hS d k (i + 1) p (by omega) (by omega) (by omega) (by omega) (by omega)
      · rw [if_neg hb]
        obtain ⟨n, far, e, hn4, h131, hin, hf1, hfi, hf, hsame⟩ := backP_ok (S ++ S) i hb
        rw [e]
        rw [hlen] at hin
        simp only [List.length_cons, List.length_append]
        have := twice_tail S hS k (i + n) (i + n) (by omega) (Nat.le_refl _) (by omega) (by omega)
        rw [runs_length _ i (by omega) _ _ (Nat.le_refl _)]
        rw [Nat.sub_self] at this
        have r0 : rc 0 = 0 := rfl
        have r1 := rc_mono (show i - p ≤ S.length - p by omega)
        omega
  termination_by d => d
theorem twice_all (S : List Nat) (hS : S.length ≤ 65536) : ∀ k m i p, p ≤ i → i ≤ S.length → S.length - i ≤ k → 2 * S.length - i ≤ m → (packG (S ++ S) m i p).length ≤ (packG S k i p).length + 3 * (S.length / 4) + 7
  | k, m, i, p, hp, hi, hk, hm => by
    have hlen : (S ++ S).length = 2 * S.length := by rw [List.length_append]; omega
    by_cases h4 : i + 4 ≤ S.length
    · obtain ⟨k, rfl⟩ : ∃ k', k = k' + 1 := ⟨k - 1, by omega⟩
      obtain ⟨m, rfl⟩ : ∃ m', m = m' + 1 := ⟨m - 1, by omega⟩
      have hw := win_twice S i h4
      have hF := lastW_twice S (win S i) i (by omega)
      have hcases : ((backP (S ++ S) i (lastW (S ++ S) i)).1 = 0 ∧ (backP S i (lastW S i)).1 = 0) ∨ ∃ n n' far, backP S i (lastW S i) = (n, far) ∧ backP (S ++ S) i (lastW (S ++ S) i) = (n', far) ∧ 4 ≤ n ∧ 4 ≤ n' ∧ (n' = n ∨ (i + n = S.length ∧ S.length ≤ i + n')) := by
        unfold backP
        rw [if_pos (by omega), if_pos h4, hw, hF]
        cases hl : lastW S i (win S i) with
        | none => exact .inl ⟨rfl, rfl⟩
        | some c =>
          simp only
          by_cases hf : 65536 < i - c
          · rw [if_pos hf, if_pos hf]
            exact .inl ⟨rfl, rfl⟩
          · rw [if_neg hf, if_neg hf]
            refine .inr ⟨_, _, _, rfl, rfl, (mrun_bd S c i 127 4).1, (mrun_bd (S ++ S) c i 127 4).1, mrun_twice S c i (lastW_some hl).1 127 4 h4⟩
      rw [packG, packG, if_pos (show i < (S ++ S).length by omega), if_pos (show i < S.length by omega)]
      rcases hcases with ⟨h1, h2⟩ | ⟨n, n', far, e, e', hn, hn', hq⟩
      · rw [if_pos h1, if_pos h2]
        exact twice_all S hS k m (i + 1) p (by omega) (by omega) (by omega) (by omega)
      · have h1 : (backP S i (lastW S i)).1 ≠ 0 := by rw [e]; simp; omega
        have h2 : (backP (S ++ S) i (lastW (S ++ S) i)).1 ≠ 0 := by rw [e']; simp; omega
        rw [if_neg h1, if_neg h2]
        obtain ⟨_, _, ee, _, h131, hin, _⟩ := backP_ok S i h1
        obtain ⟨_, _, ee', _, h131', hin', _⟩ := backP_ok (S ++ S) i h2
        rw [e] at ee
        rw [e'] at ee'
        simp only [Prod.mk.injEq] at ee ee'
        obtain ⟨rfl, rfl⟩ := ee
        obtain ⟨rfl, _⟩ := ee'
        rw [e, e']
        simp only [List.length_cons, List.length_append]
        rw [runs_length _ i (by omega) _ _ (Nat.le_refl _), runs_length _ i (by omega) _ _ (Nat.le_refl _)]
        rcases hq with rfl | ⟨hq1, hq2⟩
        · have := twice_all S hS k m (i + n') (i + n') (Nat.le_refl _) hin (by omega) (by omega)
          omega
        · have := twice_tail S hS m (i + n') (i + n') hq2 (Nat.le_refl _) (by omega) (by omega)
          rw [Nat.sub_self] at this
          have r0 : rc 0 = 0 := rfl
          omega
    · have h := twice_mid S hS _ m i p rfl (by omega) hp hi hm
      rw [packG_late S k i p (by omega) (by omega)]
      omega
  termination_by k => k
theorem packL_twice (S : List Nat) (hS : S.length ≤ 65536) : (packL (S ++ S)).length ≤ (packL S).length + 14 + 3 * (S.length / 4) := by
  have := twice_all S hS S.length (S ++ S).length 0 0 (Nat.le_refl _) (Nat.zero_le _) (by omega) (by rw [List.length_append]; omega)
  simp only [packL, List.length_append, le8_length] at this ⊢
  omega
end Go.Proofs.Ytikbbofjkchppaa
