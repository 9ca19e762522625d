/- Plain: the parser as a machine over bytes. -/
import Derived.Test.YtlcppkcclolgcaaPn
namespace Go.Proofs.Ytlcppkcclolgcaa
set_option linter.unusedVariables false
set_option linter.unusedSimpArgs false
open Go.RowKit

structure PS where
  at_ : Nat
  start : Nat
  code : Int
  fat : Nat
  shut : Bool
  ws : List Nat
  x : WS
def PS.new : PS := ⟨0, 0, 0, 0, false, [], ⟨0, [], false, .leaf 0 false emp⟩⟩
def PS.wordR (p : PS) : Except Int WS → PS
  | .error q => { p with code := q, fat := p.start }
  | .ok y => { p with at_ := p.at_ + 1, start := p.at_ + 1, ws := [], x := y }
def PS.frR (p : PS) (c : Nat) : FrR → PS
  | .cont => { p with at_ := p.at_ + 1, ws := p.ws ++ [c] }
  | .bad q off => { p with code := q, fat := p.start + off }
  | .whole s => p.wordR (p.x.word s)
def PS.step (p : PS) (c : Nat) : PS :=
  if p.shut = true ∨ p.code ≠ 0 then p
  else if p.x.whole = true then { p with code := 5, fat := p.at_ }
  else if p.at_ = 1048576 then { p with code := 2, fat := p.at_ }
  else p.frR c (frStep p.ws c)
def PS.feed (p : PS) (bs : List Nat) : PS := bs.foldl PS.step p
def PS.close (p : PS) : PS := if p.shut = false ∧ p.x.whole = false ∧ p.code = 0 then { p with code := 4, fat := p.at_, shut := true } else { p with shut := true }
theorem feed_append (p : PS) (a b : List Nat) : p.feed (a ++ b) = (p.feed a).feed b := by simp [PS.feed]
theorem feed_cons (p : PS) (c : Nat) (b : List Nat) : p.feed (c :: b) = (p.step c).feed b := rfl
theorem feed_stop {p : PS} (h : p.shut = true ∨ p.code ≠ 0) : ∀ bs, p.feed bs = p
  | [] => rfl
  | c :: r => by rw [feed_cons, PS.step, if_pos h]; exact feed_stop h r
/-- what holds of a parser that has been fed bs -/
structure PInv (p : PS) (bs : List Nat) : Prop where
  shut : p.shut = false
  bad : p.fat ≤ bs.length
  len : p.at_ ≤ bs.length
  most : p.at_ ≤ 1048576
  st : p.start ≤ p.at_
  dep : p.x.stack.length ≤ 32
  cnt : ∀ l ∈ p.x.stack, l.node.cnt ≤ p.start
  good : p.code = 0 → ∃ ws, Inv p.x ws ∧ bs = frames ws ++ p.ws ∧ Pre p.ws ∧ p.at_ = bs.length ∧ p.at_ = p.start + p.ws.length ∧ (p.x.whole = true → p.ws = [])
theorem PInv.new : PInv PS.new [] :=
  ⟨rfl, Nat.le_refl _, Nat.le_refl _, by decide, Nat.le_refl _, by decide, by intro l h; simp [PS.new] at h, fun _ => ⟨[], Inv.magic _, rfl, Pre.nil, rfl, rfl, fun _ => rfl⟩⟩
theorem Inv.dep {x : WS} {ws : List ByteArray} (h : Inv x ws) : x.stack.length ≤ 32 := by
  cases h with
  | done => simp
  | magic => simp
  | open_ => assumption
  | top k l r n t h1 => simp; omega
/-- a word adds one kid at most -/
theorem word_cnt {x y : WS} {s : ByteArray} (e : x.word s = .ok y) (m : Nat) (h : ∀ l ∈ x.stack, l.node.cnt ≤ m) : ∀ l ∈ y.stack, l.node.cnt ≤ m + 1 := by
  have own : ∀ (n : ND) k b t, (n.own k b t).cnt = n.cnt := by
    intro n k b t
    induction n with
    | leaf => rfl
    | add p s c ih _ => simp [ND.own, ND.cnt, ih]
  have top : ∀ (f : Lv → Lv), (∀ l, (f l).node.cnt = l.node.cnt) → ∀ l ∈ topSet f x.stack, l.node.cnt ≤ m + 1 := by
    intro f hf l hl
    cases hs : x.stack with
    | nil => rw [hs] at hl; simp [topSet] at hl
    | cons a r =>
      rw [hs] at hl h
      simp only [topSet, List.mem_cons] at hl
      rcases hl with rfl | hl
      · rw [hf]; have := h a (List.mem_cons_self ..); omega
      · have := h l (List.mem_cons_of_mem _ hl); omega
  have same : ∀ l ∈ x.stack, l.node.cnt ≤ m + 1 := fun l hl => by have := h l hl; omega
  have cl : ∀ l ∈ x.close.stack, l.node.cnt ≤ m + 1 := by
    intro l hl
    unfold WS.close at hl
    cases hs : x.stack with
    | nil => simp only [hs] at hl; cases hl
    | cons a r =>
      cases r with
      | nil => simp only [hs] at hl; cases hl
      | cons b r =>
        rw [hs] at h
        simp only [hs, List.mem_cons] at hl
        rcases hl with rfl | hl
        · simp only [ND.cnt]; have := h b (by simp); omega
        · have := h l (by simp [hl]); omega
  unfold WS.word at e
  split at e
  · split at e
    · injection e with e; subst e; exact same
    · cases e
  · split at e
    · split at e
      · cases e
      split at e
      · cases e
      injection e with e
      subst e
      intro l hl
      simp only [List.mem_cons] at hl
      rcases hl with rfl | hl
      · simp [ND.cnt]
      · exact same l hl
    split at e
    · split at e
      · injection e with e; subst e; exact top _ (fun l => own _ _ _ _)
      split at e
      · injection e with e; subst e; exact top _ (fun l => own _ _ _ _)
      split at e
      · injection e with e; subst e; exact top _ (fun l => own _ _ _ _)
      · cases e
    split at e
    · split at e
      · injection e with e; subst e; exact top _ (fun l => own _ _ _ _)
      split at e
      · injection e with e; subst e; exact same
      · cases e
    split at e
    · split at e
      · injection e with e; subst e; exact same
      split at e
      · injection e with e; subst e; exact cl
      · cases e
    split at e
    · injection e with e; subst e; exact top _ (fun l => own _ _ _ _)
    split at e
    · split at e
      · cases e
      · injection e with e; subst e; exact top _ (fun l => own _ _ _ _)
    split at e
    · split at e
      · cases e
      split at e
      · cases e
      · injection e with e; subst e; exact top _ (fun l => rfl)
    split at e
    · split at e
      · cases e
      · injection e with e; subst e; exact cl
    injection e with e; subst e; exact same
theorem frStep_bad {ws : List Nat} {c : Nat} {q : Int} {off : Nat} (e : frStep ws c = .bad q off) : off ≤ ws.length ∧ (q = 6 ∨ q = 7) := by
  unfold frStep at e
  split at e
  · split at e
    · split at e
      · injection e with e1 e2; omega
      split at e
      · cases e
      · cases e
    · cases e
  split at e
  · split at e
    · cases e
    · cases e
  split at e
  · injection e with e1 e2; omega
  split at e
  · cases e
  · cases e
theorem tgE_ne {s : ByteArray} : tgE s = 63 ∨ tgE s = 0 := by
  unfold tgE
  split
  · exact .inl rfl
  · exact .inr rfl
theorem word_err {x : WS} {s : ByteArray} {q : Int} (e : x.word s = .error q) : q ≠ 0 := by
  unfold WS.word at e
  split at e
  · split at e
    · cases e
    · injection e with e; subst e; decide
  · split at e
    · split at e
      · injection e with e; subst e; decide
      split at e
      · injection e with e; subst e; decide
      · cases e
    split at e
    · split at e
      · cases e
      split at e
      · cases e
      split at e
      · cases e
      · injection e with e; subst e; decide
    split at e
    · split at e
      · cases e
      split at e
      · cases e
      · injection e with e; subst e; decide
    split at e
    · split at e
      · cases e
      split at e
      · cases e
      · injection e with e; subst e; decide
    split at e
    · cases e
    split at e
    · split at e
      · next h => injection e with e; subst e; exact h
      · cases e
    split at e
    · split at e
      · next h => injection e with e; subst e; exact h
      split at e
      · injection e with e; subst e; decide
      · cases e
    split at e
    · split at e
      · injection e with e; subst e; decide
      · cases e
    cases e
theorem step_inv {p : PS} {bs : List Nat} {c : Nat} (h : PInv p bs) (hc : c < 256) : PInv (p.step c) (bs ++ [c]) := by
  have hl : (bs ++ [c]).length = bs.length + 1 := by simp
  unfold PS.step
  by_cases h1 : p.shut = true ∨ p.code ≠ 0
  · rw [if_pos h1]
    refine ⟨h.shut, by have := h.bad; omega, by have := h.len; omega, h.most, h.st, h.dep, h.cnt, fun h0 => ?_⟩
    rcases h1 with h1 | h1
    · rw [h.shut] at h1; cases h1
    · exact absurd h0 h1
  rw [if_neg h1]
  have h0 : p.code = 0 := Classical.byContradiction fun h' => h1 (.inr h')
  obtain ⟨ws, hi, hb, hp, ha, hs, hw⟩ := h.good h0
  by_cases h2 : p.x.whole = true
  · rw [if_pos h2]
    exact ⟨h.shut, by show p.at_ ≤ _; have := h.len; omega, by show p.at_ ≤ _; have := h.len; omega, h.most, h.st, h.dep, h.cnt, fun h' => by cases h'⟩
  rw [if_neg h2]
  have h2' : p.x.whole = false := by simpa using h2
  by_cases h3 : p.at_ = 1048576
  · rw [if_pos h3]
    exact ⟨h.shut, by show p.at_ ≤ _; have := h.len; omega, by show p.at_ ≤ _; have := h.len; omega, h.most, h.st, h.dep, h.cnt, fun h' => by cases h'⟩
  rw [if_neg h3]
  have hm := h.most
  cases e : frStep p.ws c with
  | cont =>
    refine ⟨h.shut, ?_, ?_, ?_, ?_, h.dep, h.cnt, fun _ => ⟨ws, hi, ?_, hp.cont hc e, ?_, ?_, fun hh => absurd hh h2⟩⟩
    · show p.fat ≤ _; have := h.bad; omega
    · show p.at_ + 1 ≤ _; omega
    · show p.at_ + 1 ≤ _; omega
    · show p.start ≤ p.at_ + 1; omega
    · rw [hb, List.append_assoc]; rfl
    · show p.at_ + 1 = _; omega
    · show p.at_ + 1 = p.start + (p.ws ++ [c]).length; simp; omega
  | bad q off =>
    have hq := frStep_bad e
    refine ⟨h.shut, ?_, ?_, h.most, h.st, h.dep, h.cnt, fun h' => ?_⟩
    · show p.start + off ≤ _; omega
    · show p.at_ ≤ _; omega
    · have h' : q = 0 := h'; omega
  | whole s =>
    obtain ⟨hf, hsz⟩ := hp.whole hc e
    show PInv (p.wordR (p.x.word s)) _
    cases e2 : p.x.word s with
    | error q =>
      refine ⟨h.shut, ?_, ?_, h.most, h.st, h.dep, h.cnt, fun h' => absurd h' (word_err e2)⟩
      · show p.start ≤ _; omega
      · show p.at_ ≤ _; omega
    | ok y =>
      have hy := word_inv hi h2' e2
      refine ⟨h.shut, ?_, ?_, ?_, Nat.le_refl _, hy.dep, ?_, fun _ => ⟨ws ++ [s], hy, ?_, Pre.nil, ?_, ?_, fun _ => rfl⟩⟩
      · show p.fat ≤ _; have := h.bad; omega
      · show p.at_ + 1 ≤ _; omega
      · show p.at_ + 1 ≤ _; omega
      · intro l hl
        have := word_cnt e2 p.start h.cnt l hl
        show _ ≤ p.at_ + 1
        omega
      · rw [hb, frames_append, frames_cons, frames_nil, ← hf, List.append_nil, List.append_assoc]; exact (List.append_nil _).symm
      · show p.at_ + 1 = _; omega
      · show p.at_ + 1 = p.at_ + 1 + 0; rfl
theorem feed_inv : ∀ (cs : List Nat) {p : PS} {bs : List Nat}, PInv p bs → Bytes cs → PInv (p.feed cs) (bs ++ cs)
  | [], p, bs, h, _ => by simpa [PS.feed] using h
  | c :: r, p, bs, h, hb => by
    rw [feed_cons]
    have h1 := step_inv h (hb c (List.mem_cons_self ..))
    have h2 := feed_inv r h1 fun x hx => hb x (List.mem_cons_of_mem _ hx)
    rwa [List.append_assoc] at h2
theorem new_inv {bs : List Nat} (hb : Bytes bs) : PInv (PS.new.feed bs) bs := feed_inv bs PInv.new hb
/-! ### what was taken is an archive -/
theorem parse_sound {bs : List Nat} (hb : Bytes bs) (h0 : (PS.new.feed bs).code = 0) (hw : (PS.new.feed bs).x.whole = true) :
    serE (PS.new.feed bs).x.root = 0 ∧ arc (PS.new.feed bs).x.root = bs := by
  have h := new_inv hb
  generalize PS.new.feed bs = p at *
  obtain ⟨ws, hi, e, hp, ha, hs, hn⟩ := h.good h0
  have hm := h.most
  have hn := hn hw
  have key : ∀ (x : WS) (ws : List ByteArray), Inv x ws → x.whole = true → x.root.Ok 1 ∧ ws = wMagic :: x.root.words := by
    intro x ws hi hw
    cases hi with
    | done k n hok => exact ⟨hok, rfl⟩
    | magic => cases hw
    | open_ => cases hw
    | top => cases hw
  obtain ⟨hok, ew⟩ := key _ _ hi hw
  subst ew
  rw [hn, List.append_nil] at e
  have ea : arc p.x.root = bs := e.symm
  refine ⟨serE_ok.2 ⟨hok, ?_⟩, ea⟩
  rw [ea]
  omega
/-! ### an archive is taken -/
theorem feed_word {p : PS} {s : ByteArray} {y : WS} (hs : s.size ≤ 1048576) (h1 : p.shut = false) (h0 : p.code = 0) (hw : p.x.whole = false) (ha : p.at_ + fr s.size ≤ 1048576) (e : p.x.word s = .ok y) :
    ∀ (rest pre : List Nat), frameL (nb s) = pre ++ rest → rest ≠ [] →
      PS.feed { p with at_ := p.at_ + pre.length, ws := pre } rest = { p with at_ := p.at_ + fr s.size, start := p.at_ + fr s.size, ws := [], x := y } := by
  have hL : (frameL (nb s)).length = fr s.size := by rw [frameL_length, nb_length]; rfl
  intro rest
  induction rest with
  | nil => intro pre _ h; exact absurd rfl h
  | cons c r ih =>
    intro pre hf _
    have hstep := fr_run s hs pre c r hf
    have hlen : pre.length + 1 + r.length = fr s.size := by rw [← hL, hf]; simp; omega
    rw [feed_cons]
    have hns : ¬ (p.shut = true ∨ p.code ≠ 0) := by rintro (h | h); rw [h1] at h; cases h; exact h h0
    unfold PS.step
    rw [if_neg hns]
    simp only [hw, Bool.false_eq_true, if_false]
    rw [if_neg (by show ¬ p.at_ + pre.length = 1048576; omega)]
    by_cases hr : r = []
    · subst hr
      rw [if_pos rfl] at hstep
      simp only [List.length_nil] at hlen
      rw [hstep]
      show PS.wordR _ (p.x.word s) = _
      rw [e]
      show PS.mk _ _ _ _ _ _ _ = PS.mk _ _ _ _ _ _ _
      rw [show p.at_ + pre.length + 1 = p.at_ + fr s.size by omega]
    · rw [if_neg hr] at hstep
      rw [hstep]
      have h2 := ih (pre ++ [c]) (by rw [hf]; simp) hr
      rw [← h2]
      have el : p.at_ + (pre ++ [c]).length = p.at_ + pre.length + 1 := by rw [List.length_append]; rfl
      rw [el]
      rfl
theorem frame_ne (s : ByteArray) : frameL (nb s) ≠ [] := by
  intro h
  have := congrArg List.length h
  rw [frameL_length] at this
  simp at this
theorem feed_words : ∀ (ws : List ByteArray) {p : PS} {y : WS}, p.shut = false → p.code = 0 → p.ws = [] → p.start = p.at_ → p.at_ + frSum ws ≤ 1048576 → runW p.x ws = .ok y →
      p.feed (frames ws) = { p with at_ := p.at_ + frSum ws, start := p.at_ + frSum ws, ws := [], x := y }
  | [], p, y, h1, h0, hn, hs, ha, e => by
    injection e with e
    subst e
    obtain ⟨a, b, c, d, f, g, x⟩ := p
    simp only at hn hs
    subst hn
    subst hs
    rfl
  | s :: r, p, y, h1, h0, hn, hs, ha, e => by
    have e9 : frSum (s :: r) = fr s.size + frSum r := by simp [frSum]
    rw [e9] at ha ⊢
    simp only [runW] at e
    split at e
    · cases e
    next hw =>
    have hw : p.x.whole = false := by simpa using hw
    split at e
    · next z hz =>
      have hsz : s.size ≤ 1048576 := by have : s.size ≤ fr s.size := by unfold fr; omega
                                        omega
      have h2 := feed_word (p := p) hsz h1 h0 hw (by omega) hz (frameL (nb s)) [] rfl (frame_ne s)
      have ep : { p with at_ := p.at_ + ([] : List Nat).length, ws := [] } = p := by
        obtain ⟨a, b, c, d, f, g, x⟩ := p
        simp only at hn
        subst hn
        rfl
      rw [ep] at h2
      rw [frames_cons, feed_append, h2]
      have h3 := feed_words r (p := { p with at_ := p.at_ + fr s.size, start := p.at_ + fr s.size, ws := [], x := z }) (y := y) h1 h0 rfl rfl (by show p.at_ + fr s.size + _ ≤ _; omega) e
      rw [h3]
      simp only [Nat.add_assoc]
    · cases e
theorem parse_arc {n : ND} (h : serE n = 0) : ∃ k, PS.new.feed (arc n) = ⟨(arc n).length, (arc n).length, 0, 0, false, [], ⟨k, [], true, n⟩⟩ := by
  obtain ⟨hok, hl⟩ := serE_ok.1 h
  obtain ⟨k, hr⟩ := run_arc n (.leaf 0 false emp) hok
  refine ⟨k, ?_⟩
  have e : (arc n).length = frSum (wMagic :: n.words) := frames_length _
  have h2 := feed_words (wMagic :: n.words) (p := PS.new) rfl rfl rfl rfl (by show 0 + _ ≤ _; omega) hr
  show PS.new.feed (frames (wMagic :: n.words)) = _
  rw [h2, e]
  simp only [PS.new, Nat.zero_add]
/-- ahead of the end an archive's beginning is taken whole -/
theorem parse_pre {n : ND} (h : serE n = 0) {a b : List Nat} (e : arc n = a ++ b) : (PS.new.feed a).code = 0 ∧ (PS.new.feed a).at_ = a.length ∧ (b ≠ [] → (PS.new.feed a).x.whole = false) := by
  obtain ⟨k, hp⟩ := parse_arc h
  have hB : Bytes (arc n) := frames_bytes _
  have hba : Bytes a := fun x hx => hB x (by rw [e]; exact List.mem_append_left _ hx)
  have hi := new_inv hba
  rw [e, feed_append] at hp
  have h0 : (PS.new.feed a).code = 0 := by
    by_cases hc : (PS.new.feed a).code = 0
    · exact hc
    · rw [feed_stop (.inr hc)] at hp
      rw [hp]
  obtain ⟨ws, h1, h2, h3, h4, _⟩ := hi.good h0
  refine ⟨h0, h4, fun hb => ?_⟩
  cases hw : (PS.new.feed a).x.whole with
  | false => rfl
  | true =>
    exfalso
    cases b with
    | nil => exact hb rfl
    | cons c r =>
      rw [feed_cons] at hp
      have hs : (PS.new.feed a).step c = { PS.new.feed a with code := 5, fat := (PS.new.feed a).at_ } := by
        unfold PS.step
        rw [if_neg (by rintro (h | h); rw [hi.shut] at h; cases h; exact h h0), if_pos hw]
      rw [hs, feed_stop (.inr (by show (5 : Int) ≠ 0; decide))] at hp
      have := congrArg PS.code hp
      cases this
/-- a length above the most -/
theorem long_fault {p : PS} (L : Nat) (h1 : p.shut = false) (h0 : p.code = 0) (hn : p.ws = []) (hw : p.x.whole = false) (hs : p.start = p.at_) (ha : p.at_ + 8 ≤ 1048576) (hL : 1048576 < L) (hL2 : L < 18446744073709551616) :
    (p.feed (le8 L)).code = 6 ∧ (p.feed (le8 L)).fat = p.at_ ∧ (p.feed (le8 L)).at_ = p.at_ + 7 := by
  have hl := le8_length L
  have hv := val8_le8 L hL2
  generalize le8 L = bs at *
  obtain ⟨b0, b1, b2, b3, b4, b5, b6, b7, rfl⟩ : ∃ b0 b1 b2 b3 b4 b5 b6 b7, bs = [b0, b1, b2, b3, b4, b5, b6, b7] := by
    match bs, hl with
    | [b0, b1, b2, b3, b4, b5, b6, b7], _ => exact ⟨_, _, _, _, _, _, _, _, rfl⟩
  obtain ⟨a, s, c, d, f, g, x⟩ := p
  simp only at h1 h0 hn hw hs ha ⊢
  subst h1 h0 hn hs
  have st : ∀ (g : List Nat) (k c : Nat), g.length = k → k < 7 → PS.step ⟨s + k, s, 0, d, false, g, x⟩ c = ⟨s + (k + 1), s, 0, d, false, g ++ [c], x⟩ := by
    intro g k c hg hk
    unfold PS.step
    rw [if_neg (by simp)]
    simp only [hw, Bool.false_eq_true, if_false]
    rw [if_neg (by omega)]
    have : frStep g c = .cont := by
      unfold frStep
      rw [if_pos (by omega), if_neg (by omega)]
    rw [this]
    rfl
  have e7 : PS.step ⟨s + 7, s, 0, d, false, [b0, b1, b2, b3, b4, b5, b6], x⟩ b7 = ⟨s + 7, s, 6, s + 0, false, [b0, b1, b2, b3, b4, b5, b6], x⟩ := by
    unfold PS.step
    rw [if_neg (by simp)]
    simp only [hw, Bool.false_eq_true, if_false]
    rw [if_neg (by omega)]
    have : frStep [b0, b1, b2, b3, b4, b5, b6] b7 = .bad 6 0 := by
      unfold frStep
      exact (if_pos (show 7 < 8 by omega)).trans ((if_pos rfl).trans (if_pos (show 1048576 < val8 [b0, b1, b2, b3, b4, b5, b6, b7] by omega)))
    rw [this]
    rfl
  have e : PS.feed ⟨s, s, 0, d, false, [], x⟩ [b0, b1, b2, b3, b4, b5, b6, b7] = ⟨s + 7, s, 6, s + 0, false, [b0, b1, b2, b3, b4, b5, b6], x⟩ := by
    have s0 : PS.step ⟨s + 0, s, 0, d, false, [], x⟩ b0 = ⟨s + 1, s, 0, d, false, [b0], x⟩ := st [] 0 b0 rfl (by omega)
    have s1 : PS.step ⟨s + 1, s, 0, d, false, [b0], x⟩ b1 = ⟨s + 2, s, 0, d, false, [b0, b1], x⟩ := st [b0] 1 b1 rfl (by omega)
    have s2 : PS.step ⟨s + 2, s, 0, d, false, [b0, b1], x⟩ b2 = ⟨s + 3, s, 0, d, false, [b0, b1, b2], x⟩ := st [b0, b1] 2 b2 rfl (by omega)
    have s3 : PS.step ⟨s + 3, s, 0, d, false, [b0, b1, b2], x⟩ b3 = ⟨s + 4, s, 0, d, false, [b0, b1, b2, b3], x⟩ := st [b0, b1, b2] 3 b3 rfl (by omega)
    have s4 : PS.step ⟨s + 4, s, 0, d, false, [b0, b1, b2, b3], x⟩ b4 = ⟨s + 5, s, 0, d, false, [b0, b1, b2, b3, b4], x⟩ := st [b0, b1, b2, b3] 4 b4 rfl (by omega)
    have s5 : PS.step ⟨s + 5, s, 0, d, false, [b0, b1, b2, b3, b4], x⟩ b5 = ⟨s + 6, s, 0, d, false, [b0, b1, b2, b3, b4, b5], x⟩ := st [b0, b1, b2, b3, b4] 5 b5 rfl (by omega)
    have s6 : PS.step ⟨s + 6, s, 0, d, false, [b0, b1, b2, b3, b4, b5], x⟩ b6 = ⟨s + 7, s, 0, d, false, [b0, b1, b2, b3, b4, b5, b6], x⟩ := st [b0, b1, b2, b3, b4, b5] 6 b6 rfl (by omega)
    show PS.feed ⟨s + 0, s, 0, d, false, [], x⟩ _ = _
    rw [feed_cons, s0, feed_cons, s1, feed_cons, s2, feed_cons, s3, feed_cons, s4, feed_cons, s5, feed_cons, s6, feed_cons, e7]
    rfl
  rw [e]
  exact ⟨rfl, rfl, rfl⟩
end Go.Proofs.Ytlcppkcclolgcaa

