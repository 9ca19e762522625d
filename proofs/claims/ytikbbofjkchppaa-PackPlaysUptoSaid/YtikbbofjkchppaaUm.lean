/- The unpacker as a machine over bytes; the packed text read by it. -/
import Derived.Test.YtikbbofjkchppaaPg
namespace Go.Proofs.Ytikbbofjkchppaa
set_option linter.unusedVariables false
set_option linter.unusedSimpArgs false

/-- where an unpacker stands -/
structure US where
  taken : Nat
  code : Nat
  at_ : Nat
  shut : Bool
  size : Nat
  head : Nat
  out : List Nat
  start : Nat
  token : List Nat
  plain : Nat
def US.new : US := ⟨0, 0, 0, false, 0, 0, [], 0, [], 0⟩
def US.fail (u : US) (c a : Nat) : US := { u with code := c, at_ := a }
/-- bytes copied from far back -/
def copyOut (far : Nat) : Nat → List Nat → List Nat
  | 0, out => out
  | k + 1, out => copyOut far k (out ++ [out.getD (out.length - far) 0])
/-- how far back a token points -/
def farOf (t : List Nat) : Nat := t.getD 1 0 + t.getD 2 0 * 256 + 1
def US.copy (u : US) : US × Bool :=
  if u.out.length < farOf u.token then (u.fail 100 u.start, false)
  else ({ u with out := copyOut (farOf u.token) (u.token.getD 0 0 - 124) u.out, token := [] }, true)
/-- the bytes that a token begun by c stands for -/
def lenOf (c : Nat) : Nat := if 128 ≤ c then c - 124 else c + 1
def US.begin (u : US) (c : Nat) : US × Bool :=
  if u.size - u.out.length < lenOf c then (({ u with start := u.taken }).fail 101 u.taken, false)
  else if 128 ≤ c then ({ u with start := u.taken, token := u.token ++ [c] }, true)
  else ({ u with start := u.taken, plain := lenOf c }, true)
/-- one byte -/
def US.take (u : US) (c : Nat) : US × Bool :=
  if u.head < 8 then
    if u.head = 7 ∧ 1048576 < u.size + c * 2 ^ (8 * u.head) then (({ u with size := u.size + c * 2 ^ (8 * u.head) }).fail 2 0, false)
    else ({ u with size := u.size + c * 2 ^ (8 * u.head), head := u.head + 1 }, true)
  else if 0 < u.plain then ({ u with out := u.out ++ [c], plain := u.plain - 1 }, true)
  else if 0 < u.token.length then
    if u.token.length + 1 = 3 then ({ u with token := u.token ++ [c] }).copy
    else ({ u with token := u.token ++ [c] }, true)
  else if u.out.length = u.size then (u.fail 5 u.taken, false)
  else u.begin c
def US.one (u : US) (c : Nat) : US :=
  if u.shut = true ∨ u.code ≠ 0 then u
  else if (u.take c).2 = true then { (u.take c).1 with taken := u.taken + 1 } else (u.take c).1
def US.feed (u : US) (bs : List Nat) : US := bs.foldl US.one u
def US.whole (u : US) : Bool := u.head == 8 && u.out.length == u.size
def US.close (u : US) : US :=
  if u.shut = false ∧ u.whole = false ∧ u.code = 0 then { u.fail 4 u.taken with shut := true } else { u with shut := true }

theorem feed_append (u : US) (a b : List Nat) : u.feed (a ++ b) = (u.feed a).feed b := by simp [US.feed]
theorem feed_cons (u : US) (c : Nat) (b : List Nat) : u.feed (c :: b) = (u.one c).feed b := rfl
theorem feed_nil (u : US) : u.feed [] = u := rfl
theorem one_stop (u : US) (c : Nat) (h : u.shut = true ∨ u.code ≠ 0) : u.one c = u := by unfold US.one; rw [if_pos h]
theorem feed_stop (u : US) (h : u.shut = true ∨ u.code ≠ 0) : ∀ bs, u.feed bs = u
  | [] => rfl
  | c :: r => by rw [feed_cons, one_stop u c h, feed_stop u h r]
theorem one_go (u : US) (c : Nat) (h1 : u.shut = false) (h2 : u.code = 0) : u.one c = if (u.take c).2 = true then { (u.take c).1 with taken := u.taken + 1 } else (u.take c).1 := by
  unfold US.one
  rw [if_neg (by simp [h1, h2])]

/-- an unpacker that has read p of the text's bytes and stands ahead of a token -/
def At (L : List Nat) (u : US) (p : Nat) : Prop := u.shut = false ∧ u.code = 0 ∧ u.head = 8 ∧ u.size = L.length ∧ u.out = L.take p ∧ u.token = [] ∧ u.plain = 0
theorem at_out {L : List Nat} {u : US} {p : Nat} (h : At L u p) (hp : p ≤ L.length) : u.out.length = p := by rw [h.2.2.2.2.1, List.length_take]; omega

theorem feed_plain : ∀ (xs : List Nat) (u : US) (q : Nat), u.shut = false → u.code = 0 → u.head = 8 → u.plain = xs.length + q →
    u.feed xs = { u with out := u.out ++ xs, plain := q, taken := u.taken + xs.length }
  | [], u, q, h1, h2, h3, h4 => by
    obtain ⟨_, _, _, _, _, _, _, _, _, _⟩ := u
    simp only [List.length_nil, Nat.zero_add] at h4
    subst h4
    simp [feed_nil]
  | x :: xs, u, q, h1, h2, h3, h4 => by
    simp only [List.length_cons] at h4
    have ht : u.take x = ({ u with out := u.out ++ [x], plain := u.plain - 1 }, true) := by
      unfold US.take
      rw [if_neg (by omega), if_pos (by omega)]
    rw [feed_cons, one_go u x h1 h2, ht]
    simp only [if_true]
    refine (feed_plain xs { u with out := u.out ++ [x], plain := u.plain - 1, taken := u.taken + 1 } q h1 h2 h3 (by simp only; omega)).trans ?_
    simp only [List.append_assoc, List.cons_append, List.nil_append, List.length_cons]
    congr 1
    omega
theorem lenOf_lo {c : Nat} (h : c < 128) : lenOf c = c + 1 := by unfold lenOf; rw [if_neg (by omega)]
theorem lenOf_hi {c : Nat} (h : 128 ≤ c) : lenOf c = c - 124 := by unfold lenOf; rw [if_pos h]
theorem begin_plain (L : List Nat) (u : US) (p : Nat) (h : At L u p) (c : Nat) (hc : c < 128) (hp : p + c + 1 ≤ L.length) : u.one c = { u with start := u.taken, plain := c + 1, taken := u.taken + 1 } := by
  have hl := at_out h (by omega)
  obtain ⟨h1, h2, h3, h4, h5, h6, h7⟩ := h
  have ht : u.take c = ({ u with start := u.taken, plain := c + 1 }, true) := by
    unfold US.take
    rw [if_neg (by omega), if_neg (by omega), if_neg (by rw [h6]; simp), if_neg (by omega)]
    unfold US.begin
    rw [lenOf_lo hc, if_neg (by omega), if_neg (by omega)]
  rw [one_go u c h1 h2, ht]
  rfl
theorem feed_runs (L : List Nat) (i : Nat) (hi : i ≤ L.length) : ∀ k u p, At L u p → p ≤ i → i - p ≤ k → At L (u.feed (runs L i k p)) i ∧ (u.feed (runs L i k p)).taken = u.taken + (runs L i k p).length
  | 0, u, p, h, hp, hk => by
    obtain rfl : p = i := by omega
    exact ⟨h, rfl⟩
  | k + 1, u, p, h, hp, hk => by
    rw [runs]
    by_cases hlt : p < i
    · rw [if_pos hlt]
      obtain ⟨m, hm⟩ : ∃ m, m = min 128 (i - p) := ⟨_, rfl⟩
      rw [← hm]
      have hb := begin_plain L u p h (m - 1) (by omega) (by omega)
      have hlen : ((L.drop p).take m).length = m := by rw [List.length_take, List.length_drop]; omega
      rw [feed_cons, feed_append, hb]
      obtain ⟨h1, h2, h3, h4, h5, h6, h7⟩ := h
      have hfp := feed_plain ((L.drop p).take m) { u with start := u.taken, plain := m - 1 + 1, taken := u.taken + 1 } 0 h1 h2 h3 (by simp only; rw [hlen]; omega)
      have hout : u.out ++ (L.drop p).take m = L.take (p + m) := by rw [h5, List.take_add]
      simp only [hout] at hfp
      have hfp2 : US.feed { u with start := u.taken, plain := m - 1 + 1, taken := u.taken + 1 } ((L.drop p).take m) = _ := hfp
      rw [hfp2]
      obtain ⟨a, b⟩ := feed_runs L i hi k { { u with start := u.taken, plain := m - 1 + 1, taken := u.taken + 1 } with out := L.take (p + m), plain := 0, taken := u.taken + 1 + ((L.drop p).take m).length } (p + m) ⟨h1, h2, h3, h4, rfl, h6, rfl⟩ (by omega) (by omega)
      refine ⟨a, b.trans ?_⟩
      simp only [List.length_cons, List.length_append]
      omega
    · rw [if_neg hlt]
      obtain rfl : p = i := by omega
      exact ⟨h, rfl⟩
theorem copyOut_take (L : List Nat) (i far : Nat) (h1 : 1 ≤ far) (hfi : far ≤ i) : ∀ k j, i + j + k ≤ L.length → (∀ q, q < j + k → L.getD (i - far + q) 0 = L.getD (i + q) 0) → copyOut far k (L.take (i + j)) = L.take (i + j + k)
  | 0, j, h, hs => rfl
  | k + 1, j, h, hs => by
    rw [copyOut]
    have hl : (L.take (i + j)).length = i + j := by rw [List.length_take]; omega
    have hg : (L.take (i + j)).getD (i + j - far) 0 = L.getD (i + j) 0 := by
      rw [← hs j (by omega), show i - far + j = i + j - far by omega]
      simp [List.getD_eq_getElem?_getD, List.getElem?_take, show i + j - far < i + j by omega]
    have ht : L.take (i + j) ++ [L.getD (i + j) 0] = L.take (i + (j + 1)) := by
      rw [show i + (j + 1) = (i + j) + 1 by omega, List.take_succ_eq_append_getElem (by omega)]
      simp [List.getD_eq_getElem?_getD, show i + j < L.length by omega]
    rw [hl, hg, ht, copyOut_take L i far h1 hfi k (j + 1) (by omega) (fun q hq => hs q (by omega)), show i + (j + 1) + k = i + j + (k + 1) by omega]
theorem feed_match (L : List Nat) (u : US) (i n far : Nat) (h : At L u i) (h4 : 4 ≤ n) (h131 : n ≤ 131) (hin : i + n ≤ L.length) (hf1 : 1 ≤ far) (hfi : far ≤ i) (hf : far ≤ 65536) (hs : ∀ j, j < n → L.getD (i - far + j) 0 = L.getD (i + j) 0) (r : List Nat) :
    ∃ u', u.feed ((124 + n) :: (far - 1) % 256 :: (far - 1) / 256 % 256 :: r) = u'.feed r ∧ At L u' (i + n) ∧ u'.taken = u.taken + 3 := by
  have hl := at_out h (by omega)
  obtain ⟨h1, h2, h3, h4', h5, h6, h7⟩ := h
  have t1 : u.take (124 + n) = ({ u with start := u.taken, token := [124 + n] }, true) := by
    unfold US.take
    rw [if_neg (by omega), if_neg (by omega), if_neg (by rw [h6]; simp), if_neg (by omega)]
    unfold US.begin
    rw [lenOf_hi (by omega), if_neg (by omega), if_pos (by omega), h6]
    rfl
  rw [feed_cons, feed_cons, feed_cons, one_go u _ h1 h2, t1]
  simp only [if_true]
  obtain ⟨u1, hu1⟩ : ∃ u1 : US, u1 = { u with start := u.taken, token := [124 + n], taken := u.taken + 1 } := ⟨_, rfl⟩
  have t2 : u1.take ((far - 1) % 256) = ({ u1 with token := [124 + n, (far - 1) % 256] }, true) := by
    unfold US.take
    rw [hu1]
    simp only
    rw [if_neg (by omega), if_neg (by omega), if_pos (by simp), if_neg (by simp)]
    rfl
  have e1 : (US.mk (u.taken + 1) u.code u.at_ u.shut u.size u.head u.out u.taken [124 + n] u.plain) = u1 := hu1.symm
  rw [e1, one_go u1 _ (by rw [hu1]; exact h1) (by rw [hu1]; exact h2), t2]
  simp only [if_true]
  obtain ⟨u2, hu2⟩ : ∃ u2 : US, u2 = { u1 with token := [124 + n, (far - 1) % 256], taken := u1.taken + 1 } := ⟨_, rfl⟩
  have e2 : (US.mk (u1.taken + 1) u1.code u1.at_ u1.shut u1.size u1.head u1.out u1.start [124 + n, (far - 1) % 256] u1.plain) = u2 := hu2.symm
  have hfar : farOf [124 + n, (far - 1) % 256, (far - 1) / 256 % 256] = far := by
    show (far - 1) % 256 + (far - 1) / 256 % 256 * 256 + 1 = far
    omega
  have t3 : u2.take ((far - 1) / 256 % 256) = ({ u2 with out := L.take (i + n), token := [] }, true) := by
    have b1 : u2.head = 8 := by rw [hu2, hu1]; exact h3
    have b2 : u2.plain = 0 := by rw [hu2, hu1]; exact h7
    have b3 : u2.token = [124 + n, (far - 1) % 256] := by rw [hu2]
    have b4 : u2.out = L.take i := by rw [hu2, hu1]; exact h5
    unfold US.take
    rw [if_neg (by omega), if_neg (by omega), if_pos (by rw [b3]; simp), if_pos (by rw [b3]; rfl)]
    unfold US.copy
    simp only [b3, b4, List.cons_append, List.nil_append, hfar]
    rw [if_neg (by rw [List.length_take]; omega)]
    have := copyOut_take L i far hf1 hfi n 0 (by omega) (fun q hq => hs q (by omega))
    rw [Nat.add_zero] at this
    rw [show ([124 + n, (far - 1) % 256, (far - 1) / 256 % 256] : List Nat).getD 0 0 - 124 = n by simp, this]
  rw [e2, one_go u2 _ (by rw [hu2, hu1]; exact h1) (by rw [hu2, hu1]; exact h2), t3]
  simp only [if_true]
  refine ⟨_, rfl, ⟨?_, ?_, ?_, ?_, rfl, rfl, ?_⟩, ?_⟩
  · show u2.shut = false
    rw [hu2, hu1]; exact h1
  · show u2.code = 0
    rw [hu2, hu1]; exact h2
  · show u2.head = 8
    rw [hu2, hu1]; exact h3
  · show u2.size = _
    rw [hu2, hu1]; exact h4'
  · show u2.plain = 0
    rw [hu2, hu1]; exact h7
  · show u2.taken + 1 = _
    rw [hu2, hu1]
theorem feed_packG (L : List Nat) : ∀ k i p u, At L u p → p ≤ i → i ≤ L.length → At L (u.feed (packG L k i p)) L.length ∧ (u.feed (packG L k i p)).taken = u.taken + (packG L k i p).length
  | 0, i, p, u, h, hp, hi => feed_runs L _ (Nat.le_refl _) _ u p h (by omega) (Nat.le_refl _)
  | k + 1, i, p, u, h, hp, hi => by
    rw [packG]
    by_cases hlt : i < L.length
    · rw [if_pos hlt]
      by_cases hb : (backP L i (lastW L i)).1 = 0
      · rw [if_pos hb]
        exact feed_packG L k (i + 1) p u h (by omega) (by omega)
      · rw [if_neg hb]
        obtain ⟨n, far, e, h4, h131, hin, hf1, hfi, hf, hsame⟩ := backP_ok L i hb
        rw [e]
        simp only
        obtain ⟨a, b⟩ := feed_runs L i hi (i - p) u p h hp (Nat.le_refl _)
        rw [feed_append]
        obtain ⟨u', e1, a', b'⟩ := feed_match L _ i n far a h4 h131 hin hf1 hfi hf hsame (packG L k (i + n) (i + n))
        rw [e1]
        obtain ⟨a2, b2⟩ := feed_packG L k (i + n) (i + n) u' a' (Nat.le_refl _) hin
        refine ⟨a2, ?_⟩
        rw [b2, b', b]
        simp only [List.length_cons, List.length_append]
        omega
    · rw [if_neg hlt]
      exact feed_runs L _ (Nat.le_refl _) _ u p h (by omega) (Nat.le_refl _)
/-- the head's bytes -/
theorem le8_eq (n : Nat) : le8 n = [n % 256, n / 256 % 256, n / 65536 % 256, n / 16777216 % 256, n / 4294967296 % 256, n / 1099511627776 % 256, n / 281474976710656 % 256, n / 72057594037927936 % 256] := by
  simp [le8, fl8]
def hd (s h : Nat) : US := ⟨h, 0, 0, false, s, h, [], 0, [], 0⟩
theorem hd_one (s h c s' : Nat) (h3 : h < 8) (h4 : s + c * 2 ^ (8 * h) ≤ 1048576) (e : s' = s + c * 2 ^ (8 * h)) : (hd s h).one c = hd s' (h + 1) := by
  have ht : (hd s h).take c = ({ hd s h with size := s + c * 2 ^ (8 * h), head := h + 1 }, true) := by
    unfold US.take
    rw [if_pos (show (hd s h).head < 8 from h3), if_neg (show ¬((hd s h).head = 7 ∧ 1048576 < (hd s h).size + c * 2 ^ (8 * (hd s h).head)) from fun q => by have := q.2; simp only [hd] at this; omega)]
    rfl
  rw [one_go (hd s h) c rfl rfl, ht, e]
  rfl
theorem feed_le8 (n : Nat) (hn : n ≤ 1048576) : US.new.feed (le8 n) = hd n 8 := by
  have z3 : n / 16777216 % 256 = 0 := by omega
  have z4 : n / 4294967296 % 256 = 0 := by omega
  have z5 : n / 1099511627776 % 256 = 0 := by omega
  have z6 : n / 281474976710656 % 256 = 0 := by omega
  have z7 : n / 72057594037927936 % 256 = 0 := by omega
  have hs : n % 256 + n / 256 % 256 * 256 + n / 65536 % 256 * 65536 = n := by omega
  rw [le8_eq, z3, z4, z5, z6, z7]
  simp only [feed_cons, feed_nil]
  rw [show US.new = hd 0 0 from rfl, hd_one 0 0 (n % 256) (n % 256) (by omega) (by omega) (by omega)]
  rw [hd_one _ 1 (n / 256 % 256) (n % 256 + n / 256 % 256 * 256) (by omega) (by omega) (by omega)]
  rw [hd_one _ 2 (n / 65536 % 256) n (by omega) (by omega) (by omega)]
  rw [hd_one n 3 0 n (by omega) (by omega) (by omega), hd_one n 4 0 n (by omega) (by omega) (by omega), hd_one n 5 0 n (by omega) (by omega) (by omega), hd_one n 6 0 n (by omega) (by omega) (by omega), hd_one n 7 0 n (by omega) (by omega) (by omega)]
theorem feed_packL (L : List Nat) (hL : L.length ≤ 1048576) : At L (US.new.feed (packL L)) L.length ∧ (US.new.feed (packL L)).taken = (packL L).length := by
  rw [packL, feed_append, feed_le8 _ hL]
  obtain ⟨a, b⟩ := feed_packG L L.length 0 0 (hd L.length 8) ⟨rfl, rfl, rfl, rfl, rfl, rfl, rfl⟩ (Nat.le_refl _) (Nat.zero_le _)
  refine ⟨a, b.trans ?_⟩
  rw [List.length_append, le8_length]
  rfl
theorem at_whole {L : List Nat} {u : US} (h : At L u L.length) : u.whole = true ∧ u.out = L := by
  obtain ⟨h1, h2, h3, h4, h5, h6, h7⟩ := h
  rw [List.take_length] at h5
  refine ⟨?_, h5⟩
  unfold US.whole
  rw [h3, h5, h4]
  simp
/-- a byte behind the end -/
theorem at_trail {L : List Nat} {u : US} (h : At L u L.length) (c : Nat) : u.one c = u.fail 5 u.taken := by
  have hl := at_out h (Nat.le_refl _)
  obtain ⟨h1, h2, h3, h4, h5, h6, h7⟩ := h
  have ht : u.take c = (u.fail 5 u.taken, false) := by
    unfold US.take
    rw [if_neg (by omega), if_neg (by omega), if_neg (by rw [h6]; simp), if_pos (by omega)]
  rw [one_go u c h1 h2, ht]
  rfl

/-! ### what holds of an unpacker that has found no fault -/
structure Fine (u : US) : Prop where
  early : u.head ≤ 8
  pre : u.head < 8 → u.out = [] ∧ u.plain = 0 ∧ u.token = [] ∧ u.size < 2 ^ (8 * u.head)
  size : u.head = 8 → u.size ≤ 1048576
  room : u.head = 8 → u.out.length + u.plain ≤ u.size
  tok : u.token.length < 3
  tokb : Bytes u.token
  tokp : u.token ≠ [] → u.plain = 0 ∧ 128 ≤ u.token.getD 0 0 ∧ u.out.length + (u.token.getD 0 0 - 124) ≤ u.size
  taken : u.taken < 9223372036854775808 → True
theorem copyOut_length (far : Nat) : ∀ k out, (copyOut far k out).length = out.length + k
  | 0, out => rfl
  | k + 1, out => by
    rw [copyOut, copyOut_length far k, List.length_append]
    simp
    omega
theorem fine_new : Fine US.new := ⟨by decide, fun _ => ⟨rfl, rfl, rfl, by decide⟩, fun h => by simp [US.new] at h, fun h => by simp [US.new] at h, by simp [US.new], fun x hx => by simp [US.new] at hx, fun h => by simp [US.new] at h, fun _ => trivial⟩
/-- a byte taken keeps it; a byte not taken is a fault -/
theorem fine_take (u : US) (h : Fine u) (c : Nat) (hc : c < 256) (h2 : u.code = 0) : ((u.take c).2 = true → Fine (u.take c).1 ∧ (u.take c).1.code = 0) ∧ ((u.take c).2 = false → (u.take c).1.code ≠ 0 ∧ (u.take c).1.taken = u.taken ∧ (u.take c).1.head ≤ 8) ∧ (u.take c).1.shut = u.shut := by
  obtain ⟨e1, e2, e3, e4, e5, e6, e7, _⟩ := h
  unfold US.take
  by_cases hh : u.head < 8
  · rw [if_pos hh]
    obtain ⟨p1, p2, p3, p4⟩ := e2 hh
    by_cases hb : u.head = 7 ∧ 1048576 < u.size + c * 2 ^ (8 * u.head)
    · rw [if_pos hb]
      exact ⟨fun h => by simp at h, fun _ => ⟨by simp [US.fail], rfl, e1⟩, rfl⟩
    · rw [if_neg hb]
      refine ⟨fun _ => ⟨⟨by simp only; omega, fun h => ⟨p1, p2, p3, ?_⟩, fun h => ?_, fun h => ?_, e5, e6, fun h => absurd p3 h, fun _ => trivial⟩, h2⟩, fun h => by simp at h, rfl⟩
      · simp only
        rw [show 8 * (u.head + 1) = 8 * u.head + 8 by omega, Nat.pow_add]
        have : c * 2 ^ (8 * u.head) ≤ 255 * 2 ^ (8 * u.head) := Nat.mul_le_mul_right _ (by omega)
        omega
      · simp only at h ⊢
        omega
      · simp only [p1, p2]
        simp
  · rw [if_neg hh]
    have hh8 : u.head = 8 := by omega
    have hr := e4 hh8
    by_cases hp : 0 < u.plain
    · rw [if_pos hp]
      refine ⟨fun _ => ⟨⟨e1, fun h => absurd h hh, e3, fun h => ?_, e5, e6, fun h => ?_, fun _ => trivial⟩, h2⟩, fun h => by simp at h, rfl⟩
      · simp only [List.length_append, List.length_cons, List.length_nil]
        omega
      · have := (e7 h).1
        omega
    · rw [if_neg hp]
      by_cases ht : 0 < u.token.length
      · rw [if_pos ht]
        obtain ⟨t1, t2, t3⟩ := e7 (by intro h; rw [h] at ht; simp at ht)
        have hg : (u.token ++ [c]).getD 0 0 = u.token.getD 0 0 := by
          obtain ⟨t, r, htr⟩ : ∃ t r, u.token = t :: r := by
            cases h : u.token with
            | nil => rw [h] at ht; simp at ht
            | cons t r => exact ⟨t, r, rfl⟩
          rw [htr]
          rfl
        by_cases h3 : u.token.length + 1 = 3
        · rw [if_pos h3]
          unfold US.copy
          simp only
          split
          · exact ⟨fun h => by simp at h, fun _ => ⟨by simp [US.fail], rfl, e1⟩, rfl⟩
          · refine ⟨fun _ => ⟨⟨e1, fun h => absurd h hh, e3, fun h => ?_, by simp, fun x hx => by simp at hx, fun h => by simp at h, fun _ => trivial⟩, h2⟩, fun h => by simp at h, rfl⟩
            simp only [copyOut_length, hg]
            omega
        · rw [if_neg h3]
          refine ⟨fun _ => ⟨⟨e1, fun h => absurd h hh, e3, fun h => hr, ?_, ?_, fun h => ?_, fun _ => trivial⟩, h2⟩, fun h => by simp at h, rfl⟩
          · simp only [List.length_append, List.length_cons, List.length_nil]
            omega
          · intro x hx
            simp only [List.mem_append, List.mem_cons, List.not_mem_nil, or_false] at hx
            rcases hx with hx | hx
            · exact e6 x hx
            · omega
          · simp only [hg]
            exact ⟨t1, t2, t3⟩
      · rw [if_neg ht]
        have htn : u.token = [] := List.eq_nil_of_length_eq_zero (by omega)
        by_cases hs : u.out.length = u.size
        · rw [if_pos hs]
          exact ⟨fun h => by simp at h, fun _ => ⟨by simp [US.fail], rfl, e1⟩, rfl⟩
        · rw [if_neg hs]
          unfold US.begin
          by_cases hn : u.size - u.out.length < lenOf c
          · rw [if_pos hn]
            exact ⟨fun h => by simp at h, fun _ => ⟨by simp [US.fail], rfl, e1⟩, rfl⟩
          · rw [if_neg hn]
            unfold lenOf at hn ⊢
            by_cases hc8 : 128 ≤ c
            · rw [if_pos hc8] at hn ⊢
              refine ⟨fun _ => ⟨⟨e1, fun h => absurd h hh, e3, fun h => hr, ?_, ?_, fun h => ?_, fun _ => trivial⟩, h2⟩, fun h => by simp at h, rfl⟩
              · simp [htn]
              · intro x hx
                simp [htn] at hx
                omega
              · simp [htn]
                omega
            · rw [if_neg hc8] at hn
              rw [if_neg hc8, if_neg hc8]
              refine ⟨fun _ => ⟨⟨e1, fun h => absurd h hh, e3, fun h => ?_, e5, e6, fun h => absurd htn h, fun _ => trivial⟩, h2⟩, fun h => by simp at h, rfl⟩
              simp only
              omega
theorem fine_one (u : US) (h : u.code = 0 → Fine u) (c : Nat) (hc : c < 256) : ((u.one c).code = 0 → Fine (u.one c)) ∧ (u.one c).shut = u.shut ∧ u.taken ≤ (u.one c).taken ∧ (u.one c).taken ≤ u.taken + 1 ∧ ((u.one c).code = 0 → u.code = 0) := by
  by_cases hs : u.shut = true ∨ u.code ≠ 0
  · rw [one_stop u c hs]
    exact ⟨h, rfl, Nat.le_refl _, by omega, fun h => h⟩
  · have h1 : u.shut = false := by simpa using fun e => hs (.inl e)
    have h2 : u.code = 0 := by
      by_cases e : u.code = 0
      · exact e
      · exact absurd (.inr e) hs
    have hf := fine_take u (h h2) c hc h2
    rw [one_go u c h1 h2]
    by_cases hb : (u.take c).2 = true
    · rw [if_pos hb]
      obtain ⟨f, fc⟩ := hf.1 hb
      obtain ⟨e1, e2, e3, e4, e5, e6, e7, _⟩ := f
      exact ⟨fun _ => ⟨e1, e2, e3, e4, e5, e6, e7, fun _ => trivial⟩, hf.2.2, by simp only; omega, Nat.le_refl _, fun _ => h2⟩
    · rw [if_neg hb]
      obtain ⟨f, ft, _⟩ := hf.2.1 (by simpa using hb)
      exact ⟨fun e => absurd e f, hf.2.2, by omega, by omega, fun e => absurd e f⟩
theorem fine_feed : ∀ (bs : List Nat) (u : US), (u.code = 0 → Fine u) → Bytes bs → ((u.feed bs).code = 0 → Fine (u.feed bs)) ∧ (u.feed bs).shut = u.shut ∧ u.taken ≤ (u.feed bs).taken ∧ (u.feed bs).taken ≤ u.taken + bs.length ∧ ((u.feed bs).code = 0 → u.code = 0)
  | [], u, h, hb => ⟨h, rfl, Nat.le_refl _, by simp [feed_nil], fun h => h⟩
  | c :: r, u, h, hb => by
    obtain ⟨a1, a2, a3, a4, a5⟩ := fine_one u h c (hb c (by simp))
    obtain ⟨b1, b2, b3, b4, b5⟩ := fine_feed r (u.one c) a1 (fun x hx => hb x (by simp [hx]))
    rw [feed_cons]
    refine ⟨b1, b2.trans a2, by omega, by simp only [List.length_cons]; omega, fun e => a5 (b5 e)⟩
/-- a whole text is whole at its end alone -/
theorem whole_end (u : US) (h : Fine u) (hs : u.shut = false) (hc : u.code = 0) (hw : u.whole = true) (c : Nat) : (u.one c).code ≠ 0 := by
  unfold US.whole at hw
  simp only [Bool.and_eq_true, beq_iff_eq] at hw
  obtain ⟨w1, w2⟩ := hw
  have hp : u.plain = 0 := by have := h.room w1; omega
  have ht : u.token = [] := by
    by_cases e : u.token = []
    · exact e
    · have := (h.tokp e).2
      omega
  have htk : u.take c = (u.fail 5 u.taken, false) := by
    unfold US.take
    rw [if_neg (by omega), if_neg (by omega), if_neg (by rw [ht]; simp), if_pos w2]
  rw [one_go u c hs hc, htk]
  simp [US.fail]
/-- every proper beginning of a packed text ends too early -/
theorem packL_short (L : List Nat) (hL : L.length ≤ 1048576) (hb : Bytes L) (cut : Nat) (hcut : cut < (packL L).length) : (US.new.feed ((packL L).take cut)).code = 0 ∧ (US.new.feed ((packL L).take cut)).whole = false ∧ (US.new.feed ((packL L).take cut)).taken = cut := by
  obtain ⟨a, b⟩ := feed_packL L hL
  have hPb := packL_bytes L hb
  obtain ⟨P, hP⟩ : ∃ P, P = packL L := ⟨_, rfl⟩
  rw [← hP] at a b hcut hPb ⊢
  have e : P = P.take cut ++ P.drop cut := (List.take_append_drop _ _).symm
  have hB1 : Bytes (P.take cut) := fun x hx => hPb x (List.mem_of_mem_take hx)
  have hB2 : Bytes (P.drop cut) := fun x hx => hPb x (List.mem_of_mem_drop hx)
  obtain ⟨u1, hu1⟩ : ∃ u, u = US.new.feed (P.take cut) := ⟨_, rfl⟩
  have f1 := fine_feed (P.take cut) US.new (fun _ => fine_new) hB1
  rw [← hu1] at f1 ⊢
  have e2 : US.new.feed P = u1.feed (P.drop cut) := by
    conv => lhs; rw [e]
    rw [feed_append, hu1]
  rw [e2] at a b
  have f2 := fine_feed (P.drop cut) u1 f1.1 hB2
  have hc0 : u1.code = 0 := f2.2.2.2.2 a.2.1
  have hlen1 : (P.take cut).length = cut := by rw [List.length_take]; omega
  have hlen2 : (P.drop cut).length = P.length - cut := List.length_drop
  refine ⟨hc0, ?_, ?_⟩
  · cases hw : u1.whole with
    | false => rfl
    | true =>
      obtain ⟨c, r, hcr⟩ : ∃ c r, P.drop cut = c :: r := by
        cases h : P.drop cut with
        | nil => rw [h] at hlen2; simp at hlen2; omega
        | cons c r => exact ⟨c, r, rfl⟩
      have hne := whole_end u1 (f1.1 hc0) (f1.2.1) hc0 hw c
      rw [hcr, feed_cons, feed_stop _ (.inr hne)] at a
      exact absurd a.2.1 hne
  · have t1 := f1.2.2.2.1
    have t2 := f2.2.2.2.1
    rw [hlen1] at t1
    rw [hlen2] at t2
    have : US.new.taken = 0 := rfl
    omega
end Go.Proofs.Ytikbbofjkchppaa
