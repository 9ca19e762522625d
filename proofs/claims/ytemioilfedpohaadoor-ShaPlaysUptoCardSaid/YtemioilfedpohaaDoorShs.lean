/- SHA-256 over a text as plain functions on lists of numbers: the chain of blocks, the padding, the digest, what a State holds. No program in sight. -/
import Derived.Test.YtemioilfedpohaaDoorRwordsShaBlocks
namespace Go.Proofs.YtemioilfedpohaaDoor
set_option linter.unusedVariables false
set_option linter.unusedSimpArgs false
open Go.RowKit

/-- the words with which a digest begins -/
def ST : List Nat := [1779033703, 3144134277, 1013904242, 2773480762, 1359893119, 2600822924, 528734635, 1541459225]
theorem ST_small : Small ST := by intro x hx; simp [ST] at hx; omega
theorem KT_small : Small KT := by
  intro x hx
  have : KT.all (fun x => decide (x < 4294967296)) = true := by decide
  exact of_decide_eq_true (List.all_eq_true.1 this x hx)

theorem addL_length (h v : List Nat) (e : v.length = h.length) : (addL h v).length = h.length := by
  unfold addL; rw [List.length_zipWith]; omega
theorem addL_small (h v : List Nat) : Small (addL h v) := by
  intro x hx
  unfold addL at hx
  obtain ⟨i, hi, rfl⟩ := List.mem_iff_getElem.1 hx
  rw [List.getElem_zipWith]
  exact Nat.mod_lt _ (by omega)
theorem blk_len (h b : List Nat) (hh : h.length = 8) (hs : Small h) : (blk KT h b).length = 8 := by
  obtain ⟨a, b', c, d, e, f, g, k, hr, _⟩ := rnds_eight KT (sch b 48) h hh hs 64
  unfold blk
  rw [addL_length _ _ (by rw [hr, hh]; rfl), hh]
theorem blk_small (h b : List Nat) : Small (blk KT h b) := addL_small _ _

/-- the eight words behind k blocks of a text -/
def hsh (T : List Nat) : Nat → List Nat
  | 0 => ST
  | k + 1 => blk KT (hsh T k) ((T.drop (64 * k)).take 64)
theorem hsh_ok (T : List Nat) : ∀ k, (hsh T k).length = 8 ∧ Small (hsh T k)
  | 0 => ⟨rfl, ST_small⟩
  | k + 1 => ⟨blk_len _ _ (hsh_ok T k).1 (hsh_ok T k).2, blk_small _ _⟩
theorem hsh_ext (T U : List Nat) : ∀ k, 64 * k ≤ T.length → hsh (T ++ U) k = hsh T k
  | 0, _ => rfl
  | k + 1, h => by
    rw [hsh, hsh, hsh_ext T U k (by omega), List.drop_append_of_le_length (by omega), List.take_append_of_le_length (by rw [List.length_drop]; omega)]

/-- how many zero bytes stand in the padding, and its bytes -/
def zsN (n : Nat) : Nat := (119 - n % 64) % 64
def bxN (n i : Nat) : Nat := n * 8 % 18446744073709551616 / 2 ^ (8 * i) % 256
def padN (n : Nat) : List Nat := 128 :: (List.replicate (zsN n) 0 ++ [bxN n 7, bxN n 6, bxN n 5, bxN n 4, bxN n 3, bxN n 2, bxN n 1, bxN n 0])
theorem padN_length (n : Nat) : (padN n).length = zsN n + 9 := by simp [padN]
theorem zsN_le (n : Nat) : zsN n ≤ 63 := by unfold zsN; omega
theorem pad_fills (n : Nat) : (n + (padN n).length) % 64 = 0 := by rw [padN_length]; unfold zsN; omega
theorem padN_bytes (n : Nat) : Bytes (padN n) := by
  intro x hx
  simp only [padN, List.mem_cons, List.mem_append, List.mem_replicate, List.not_mem_nil, or_false] at hx
  have hb : ∀ i, bxN n i < 256 := fun i => Nat.mod_lt _ (by omega)
  rcases hx with rfl | ⟨_, rfl⟩ | rfl | rfl | rfl | rfl | rfl | rfl | rfl | rfl
  · omega
  · omega
  all_goals exact hb _

/-- a word's four bytes, the highest first; the digest of words, of a text -/
def four (x : Nat) : List Nat := [x / 16777216 % 256, x / 65536 % 256, x / 256 % 256, x % 256]
def dig (h : List Nat) : List Nat := h.flatMap four
def shaL (T : List Nat) : List Nat := dig (hsh (T ++ padN T.length) ((T.length + (padN T.length).length) / 64))
theorem dig_length : ∀ h : List Nat, (dig h).length = 4 * h.length
  | [] => rfl
  | x :: h => by
    have := dig_length h
    simp only [dig, List.flatMap_cons, List.length_append, List.length_cons] at this ⊢
    simp only [four, List.length_cons, List.length_nil]
    omega
theorem shaL_length (T : List Nat) : (shaL T).length = 32 := by unfold shaL; rw [dig_length, (hsh_ok _ _).1]
theorem dig_bytes (h : List Nat) : Bytes (dig h) := by
  intro x hx
  simp only [dig, List.mem_flatMap, four, List.mem_cons, List.not_mem_nil, or_false] at hx
  obtain ⟨y, _, rfl | rfl | rfl | rfl⟩ := hx <;> omega
theorem shaL_bytes (T : List Nat) : Bytes (shaL T) := dig_bytes _

/-- a list with another laid over it from place o on -/
def over (L : List Nat) (o : Nat) (u : List Nat) : List Nat := L.take o ++ (u ++ L.drop (o + u.length))
theorem over_length (L : List Nat) (o : Nat) (u : List Nat) (h : o + u.length ≤ L.length) : (over L o u).length = L.length := by simp [over]; omega
theorem over_bytes {L u : List Nat} (hL : Bytes L) (hu : Bytes u) (o : Nat) : Bytes (over L o u) := by
  intro x hx
  simp only [over, List.mem_append] at hx
  rcases hx with h | h | h
  · exact hL x (List.mem_of_mem_take h)
  · exact hu x h
  · exact hL x (List.mem_of_mem_drop h)

/-- what a State holds behind the text T -/
structure Stt (T : List Nat) (n : Nat) (h buf : List Nat) (used : Nat) : Prop where
  n_eq : n = T.length
  h_eq : h = hsh T (T.length / 64)
  used_eq : used = T.length % 64
  blen : buf.length = 64
  byt : Bytes buf
  buf_eq : buf.take used = T.drop (64 * (T.length / 64))
theorem Stt.start : Stt [] 0 ST (List.replicate 64 0) 0 :=
  ⟨rfl, rfl, rfl, by simp, by intro x hx; simp at hx; omega, by simp⟩
theorem Stt.h8 {T : List Nat} {n : Nat} {h buf : List Nat} {used : Nat} (H : Stt T n h buf used) : h.length = 8 := by rw [H.h_eq]; exact (hsh_ok _ _).1
theorem Stt.hs {T : List Nat} {n : Nat} {h buf : List Nat} {used : Nat} (H : Stt T n h buf used) : Small h := by rw [H.h_eq]; exact (hsh_ok _ _).2
theorem Stt.lt {T : List Nat} {n : Nat} {h buf : List Nat} {used : Nat} (H : Stt T n h buf used) : used < 64 := by rw [H.used_eq]; exact Nat.mod_lt _ (by omega)

theorem over_take (L : List Nat) (o : Nat) (u : List Nat) (h : o + u.length ≤ L.length) : (over L o u).take (o + u.length) = L.take o ++ u := by
  unfold over
  rw [← List.append_assoc]
  exact List.take_left' (by simp; omega)

/-- bytes have come into the buffer, and it isn't full -/
theorem Stt.more {T : List Nat} {n : Nat} {h buf : List Nat} {used : Nat} (H : Stt T n h buf used) (u : List Nat) (hu : Bytes u) (hlt : used + u.length < 64) :
    Stt (T ++ u) (n + u.length) h (over buf used u) (used + u.length) := by
  have e1 := H.used_eq
  have e2 : (T ++ u).length = T.length + u.length := List.length_append
  have e3 : (T.length + u.length) / 64 = T.length / 64 := by omega
  refine ⟨by rw [e2, H.n_eq], ?_, by rw [e2]; omega, by rw [over_length _ _ _ (by rw [H.blen]; omega), H.blen], over_bytes H.byt hu _, ?_⟩
  · rw [e2, e3, hsh_ext _ _ _ (by omega), H.h_eq]
  · rw [over_take _ _ _ (by rw [H.blen]; omega), H.buf_eq, e2, e3, List.drop_append_of_le_length (by omega)]
/-- bytes have come into the buffer, and it is full -/
theorem Stt.full {T : List Nat} {n : Nat} {h buf : List Nat} {used : Nat} (H : Stt T n h buf used) (u : List Nat) (hu : Bytes u) (heq : used + u.length = 64) :
    Stt (T ++ u) (n + u.length) (blk KT h (over buf used u)) (over buf used u) 0 := by
  have e1 := H.used_eq
  have e2 : (T ++ u).length = T.length + u.length := List.length_append
  have e3 : (T.length + u.length) / 64 = T.length / 64 + 1 := by omega
  refine ⟨by rw [e2, H.n_eq], ?_, by rw [e2]; omega, by rw [over_length _ _ _ (by rw [H.blen]; omega), H.blen], over_bytes H.byt hu _, ?_⟩
  · have h1 := over_take buf used u (by rw [H.blen]; omega)
    rw [heq, List.take_of_length_le (by rw [over_length _ _ _ (by rw [H.blen]; omega), H.blen]; exact Nat.le_refl _)] at h1
    rw [e2, e3, hsh, hsh_ext _ _ _ (by omega), h1, H.h_eq, H.buf_eq]
    congr 1
    rw [List.drop_append_of_le_length (by omega)]
    exact (List.take_of_length_le (by rw [List.length_append, List.length_drop]; omega)).symm
  · rw [e2, e3, List.take_zero]
    exact (List.drop_eq_nil_of_le (by rw [e2]; omega)).symm

/-- the bytes of a text -/
def nb (s : ByteArray) : List Nat := s.data.toList.map UInt8.toNat
theorem nb_length (s : ByteArray) : (nb s).length = s.size := by simp [nb]
theorem nb_bytes (s : ByteArray) : Bytes (nb s) := by
  intro x hx
  simp only [nb, List.mem_map] at hx
  obtain ⟨b, _, rfl⟩ := hx
  exact b.toNat_lt
theorem nb_append (s t : ByteArray) : nb (s ++ t) = nb s ++ nb t := by simp [nb]
end Go.Proofs.YtemioilfedpohaaDoor
