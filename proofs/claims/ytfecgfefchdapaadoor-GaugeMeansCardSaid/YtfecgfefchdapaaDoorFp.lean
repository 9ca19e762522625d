/- Plain facts: a product that is a number itself; a number times a power of two. No program in sight. -/
import Derived.Test.YtfecgfefchdapaaDoorFc
namespace Go.Proofs.YtfecgfefchdapaaDoor.FL
open Ieee

/-- what is a number is its own nearest -/
theorem rung_exact (m : Nat) (e : Int) (k x : Nat) (hk : -1074 - (k : Int) ≤ e) (hx : x ≤ 9218868437227405312) (h : m * 2 ^ (e + 1074 + k).toNat = vv x * 2 ^ k) : rung m e = x := by
  refine rung_ext (rung_le _ _) hx fun r hr => ?_
  rw [rung_cut m e k r hk hr, h, Nat.pow_add, ← Nat.mul_assoc, ← Nat.mul_assoc]
  have hp : 0 < 2 ^ k := Nat.two_pow_pos k
  have h1 : (2 * sg r + 1) * 2 ^ pl r * 2 ^ k < 2 * vv x * 2 ^ k ↔ (2 * sg r + 1) * 2 ^ pl r < 2 * vv x := ⟨fun q => Nat.lt_of_mul_lt_mul_right q, fun q => Nat.mul_lt_mul_of_pos_right q hp⟩
  have h2 : (2 * sg r + 1) * 2 ^ pl r * 2 ^ k = 2 * vv x * 2 ^ k ↔ (2 * sg r + 1) * 2 ^ pl r = 2 * vv x := ⟨fun q => Nat.eq_of_mul_eq_mul_right hp q, fun q => by rw [q]⟩
  rw [h1, h2]
  exact cut_self

/-- a word out of its sign and its rung -/
def word (s : Bool) (r : Nat) : Nat := if s then 9223372036854775808 + r else r
theorem read_word (s : Bool) (r : Nat) (h : r < 9218868437227405312) : double.read (word s r) = .number s (sg r) ((pl r : Int) - 1074) := by
  cases s
  · exact read_pos r h
  · exact read_neg r h
/-- a product that is a number itself -/
theorem mul_exact (s t : Bool) (a b x k : Nat) (ha : a < 9218868437227405312) (hb : b < 9218868437227405312) (hx : x ≤ 9218868437227405312)
    (hk : -1074 - (k : Int) ≤ ((pl a : Int) - 1074) + ((pl b : Int) - 1074)) (h : sg a * sg b * 2 ^ (((pl a : Int) - 1074) + ((pl b : Int) - 1074) + 1074 + k).toNat = vv x * 2 ^ k) :
    double.mul (word s a) (word t b) = some (word (s ^^ t) x) := by
  unfold Format.mul
  rw [read_word s a ha, read_word t b hb]
  simp only [Datum.product, Option.map_some, Format.write, nearest_rung]
  rw [rung_exact _ _ k x hk hx h]
  rfl
/-- a number times 2 ^ j where that is a number -/
theorem mul_pw (s : Bool) (a j x : Nat) (ha : a < 9218868437227405312) (hj : j < 1000) (hx : x ≤ 9218868437227405312) (h : vv a * 2 ^ j = vv x) :
    double.mul (word s a) (pw j) = some (word s x) := by
  have e1 : sg (pw j) = 4503599627370496 := by unfold sg pw; split <;> omega
  have e2 : pl (pw j) = j + 1022 := by unfold pl pw; omega
  have hb : pw j < 9218868437227405312 := by unfold pw; omega
  obtain ⟨L, hL⟩ : ∃ L : Nat, L = 1022 := ⟨_, rfl⟩
  have hm := mul_exact s false a (pw j) x (L + 52) ha hb hx (by rw [e2]; omega) (by
    rw [e1, e2, show (((pl a : Int) - 1074) + (((j + 1022 : Nat) : Int) - 1074) + 1074 + ((L + 52 : Nat) : Int)).toNat = pl a + j + L by omega, ← h]
    unfold vv
    rw [show (4503599627370496 : Nat) = 2 ^ 52 by decide, Nat.pow_add 2 L 52, Nat.pow_add 2 (pl a + j) L, Nat.pow_add 2 (pl a) j]
    generalize (2 : Nat) ^ 52 = P
    generalize (2 : Nat) ^ L = Q
    generalize (2 : Nat) ^ pl a = A
    generalize (2 : Nat) ^ j = B
    simp only [Nat.mul_assoc, Nat.mul_comm, Nat.mul_left_comm])
  rw [Bool.xor_false] at hm
  exact hm
/-- the rung of o * 2 ^ p, o of 53 bits -/
def rg (o p : Nat) : Nat := p * 4503599627370496 + o
theorem sg_rg (o p : Nat) (h1 : 4503599627370496 ≤ o) (h2 : o < 9007199254740992) : sg (rg o p) = o ∧ pl (rg o p) = p := by
  unfold sg pl rg
  constructor
  · split <;> omega
  · omega
theorem vv_rg (o p : Nat) (h1 : 4503599627370496 ≤ o) (h2 : o < 9007199254740992) : vv (rg o p) = o * 2 ^ p := by
  unfold vv
  rw [(sg_rg o p h1 h2).1, (sg_rg o p h1 h2).2]
end Go.Proofs.YtfecgfefchdapaaDoor.FL
