/- SHA-256's block as plain functions on lists of numbers. No program in sight. -/
import Derived.Test.YtemioilfedpohaaDoorRotShaBlocks
import Derived.Laws.Rows
import Derived.Below
import Derived.OneCell
namespace Go.Proofs.YtemioilfedpohaaDoor
open Go.RowKit

/-- cells of one kind -/
def cw (k : IntKind) (xs : List Nat) : Array Value := (xs.map fun (x : Nat) => Value.int k (x : Int)).toArray

theorem cw_size (k : IntKind) (xs : List Nat) : (cw k xs).size = xs.length := by simp [cw]
theorem cw_get (k : IntKind) (xs : List Nat) (i : Nat) (h : i < xs.length) : (cw k xs)[i]? = some (.int k (xs.getD i 0 : Nat)) := by
  simp [cw, h]
theorem cw_set (k : IntKind) (xs : List Nat) (i v : Nat) : (cw k xs).setIfInBounds i (.int k (v : Int)) = cw k (xs.set i v) := by
  apply Array.ext'
  simp [cw, List.map_set]
theorem cw_one (k : IntKind) (xs : List Nat) : (cw k xs).all (·.oneCell') = true := by
  rw [Array.all_eq_true_iff_forall_mem]
  intro x hx
  simp only [cw, List.mem_toArray, List.mem_map] at hx
  obtain ⟨y, _, rfl⟩ := hx
  rfl

/-- words of 32 bits -/
def sm0 (x : Nat) : Nat := rot x 7 ^^^ rot x 18 ^^^ x / 8
def sm1 (x : Nat) : Nat := rot x 17 ^^^ rot x 19 ^^^ x / 1024
def bg0 (x : Nat) : Nat := rot x 2 ^^^ rot x 13 ^^^ rot x 22
def bg1 (x : Nat) : Nat := rot x 6 ^^^ rot x 11 ^^^ rot x 25
def chf (e f g : Nat) : Nat := (e &&& f) ^^^ ((4294967295 - e) &&& g)
def maj (a b c : Nat) : Nat := (a &&& b) ^^^ (a &&& c) ^^^ (b &&& c)

theorem xor_lt {a b : Nat} (ha : a < 4294967296) (hb : b < 4294967296) : a ^^^ b < 4294967296 := Nat.xor_lt_two_pow (n := 32) ha hb
theorem and_lt' {a b : Nat} (ha : a < 4294967296) : a &&& b < 4294967296 := Nat.lt_of_le_of_lt Nat.and_le_left ha
theorem sm0_lt {x : Nat} (h : x < 4294967296) : sm0 x < 4294967296 := xor_lt (xor_lt (rot_lt _ _ h) (rot_lt _ _ h)) (by omega)
theorem sm1_lt {x : Nat} (h : x < 4294967296) : sm1 x < 4294967296 := xor_lt (xor_lt (rot_lt _ _ h) (rot_lt _ _ h)) (by omega)
theorem bg0_lt {x : Nat} (h : x < 4294967296) : bg0 x < 4294967296 := xor_lt (xor_lt (rot_lt _ _ h) (rot_lt _ _ h)) (rot_lt _ _ h)
theorem bg1_lt {x : Nat} (h : x < 4294967296) : bg1 x < 4294967296 := xor_lt (xor_lt (rot_lt _ _ h) (rot_lt _ _ h)) (rot_lt _ _ h)
theorem chf_lt {e f g : Nat} (h : e < 4294967296) : chf e f g < 4294967296 := xor_lt (and_lt' h) (and_lt' (by omega))
theorem maj_lt {a b c : Nat} (ha : a < 4294967296) (hb : b < 4294967296) : maj a b c < 4294967296 := xor_lt (xor_lt (and_lt' ha) (and_lt' ha)) (and_lt' hb)

/-- all below 2 ^ 32 -/
def Small (xs : List Nat) : Prop := ∀ x ∈ xs, x < 4294967296
theorem Small.get {xs : List Nat} (h : Small xs) (i : Nat) : xs.getD i 0 < 4294967296 := by
  rw [List.getD_eq_getElem?_getD]
  cases hx : xs[i]? with
  | none => simp
  | some x => exact h x (List.mem_of_getElem? hx)
theorem Small.set {xs : List Nat} (h : Small xs) (i v : Nat) (hv : v < 4294967296) : Small (xs.set i v) := by
  intro x hx
  rcases List.mem_or_eq_of_mem_set hx with h1 | h1
  · exact h x h1
  · omega

/-- the word at place i of a block's bytes -/
def word16 (b : List Nat) (i : Nat) : Nat := b.getD (4 * i) 0 * 16777216 + b.getD (4 * i + 1) 0 * 65536 + b.getD (4 * i + 2) 0 * 256 + b.getD (4 * i + 3) 0
def W16 (b : List Nat) : Nat → List Nat
  | 0 => List.replicate 64 0
  | k + 1 => (W16 b k).set k (word16 b k)
def nextW (ws : List Nat) (i : Nat) : Nat := (ws.getD (i - 16) 0 + sm0 (ws.getD (i - 15) 0) + ws.getD (i - 7) 0 + sm1 (ws.getD (i - 2) 0)) % 4294967296
def sch (b : List Nat) : Nat → List Nat
  | 0 => W16 b 16
  | n + 1 => (sch b n).set (16 + n) (nextW (sch b n) (16 + n))

theorem W16_length (b : List Nat) : ∀ k, (W16 b k).length = 64
  | 0 => by simp [W16]
  | k + 1 => by simp [W16, W16_length b k]
theorem sch_length (b : List Nat) : ∀ n, (sch b n).length = 64
  | 0 => W16_length b 16
  | n + 1 => by simp [sch, sch_length b n]

def Bytes (xs : List Nat) : Prop := ∀ x ∈ xs, x < 256
theorem Bytes.get {xs : List Nat} (h : Bytes xs) (i : Nat) : xs.getD i 0 < 256 := by
  rw [List.getD_eq_getElem?_getD]
  cases hx : xs[i]? with
  | none => simp
  | some x => exact h x (List.mem_of_getElem? hx)
theorem word16_lt {b : List Nat} (h : Bytes b) (i : Nat) : word16 b i < 4294967296 := by
  unfold word16
  have := h.get (4 * i); have := h.get (4 * i + 1); have := h.get (4 * i + 2); have := h.get (4 * i + 3)
  omega
theorem W16_small {b : List Nat} (h : Bytes b) : ∀ k, Small (W16 b k)
  | 0 => by intro x hx; simp [W16] at hx; omega
  | k + 1 => (W16_small h k).set _ _ (word16_lt h k)
theorem nextW_lt (ws : List Nat) (i : Nat) : nextW ws i < 4294967296 := Nat.mod_lt _ (by omega)
theorem sch_small {b : List Nat} (h : Bytes b) : ∀ n, Small (sch b n)
  | 0 => W16_small h 16
  | n + 1 => (sch_small h n).set _ _ (nextW_lt _ _)

/-- one round -/
def rnd : List Nat → Nat → List Nat
  | [a, b, c, d, e, f, g, k], x =>
    [((k + bg1 e + chf e f g + x) % 4294967296 + (bg0 a + maj a b c) % 4294967296) % 4294967296, a, b, c, (d + (k + bg1 e + chf e f g + x) % 4294967296) % 4294967296, e, f, g]
  | l, _ => l
def rnds (K ws h : List Nat) : Nat → List Nat
  | 0 => h
  | j + 1 => rnd (rnds K ws h j) (K.getD j 0 + ws.getD j 0)
def addL (h v : List Nat) : List Nat := List.zipWith (fun x y => (x + y) % 4294967296) h v
/-- the block -/
def blk (K h b : List Nat) : List Nat := addL h (rnds K (sch b 48) h 64)

theorem rnds_eight (K ws h : List Nat) (hh : h.length = 8) (hs : Small h) : ∀ j, ∃ a b c d e f g k, rnds K ws h j = [a, b, c, d, e, f, g, k] ∧ a < 4294967296 ∧ b < 4294967296 ∧ c < 4294967296 ∧ d < 4294967296 ∧ e < 4294967296 ∧ f < 4294967296 ∧ g < 4294967296 ∧ k < 4294967296
  | 0 => by
    match h, hh with
    | [a, b, c, d, e, f, g, k], _ =>
      exact ⟨a, b, c, d, e, f, g, k, rfl, hs _ (by simp), hs _ (by simp), hs _ (by simp), hs _ (by simp), hs _ (by simp), hs _ (by simp), hs _ (by simp), hs _ (by simp)⟩
  | j + 1 => by
    obtain ⟨a, b, c, d, e, f, g, k, h1, ha, hb, hc, hd, he, hf, hg, hk⟩ := rnds_eight K ws h hh hs j
    refine ⟨_, _, _, _, _, _, _, _, by rw [rnds, h1, rnd], Nat.mod_lt _ (by omega), ha, hb, hc, Nat.mod_lt _ (by omega), he, hf, hg⟩

/-- the model's operations on words of 32 bits -/
theorem wrap_add (a b : Nat) : IntKind.u32.wrap ((a : Int) + (b : Int)) = (((a + b) % 4294967296 : Nat) : Int) := by rw [IntKind.wrap_u32']; omega
theorem wrap_id (a : Nat) (h : a < 4294967296) : IntKind.u32.wrap (a : Int) = a := by rw [IntKind.wrap_u32']; omega
end Go.Proofs.YtemioilfedpohaaDoor
