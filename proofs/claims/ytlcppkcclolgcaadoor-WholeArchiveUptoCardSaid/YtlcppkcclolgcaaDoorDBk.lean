/- The words of 32 bits, turned: contracts of sha.right and depotref01.turn. SHA-256's block as plain functions on lists of numbers. No program in sight. The walk of sha.Block: for every eight words and every 64 bytes. The table of the rounds; a block that is built whole; a new row. SHA-256 over a text as plain functions on lists of numbers: the chain of blocks, the padding, the digest, what a State holds. No program in sight. A State of sha in memory: what its block holds, and how the steps turn it. The walk of (*sha.State).took. -/
import Derived.Test.YtlcppkcclolgcaaDoorPrightx1
import Derived.Lib.Hide
import Derived.WalkKit
import Derived.Laws.Rows
import Derived.Below
import Derived.OneCell
import Derived.WalkSpells
import Derived.WalkLawsBesides
import Derived.Deep.QuietTactic
import Derived.BigQuiet
import Derived.StillTailTactics
import Derived.Deep.LoopGhost
import Derived.Laws.CopyOwn
import Derived.Outline
import Derived.Deep.MidRow
import Derived.Lib.LazyBuf
import Derived.Deep.AppendLies
import Derived.OwnWalk
import Derived.Deep.RegionHeld3
namespace Go.Proofs.YtlcppkcclolgcaaDoor.Hs
set_option maxRecDepth 20000
open Go.RowKit Go.Proofs.YtlcppkcclolgcaaDoor.Pright Go.Proofs.YtlcppkcclolgcaaDoorW.PrintWords Go.Proofs.YtlcppkcclolgcaaDoorW.PrintMore

/-- x turned to the right by n bits -/
def rot (x n : Nat) : Nat := x / 2 ^ n ||| x * 2 ^ (32 - n) % 4294967296

theorem rot_lt (x n : Nat) (hx : x < 4294967296) : rot x n < 4294967296 := by
  unfold rot
  refine Nat.or_lt_two_pow (n := 32) ?_ (Nat.mod_lt _ (by omega))
  exact Nat.lt_of_le_of_lt (Nat.div_le_self _ _) hx

theorem right_is (x n : Nat) (hx : x < 4294967296) (h1 : 1 ≤ n) (h2 : n ≤ 31) : sha_right.f (x : Int) (n : Int) = some (rot x n : Int) := by
  unfold sha_right.f
  have e1 : IntKind.u64.wrap (32 - (n : Int)) = ((32 - n : Nat) : Int) := by rw [IntKind.wrap_u64]; omega
  rw [if_pos (by omega), e1, if_pos (by omega)]
  refine congrArg some ?_
  have e2 : shr .u32 (x : Int) (n : Int) = ((x / 2 ^ n : Nat) : Int) := by
    unfold shr
    rw [show IntKind.u32.bits = 32 from rfl, show (n : Int).toNat = n by omega, Nat.min_eq_left (by omega), Int.natCast_ediv]
    simp
  have e3 : shl .u32 (x : Int) ((32 - n : Nat) : Int) = ((x * 2 ^ (32 - n) % 4294967296 : Nat) : Int) := by
    unfold shl
    rw [show IntKind.u32.bits = 32 from rfl, show ((32 - n : Nat) : Int).toNat = 32 - n by omega, Nat.min_eq_left (by omega), IntKind.wrap_u32']
    simp
  rw [e2, e3]
  have h3 : x / 2 ^ n < 4294967296 := Nat.lt_of_le_of_lt (Nat.div_le_self _ _) hx
  rw [u32_or_nat _ _ h3 (Nat.mod_lt _ (by omega))]
  rfl

theorem right_any (x n : Nat) (hx : x < 4294967296) (h1 : 1 ≤ n) (h2 : n ≤ 31) (w : World) :
    Calls Tryd.prog 62 #[.int .u32 (x : Int), .int .u64 (n : Int)] w fun e w' => e = .returned (.int .u32 (rot x n : Int)) ∧ ∃ m, w' = w.drewN m :=
  (sha_right.calls (x : Int) (n : Int) _ w (right_is x n hx h1 h2)).mono fun _ _ ⟨h, hd⟩ => ⟨h, hd.out⟩

theorem rot_lit (x n : Nat) (p q : Int) (hx : x < 4294967296) (hp : p = ((2 ^ n : Nat) : Int)) (hq : q = ((2 ^ (32 - n) : Nat) : Int)) :
    Go.bits .or .u32 ((x : Int) / p) ((x : Int) * q % 4294967296) = (rot x n : Int) := by
  subst hp; subst hq
  rw [show (x : Int) / ((2 ^ n : Nat) : Int) = ((x / 2 ^ n : Nat) : Int) by rw [Int.natCast_ediv], show (x : Int) * ((2 ^ (32 - n) : Nat) : Int) = ((x * 2 ^ (32 - n) : Nat) : Int) by rw [Int.natCast_mul],
    show ((x * 2 ^ (32 - n) : Nat) : Int) % 4294967296 = ((x * 2 ^ (32 - n) % 4294967296 : Nat) : Int) by omega]
  have h3 : x / 2 ^ n < 4294967296 := Nat.lt_of_le_of_lt (Nat.div_le_self _ _) hx
  rw [u32_or_nat _ _ h3 (Nat.mod_lt _ (by omega))]
  rfl

theorem right_2 (x : Nat) (hx : x < 4294967296) (w : World) :
    Calls Tryd.prog 62 #[.int .u32 (x : Int), .int .u64 2] w fun e w' => e = .returned (.int .u32 (rot x 2 : Int)) ∧ w = w' := by
  have e := rot_lit x 2 4 1073741824 hx (by decide) (by decide)
  clear hx
  go_enter Tryd.func62, Tryd.ntmps62
  go_wp2
  go_ret
  exact ⟨rfl, rfl⟩

theorem right_6 (x : Nat) (hx : x < 4294967296) (w : World) :
    Calls Tryd.prog 62 #[.int .u32 (x : Int), .int .u64 6] w fun e w' => e = .returned (.int .u32 (rot x 6 : Int)) ∧ w = w' := by
  have e := rot_lit x 6 64 67108864 hx (by decide) (by decide)
  clear hx
  go_enter Tryd.func62, Tryd.ntmps62
  go_wp2
  go_ret
  exact ⟨rfl, rfl⟩

theorem right_7 (x : Nat) (hx : x < 4294967296) (w : World) :
    Calls Tryd.prog 62 #[.int .u32 (x : Int), .int .u64 7] w fun e w' => e = .returned (.int .u32 (rot x 7 : Int)) ∧ w = w' := by
  have e := rot_lit x 7 128 33554432 hx (by decide) (by decide)
  clear hx
  go_enter Tryd.func62, Tryd.ntmps62
  go_wp2
  go_ret
  exact ⟨rfl, rfl⟩

theorem right_11 (x : Nat) (hx : x < 4294967296) (w : World) :
    Calls Tryd.prog 62 #[.int .u32 (x : Int), .int .u64 11] w fun e w' => e = .returned (.int .u32 (rot x 11 : Int)) ∧ w = w' := by
  have e := rot_lit x 11 2048 2097152 hx (by decide) (by decide)
  clear hx
  go_enter Tryd.func62, Tryd.ntmps62
  go_wp2
  go_ret
  exact ⟨rfl, rfl⟩

theorem right_13 (x : Nat) (hx : x < 4294967296) (w : World) :
    Calls Tryd.prog 62 #[.int .u32 (x : Int), .int .u64 13] w fun e w' => e = .returned (.int .u32 (rot x 13 : Int)) ∧ w = w' := by
  have e := rot_lit x 13 8192 524288 hx (by decide) (by decide)
  clear hx
  go_enter Tryd.func62, Tryd.ntmps62
  go_wp2
  go_ret
  exact ⟨rfl, rfl⟩

theorem right_17 (x : Nat) (hx : x < 4294967296) (w : World) :
    Calls Tryd.prog 62 #[.int .u32 (x : Int), .int .u64 17] w fun e w' => e = .returned (.int .u32 (rot x 17 : Int)) ∧ w = w' := by
  have e := rot_lit x 17 131072 32768 hx (by decide) (by decide)
  clear hx
  go_enter Tryd.func62, Tryd.ntmps62
  go_wp2
  go_ret
  exact ⟨rfl, rfl⟩

theorem right_18 (x : Nat) (hx : x < 4294967296) (w : World) :
    Calls Tryd.prog 62 #[.int .u32 (x : Int), .int .u64 18] w fun e w' => e = .returned (.int .u32 (rot x 18 : Int)) ∧ w = w' := by
  have e := rot_lit x 18 262144 16384 hx (by decide) (by decide)
  clear hx
  go_enter Tryd.func62, Tryd.ntmps62
  go_wp2
  go_ret
  exact ⟨rfl, rfl⟩

theorem right_19 (x : Nat) (hx : x < 4294967296) (w : World) :
    Calls Tryd.prog 62 #[.int .u32 (x : Int), .int .u64 19] w fun e w' => e = .returned (.int .u32 (rot x 19 : Int)) ∧ w = w' := by
  have e := rot_lit x 19 524288 8192 hx (by decide) (by decide)
  clear hx
  go_enter Tryd.func62, Tryd.ntmps62
  go_wp2
  go_ret
  exact ⟨rfl, rfl⟩

theorem right_22 (x : Nat) (hx : x < 4294967296) (w : World) :
    Calls Tryd.prog 62 #[.int .u32 (x : Int), .int .u64 22] w fun e w' => e = .returned (.int .u32 (rot x 22 : Int)) ∧ w = w' := by
  have e := rot_lit x 22 4194304 1024 hx (by decide) (by decide)
  clear hx
  go_enter Tryd.func62, Tryd.ntmps62
  go_wp2
  go_ret
  exact ⟨rfl, rfl⟩

theorem right_25 (x : Nat) (hx : x < 4294967296) (w : World) :
    Calls Tryd.prog 62 #[.int .u32 (x : Int), .int .u64 25] w fun e w' => e = .returned (.int .u32 (rot x 25 : Int)) ∧ w = w' := by
  have e := rot_lit x 25 33554432 128 hx (by decide) (by decide)
  clear hx
  go_enter Tryd.func62, Tryd.ntmps62
  go_wp2
  go_ret
  exact ⟨rfl, rfl⟩
end Go.Proofs.YtlcppkcclolgcaaDoor.Hs

namespace Go.Proofs.YtlcppkcclolgcaaDoor.Hs
set_option maxRecDepth 20000
open Go.RowKit

/-- cells of one kind -/
def cw (k : IntKind) (xs : List Nat) : Array Value := (xs.map fun (x : Nat) => Value.int k (x : Int)).toArray

theorem cw_size (k : IntKind) (xs : List Nat) : (cw k xs).size = xs.length := by simp [cw]
theorem cw_get (k : IntKind) (xs : List Nat) (i : Nat) (h : i < xs.length) : (cw k xs)[i]? = some (.int k (xs.getD i 0 : Nat)) := by
  simp [cw, h]
theorem cw_set (k : IntKind) (xs : List Nat) (i v : Nat) : (cw k xs).setIfInBounds i (.int k (v : Int)) = cw k (xs.set i v) := by
  apply Array.ext'
  simp [cw, List.map_set]
theorem cw_one (k : IntKind) (xs : List Nat) : (cw k xs).all (·.oneCell') = true := by
  rw [Array.all_eq_true_iff_forall_mem]
  intro x hx
  simp only [cw, List.mem_toArray, List.mem_map] at hx
  obtain ⟨y, _, rfl⟩ := hx
  rfl

/-- words of 32 bits -/
def sm0 (x : Nat) : Nat := rot x 7 ^^^ rot x 18 ^^^ x / 8
def sm1 (x : Nat) : Nat := rot x 17 ^^^ rot x 19 ^^^ x / 1024
def bg0 (x : Nat) : Nat := rot x 2 ^^^ rot x 13 ^^^ rot x 22
def bg1 (x : Nat) : Nat := rot x 6 ^^^ rot x 11 ^^^ rot x 25
def chf (e f g : Nat) : Nat := (e &&& f) ^^^ ((4294967295 - e) &&& g)
def maj (a b c : Nat) : Nat := (a &&& b) ^^^ (a &&& c) ^^^ (b &&& c)

theorem xor_lt {a b : Nat} (ha : a < 4294967296) (hb : b < 4294967296) : a ^^^ b < 4294967296 := Nat.xor_lt_two_pow (n := 32) ha hb
theorem and_lt' {a b : Nat} (ha : a < 4294967296) : a &&& b < 4294967296 := Nat.lt_of_le_of_lt Nat.and_le_left ha
theorem sm0_lt {x : Nat} (h : x < 4294967296) : sm0 x < 4294967296 := xor_lt (xor_lt (rot_lt _ _ h) (rot_lt _ _ h)) (by omega)
theorem sm1_lt {x : Nat} (h : x < 4294967296) : sm1 x < 4294967296 := xor_lt (xor_lt (rot_lt _ _ h) (rot_lt _ _ h)) (by omega)
theorem bg0_lt {x : Nat} (h : x < 4294967296) : bg0 x < 4294967296 := xor_lt (xor_lt (rot_lt _ _ h) (rot_lt _ _ h)) (rot_lt _ _ h)
theorem bg1_lt {x : Nat} (h : x < 4294967296) : bg1 x < 4294967296 := xor_lt (xor_lt (rot_lt _ _ h) (rot_lt _ _ h)) (rot_lt _ _ h)
theorem chf_lt {e f g : Nat} (h : e < 4294967296) : chf e f g < 4294967296 := xor_lt (and_lt' h) (and_lt' (by omega))
theorem maj_lt {a b c : Nat} (ha : a < 4294967296) (hb : b < 4294967296) : maj a b c < 4294967296 := xor_lt (xor_lt (and_lt' ha) (and_lt' ha)) (and_lt' hb)

/-- all below 2 ^ 32 -/
def Small (xs : List Nat) : Prop := ∀ x ∈ xs, x < 4294967296
theorem Small.get {xs : List Nat} (h : Small xs) (i : Nat) : xs.getD i 0 < 4294967296 := by
  rw [List.getD_eq_getElem?_getD]
  cases hx : xs[i]? with
  | none => simp
  | some x => exact h x (List.mem_of_getElem? hx)
theorem Small.set {xs : List Nat} (h : Small xs) (i v : Nat) (hv : v < 4294967296) : Small (xs.set i v) := by
  intro x hx
  rcases List.mem_or_eq_of_mem_set hx with h1 | h1
  · exact h x h1
  · omega

/-- the word at place i of a block's bytes -/
def word16 (b : List Nat) (i : Nat) : Nat := b.getD (4 * i) 0 * 16777216 + b.getD (4 * i + 1) 0 * 65536 + b.getD (4 * i + 2) 0 * 256 + b.getD (4 * i + 3) 0
def W16 (b : List Nat) : Nat → List Nat
  | 0 => List.replicate 64 0
  | k + 1 => (W16 b k).set k (word16 b k)
def nextW (ws : List Nat) (i : Nat) : Nat := (ws.getD (i - 16) 0 + sm0 (ws.getD (i - 15) 0) + ws.getD (i - 7) 0 + sm1 (ws.getD (i - 2) 0)) % 4294967296
def sch (b : List Nat) : Nat → List Nat
  | 0 => W16 b 16
  | n + 1 => (sch b n).set (16 + n) (nextW (sch b n) (16 + n))

theorem W16_length (b : List Nat) : ∀ k, (W16 b k).length = 64
  | 0 => by simp [W16]
  | k + 1 => by simp [W16, W16_length b k]
theorem sch_length (b : List Nat) : ∀ n, (sch b n).length = 64
  | 0 => W16_length b 16
  | n + 1 => by simp [sch, sch_length b n]

def Bytes (xs : List Nat) : Prop := ∀ x ∈ xs, x < 256
theorem Bytes.get {xs : List Nat} (h : Bytes xs) (i : Nat) : xs.getD i 0 < 256 := by
  rw [List.getD_eq_getElem?_getD]
  cases hx : xs[i]? with
  | none => simp
  | some x => exact h x (List.mem_of_getElem? hx)
theorem word16_lt {b : List Nat} (h : Bytes b) (i : Nat) : word16 b i < 4294967296 := by
  unfold word16
  have := h.get (4 * i); have := h.get (4 * i + 1); have := h.get (4 * i + 2); have := h.get (4 * i + 3)
  omega
theorem W16_small {b : List Nat} (h : Bytes b) : ∀ k, Small (W16 b k)
  | 0 => by intro x hx; simp [W16] at hx; omega
  | k + 1 => (W16_small h k).set _ _ (word16_lt h k)
theorem nextW_lt (ws : List Nat) (i : Nat) : nextW ws i < 4294967296 := Nat.mod_lt _ (by omega)
theorem sch_small {b : List Nat} (h : Bytes b) : ∀ n, Small (sch b n)
  | 0 => W16_small h 16
  | n + 1 => (sch_small h n).set _ _ (nextW_lt _ _)

/-- one round -/
def rnd : List Nat → Nat → List Nat
  | [a, b, c, d, e, f, g, k], x =>
    [((k + bg1 e + chf e f g + x) % 4294967296 + (bg0 a + maj a b c) % 4294967296) % 4294967296, a, b, c, (d + (k + bg1 e + chf e f g + x) % 4294967296) % 4294967296, e, f, g]
  | l, _ => l
def rnds (K ws h : List Nat) : Nat → List Nat
  | 0 => h
  | j + 1 => rnd (rnds K ws h j) (K.getD j 0 + ws.getD j 0)
def addL (h v : List Nat) : List Nat := List.zipWith (fun x y => (x + y) % 4294967296) h v
/-- the block -/
def blk (K h b : List Nat) : List Nat := addL h (rnds K (sch b 48) h 64)

theorem rnds_eight (K ws h : List Nat) (hh : h.length = 8) (hs : Small h) : ∀ j, ∃ a b c d e f g k, rnds K ws h j = [a, b, c, d, e, f, g, k] ∧ a < 4294967296 ∧ b < 4294967296 ∧ c < 4294967296 ∧ d < 4294967296 ∧ e < 4294967296 ∧ f < 4294967296 ∧ g < 4294967296 ∧ k < 4294967296
  | 0 => by
    match h, hh with
    | [a, b, c, d, e, f, g, k], _ =>
      exact ⟨a, b, c, d, e, f, g, k, rfl, hs _ (by simp), hs _ (by simp), hs _ (by simp), hs _ (by simp), hs _ (by simp), hs _ (by simp), hs _ (by simp), hs _ (by simp)⟩
  | j + 1 => by
    obtain ⟨a, b, c, d, e, f, g, k, h1, ha, hb, hc, hd, he, hf, hg, hk⟩ := rnds_eight K ws h hh hs j
    refine ⟨_, _, _, _, _, _, _, _, by rw [rnds, h1, rnd], Nat.mod_lt _ (by omega), ha, hb, hc, Nat.mod_lt _ (by omega), he, hf, hg⟩

/-- the model's operations on words of 32 bits -/
theorem wrap_add (a b : Nat) : IntKind.u32.wrap ((a : Int) + (b : Int)) = (((a + b) % 4294967296 : Nat) : Int) := by rw [IntKind.wrap_u32']; omega
theorem wrap_id (a : Nat) (h : a < 4294967296) : IntKind.u32.wrap (a : Int) = a := by rw [IntKind.wrap_u32']; omega
end Go.Proofs.YtlcppkcclolgcaaDoor.Hs

namespace Go.Proofs.YtlcppkcclolgcaaDoor.Hs
set_option maxRecDepth 20000
open Go.RowKit

theorem byte_or (x0 x1 x2 x3 : Nat) (h0 : x0 < 256) (h1 : x1 < 256) (h2 : x2 < 256) (h3 : x3 < 256) :
    IntKind.u32.wrap (x0 : Int) = x0 ∧ IntKind.u32.wrap ((x0 : Int) * 16777216) = (x0 : Int) * 16777216 ∧
    IntKind.u32.wrap (x1 : Int) = x1 ∧ IntKind.u32.wrap ((x1 : Int) * 65536) = (x1 : Int) * 65536 ∧
    IntKind.u32.wrap (x2 : Int) = x2 ∧ IntKind.u32.wrap ((x2 : Int) * 256) = (x2 : Int) * 256 ∧ IntKind.u32.wrap (x3 : Int) = x3 ∧
    bits .or .u32 (bits .or .u32 (bits .or .u32 ((x0 : Int) * 16777216) ((x1 : Int) * 65536)) ((x2 : Int) * 256)) (x3 : Int) = ((x0 * 16777216 + x1 * 65536 + x2 * 256 + x3 : Nat) : Int) := by
  refine ⟨?_, ?_, ?_, ?_, ?_, ?_, ?_, ?_⟩
  · rw [IntKind.wrap_u32']; omega
  · rw [IntKind.wrap_u32']; omega
  · rw [IntKind.wrap_u32']; omega
  · rw [IntKind.wrap_u32']; omega
  · rw [IntKind.wrap_u32']; omega
  · rw [IntKind.wrap_u32']; omega
  · rw [IntKind.wrap_u32']; omega
  · rw [show (x0 : Int) * 16777216 = ((x0 * 16777216 : Nat) : Int) by omega, show (x1 : Int) * 65536 = ((x1 * 65536 : Nat) : Int) by omega, show (x2 : Int) * 256 = ((x2 * 256 : Nat) : Int) by omega,
      u32_or_nat _ _ (by omega) (by omega), nat_join 24 _ _ (by omega) (by omega), u32_or_nat _ _ (by omega) (by omega), nat_join 16 _ _ (by omega) (by omega), u32_or_nat _ _ (by omega) (by omega), nat_join 8 _ _ (by omega) (by omega)]

theorem right_at (x : Nat) (N : Int) (hx : x < 4294967296) (h1 : 1 ≤ N) (h2 : N ≤ 31) (w : World) :
    Calls Tryd.prog 62 #[.int .u32 (x : Int), .int .u64 N] w fun e w' => e = .returned (.int .u32 (rot x N.toNat : Int)) ∧ ∃ m, w' = w.drewN m := by
  obtain ⟨n, rfl⟩ : ∃ n : Nat, N = n := ⟨N.toNat, by omega⟩
  rw [Int.toNat_natCast]
  exact right_any x n hx (by omega) (by omega) w

theorem quiet2 {P : Program} {f : FuncId} {args : Array Value} {w : World} {a n : Nat} {v : Value} (h : ∀ W, Calls P f args W fun e w' => e = .returned v ∧ ∃ m, w' = W.drewN m) :
    Calls P f args (w.drewN (a + n)) fun e w'' => e = .returned v ∧ ∃ m, w'' = w.drewN (a + m) :=
  (h _).mono fun _ _ ⟨he, m, hm⟩ => ⟨he, n + m, by rw [hm, World.drewN_drewN, Nat.add_assoc]⟩

/-- the sums of the schedule -/
theorem sm_bits (x : Nat) (hx : x < 4294967296) :
    bits .xor .u32 (bits .xor .u32 (rot x 7 : Int) (rot x 18 : Int)) ((x : Int) / 8) = (sm0 x : Int) ∧ bits .xor .u32 (bits .xor .u32 (rot x 17 : Int) (rot x 19 : Int)) ((x : Int) / 1024) = (sm1 x : Int) := by
  have a := rot_lt x 7 hx
  have b := rot_lt x 18 hx
  have c := rot_lt x 17 hx
  have d := rot_lt x 19 hx
  rw [show (x : Int) / 8 = ((x / 8 : Nat) : Int) by omega, show (x : Int) / 1024 = ((x / 1024 : Nat) : Int) by omega, u32_xor_nat _ _ a b, u32_xor_nat _ _ (xor_lt a b) (by omega), u32_xor_nat _ _ c d, u32_xor_nat _ _ (xor_lt c d) (by omega)]
  exact ⟨rfl, rfl⟩

theorem sum4 (p q r s : Nat) : ∃ y : Nat, y = (p + q + r + s) % 4294967296 ∧ IntKind.u32.wrap (IntKind.u32.wrap (IntKind.u32.wrap ((p : Int) + q) + r) + s) = (y : Int) := by
  refine ⟨_, rfl, ?_⟩
  simp only [IntKind.wrap_u32']
  omega

/-- a row's cell, and that it may be written -/
theorem row_cell {w : World} {g : Nat} {k : IntKind} {xs : List Nat} {t : TypeId} (h : w.heap[g]? = some (.cells (cw k xs) t (0, 0))) (i : Nat) (hi : i < xs.length) : w.cell? ⟨g, i, none⟩ = some (.int k (xs.getD i 0 : Nat)) := by
  rw [cell_of_row w g i _ t _ h, cw_get k xs i hi]
theorem row_free {w : World} {g : Nat} {k : IntKind} {xs : List Nat} {t : TypeId} (h : w.heap[g]? = some (.cells (cw k xs) t (0, 0))) (i : Nat) : w.frozen? ⟨g, i, none⟩ = false := frozen_of_row w g i _ t h
theorem row_store {w : World} {g : Nat} {k : IntKind} {xs : List Nat} {t : TypeId} (h : w.heap[g]? = some (.cells (cw k xs) t (0, 0))) (i v : Nat) : (w.setCell ⟨g, i, none⟩ (.int k (v : Int))).heap[g]? = some (.cells (cw k (xs.set i v)) t (0, 0)) := by
  rw [heap_setCell_same w g i _ t _ h, cw_set]
theorem row_other {w : World} {g g' i : Nat} {v : Value} {o : Option Obj} (h : w.heap[g]? = o) (hne : g ≠ g') : (w.setCell ⟨g', i, none⟩ v).heap[g]? = o := by
  rw [heap_setCell_other w _ _ _ hne, h]

/-- what stands in memory while the block is worked out -/
structure Held (w wr : World) (h b ws : List Nat) : Prop where
  size : wr.heap.size = w.heap.size + 4
  hh : wr.heap[w.heap.size]? = some (.cells (cw .u32 h) 74 (0, 0))
  hb : wr.heap[w.heap.size + 1]? = some (.cells (cw .u8 b) 75 (0, 0))
  hr : wr.heap[w.heap.size + 2]? = some (.cells (cw .u32 [0, 0, 0, 0, 0, 0, 0, 0]) 74 (0, 0))
  hw : wr.heap[w.heap.size + 3]? = some (.cells (cw .u32 ws) 136 (0, 0))
  below : Below w.heap.size w wr

theorem Held.drew {w wr : World} {h b ws : List Nat} (H : Held w wr h b ws) (n : Nat) : Held w (wr.drewN n) h b ws :=
  ⟨H.size, H.hh, H.hb, H.hr, H.hw, ⟨H.below.os, H.below.tape, H.below.output, H.below.size, H.below.block⟩⟩
theorem Held.drew1 {w wr : World} {h b ws : List Nat} (H : Held w wr h b ws) : Held w wr.drew h b ws :=
  ⟨H.size, H.hh, H.hb, H.hr, H.hw, ⟨H.below.os, H.below.tape, H.below.output, H.below.size, H.below.block⟩⟩
theorem Held.store {w wr : World} {h b ws : List Nat} (H : Held w wr h b ws) (i v : Nat) : Held w (wr.setCell ⟨w.heap.size + 3, i, none⟩ (.int .u32 (v : Int))) h b (ws.set i v) :=
  ⟨by simpa [World.setCell] using H.size, row_other H.hh (by omega), row_other H.hb (by omega), row_other H.hr (by omega), row_store H.hw i v, H.below.setCell (by simp) _⟩

theorem round_bits (A B C E : Nat) (hA : A < 4294967296) (hB : B < 4294967296) (hE : E < 4294967296) :
    bits .xor .u32 (bits .xor .u32 (rot E 6 : Int) (rot E 11 : Int)) (rot E 25 : Int) = (bg1 E : Int) ∧ bits .xor .u32 (bits .xor .u32 (rot A 2 : Int) (rot A 13 : Int)) (rot A 22 : Int) = (bg0 A : Int) ∧
    (C < 4294967296 → bits .xor .u32 (bits .xor .u32 (bits .and .u32 (A : Int) (B : Int)) (bits .and .u32 (A : Int) (C : Int))) (bits .and .u32 (B : Int) (C : Int)) = (maj A B C : Int)) := by
  have a := rot_lt E 6 hE
  have b := rot_lt E 11 hE
  have c := rot_lt E 25 hE
  have d := rot_lt A 2 hA
  have e := rot_lt A 13 hA
  have f := rot_lt A 22 hA
  refine ⟨?_, ?_, fun hC => ?_⟩
  · rw [u32_xor_nat _ _ a b, u32_xor_nat _ _ (xor_lt a b) c]; rfl
  · rw [u32_xor_nat _ _ d e, u32_xor_nat _ _ (xor_lt d e) f]; rfl
  · rw [u32_and_nat _ _ hA hB, u32_and_nat _ _ hA hC, u32_and_nat _ _ hB hC, u32_xor_nat _ _ (and_lt' hA) (and_lt' hA), u32_xor_nat _ _ (xor_lt (and_lt' hA) (and_lt' hA)) (and_lt' hB)]; rfl

theorem ch_bits (E F G : Nat) (hE : E < 4294967296) (hF : F < 4294967296) (hG : G < 4294967296) :
    bits .xor .u32 (bits .and .u32 (E : Int) (F : Int)) (bits .and .u32 (bits .xor .u32 (if IntKind.u32.signed = true then -1 else IntKind.u32.max) (E : Int)) (G : Int)) = (chf E F G : Int) := by
  have e : (if IntKind.u32.signed = true then -1 else IntKind.u32.max : Int) = ((4294967295 : Nat) : Int) := by decide
  have hx : (4294967295 : Nat) ^^^ E = 4294967295 - E := by
    apply Nat.eq_of_testBit_eq
    intro i
    rw [Nat.testBit_xor, show 4294967295 - E = 2 ^ 32 - (E + 1) by omega, Nat.testBit_two_pow_sub_succ (by omega), show (4294967295 : Nat) = 2 ^ 32 - 1 by decide, Nat.testBit_two_pow_sub_one]
    by_cases hi : i < 32
    · simp [hi]
    · have h2 : E.testBit i = false := Nat.testBit_lt_two_pow (Nat.lt_of_lt_of_le (show E < 2 ^ 32 by omega) (Nat.pow_le_pow_right (by omega) (by omega)))
      simp [hi, h2]
  rw [e, u32_xor_nat _ _ (by omega) hE, hx, u32_and_nat _ _ hE hF, u32_and_nat _ _ (by omega) hG, u32_xor_nat _ _ (and_lt' hE) (and_lt' (by omega))]
  rfl

theorem one8 (a b c d e f g h : Int) : (#[.int .u32 a, .int .u32 b, .int .u32 c, .int .u32 d, .int .u32 e, .int .u32 f, .int .u32 g, .int .u32 h] : Array Value).all (·.oneCell') = true := by
  simp [Value.oneCell']

/-- the eight words behind j rounds -/
structure Rd (K ws h : List Nat) (j A B C D E F G Q : Nat) : Prop where
  eq : rnds K ws h j = [A, B, C, D, E, F, G, Q]
  a : A < 4294967296
  b : B < 4294967296
  c : C < 4294967296
  d : D < 4294967296
  e : E < 4294967296
  f : F < 4294967296
  g : G < 4294967296
  q : Q < 4294967296
theorem Rd.start {K ws h : List Nat} {A B C D E F G Q : Nat} (hh : h = [A, B, C, D, E, F, G, Q]) (hs : Small h) : Rd K ws h 0 A B C D E F G Q := by
  subst hh
  exact ⟨rfl, hs _ (by simp), hs _ (by simp), hs _ (by simp), hs _ (by simp), hs _ (by simp), hs _ (by simp), hs _ (by simp), hs _ (by simp)⟩

theorem Rd.next {K ws h : List Nat} {j A B C D E F G Q : Nat} (H : Rd K ws h j A B C D E F G Q) (k w x y : Nat) (hk : k = K.getD j 0) (hw : w = ws.getD j 0)
    (hx : x = ((Q + bg1 E + chf E F G + (k + w)) % 4294967296 + (bg0 A + maj A B C) % 4294967296) % 4294967296) (hy : y = (D + (Q + bg1 E + chf E F G + (k + w)) % 4294967296) % 4294967296) : Rd K ws h (j + 1) x A B C y E F G := by
  subst hk; subst hw; subst hx; subst hy
  exact ⟨by rw [rnds, H.eq, rnd], Nat.mod_lt _ (by omega), H.a, H.b, H.c, Nat.mod_lt _ (by omega), H.e, H.f, H.g⟩
theorem new_a (Q s c k w b m : Nat) : (((Q : Int) + s + c + k + w) % 4294967296 + ((b : Int) + m) % 4294967296) % 4294967296 = ((((Q + s + c + (k + w)) % 4294967296 + (b + m) % 4294967296) % 4294967296 : Nat) : Int) := by omega
theorem new_e (D Q s c k w : Nat) : ((D : Int) + ((Q : Int) + s + c + k + w) % 4294967296) % 4294967296 = (((D + (Q + s + c + (k + w)) % 4294967296) % 4294967296 : Nat) : Int) := by omega

set_option maxRecDepth 100000 in
set_option maxHeartbeats 4000000 in
theorem block_any {TK : TypeId} (K h b : List Nat) (h0 h1 h2 h3 h4 h5 h6 h7 : Nat) (hh : h = [h0, h1, h2, h3, h4, h5, h6, h7]) (hb : b.length = 64) (hs : Small h) (hy : Bytes b) (hKl : K.length = 64) (w : World)
    (hK : w.heap[1]? = some (.cells (cw .u32 K) TK (0, 0))) :
    Calls Tryd.prog 50 #[.agg (cw .u32 h), .agg (cw .u8 b)] w fun e w' => e = .returned (.agg (cw .u32 (blk K h b))) ∧ Below w.heap.size w w' := by
  have hst : Held w ((((w.alloc (.cells (cw .u32 h) 74)).alloc (.cells (cw .u8 b) 75)).alloc (.cells (cw .u32 [0, 0, 0, 0, 0, 0, 0, 0]) 74)).alloc (.cells (cw .u32 (List.replicate 64 0)) 136)) h b (W16 b 0) := by
    have e1 : ((((w.alloc (.cells (cw .u32 h) 74)).alloc (.cells (cw .u8 b) 75)).alloc (.cells (cw .u32 [0, 0, 0, 0, 0, 0, 0, 0]) 74)).alloc (.cells (cw .u32 (List.replicate 64 0)) 136)).heap = (((w.heap.push (.cells (cw .u32 h) 74)).push (.cells (cw .u8 b) 75)).push (.cells (cw .u32 [0, 0, 0, 0, 0, 0, 0, 0]) 74)).push (.cells (cw .u32 (List.replicate 64 0)) 136) := rfl
    refine ⟨by rw [e1]; simp, ?_, ?_, ?_, ?_, ((((Below.refl _ _).alloc (Nat.le_refl _) _).alloc (by simp) _).alloc (by simp; omega) _).alloc (by simp; omega) _⟩
    all_goals rw [e1]; simp only [Array.getElem?_push, Array.size_push]
    · rw [if_neg (by omega), if_neg (by omega), if_neg (by omega), if_pos trivial]
    · rw [if_neg (by omega), if_neg (by omega), if_pos trivial]
    · rw [if_neg (by omega), if_pos trivial]
    · rw [if_pos trivial]; rfl
  have HST := Lib.hid hst
  have HK := Lib.hid hK
  have hw0 : 1 < w.heap.size := by
    rcases Nat.lt_or_ge 1 w.heap.size with h | h
    · exact h
    · rw [Array.getElem?_eq_none h] at hK; cases hK
  have HHH := Lib.hid hh
  clear hst hK hh
  go_enter Tryd.func50, Tryd.ntmps50
  go_wp2_with fail
  go_loopw [23] (fun i wr => ∃ k : Nat, k ≤ 16 ∧ i = .int .i64 k ∧ Held w wr h b (W16 b k)) (fun i _ => 16 - (intOf i).toNat)
  case atStart => exact ⟨0, by omega, rfl, HST.out⟩
  case round =>
    obtain ⟨k, hk, rfl, hheld⟩ := hrel
    by_cases hlt : k < 16
    · have hl := W16_length b k
      have c0 := row_cell hheld.hb (4 * k) (by omega)
      have c1 := row_cell hheld.hb (4 * k + 1) (by omega)
      have c2 := row_cell hheld.hb (4 * k + 2) (by omega)
      have c3 := row_cell hheld.hb (4 * k + 3) (by omega)
      have c4 := row_cell hheld.hw k (by omega)
      have f4 := row_free hheld.hw k
      have hst := hheld.store k (word16 b k)
      have b0 := hy.get (4 * k)
      have b1 := hy.get (4 * k + 1)
      have b2 := hy.get (4 * k + 2)
      have b3 := hy.get (4 * k + 3)
      unfold word16 at hst
      obtain ⟨v0, v1, v2, v3, v4, v5, v6, v7⟩ := byte_or _ _ _ _ b0 b1 b2 b3
      obtain ⟨y, hy'⟩ : ∃ y : Nat, y = b.getD (4 * k) 0 * 16777216 + b.getD (4 * k + 1) 0 * 65536 + b.getD (4 * k + 2) 0 * 256 + b.getD (4 * k + 3) 0 := ⟨_, rfl⟩
      have eW : (W16 b k).set k y = W16 b (k + 1) := by rw [hy']; rfl
      rw [← hy'] at v7 hst
      rw [eW] at hst
      clear hy' eW
      have HST2 := Lib.hid hst
      have HHE := Lib.hid hheld
      clear hst hheld HST hl
      generalize b.getD (4 * k) 0 = x0 at *
      generalize b.getD (4 * k + 1) 0 = x1 at *
      generalize b.getD (4 * k + 2) 0 = x2 at *
      generalize b.getD (4 * k + 3) 0 = x3 at *
      have hk0 : (0 : Int) ≤ k := by omega
      have hk1 : (k : Int) < 64 := by omega
      have g0 : (0 : Int) ≤ 4 * k := by omega
      have g1 : (4 * k : Int) < 64 := by omega
      have g2 : (0 : Int) ≤ 4 * k + 1 := by omega
      have g3 : (4 * k + 1 : Int) < 64 := by omega
      have g4 : (0 : Int) ≤ 4 * k + 2 := by omega
      have g5 : (4 * k + 2 : Int) < 64 := by omega
      have g6 : (0 : Int) ≤ 4 * k + 3 := by omega
      have g7 : (4 * k + 3 : Int) < 64 := by omega
      have t0 : (4 * (k : Int)).toNat = 4 * k := by omega
      have t1 : (4 * (k : Int) + 1).toNat = 4 * k + 1 := by omega
      have t2 : (4 * (k : Int) + 2).toNat = 4 * k + 2 := by omega
      have t3 : (4 * (k : Int) + 3).toNat = 4 * k + 3 := by omega
      have w0 : IntKind.i64.wrap (4 * (k : Int)) = 4 * k := IntWalk.i64_in _ (by omega)
      have w1 : IntKind.i64.wrap (4 * (k : Int) + 1) = 4 * k + 1 := IntWalk.i64_in _ (by omega)
      have w2 : IntKind.i64.wrap (4 * (k : Int) + 2) = 4 * k + 2 := IntWalk.i64_in _ (by omega)
      have w3 : IntKind.i64.wrap (4 * (k : Int) + 3) = 4 * k + 3 := IntWalk.i64_in _ (by omega)
      go_wp2_with fail
      go_still_tail 31, (by kernel_rfl)
      clear g0 g1 g2 g3 g4 g5 g6 g7 t0 t1 t2 t3 w0 w1 w2 w3 b0 b1 b2 b3
      change wpList _ _ _ _ _ wr.drew
      go_wp2_with fail
      go_roundw
      case rel => exact ⟨k + 1, by omega, by go_num, HST2.out.drew1⟩
      case measure => simp [intOf]; omega
    · obtain rfl : k = 16 := by omega
      rw [show ((16 : Nat) : Int) = 16 from rfl]
      go_wp2_with fail
      go_loopw [7, 8, 9] (fun i _ _ wr => ∃ n : Nat, n ≤ 48 ∧ i = .int .i64 (16 + n : Nat) ∧ Held w wr h b (sch b n)) (fun i _ _ _ => 64 - (intOf i).toNat)
      case atStart => exact ⟨0, by omega, rfl, hheld⟩
      case round =>
        clear hheld hk HST hlt
        obtain ⟨n, hn, rfl, hheld⟩ := hrel
        by_cases hlt : n < 48
        · have hl := sch_length b n
          have hsm := sch_small hy n
          obtain ⟨i, hi⟩ : ∃ i : Nat, i = 16 + n := ⟨_, rfl⟩
          have eS : (sch b n).set i (nextW (sch b n) i) = sch b (n + 1) := by rw [hi]; rfl
          have c15 := row_cell hheld.hw (i - 15) (by omega)
          have c2 := row_cell hheld.hw (i - 2) (by omega)
          have c16 := row_cell hheld.hw (i - 16) (by omega)
          have c7 := row_cell hheld.hw (i - 7) (by omega)
          have ci := row_cell hheld.hw i (by omega)
          have fi := row_free hheld.hw i
          have s15 := hsm.get (i - 15)
          have s2 := hsm.get (i - 2)
          have hi16 : 16 ≤ i := by omega
          have hi64 : i < 64 := by omega
          unfold nextW at eS
          generalize (sch b n).getD (i - 15) 0 = x15 at *
          generalize (sch b n).getD (i - 2) 0 = x2 at *
          generalize (sch b n).getD (i - 16) 0 = x16 at *
          generalize (sch b n).getD (i - 7) 0 = x7 at *
          have m0 := (sm_bits x15 s15).1
          have m1 := (sm_bits x2 s2).2
          obtain ⟨y, hy', m2⟩ := sum4 x16 (sm0 x15) x7 (sm1 x2)
          rw [← hy'] at eS
          clear hy' hl hsm
          rw [← hi]
          have HI := Lib.hid hi
          have ES := Lib.hid eS
          have HHE := Lib.hid hheld
          clear hheld hi eS
          have r0 : (0 : Int) ≤ (i : Int) - 15 := by omega
          have r0' : (15 : Int) ≤ i := by omega
          have r1 : (i : Int) - 15 < 64 := by omega
          have r2 : (0 : Int) ≤ (i : Int) - 2 := by omega
          have r2' : (2 : Int) ≤ i := by omega
          have r3 : (i : Int) - 2 < 64 := by omega
          have r4 : (0 : Int) ≤ (i : Int) - 16 := by omega
          have r4' : (16 : Int) ≤ i := by omega
          have r5 : (i : Int) - 16 < 64 := by omega
          have r6 : (0 : Int) ≤ (i : Int) - 7 := by omega
          have r6' : (7 : Int) ≤ i := by omega
          have r7 : (i : Int) - 7 < 64 := by omega
          have r8 : (0 : Int) ≤ i := by omega
          have r9 : (i : Int) < 64 := by omega
          have t0 : ((i : Int) - 15).toNat = i - 15 := by omega
          have t1 : ((i : Int) - 2).toNat = i - 2 := by omega
          have t2 : ((i : Int) - 16).toNat = i - 16 := by omega
          have t3 : ((i : Int) - 7).toNat = i - 7 := by omega
          have w0 : IntKind.i64.wrap ((i : Int) - 15) = (i : Int) - 15 := IntWalk.i64_in _ (by omega)
          have w1 : IntKind.i64.wrap ((i : Int) - 2) = (i : Int) - 2 := IntWalk.i64_in _ (by omega)
          have w2 : IntKind.i64.wrap ((i : Int) - 16) = (i : Int) - 16 := IntWalk.i64_in _ (by omega)
          have w3 : IntKind.i64.wrap ((i : Int) - 7) = (i : Int) - 7 := IntWalk.i64_in _ (by omega)
          go_wp2_with fail
          go_quiet ((go_at_call 62; exact Calls.quiet_of (right_at x15 _ s15 (by omega) (by omega) _)))
          revert nq; intro q1
          go_wp2_with fail
          go_quiet ((go_at_call 62; exact quiet2 (right_at x2 _ s2 (by omega) (by omega))))
          revert nq; intro q2
          go_wp2_with fail
          have HH2 : Hid (Held w ((wr.drewN q1).drewN q2) h b (sch b n)) := Lib.hid ((HHE.out.drew q1).drew q2)
          have d16 : ((wr.drewN q1).drewN q2).cell? ⟨w.heap.size + 3, i - 16, none⟩ = _ := c16
          have d7 : ((wr.drewN q1).drewN q2).cell? ⟨w.heap.size + 3, i - 7, none⟩ = _ := c7
          have di : ((wr.drewN q1).drewN q2).cell? ⟨w.heap.size + 3, i, none⟩ = _ := ci
          have ei : ((wr.drewN q1).drewN q2).frozen? ⟨w.heap.size + 3, i, none⟩ = false := fi
          clear r0 r0' r1 r2 r2' r3 t0 t1 w0 w1 c15 c2 c16 c7 m0 m1 ci fi HHE
          generalize (wr.drewN q1).drewN q2 = w2 at *
          go_still_tail 15, (by kernel_rfl)
          change wpList _ _ _ _ _ w2.drew
          go_wp2_with fail
          go_roundw
          case rel => exact ⟨n + 1, by omega, by rw [show 16 + (n + 1) = i + 1 by have := HI.out; omega]; go_num, by have h1 := (HH2.out.store i y).drew1; rw [ES.out] at h1; exact h1⟩
          case measure => have := HI.out; simp [intOf]; omega
        · obtain rfl : n = 48 := by omega
          rw [show ((16 + 48 : Nat) : Int) = 64 from rfl]
          go_wp2_with fail
          have HHE := Lib.hid hheld
          have e0 := row_cell hheld.hh 0 (by rw [HHH.out]; simp)
          have e1 := row_cell hheld.hh 1 (by rw [HHH.out]; simp)
          have e2 := row_cell hheld.hh 2 (by rw [HHH.out]; simp)
          have e3 := row_cell hheld.hh 3 (by rw [HHH.out]; simp)
          have e4 := row_cell hheld.hh 4 (by rw [HHH.out]; simp)
          have e5 := row_cell hheld.hh 5 (by rw [HHH.out]; simp)
          have e6 := row_cell hheld.hh 6 (by rw [HHH.out]; simp)
          have e7 := row_cell hheld.hh 7 (by rw [HHH.out]; simp)
          rw [show h.getD 0 0 = h0 by rw [HHH.out]; rfl] at e0
          rw [show h.getD 1 0 = h1 by rw [HHH.out]; rfl] at e1
          rw [show h.getD 2 0 = h2 by rw [HHH.out]; rfl] at e2
          rw [show h.getD 3 0 = h3 by rw [HHH.out]; rfl] at e3
          rw [show h.getD 4 0 = h4 by rw [HHH.out]; rfl] at e4
          rw [show h.getD 5 0 = h5 by rw [HHH.out]; rfl] at e5
          rw [show h.getD 6 0 = h6 by rw [HHH.out]; rfl] at e6
          rw [show h.getD 7 0 = h7 by rw [HHH.out]; rfl] at e7
          clear hheld hlt hn
          go_quiet (fail)
          revert nq; intro q1
          go_wp2_with fail
          have HH2 : Hid (Held w (wr.drewN q1) h b (sch b 48)) := Lib.hid (HHE.out.drew q1)
          clear e0 e1 e2 e3 e4 e5 e6 e7 HHE
          generalize wr.drewN q1 = w2 at *
          go_loopw [127, 10, 11, 12, 13, 14, 15, 16, 17, 18, 19, 20, 21, 22] (fun ct va vb vc vd ve vf vg vk _ _ _ _ _ wx => ∃ (j A B C D E F G Q : Nat), j ≤ 64 ∧ ct = .int .i64 j ∧ va = .int .u32 A ∧ vb = .int .u32 B ∧ vc = .int .u32 C ∧ vd = .int .u32 D ∧ ve = .int .u32 E ∧ vf = .int .u32 F ∧ vg = .int .u32 G ∧ vk = .int .u32 Q ∧
              Rd K (sch b 48) h j A B C D E F G Q ∧ Held w wx h b (sch b 48)) (fun ct _ _ _ _ _ _ _ _ _ _ _ _ _ _ => 64 - (intOf ct).toNat)
          case atStart => exact ⟨0, h0, h1, h2, h3, h4, h5, h6, h7, by omega, rfl, rfl, rfl, rfl, rfl, rfl, rfl, rfl, rfl, Rd.start HHH.out hs, HH2.out⟩
          case round =>
            clear HH2
            obtain ⟨j, A, B, C, D, E, F, G, Q, hj, rfl, rfl, rfl, rfl, rfl, rfl, rfl, rfl, rfl, hrd, hheld⟩ := hrel
            by_cases hlt : j < 64
            · have hA := hrd.a
              have hB := hrd.b
              have hC := hrd.c
              have hE := hrd.e
              have hF := hrd.f
              have hG := hrd.g
              have hl := sch_length b 48
              have cK : wr.cell? ⟨1, j, none⟩ = some (.int .u32 (K.getD j 0 : Nat)) := row_cell (k := .u32) (xs := K) ((hheld.below.block 1 hw0).trans HK.out) j (by omega)
              have cW := row_cell hheld.hw j (by omega)
              obtain ⟨kj, hkj⟩ : ∃ kj, kj = K.getD j 0 := ⟨_, rfl⟩
              obtain ⟨wj, hwj⟩ : ∃ wj, wj = (sch b 48).getD j 0 := ⟨_, rfl⟩
              rw [← hkj] at cK
              rw [← hwj] at cW
              have HKJ := Lib.hid hkj
              have HWJ := Lib.hid hwj
              clear hkj hwj
              have fch := ch_bits E F G hE hF hG
              have j0 : (0 : Int) ≤ j := by omega
              have j1 : (j : Int) < 64 := by omega
              obtain ⟨fs1, fs0, fmj⟩ := round_bits A B C E hA hB hE
              have fmj' := fmj hC
              clear fmj
              have HR := Lib.hid hrd
              have HHE := Lib.hid hheld
              clear hrd hheld hl
              go_wp2_with (first | (go_at_call 62; first | ((with_reducible refine (right_6 E hE _).mono ?_); rintro e w' ⟨rfl, rfl⟩) | ((with_reducible refine (right_11 E hE _).mono ?_); rintro e w' ⟨rfl, rfl⟩) | ((with_reducible refine (right_25 E hE _).mono ?_); rintro e w' ⟨rfl, rfl⟩)))
              go_quiet (fail)
              revert nq; intro q1
              go_wp2_with (first | (go_at_call 62; first | ((with_reducible refine (right_2 A hA _).mono ?_); rintro e w' ⟨rfl, rfl⟩) | ((with_reducible refine (right_13 A hA _).mono ?_); rintro e w' ⟨rfl, rfl⟩) | ((with_reducible refine (right_22 A hA _).mono ?_); rintro e w' ⟨rfl, rfl⟩)))
              go_roundw
              case rel => exact ⟨j + 1, _, A, B, C, _, E, F, G, by omega, by go_num, congrArg (Value.int .u32) (new_a Q (bg1 E) (chf E F G) kj wj (bg0 A) (maj A B C)), rfl, rfl, rfl, congrArg (Value.int .u32) (new_e D Q (bg1 E) (chf E F G) kj wj), rfl, rfl, rfl, HR.out.next kj wj _ _ HKJ.out HWJ.out rfl rfl, HHE.out.drew q1⟩
              case measure => simp [intOf]; omega
            · obtain rfl : j = 64 := by omega
              rw [show ((64 : Nat) : Int) = 64 from rfl]
              have HHE := Lib.hid hheld
              have HR := Lib.hid hrd
              have e0 := row_cell hheld.hh 0 (by rw [HHH.out]; simp)
              have e1 := row_cell hheld.hh 1 (by rw [HHH.out]; simp)
              have e2 := row_cell hheld.hh 2 (by rw [HHH.out]; simp)
              have e3 := row_cell hheld.hh 3 (by rw [HHH.out]; simp)
              have e4 := row_cell hheld.hh 4 (by rw [HHH.out]; simp)
              have e5 := row_cell hheld.hh 5 (by rw [HHH.out]; simp)
              have e6 := row_cell hheld.hh 6 (by rw [HHH.out]; simp)
              have e7 := row_cell hheld.hh 7 (by rw [HHH.out]; simp)
              rw [show h.getD 0 0 = h0 by rw [HHH.out]; rfl] at e0
              rw [show h.getD 1 0 = h1 by rw [HHH.out]; rfl] at e1
              rw [show h.getD 2 0 = h2 by rw [HHH.out]; rfl] at e2
              rw [show h.getD 3 0 = h3 by rw [HHH.out]; rfl] at e3
              rw [show h.getD 4 0 = h4 by rw [HHH.out]; rfl] at e4
              rw [show h.getD 5 0 = h5 by rw [HHH.out]; rfl] at e5
              rw [show h.getD 6 0 = h6 by rw [HHH.out]; rfl] at e6
              rw [show h.getD 7 0 = h7 by rw [HHH.out]; rfl] at e7
              have hr := hheld.hr
              clear hheld hrd hlt hj
              have hbd : ∀ (a0 a1 a2 a3 a4 a5 a6 a7 : Int) (w1 : World), (Instr.build 74 #[(0, .int .u32 a0), (1, .int .u32 a1), (2, .int .u32 a2), (3, .int .u32 a3), (4, .int .u32 a4), (5, .int .u32 a5), (6, .int .u32 a6), (7, .int .u32 a7)]).run Tryd.prog w1 =
                  .ok (.agg #[.int .u32 a0, .int .u32 a1, .int .u32 a2, .int .u32 a3, .int .u32 a4, .int .u32 a5, .int .u32 a6, .int .u32 a7]) w1 := fun _ _ _ _ _ _ _ _ w1 => run_build w1 74 _ _ (by kernel_rfl)
              go_wp2_with (with_reducible refine wpList_store_row rfl 74 _ _ rfl (w.heap.size + 2) _ rfl rfl 74 _ hr ?_ ?_ ?_ ?_)
              · kernel_rfl
              · rfl
              · exact one8 _ _ _ _ _ _ _ _
              · have hfin : Below w.heap.size w (wr.setRow (w.heap.size + 2) #[.int .u32 (((h0 : Int) + A) % 4294967296), .int .u32 (((h1 : Int) + B) % 4294967296), .int .u32 (((h2 : Int) + C) % 4294967296), .int .u32 (((h3 : Int) + D) % 4294967296), .int .u32 (((h4 : Int) + E) % 4294967296), .int .u32 (((h5 : Int) + F) % 4294967296), .int .u32 (((h6 : Int) + G) % 4294967296), .int .u32 (((h7 : Int) + Q) % 4294967296)]) :=
                  below_setRow HHE.out.below (by omega) _
                have hrow := setRow_heap wr (w.heap.size + 2) (cw .u32 [0, 0, 0, 0, 0, 0, 0, 0]) #[.int .u32 (((h0 : Int) + A) % 4294967296), .int .u32 (((h1 : Int) + B) % 4294967296), .int .u32 (((h2 : Int) + C) % 4294967296), .int .u32 (((h3 : Int) + D) % 4294967296), .int .u32 (((h4 : Int) + E) % 4294967296), .int .u32 (((h5 : Int) + F) % 4294967296), .int .u32 (((h6 : Int) + G) % 4294967296), .int .u32 (((h7 : Int) + Q) % 4294967296)] 74 (0, 0) hr
                have hval : (#[.int .u32 (((h0 : Int) + A) % 4294967296), .int .u32 (((h1 : Int) + B) % 4294967296), .int .u32 (((h2 : Int) + C) % 4294967296), .int .u32 (((h3 : Int) + D) % 4294967296), .int .u32 (((h4 : Int) + E) % 4294967296), .int .u32 (((h5 : Int) + F) % 4294967296), .int .u32 (((h6 : Int) + G) % 4294967296), .int .u32 (((h7 : Int) + Q) % 4294967296)] : Array Value) = cw .u32 (blk K h b) := by
                  unfold blk
                  rw [HR.out.eq, HHH.out]
                  simp [addL, cw]
                have HF := Lib.hid hfin
                have HW := Lib.hid hrow
                have HV := Lib.hid hval
                clear hfin hrow hval hr hbd e0 e1 e2 e3 e4 e5 e6 e7
                go_wp2_with fail
                refine bodyPost_ret (results_cell_row rfl _ _ (w.heap.size + 2) 74 _ (0, 0) _ rfl HW.out Tryd.underlying74 rfl (by kernel_rfl)) rfl ⟨?_, HF.out⟩
                rw [HV.out]
end Go.Proofs.YtlcppkcclolgcaaDoor.Hs

namespace Go.Proofs.YtlcppkcclolgcaaDoor.Hs
open Go.RowKit
def KT : List Nat := [0x428a2f98, 0x71374491, 0xb5c0fbcf, 0xe9b5dba5, 0x3956c25b, 0x59f111f1, 0x923f82a4, 0xab1c5ed5, 0xd807aa98, 0x12835b01, 0x243185be, 0x550c7dc3, 0x72be5d74, 0x80deb1fe, 0x9bdc06a7, 0xc19bf174, 0xe49b69c1, 0xefbe4786, 0x0fc19dc6, 0x240ca1cc, 0x2de92c6f, 0x4a7484aa, 0x5cb0a9dc, 0x76f988da, 0x983e5152, 0xa831c66d, 0xb00327c8, 0xbf597fc7, 0xc6e00bf3, 0xd5a79147, 0x06ca6351, 0x14292967, 0x27b70a85, 0x2e1b2138, 0x4d2c6dfc, 0x53380d13, 0x650a7354, 0x766a0abb, 0x81c2c92e, 0x92722c85, 0xa2bfe8a1, 0xa81a664b, 0xc24b8b70, 0xc76c51a3, 0xd192e819, 0xd6990624, 0xf40e3585, 0x106aa070, 0x19a4c116, 0x1e376c08, 0x2748774c, 0x34b0bcb5, 0x391c0cb3, 0x4ed8aa4a, 0x5b9cca4f, 0x682e6ff3, 0x748f82ee, 0x78a5636f, 0x84c87814, 0x8cc70208, 0x90befffa, 0xa4506ceb, 0xbef9a3f7, 0xc67178f2]
theorem KT_length : KT.length = 64 := by decide
theorem wpList_build_to {P : Program} {ops : Array Oper} {rest : List Oper} {o : Oper} {a : Act} {w : World} {Q : Exit → Act → World → Prop} (hg : o.guard = none) (t : TypeId) (parts : Array (Nat × Operand)) (ho : o.op = .build t parts)
    (cells : Array Value) (hf : P.built t (parts.map fun (i, x) => (i, a.eval x)).toList = some cells)
    (h : wpList P ops Q rest (a.put o.dst (.agg cells)) w) : wpList P ops Q (o :: rest) a w :=
  wpList_build hg t parts ho (by rw [hf]; rfl) (by rw [hf]; exact h)
structure NewRow (v v' : World) (c : Array Value) (t : TypeId) : Prop where
  size : v'.heap.size = v.heap.size + 1
  new : v'.heap[v.heap.size]? = some (.cells c t (0, 0))
  below : Below v.heap.size v v'
theorem new_row (v : World) (c0 c : Array Value) (t : TypeId) : NewRow v ((v.alloc (.cells c0 t)).setRow v.heap.size c) c t :=
  ⟨by simp, setRow_heap _ _ _ _ _ _ (heap_alloc_new v (.cells c0 t)), below_setRow ((Below.refl _ _).alloc (Nat.le_refl _) _) (Nat.le_refl _) _⟩
end Go.Proofs.YtlcppkcclolgcaaDoor.Hs

namespace Go.Proofs.YtlcppkcclolgcaaDoor.Hs
set_option maxRecDepth 20000
set_option linter.unusedVariables false
set_option linter.unusedSimpArgs false
open Go.RowKit

/-- the words with which a digest begins -/
def ST : List Nat := [1779033703, 3144134277, 1013904242, 2773480762, 1359893119, 2600822924, 528734635, 1541459225]
theorem ST_small : Small ST := by intro x hx; simp [ST] at hx; omega
theorem KT_small : Small KT := by
  intro x hx
  have : KT.all (fun x => decide (x < 4294967296)) = true := by decide
  exact of_decide_eq_true (List.all_eq_true.1 this x hx)

theorem addL_length (h v : List Nat) (e : v.length = h.length) : (addL h v).length = h.length := by
  unfold addL; rw [List.length_zipWith]; omega
theorem addL_small (h v : List Nat) : Small (addL h v) := by
  intro x hx
  unfold addL at hx
  obtain ⟨i, hi, rfl⟩ := List.mem_iff_getElem.1 hx
  rw [List.getElem_zipWith]
  exact Nat.mod_lt _ (by omega)
theorem blk_len (h b : List Nat) (hh : h.length = 8) (hs : Small h) : (blk KT h b).length = 8 := by
  obtain ⟨a, b', c, d, e, f, g, k, hr, _⟩ := rnds_eight KT (sch b 48) h hh hs 64
  unfold blk
  rw [addL_length _ _ (by rw [hr, hh]; rfl), hh]
theorem blk_small (h b : List Nat) : Small (blk KT h b) := addL_small _ _

/-- the eight words behind k blocks of a text -/
def hsh (T : List Nat) : Nat → List Nat
  | 0 => ST
  | k + 1 => blk KT (hsh T k) ((T.drop (64 * k)).take 64)
theorem hsh_ok (T : List Nat) : ∀ k, (hsh T k).length = 8 ∧ Small (hsh T k)
  | 0 => ⟨rfl, ST_small⟩
  | k + 1 => ⟨blk_len _ _ (hsh_ok T k).1 (hsh_ok T k).2, blk_small _ _⟩
theorem hsh_ext (T U : List Nat) : ∀ k, 64 * k ≤ T.length → hsh (T ++ U) k = hsh T k
  | 0, _ => rfl
  | k + 1, h => by
    rw [hsh, hsh, hsh_ext T U k (by omega), List.drop_append_of_le_length (by omega), List.take_append_of_le_length (by rw [List.length_drop]; omega)]

/-- how many zero bytes stand in the padding, and its bytes -/
def zsN (n : Nat) : Nat := (119 - n % 64) % 64
def bxN (n i : Nat) : Nat := n * 8 % 18446744073709551616 / 2 ^ (8 * i) % 256
def padN (n : Nat) : List Nat := 128 :: (List.replicate (zsN n) 0 ++ [bxN n 7, bxN n 6, bxN n 5, bxN n 4, bxN n 3, bxN n 2, bxN n 1, bxN n 0])
theorem padN_length (n : Nat) : (padN n).length = zsN n + 9 := by simp [padN]
theorem zsN_le (n : Nat) : zsN n ≤ 63 := by unfold zsN; omega
theorem pad_fills (n : Nat) : (n + (padN n).length) % 64 = 0 := by rw [padN_length]; unfold zsN; omega
theorem padN_bytes (n : Nat) : Bytes (padN n) := by
  intro x hx
  simp only [padN, List.mem_cons, List.mem_append, List.mem_replicate, List.not_mem_nil, or_false] at hx
  have hb : ∀ i, bxN n i < 256 := fun i => Nat.mod_lt _ (by omega)
  rcases hx with rfl | ⟨_, rfl⟩ | rfl | rfl | rfl | rfl | rfl | rfl | rfl | rfl
  · omega
  · omega
  all_goals exact hb _

/-- a word's four bytes, the highest first; the digest of words, of a text -/
def four (x : Nat) : List Nat := [x / 16777216 % 256, x / 65536 % 256, x / 256 % 256, x % 256]
def dig (h : List Nat) : List Nat := h.flatMap four
def shaL (T : List Nat) : List Nat := dig (hsh (T ++ padN T.length) ((T.length + (padN T.length).length) / 64))
theorem dig_length : ∀ h : List Nat, (dig h).length = 4 * h.length
  | [] => rfl
  | x :: h => by
    have := dig_length h
    simp only [dig, List.flatMap_cons, List.length_append, List.length_cons] at this ⊢
    simp only [four, List.length_cons, List.length_nil]
    omega
theorem shaL_length (T : List Nat) : (shaL T).length = 32 := by unfold shaL; rw [dig_length, (hsh_ok _ _).1]
theorem dig_bytes (h : List Nat) : Bytes (dig h) := by
  intro x hx
  simp only [dig, List.mem_flatMap, four, List.mem_cons, List.not_mem_nil, or_false] at hx
  obtain ⟨y, _, rfl | rfl | rfl | rfl⟩ := hx <;> omega
theorem shaL_bytes (T : List Nat) : Bytes (shaL T) := dig_bytes _

/-- a list with another laid over it from place o on -/
def over (L : List Nat) (o : Nat) (u : List Nat) : List Nat := L.take o ++ (u ++ L.drop (o + u.length))
theorem over_length (L : List Nat) (o : Nat) (u : List Nat) (h : o + u.length ≤ L.length) : (over L o u).length = L.length := by simp [over]; omega
theorem over_bytes {L u : List Nat} (hL : Bytes L) (hu : Bytes u) (o : Nat) : Bytes (over L o u) := by
  intro x hx
  simp only [over, List.mem_append] at hx
  rcases hx with h | h | h
  · exact hL x (List.mem_of_mem_take h)
  · exact hu x h
  · exact hL x (List.mem_of_mem_drop h)

/-- what a State holds behind the text T -/
structure Stt (T : List Nat) (n : Nat) (h buf : List Nat) (used : Nat) : Prop where
  n_eq : n = T.length
  h_eq : h = hsh T (T.length / 64)
  used_eq : used = T.length % 64
  blen : buf.length = 64
  byt : Bytes buf
  buf_eq : buf.take used = T.drop (64 * (T.length / 64))
theorem Stt.start : Stt [] 0 ST (List.replicate 64 0) 0 :=
  ⟨rfl, rfl, rfl, by simp, by intro x hx; simp at hx; omega, by simp⟩
theorem Stt.h8 {T : List Nat} {n : Nat} {h buf : List Nat} {used : Nat} (H : Stt T n h buf used) : h.length = 8 := by rw [H.h_eq]; exact (hsh_ok _ _).1
theorem Stt.hs {T : List Nat} {n : Nat} {h buf : List Nat} {used : Nat} (H : Stt T n h buf used) : Small h := by rw [H.h_eq]; exact (hsh_ok _ _).2
theorem Stt.lt {T : List Nat} {n : Nat} {h buf : List Nat} {used : Nat} (H : Stt T n h buf used) : used < 64 := by rw [H.used_eq]; exact Nat.mod_lt _ (by omega)

theorem over_take (L : List Nat) (o : Nat) (u : List Nat) (h : o + u.length ≤ L.length) : (over L o u).take (o + u.length) = L.take o ++ u := by
  unfold over
  rw [← List.append_assoc]
  exact List.take_left' (by simp; omega)

/-- bytes have come into the buffer, and it isn't full -/
theorem Stt.more {T : List Nat} {n : Nat} {h buf : List Nat} {used : Nat} (H : Stt T n h buf used) (u : List Nat) (hu : Bytes u) (hlt : used + u.length < 64) :
    Stt (T ++ u) (n + u.length) h (over buf used u) (used + u.length) := by
  have e1 := H.used_eq
  have e2 : (T ++ u).length = T.length + u.length := List.length_append
  have e3 : (T.length + u.length) / 64 = T.length / 64 := by omega
  refine ⟨by rw [e2, H.n_eq], ?_, by rw [e2]; omega, by rw [over_length _ _ _ (by rw [H.blen]; omega), H.blen], over_bytes H.byt hu _, ?_⟩
  · rw [e2, e3, hsh_ext _ _ _ (by omega), H.h_eq]
  · rw [over_take _ _ _ (by rw [H.blen]; omega), H.buf_eq, e2, e3, List.drop_append_of_le_length (by omega)]
/-- bytes have come into the buffer, and it is full -/
theorem Stt.full {T : List Nat} {n : Nat} {h buf : List Nat} {used : Nat} (H : Stt T n h buf used) (u : List Nat) (hu : Bytes u) (heq : used + u.length = 64) :
    Stt (T ++ u) (n + u.length) (blk KT h (over buf used u)) (over buf used u) 0 := by
  have e1 := H.used_eq
  have e2 : (T ++ u).length = T.length + u.length := List.length_append
  have e3 : (T.length + u.length) / 64 = T.length / 64 + 1 := by omega
  refine ⟨by rw [e2, H.n_eq], ?_, by rw [e2]; omega, by rw [over_length _ _ _ (by rw [H.blen]; omega), H.blen], over_bytes H.byt hu _, ?_⟩
  · have h1 := over_take buf used u (by rw [H.blen]; omega)
    rw [heq, List.take_of_length_le (by rw [over_length _ _ _ (by rw [H.blen]; omega), H.blen]; exact Nat.le_refl _)] at h1
    rw [e2, e3, hsh, hsh_ext _ _ _ (by omega), h1, H.h_eq, H.buf_eq]
    congr 1
    rw [List.drop_append_of_le_length (by omega)]
    exact (List.take_of_length_le (by rw [List.length_append, List.length_drop]; omega)).symm
  · rw [e2, e3, List.take_zero]
    exact (List.drop_eq_nil_of_le (by rw [e2]; omega)).symm

/-- the bytes of a text -/
def nb (s : ByteArray) : List Nat := s.data.toList.map UInt8.toNat
theorem nb_length (s : ByteArray) : (nb s).length = s.size := by simp [nb]
theorem nb_bytes (s : ByteArray) : Bytes (nb s) := by
  intro x hx
  simp only [nb, List.mem_map] at hx
  obtain ⟨b, _, rfl⟩ := hx
  exact b.toNat_lt
theorem nb_append (s t : ByteArray) : nb (s ++ t) = nb s ++ nb t := by simp [nb]
end Go.Proofs.YtlcppkcclolgcaaDoor.Hs

namespace Go.Proofs.YtlcppkcclolgcaaDoor.Hs
set_option maxRecDepth 20000
set_option linter.unusedVariables false
set_option linter.unusedSimpArgs false
open Go.RowKit

/-- one kind's cells, as a list -/
def cl (k : IntKind) (xs : List Nat) : List Value := xs.map fun (x : Nat) => Value.int k (x : Int)
theorem cl_length (k : IntKind) (xs : List Nat) : (cl k xs).length = xs.length := by simp [cl]
theorem cl_array (k : IntKind) (xs : List Nat) : (cl k xs).toArray = cw k xs := rfl
theorem cl_one (k : IntKind) (xs : List Nat) : ∀ v ∈ cl k xs, v.oneCell' = true := by
  intro v hv
  simp only [cl, List.mem_map] at hv
  obtain ⟨y, _, rfl⟩ := hv
  rfl
theorem cl_get (k : IntKind) (xs : List Nat) (i : Nat) (h : i < xs.length) : (cl k xs)[i]? = some (.int k (xs.getD i 0 : Nat)) := by simp [cl, h]

/-- the cells of a State -/
def stc (n : Nat) (h buf : List Nat) (used : Nat) : List Value := .int .i64 (n : Int) :: (cl .u32 h ++ (cl .u8 buf ++ [.int .i64 (used : Int)]))
theorem stc_length {n : Nat} {h buf : List Nat} {used : Nat} (hh : h.length = 8) (hb : buf.length = 64) : (stc n h buf used).length = 74 := by simp [stc, cl, hh, hb]

theorem splice_step {α : Type} (L : List α) (o : Nat) (v : α) (r : List α) (h : o < L.length) : splice (L.set o v) (o + 1) r = splice L o (v :: r) := by
  obtain ⟨A, x, B, rfl, rfl⟩ : ∃ A x B, L = A ++ x :: B ∧ A.length = o := ⟨L.take o, L[o], L.drop (o + 1), by simp, by simp; omega⟩
  have e1 : (A ++ x :: B).set A.length v = (A ++ [v]) ++ B := by simp
  have e2 : (A ++ [v]).length = A.length + 1 := by simp
  have e3 : (A ++ x :: B).drop (A.length + (v :: r).length) = B.drop r.length := by
    rw [List.drop_append, List.drop_eq_nil_of_le (by simp), show A.length + (v :: r).length - A.length = r.length + 1 by simp]
    simp
  have e4 : ((A ++ [v]) ++ B).drop (A.length + 1 + r.length) = B.drop r.length := by
    rw [List.drop_append, List.drop_eq_nil_of_le (by rw [e2]; omega), e2, show A.length + 1 + r.length - (A.length + 1) = r.length by omega]
    simp
  unfold splice
  rw [e1, e3, e4, List.take_left' e2, List.take_left' rfl]
  simp
/-- what lies in a row behind cells laid over it -/
theorem heap_setCells {g : Nat} {t : TypeId} : ∀ (vs : List Value) (o : Nat) (w : World) (L : List Value), w.heap[g]? = some (.cells L.toArray t (0, 0)) → o + vs.length ≤ L.length →
    (w.setCells g o vs).heap[g]? = some (.cells (splice L o vs).toArray t (0, 0))
  | [], o, w, L, h, _ => by
    rw [World.setCells, h]
    simp [splice]
  | v :: r, o, w, L, h, hl => by
    simp only [List.length_cons] at hl
    have h1 : (w.setCell ⟨g, o, none⟩ v).heap[g]? = some (.cells (L.set o v).toArray t (0, 0)) := by
      rw [heap_setCell_same w g o _ t _ h]
      simp
    rw [World.setCells, heap_setCells r (o + 1) _ _ h1 (by rw [List.length_set]; omega), splice_step L o v r (by omega)]
theorem heap_setCells_other {g k : Nat} (hne : k ≠ g) : ∀ (vs : List Value) (o : Nat) (w : World), (w.setCells g o vs).heap[k]? = w.heap[k]?
  | [], _, _ => rfl
  | v :: r, o, w => by rw [World.setCells, heap_setCells_other hne r (o + 1) _, Below.heap_setCell _ _ _ _ hne]
theorem size_setCells {g : Nat} : ∀ (vs : List Value) (o : Nat) (w : World), (w.setCells g o vs).heap.size = w.heap.size
  | [], _, _ => rfl
  | _ :: r, o, _ => by rw [World.setCells, size_setCells r (o + 1) _]; simp [World.setCell]

/-- only block g, and what is new, has turned -/
theorem only_drewN {a w : World} {row : Option Nat} (h : a.grownBy w row) (n : Nat) : a.grownBy (w.drewN n) row := ⟨h.os, h.tape, h.output, h.size, h.block⟩
theorem only_drew {a w : World} {row : Option Nat} (h : a.grownBy w row) : a.grownBy w.drew row := ⟨h.os, h.tape, h.output, h.size, h.block⟩
theorem only_alloc {a w : World} {row : Option Nat} (h : a.grownBy w row) (o : Obj) : a.grownBy (w.alloc o) row :=
  ⟨h.os, h.tape, h.output, Nat.le_trans h.size (by simp), fun i hi hne => (Below.heap_alloc w o i (Nat.lt_of_lt_of_le hi h.size)).trans (h.block i hi hne)⟩
theorem only_setCell {a w : World} {g : Nat} (h : a.grownBy w (some g)) {p : Addr} (hp : p.block = g ∨ a.heap.size ≤ p.block) (u : Value) : a.grownBy (w.setCell p u) (some g) :=
  ⟨h.os, h.tape, h.output, by simpa [World.setCell] using h.size, fun i hi hne => (Below.heap_setCell w p u i (by
    rintro rfl
    rcases hp with hp | hp
    · exact hne (by rw [hp])
    · omega)).trans (h.block i hi hne)⟩
theorem only_setCells {a : World} {g : Nat} : ∀ (vs : List Value) (o : Nat) (w : World), a.grownBy w (some g) → a.grownBy (w.setCells g o vs) (some g)
  | [], _, _, h => h
  | v :: r, o, w, h => only_setCells r (o + 1) _ (only_setCell h (.inl rfl) v)
theorem only_below {a w w' : World} {row : Option Nat} (h : a.grownBy w row) (hb : Below w.heap.size w w') : a.grownBy w' row :=
  ⟨hb.os.trans h.os, hb.tape.trans h.tape, hb.output.trans h.output, Nat.le_trans h.size hb.size, fun i hi hn => (hb.block i (Nat.lt_of_lt_of_le hi h.size)).trans (h.block i hi hn)⟩
theorem only_trans {a b c : World} {g : Nat} (h : a.grownBy b (some g)) (k : b.grownBy c (some g)) : a.grownBy c (some g) :=
  ⟨k.os.trans h.os, k.tape.trans h.tape, k.output.trans h.output, Nat.le_trans h.size k.size, fun i hi hn => (k.block i (Nat.lt_of_lt_of_le hi h.size) hn).trans (h.block i hi hn)⟩
theorem only_new {B : Nat} {a b c : World} {g : Nat} (h : Below B a b) (k : b.grownBy c (some g)) (hB : B ≤ a.heap.size) (hg : B ≤ g) : Below B a c :=
  ⟨k.os.trans h.os, k.tape.trans h.tape, k.output.trans h.output, Nat.le_trans h.size k.size, fun i hi => (k.block i (by have := h.size; omega) (by simp; omega)).trans (h.block i hi)⟩

/-- the two tables of sha -/
structure Tab (w : World) : Prop where
  k : ∃ TK, w.heap[1]? = some (.cells (cw .u32 KT) TK (0, 0))
  s : ∃ TS, w.heap[0]? = some (.cells (cw .u32 ST) TS (0, 0))
theorem Tab.two {w : World} (h : Tab w) : 2 ≤ w.heap.size := by
  obtain ⟨⟨TK, g⟩, TS, h⟩ := h
  rcases Nat.lt_or_ge 0 w.heap.size with h1 | h1
  · rcases Nat.lt_or_ge 1 w.heap.size with h2 | h2
    · omega
    · rw [Array.getElem?_eq_none h2] at g; cases g
  · rw [Array.getElem?_eq_none h1] at h; cases h
theorem Tab.only {w w' : World} {g : Nat} (h : Tab w) (hg : 2 ≤ g) (ho : w.grownBy w' (some g)) : Tab w' := by
  have := h.two
  obtain ⟨⟨TK, h1⟩, TS, h2⟩ := h
  exact ⟨⟨TK, (ho.block 1 (by omega) (by simp; omega)).trans h1⟩, TS, (ho.block 0 (by omega) (by simp; omega)).trans h2⟩
theorem Tab.below {w w' : World} {B : Nat} (h : Tab w) (hb : Below B w w') (hB : 2 ≤ B) : Tab w' := by
  obtain ⟨⟨TK, h1⟩, TS, h2⟩ := h
  exact ⟨⟨TK, (hb.block 1 (by omega)).trans h1⟩, TS, (hb.block 0 (by omega)).trans h2⟩

/-- block g is a State with these fields -/
structure IsSt (w : World) (g n : Nat) (h buf : List Nat) (used : Nat) : Prop where
  row : w.heap[g]? = some (.cells (stc n h buf used).toArray 77 (0, 0))
  h8 : h.length = 8
  b64 : buf.length = 64
theorem IsSt.lt {w : World} {g n : Nat} {h buf : List Nat} {used : Nat} (H : IsSt w g n h buf used) : g < w.heap.size := by
  rcases Nat.lt_or_ge g w.heap.size with h1 | h1
  · exact h1
  · have := H.row; rw [Array.getElem?_eq_none h1] at this; cases this
theorem IsSt.cell0 {w : World} {g n : Nat} {h buf : List Nat} {used : Nat} (H : IsSt w g n h buf used) : w.cell? ⟨g, 0, none⟩ = some (.int .i64 (n : Int)) := by
  rw [cell_of_row w g 0 _ _ _ H.row]; rfl
theorem IsSt.cell73 {w : World} {g n : Nat} {h buf : List Nat} {used : Nat} (H : IsSt w g n h buf used) : w.cell? ⟨g, 73, none⟩ = some (.int .i64 (used : Int)) := by
  rw [cell_of_row w g 73 _ _ _ H.row]
  have hh := H.h8
  have hb := H.b64
  simp [stc, cl, hh, hb]
theorem IsSt.free {w : World} {g n : Nat} {h buf : List Nat} {used : Nat} (H : IsSt w g n h buf used) (i : Nat) : w.frozen? ⟨g, i, none⟩ = false := frozen_of_row w g i _ _ H.row
theorem IsSt.rangeH {w : World} {g n : Nat} {h buf : List Nat} {used : Nat} (H : IsSt w g n h buf used) : w.rangeAt g 1 (cl .u32 h) := by
  intro j v hv
  have hj : j < (cl .u32 h).length := (List.getElem?_eq_some_iff.1 hv).1
  rw [cell_of_row w g _ _ _ _ H.row, List.getElem?_toArray, stc, show 1 + j = j + 1 by omega, List.getElem?_cons_succ, List.getElem?_append_left hj]
  exact hv
theorem IsSt.rangeB {w : World} {g n : Nat} {h buf : List Nat} {used : Nat} (H : IsSt w g n h buf used) : w.rangeAt g 9 (cl .u8 buf) := by
  intro j v hv
  have hj : j < (cl .u8 buf).length := (List.getElem?_eq_some_iff.1 hv).1
  have hh := H.h8
  rw [cell_of_row w g _ _ _ _ H.row, List.getElem?_toArray, stc, show 9 + j = (8 + j) + 1 by omega, List.getElem?_cons_succ, List.getElem?_append_right (by rw [cl_length]; omega), cl_length, hh, show 8 + j - 8 = j by omega, List.getElem?_append_left hj]
  exact hv
theorem IsSt.there {w : World} {g n : Nat} {h buf : List Nat} {used : Nat} (H : IsSt w g n h buf used) (o m : Nat) (hm : o + m ≤ 74) : w.there g o m := by
  intro j hj
  refine ⟨?_, H.free _⟩
  rw [cell_of_row w g _ _ _ _ H.row, List.getElem?_toArray, List.getElem?_eq_getElem (by rw [stc_length H.h8 H.b64]; omega)]
  rfl
theorem IsSt.set0 {w : World} {g n : Nat} {h buf : List Nat} {used : Nat} (H : IsSt w g n h buf used) (m : Nat) : IsSt (w.setCell ⟨g, 0, none⟩ (.int .i64 (m : Int))) g m h buf used := by
  refine ⟨?_, H.h8, H.b64⟩
  rw [heap_setCell_same w g 0 _ _ _ H.row]
  simp [stc]
theorem IsSt.set73 {w : World} {g n : Nat} {h buf : List Nat} {used : Nat} (H : IsSt w g n h buf used) (m : Nat) : IsSt (w.setCell ⟨g, 73, none⟩ (.int .i64 (m : Int))) g n h buf m := by
  refine ⟨?_, H.h8, H.b64⟩
  rw [heap_setCell_same w g 73 _ _ _ H.row]
  have e1 : (cl .u32 h).length = 8 := by rw [cl_length, H.h8]
  have e2 : (cl .u8 buf).length = 64 := by rw [cl_length, H.b64]
  congr 2
  simp only [stc, List.setIfInBounds_toArray, List.set_cons_succ]
  rw [List.set_append_right _ _ (by omega), List.set_append_right _ _ (by omega), e1, e2]
  rfl
theorem IsSt.setH {w : World} {g n : Nat} {h buf : List Nat} {used : Nat} (H : IsSt w g n h buf used) (h' : List Nat) (hl : h'.length = 8) : IsSt (w.setCells g 1 (cl .u32 h')) g n h' buf used := by
  have e1 : (cl .u32 h).length = 8 := by rw [cl_length, H.h8]
  have e2 : (cl .u32 h').length = 8 := by rw [cl_length, hl]
  refine ⟨?_, hl, H.b64⟩
  rw [heap_setCells _ _ _ _ H.row (by rw [stc_length H.h8 H.b64, e2]; omega)]
  congr 2
  simp only [splice, e2, stc, List.take_succ_cons, List.take_zero, List.drop_succ_cons, List.cons_append, List.nil_append]
  rw [List.drop_left' e1]
theorem IsSt.setB {w : World} {g n : Nat} {h buf : List Nat} {used : Nat} (H : IsSt w g n h buf used) (o : Nat) (u : List Nat) (hl : o + u.length ≤ 64) : IsSt (w.setCells g (9 + o) (cl .u8 u)) g n h (over buf o u) used := by
  have e1 : (cl .u32 h).length = 8 := by rw [cl_length, H.h8]
  have hb := H.b64
  refine ⟨?_, H.h8, by rw [over_length _ _ _ (by omega), hb]⟩
  rw [heap_setCells _ _ _ _ H.row (by rw [stc_length H.h8 H.b64, cl_length]; omega)]
  congr 2
  simp only [splice, cl_length, stc]
  rw [show 9 + o = (8 + o) + 1 by omega, show 8 + o + 1 + u.length = (8 + o + u.length) + 1 by omega, List.take_succ_cons, List.drop_succ_cons]
  rw [List.take_append, List.take_of_length_le (by omega), e1, show 8 + o - 8 = o by omega, List.drop_append, List.drop_eq_nil_of_le (by omega), e1, show 8 + o + u.length - 8 = o + u.length by omega]
  rw [List.take_append_of_le_length (by rw [cl_length]; omega), List.drop_append_of_le_length (by rw [cl_length]; omega)]
  simp only [over, cl, List.map_append, List.map_take, List.map_drop, List.append_assoc, List.cons_append, List.nil_append]
theorem IsSt.far {w w' : World} {g n : Nat} {h buf : List Nat} {used : Nat} (H : IsSt w g n h buf used) (e : w'.heap[g]? = w.heap[g]?) : IsSt w' g n h buf used := ⟨e.trans H.row, H.h8, H.b64⟩
theorem IsSt.below {w w' : World} {B g n : Nat} {h buf : List Nat} {used : Nat} (H : IsSt w g n h buf used) (hb : Below B w w') (hg : g < B) : IsSt w' g n h buf used := H.far (hb.block g hg)

/-- block g is a State in which the text T has been written -/
def StAt (w : World) (g : Nat) (T : List Nat) : Prop := ∃ n h buf used, IsSt w g n h buf used ∧ Stt T n h buf used
theorem StAt.far {w w' : World} {g : Nat} {T : List Nat} (H : StAt w g T) (e : w'.heap[g]? = w.heap[g]?) : StAt w' g T := by
  obtain ⟨n, h, buf, used, h1, h2⟩ := H
  exact ⟨n, h, buf, used, h1.far e, h2⟩
theorem StAt.lt {w : World} {g : Nat} {T : List Nat} (H : StAt w g T) : g < w.heap.size := by
  obtain ⟨n, h, buf, used, h1, _⟩ := H
  exact h1.lt
theorem StAt.below {w w' : World} {B g : Nat} {T : List Nat} (H : StAt w g T) (hb : Below B w w') (hg : g < B) : StAt w' g T := H.far (hb.block g hg)
theorem StAt.only {w w' : World} {g g' : Nat} {T : List Nat} (H : StAt w g T) (ho : w.grownBy w' (some g')) (hg : g ≠ g') : StAt w' g T := H.far (ho.block g H.lt (by simp; omega))
end Go.Proofs.YtlcppkcclolgcaaDoor.Hs

namespace Go.Proofs.YtlcppkcclolgcaaDoor.Hs
set_option maxRecDepth 20000
set_option linter.unusedVariables false
set_option linter.unusedSimpArgs false
open Go.RowKit

theorem only_setG {a w : World} {g : Nat} (h : a.grownBy w (some g)) (i : Nat) (u : Value) : a.grownBy (w.setCell ⟨g, i, none⟩ u) (some g) := only_setCell (p := ⟨g, i, none⟩) h (.inl rfl) u

/-- what took leaves: the fields, and all else as it was -/
def StOut (w : World) (g n : Nat) (h buf : List Nat) (used : Nat) (e : Ending) (w' : World) : Prop := e = .returned (.tuple #[]) ∧ IsSt w' g n h buf used ∧ w.grownBy w' (some g)

set_option maxRecDepth 100000 in
set_option maxHeartbeats 1000000 in
theorem took_part (g n m used : Nat) (h buf : List Nat) (w : World) (hst : IsSt w g n h buf used) (hn : n + m < 9223372036854775807) (hlt : used + m < 64) :
    Calls Tryd.prog 30 #[.pointer (some ⟨g, 0, none⟩), .int .i64 (m : Int)] w (StOut w g (n + m) h buf (used + m)) := by
  have s1 := hst.set0 (n + m)
  have s2 := s1.set73 (used + m)
  have c0 := hst.cell0
  have f0 := hst.free 0
  have c1 := s1.cell73
  have f1 := s1.free 73
  have ho : w.grownBy ((w.setCell ⟨g, 0, none⟩ (.int .i64 ((n + m : Nat) : Int))).setCell ⟨g, 73, none⟩ (.int .i64 ((used + m : Nat) : Int))) (some g) :=
    only_setG (only_setG (World.grownBy.refl w _) _ _) _ _
  have S2 := Lib.hid s2
  have HO := Lib.hid ho
  have hne : (((used : Int) + m) == 64) = false := by rw [beq_eq_false_iff_ne]; omega
  simp only [Int.natCast_add] at c1 f1
  clear s1 s2 ho hst
  go_enter Tryd.func30, Tryd.ntmps30
  go_wp2_with fail
  go_end0
  exact ⟨rfl, S2.out, HO.out⟩

theorem block_row (h b : List Nat) (hl : h.length = 8) (hb : b.length = 64) (hs : Small h) (hy : Bytes b) (w : World) (hT : Tab w) :
    Calls Tryd.prog 50 #[.agg (cl .u32 h).toArray, .agg (cl .u8 b).toArray] w fun e w' => e = .returned (.agg (cl .u32 (blk KT h b)).toArray) ∧ Below w.heap.size w w' := by
  obtain ⟨a0, a1, a2, a3, a4, a5, a6, a7, hh⟩ : ∃ a0 a1 a2 a3 a4 a5 a6 a7, h = [a0, a1, a2, a3, a4, a5, a6, a7] := by
    match h, hl with
    | [a0, a1, a2, a3, a4, a5, a6, a7], _ => exact ⟨a0, a1, a2, a3, a4, a5, a6, a7, rfl⟩
  obtain ⟨TK, hK⟩ := hT.k
  exact block_any KT h b a0 a1 a2 a3 a4 a5 a6 a7 hh hb hs hy KT_length w hK

theorem info8s : (Tryd.prog.info? 74).map (·.size) = some 8 := by kernel_rfl
theorem info64s : (Tryd.prog.info? 75).map (·.size) = some 64 := by kernel_rfl

/-- what stands while the block is worked out -/
structure TkH (w0 : World) (g n : Nat) (h buf : List Nat) (used : Nat) (w' : World) : Prop where
  st : IsSt w' g n h buf used
  tab : Tab w'
  ot : w0.grownBy w' (some g)

set_option maxRecDepth 100000 in
set_option maxHeartbeats 2000000 in
theorem took_full (g n m used : Nat) (h buf : List Nat) (w : World) (hst : IsSt w g n h buf used) (hs : Small h) (hy : Bytes buf) (hT : Tab w) (hg : 2 ≤ g) (hn : n + m < 9223372036854775807) (heq : used + m = 64) :
    Calls Tryd.prog 30 #[.pointer (some ⟨g, 0, none⟩), .int .i64 (m : Int)] w (StOut w g (n + m) (blk KT h buf) buf 0) := by
  have h8 := hst.h8
  have b64 := hst.b64
  have s1 := hst.set0 (n + m)
  have s2 := s1.set73 (used + m)
  have c0 := hst.cell0
  have f0 := hst.free 0
  have c1 := s1.cell73
  have f1 := s1.free 73
  have ho : w.grownBy ((w.setCell ⟨g, 0, none⟩ (.int .i64 ((n + m : Nat) : Int))).setCell ⟨g, 73, none⟩ (.int .i64 ((used + m : Nat) : Int))) (some g) :=
    only_setG (only_setG (World.grownBy.refl w _) _ _) _ _
  have S2 : Hid (TkH w g (n + m) h buf (used + m) ((w.setCell ⟨g, 0, none⟩ (.int .i64 ((n + m : Nat) : Int))).setCell ⟨g, 73, none⟩ (.int .i64 ((used + m : Nat) : Int)))) := Lib.hid ⟨s2, hT.only hg ho, ho⟩
  have heI : (((used : Int) + m) == 64) = true := by rw [beq_iff_eq]; omega
  have i8 : (Tryd.prog.info? 74).map (·.size) = some (cl .u32 h).length := by rw [cl_length, h8]; exact info8s
  have i64 : (Tryd.prog.info? 75).map (·.size) = some (cl .u8 buf).length := by rw [cl_length, b64]; exact info64s
  have hbl := blk_len h buf h8 hs
  have hu1 : used + m ≤ 64 := by omega
  simp only [Int.natCast_add] at c1 f1 S2
  clear s1 s2 ho hst heq
  go_enter Tryd.func30, Tryd.ntmps30
  go_wp2_with fail
  have hd := S2.out
  generalize (w.setCell ⟨g, 0, none⟩ (.int .i64 ((n : Int) + m))).setCell ⟨g, 73, none⟩ (.int .i64 ((used : Int) + m)) = W at *
  clear S2 c0 f0 c1 f1
  have hd2 : TkH w g (n + m) h buf (used + m) W.drew := ⟨⟨hd.st.row, h8, b64⟩, ⟨hd.tab.k, hd.tab.s⟩, only_drew hd.ot⟩
  clear hd
  refine wp_region_any (by kernel_rfl) ?_
  change wpAny _ _ _ _ _ _ _ (World.drew _)
  generalize W.drew = W2 at *
  refine wpAny_take (i := 0) (oi := _) (v := (.pointer (some ⟨g, 0, none⟩))) rfl (by kernel_rfl) (by kernel_rfl) (by kernel_rfl) (fun _ _ _ h => h) (Or.inl ⟨by rfl, fun w' => by go_simp⟩) ?_
  try simp only [Act.put, List.getElem_toArray, List.getElem_cons_succ, List.getElem_cons_zero, List.setIfInBounds_toArray, List.set_cons_zero, List.set_cons_succ]
  refine wpAny_take (i := 1) (oi := _) (v := (.pointer (some ⟨g, 0, none⟩))) rfl (by kernel_rfl) (by kernel_rfl) (by kernel_rfl) (fun _ _ _ h => h) (Or.inl ⟨by rfl, fun w' => by go_simp⟩) ?_
  try simp only [Act.put, List.getElem_toArray, List.getElem_cons_succ, List.getElem_cons_zero, List.setIfInBounds_toArray, List.set_cons_zero, List.set_cons_succ]
  refine wpAny_take (i := 2) (oi := _) (v := (.pointer (some ⟨g, 0, none⟩))) rfl (by kernel_rfl) (by kernel_rfl) (by kernel_rfl) (fun _ _ _ h => h) (Or.inl ⟨by rfl, fun w' => by go_simp⟩) ?_
  try simp only [Act.put, List.getElem_toArray, List.getElem_cons_succ, List.getElem_cons_zero, List.setIfInBounds_toArray, List.set_cons_zero, List.set_cons_succ]
  refine wpAny_take (i := 3) (oi := _) (v := (.pointer (some ⟨g, 1, none⟩))) rfl (by kernel_rfl) (by kernel_rfl) (by kernel_rfl) (fun _ _ _ h => h) (Or.inl ⟨by rfl, fun w' => by go_simp⟩) ?_
  try simp only [Act.put, List.getElem_toArray, List.getElem_cons_succ, List.getElem_cons_zero, List.setIfInBounds_toArray, List.set_cons_zero, List.set_cons_succ]
  refine wpAny_take (i := 5) (oi := _) (v := (.pointer (some ⟨g, 0, none⟩))) rfl (by kernel_rfl) (by kernel_rfl) (by kernel_rfl) (fun _ _ _ h => h) (Or.inl ⟨by rfl, fun w' => by go_simp⟩) ?_
  try simp only [Act.put, List.getElem_toArray, List.getElem_cons_succ, List.getElem_cons_zero, List.setIfInBounds_toArray, List.set_cons_zero, List.set_cons_succ]
  refine wpAny_take (i := 6) (oi := _) (v := (.pointer (some ⟨g, 0, none⟩))) rfl (by kernel_rfl) (by kernel_rfl) (by kernel_rfl) (fun _ _ _ h => h) (Or.inl ⟨by rfl, fun w' => by go_simp⟩) ?_
  try simp only [Act.put, List.getElem_toArray, List.getElem_cons_succ, List.getElem_cons_zero, List.setIfInBounds_toArray, List.set_cons_zero, List.set_cons_succ]
  refine wpAny_take (i := 7) (oi := _) (v := (.pointer (some ⟨g, 9, none⟩))) rfl (by kernel_rfl) (by kernel_rfl) (by kernel_rfl) (fun _ _ _ h => h) (Or.inl ⟨by rfl, fun w' => by go_simp⟩) ?_
  try simp only [Act.put, List.getElem_toArray, List.getElem_cons_succ, List.getElem_cons_zero, List.setIfInBounds_toArray, List.set_cons_zero, List.set_cons_succ]
  refine wpAny_ready (rs := [4, 8]) (by kernel_rfl) (by simp) ?_
  refine AllReady.cons (o := _) rfl (fun K hK => ?_) (AllReady.cons (o := _) rfl (fun K hK => ?_) AllReady.nil)
  all_goals rw [if_pos (by rfl)]
  · refine wp_load_mid _ _ rfl g 1 rfl (cl .u32 h) _ hd2.st.rangeH Tryd.underlying74 rfl i8 ?_
    refine hK _ _ ?_
    clear hK K
    try simp only [Act.put, List.getElem_toArray, List.getElem_cons_succ, List.getElem_cons_zero, List.setIfInBounds_toArray, List.set_cons_zero, List.set_cons_succ]
    refine wpAny_ready (rs := [8]) (by kernel_rfl) (by simp) ?_
    refine AllReady.cons (o := _) rfl (fun K hK => ?_) AllReady.nil
    rw [if_pos (by rfl)]
    refine wp_load_mid _ _ rfl g 9 rfl (cl .u8 buf) _ hd2.st.rangeB Tryd.underlying75 rfl i64 ?_
    refine hK _ _ ?_
    clear hK K
    try simp only [Act.put, List.getElem_toArray, List.getElem_cons_succ, List.getElem_cons_zero, List.setIfInBounds_toArray, List.set_cons_zero, List.set_cons_succ]
    refine wpAny_ready (rs := [9]) (by kernel_rfl) (by simp) ?_
    refine AllReady.cons (o := _) rfl (fun K hK => ?_) AllReady.nil
    rw [if_pos (by rfl)]
    go_simp
    go_at_call 50
    refine (block_row h buf h8 b64 hs hy _ hd2.tab).mono ?_
    rintro e w1 ⟨rfl, hbel⟩
    refine hK _ _ ?_
    clear hK K
    try dsimp only
    try simp only [Act.put, List.getElem_toArray, List.getElem_cons_succ, List.getElem_cons_zero, List.setIfInBounds_toArray, List.set_cons_zero, List.set_cons_succ]
    have hd3 : TkH w g (n + m) h buf (used + m) w1 := ⟨hd2.st.below hbel hd2.st.lt, hd2.tab.below hbel hd2.tab.two, only_below hd2.ot hbel⟩
    clear hd2 hbel W2
    refine wpAny_take (i := 10) (oi := _) (v := (.pointer (some ⟨g, 0, none⟩))) rfl (by kernel_rfl) (by kernel_rfl) (by kernel_rfl) (fun _ _ _ h => h) (Or.inl ⟨by rfl, fun w' => by go_simp⟩) ?_
    try simp only [Act.put, List.getElem_toArray, List.getElem_cons_succ, List.getElem_cons_zero, List.setIfInBounds_toArray, List.set_cons_zero, List.set_cons_succ]
    refine wpAny_take (i := 11) (oi := _) (v := (.pointer (some ⟨g, 1, none⟩))) rfl (by kernel_rfl) (by kernel_rfl) (by kernel_rfl) (fun _ _ _ h => h) (Or.inl ⟨by rfl, fun w' => by go_simp⟩) ?_
    try simp only [Act.put, List.getElem_toArray, List.getElem_cons_succ, List.getElem_cons_zero, List.setIfInBounds_toArray, List.set_cons_zero, List.set_cons_succ]
    refine wpAny_ready (rs := [12]) (by kernel_rfl) (by simp) ?_
    refine AllReady.cons (o := _) rfl (fun K hK => ?_) AllReady.nil
    rw [if_pos (by rfl)]
    refine wp_store_mid _ _ _ rfl g 1 (cl .u32 (blk KT h buf)).toArray rfl rfl (hd3.st.there 1 _ (by simp [cl, hbl])) (by rw [List.size_toArray, cl_length, hbl]; exact info8s) (all_oneCell_toArray (cl_one _ _)) ?_
    refine hK _ _ ?_
    clear hK K
    try simp only [Act.put, List.getElem_toArray, List.getElem_cons_succ, List.getElem_cons_zero, List.setIfInBounds_toArray, List.set_cons_zero, List.set_cons_succ]
    refine wpAny_done (by kernel_rfl) ?_ _
    have st4 : IsSt (w1.setCells g 1 (cl .u32 (blk KT h buf))) g (n + m) (blk KT h buf) buf (used + m) := hd3.st.setH _ hbl
    have ot4 : w.grownBy (w1.setCells g 1 (cl .u32 (blk KT h buf))) (some g) := only_setCells _ _ _ hd3.ot
    clear hd3
    try simp only [List.toList_toArray]
    generalize w1.setCells g 1 (cl .u32 (blk KT h buf)) = W4 at *
    have c73 := st4.cell73
    have f73 := st4.free 73
    have st5 := st4.set73 0
    have ot5 := only_setG ot4 73 (.int .i64 ((0 : Nat) : Int))
    have S5 := Lib.hid st5
    have O5 := Lib.hid ot5
    clear st4 ot4 st5 ot5
    go_wp2_with fail
    go_end0
    exact ⟨rfl, S5.out, O5.out⟩
  · refine wp_load_mid _ _ rfl g 9 rfl (cl .u8 buf) _ hd2.st.rangeB Tryd.underlying75 rfl i64 ?_
    refine hK _ _ ?_
    clear hK K
    try simp only [Act.put, List.getElem_toArray, List.getElem_cons_succ, List.getElem_cons_zero, List.setIfInBounds_toArray, List.set_cons_zero, List.set_cons_succ]
    refine wpAny_ready (rs := [4]) (by kernel_rfl) (by simp) ?_
    refine AllReady.cons (o := _) rfl (fun K hK => ?_) AllReady.nil
    rw [if_pos (by rfl)]
    refine wp_load_mid _ _ rfl g 1 rfl (cl .u32 h) _ hd2.st.rangeH Tryd.underlying74 rfl i8 ?_
    refine hK _ _ ?_
    clear hK K
    try simp only [Act.put, List.getElem_toArray, List.getElem_cons_succ, List.getElem_cons_zero, List.setIfInBounds_toArray, List.set_cons_zero, List.set_cons_succ]
    refine wpAny_ready (rs := [9]) (by kernel_rfl) (by simp) ?_
    refine AllReady.cons (o := _) rfl (fun K hK => ?_) AllReady.nil
    rw [if_pos (by rfl)]
    go_simp
    go_at_call 50
    refine (block_row h buf h8 b64 hs hy _ hd2.tab).mono ?_
    rintro e w1 ⟨rfl, hbel⟩
    refine hK _ _ ?_
    clear hK K
    try dsimp only
    try simp only [Act.put, List.getElem_toArray, List.getElem_cons_succ, List.getElem_cons_zero, List.setIfInBounds_toArray, List.set_cons_zero, List.set_cons_succ]
    have hd3 : TkH w g (n + m) h buf (used + m) w1 := ⟨hd2.st.below hbel hd2.st.lt, hd2.tab.below hbel hd2.tab.two, only_below hd2.ot hbel⟩
    clear hd2 hbel W2
    refine wpAny_take (i := 10) (oi := _) (v := (.pointer (some ⟨g, 0, none⟩))) rfl (by kernel_rfl) (by kernel_rfl) (by kernel_rfl) (fun _ _ _ h => h) (Or.inl ⟨by rfl, fun w' => by go_simp⟩) ?_
    try simp only [Act.put, List.getElem_toArray, List.getElem_cons_succ, List.getElem_cons_zero, List.setIfInBounds_toArray, List.set_cons_zero, List.set_cons_succ]
    refine wpAny_take (i := 11) (oi := _) (v := (.pointer (some ⟨g, 1, none⟩))) rfl (by kernel_rfl) (by kernel_rfl) (by kernel_rfl) (fun _ _ _ h => h) (Or.inl ⟨by rfl, fun w' => by go_simp⟩) ?_
    try simp only [Act.put, List.getElem_toArray, List.getElem_cons_succ, List.getElem_cons_zero, List.setIfInBounds_toArray, List.set_cons_zero, List.set_cons_succ]
    refine wpAny_ready (rs := [12]) (by kernel_rfl) (by simp) ?_
    refine AllReady.cons (o := _) rfl (fun K hK => ?_) AllReady.nil
    rw [if_pos (by rfl)]
    refine wp_store_mid _ _ _ rfl g 1 (cl .u32 (blk KT h buf)).toArray rfl rfl (hd3.st.there 1 _ (by simp [cl, hbl])) (by rw [List.size_toArray, cl_length, hbl]; exact info8s) (all_oneCell_toArray (cl_one _ _)) ?_
    refine hK _ _ ?_
    clear hK K
    try simp only [Act.put, List.getElem_toArray, List.getElem_cons_succ, List.getElem_cons_zero, List.setIfInBounds_toArray, List.set_cons_zero, List.set_cons_succ]
    refine wpAny_done (by kernel_rfl) ?_ _
    have st4 : IsSt (w1.setCells g 1 (cl .u32 (blk KT h buf))) g (n + m) (blk KT h buf) buf (used + m) := hd3.st.setH _ hbl
    have ot4 : w.grownBy (w1.setCells g 1 (cl .u32 (blk KT h buf))) (some g) := only_setCells _ _ _ hd3.ot
    clear hd3
    try simp only [List.toList_toArray]
    generalize w1.setCells g 1 (cl .u32 (blk KT h buf)) = W4 at *
    have c73 := st4.cell73
    have f73 := st4.free 73
    have st5 := st4.set73 0
    have ot5 := only_setG ot4 73 (.int .i64 ((0 : Nat) : Int))
    have S5 := Lib.hid st5
    have O5 := Lib.hid ot5
    clear st4 ot4 st5 ot5
    go_wp2_with fail
    go_end0
    exact ⟨rfl, S5.out, O5.out⟩
end Go.Proofs.YtlcppkcclolgcaaDoor.Hs
