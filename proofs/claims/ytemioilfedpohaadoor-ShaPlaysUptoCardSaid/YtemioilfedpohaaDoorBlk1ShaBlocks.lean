/- The walk of sha.Block: for every eight words and every 64 bytes. -/
import Derived.Test.YtemioilfedpohaaDoorBspecShaBlocks
import Derived.WalkKit
import Derived.WalkSpells
import Derived.WalkLawsBesides
import Derived.Deep.QuietTactic
import Derived.BigQuiet
import Derived.StillTailTactics
import Derived.Deep.LoopGhost
import Derived.Laws.CopyOwn
import Derived.Outline
namespace Go.Proofs.YtemioilfedpohaaDoor
open Go.RowKit

theorem byte_or (x0 x1 x2 x3 : Nat) (h0 : x0 < 256) (h1 : x1 < 256) (h2 : x2 < 256) (h3 : x3 < 256) :
    IntKind.u32.wrap (x0 : Int) = x0 ∧ IntKind.u32.wrap ((x0 : Int) * 16777216) = (x0 : Int) * 16777216 ∧
    IntKind.u32.wrap (x1 : Int) = x1 ∧ IntKind.u32.wrap ((x1 : Int) * 65536) = (x1 : Int) * 65536 ∧
    IntKind.u32.wrap (x2 : Int) = x2 ∧ IntKind.u32.wrap ((x2 : Int) * 256) = (x2 : Int) * 256 ∧ IntKind.u32.wrap (x3 : Int) = x3 ∧
    bits .or .u32 (bits .or .u32 (bits .or .u32 ((x0 : Int) * 16777216) ((x1 : Int) * 65536)) ((x2 : Int) * 256)) (x3 : Int) = ((x0 * 16777216 + x1 * 65536 + x2 * 256 + x3 : Nat) : Int) := by
  refine ⟨?_, ?_, ?_, ?_, ?_, ?_, ?_, ?_⟩
  · rw [IntKind.wrap_u32']; omega
  · rw [IntKind.wrap_u32']; omega
  · rw [IntKind.wrap_u32']; omega
  · rw [IntKind.wrap_u32']; omega
  · rw [IntKind.wrap_u32']; omega
  · rw [IntKind.wrap_u32']; omega
  · rw [IntKind.wrap_u32']; omega
  · rw [show (x0 : Int) * 16777216 = ((x0 * 16777216 : Nat) : Int) by omega, show (x1 : Int) * 65536 = ((x1 * 65536 : Nat) : Int) by omega, show (x2 : Int) * 256 = ((x2 * 256 : Nat) : Int) by omega,
      u32_or_nat _ _ (by omega) (by omega), nat_join 24 _ _ (by omega) (by omega), u32_or_nat _ _ (by omega) (by omega), nat_join 16 _ _ (by omega) (by omega), u32_or_nat _ _ (by omega) (by omega), nat_join 8 _ _ (by omega) (by omega)]

theorem right_at (x : Nat) (N : Int) (hx : x < 4294967296) (h1 : 1 ≤ N) (h2 : N ≤ 31) (w : World) :
    Calls Tryd.prog 28 #[.int .u32 (x : Int), .int .u64 N] w fun e w' => e = .returned (.int .u32 (rot x N.toNat : Int)) ∧ ∃ m, w' = w.drewN m := by
  obtain ⟨n, rfl⟩ : ∃ n : Nat, N = n := ⟨N.toNat, by omega⟩
  rw [Int.toNat_natCast]
  exact right_any x n hx (by omega) (by omega) w

theorem quiet2 {P : Program} {f : FuncId} {args : Array Value} {w : World} {a n : Nat} {v : Value} (h : ∀ W, Calls P f args W fun e w' => e = .returned v ∧ ∃ m, w' = W.drewN m) :
    Calls P f args (w.drewN (a + n)) fun e w'' => e = .returned v ∧ ∃ m, w'' = w.drewN (a + m) :=
  (h _).mono fun _ _ ⟨he, m, hm⟩ => ⟨he, n + m, by rw [hm, World.drewN_drewN, Nat.add_assoc]⟩

/-- the sums of the schedule -/
theorem sm_bits (x : Nat) (hx : x < 4294967296) :
    bits .xor .u32 (bits .xor .u32 (rot x 7 : Int) (rot x 18 : Int)) ((x : Int) / 8) = (sm0 x : Int) ∧ bits .xor .u32 (bits .xor .u32 (rot x 17 : Int) (rot x 19 : Int)) ((x : Int) / 1024) = (sm1 x : Int) := by
  have a := rot_lt x 7 hx
  have b := rot_lt x 18 hx
  have c := rot_lt x 17 hx
  have d := rot_lt x 19 hx
  rw [show (x : Int) / 8 = ((x / 8 : Nat) : Int) by omega, show (x : Int) / 1024 = ((x / 1024 : Nat) : Int) by omega, u32_xor_nat _ _ a b, u32_xor_nat _ _ (xor_lt a b) (by omega), u32_xor_nat _ _ c d, u32_xor_nat _ _ (xor_lt c d) (by omega)]
  exact ⟨rfl, rfl⟩

theorem sum4 (p q r s : Nat) : ∃ y : Nat, y = (p + q + r + s) % 4294967296 ∧ IntKind.u32.wrap (IntKind.u32.wrap (IntKind.u32.wrap ((p : Int) + q) + r) + s) = (y : Int) := by
  refine ⟨_, rfl, ?_⟩
  simp only [IntKind.wrap_u32']
  omega

/-- a row's cell, and that it may be written -/
theorem row_cell {w : World} {g : Nat} {k : IntKind} {xs : List Nat} {t : TypeId} (h : w.heap[g]? = some (.cells (cw k xs) t (0, 0))) (i : Nat) (hi : i < xs.length) : w.cell? ⟨g, i, none⟩ = some (.int k (xs.getD i 0 : Nat)) := by
  rw [cell_of_row w g i _ t _ h, cw_get k xs i hi]
theorem row_free {w : World} {g : Nat} {k : IntKind} {xs : List Nat} {t : TypeId} (h : w.heap[g]? = some (.cells (cw k xs) t (0, 0))) (i : Nat) : w.frozen? ⟨g, i, none⟩ = false := frozen_of_row w g i _ t h
theorem row_store {w : World} {g : Nat} {k : IntKind} {xs : List Nat} {t : TypeId} (h : w.heap[g]? = some (.cells (cw k xs) t (0, 0))) (i v : Nat) : (w.setCell ⟨g, i, none⟩ (.int k (v : Int))).heap[g]? = some (.cells (cw k (xs.set i v)) t (0, 0)) := by
  rw [heap_setCell_same w g i _ t _ h, cw_set]
theorem row_other {w : World} {g g' i : Nat} {v : Value} {o : Option Obj} (h : w.heap[g]? = o) (hne : g ≠ g') : (w.setCell ⟨g', i, none⟩ v).heap[g]? = o := by
  rw [heap_setCell_other w _ _ _ hne, h]

/-- what stands in memory while the block is worked out -/
structure Held (w wr : World) (h b ws : List Nat) : Prop where
  size : wr.heap.size = w.heap.size + 4
  hh : wr.heap[w.heap.size]? = some (.cells (cw .u32 h) 23 (0, 0))
  hb : wr.heap[w.heap.size + 1]? = some (.cells (cw .u8 b) 24 (0, 0))
  hr : wr.heap[w.heap.size + 2]? = some (.cells (cw .u32 [0, 0, 0, 0, 0, 0, 0, 0]) 23 (0, 0))
  hw : wr.heap[w.heap.size + 3]? = some (.cells (cw .u32 ws) 56 (0, 0))
  below : Below w.heap.size w wr

theorem Held.drew {w wr : World} {h b ws : List Nat} (H : Held w wr h b ws) (n : Nat) : Held w (wr.drewN n) h b ws :=
  ⟨H.size, H.hh, H.hb, H.hr, H.hw, ⟨H.below.os, H.below.tape, H.below.output, H.below.size, H.below.block⟩⟩
theorem Held.drew1 {w wr : World} {h b ws : List Nat} (H : Held w wr h b ws) : Held w wr.drew h b ws :=
  ⟨H.size, H.hh, H.hb, H.hr, H.hw, ⟨H.below.os, H.below.tape, H.below.output, H.below.size, H.below.block⟩⟩
theorem Held.store {w wr : World} {h b ws : List Nat} (H : Held w wr h b ws) (i v : Nat) : Held w (wr.setCell ⟨w.heap.size + 3, i, none⟩ (.int .u32 (v : Int))) h b (ws.set i v) :=
  ⟨by simpa [World.setCell] using H.size, row_other H.hh (by omega), row_other H.hb (by omega), row_other H.hr (by omega), row_store H.hw i v, H.below.setCell (by simp) _⟩

theorem round_bits (A B C E : Nat) (hA : A < 4294967296) (hB : B < 4294967296) (hE : E < 4294967296) :
    bits .xor .u32 (bits .xor .u32 (rot E 6 : Int) (rot E 11 : Int)) (rot E 25 : Int) = (bg1 E : Int) ∧ bits .xor .u32 (bits .xor .u32 (rot A 2 : Int) (rot A 13 : Int)) (rot A 22 : Int) = (bg0 A : Int) ∧
    (C < 4294967296 → bits .xor .u32 (bits .xor .u32 (bits .and .u32 (A : Int) (B : Int)) (bits .and .u32 (A : Int) (C : Int))) (bits .and .u32 (B : Int) (C : Int)) = (maj A B C : Int)) := by
  have a := rot_lt E 6 hE
  have b := rot_lt E 11 hE
  have c := rot_lt E 25 hE
  have d := rot_lt A 2 hA
  have e := rot_lt A 13 hA
  have f := rot_lt A 22 hA
  refine ⟨?_, ?_, fun hC => ?_⟩
  · rw [u32_xor_nat _ _ a b, u32_xor_nat _ _ (xor_lt a b) c]; rfl
  · rw [u32_xor_nat _ _ d e, u32_xor_nat _ _ (xor_lt d e) f]; rfl
  · rw [u32_and_nat _ _ hA hB, u32_and_nat _ _ hA hC, u32_and_nat _ _ hB hC, u32_xor_nat _ _ (and_lt' hA) (and_lt' hA), u32_xor_nat _ _ (xor_lt (and_lt' hA) (and_lt' hA)) (and_lt' hB)]; rfl

theorem ch_bits (E F G : Nat) (hE : E < 4294967296) (hF : F < 4294967296) (hG : G < 4294967296) :
    bits .xor .u32 (bits .and .u32 (E : Int) (F : Int)) (bits .and .u32 (bits .xor .u32 (if IntKind.u32.signed = true then -1 else IntKind.u32.max) (E : Int)) (G : Int)) = (chf E F G : Int) := by
  have e : (if IntKind.u32.signed = true then -1 else IntKind.u32.max : Int) = ((4294967295 : Nat) : Int) := by decide
  have hx : (4294967295 : Nat) ^^^ E = 4294967295 - E := by
    apply Nat.eq_of_testBit_eq
    intro i
    rw [Nat.testBit_xor, show 4294967295 - E = 2 ^ 32 - (E + 1) by omega, Nat.testBit_two_pow_sub_succ (by omega), show (4294967295 : Nat) = 2 ^ 32 - 1 by decide, Nat.testBit_two_pow_sub_one]
    by_cases hi : i < 32
    · simp [hi]
    · have h2 : E.testBit i = false := Nat.testBit_lt_two_pow (Nat.lt_of_lt_of_le (show E < 2 ^ 32 by omega) (Nat.pow_le_pow_right (by omega) (by omega)))
      simp [hi, h2]
  rw [e, u32_xor_nat _ _ (by omega) hE, hx, u32_and_nat _ _ hE hF, u32_and_nat _ _ (by omega) hG, u32_xor_nat _ _ (and_lt' hE) (and_lt' (by omega))]
  rfl

theorem one8 (a b c d e f g h : Int) : (#[.int .u32 a, .int .u32 b, .int .u32 c, .int .u32 d, .int .u32 e, .int .u32 f, .int .u32 g, .int .u32 h] : Array Value).all (·.oneCell') = true := by
  simp [Value.oneCell']

/-- the eight words behind j rounds -/
structure Rd (K ws h : List Nat) (j A B C D E F G Q : Nat) : Prop where
  eq : rnds K ws h j = [A, B, C, D, E, F, G, Q]
  a : A < 4294967296
  b : B < 4294967296
  c : C < 4294967296
  d : D < 4294967296
  e : E < 4294967296
  f : F < 4294967296
  g : G < 4294967296
  q : Q < 4294967296
theorem Rd.start {K ws h : List Nat} {A B C D E F G Q : Nat} (hh : h = [A, B, C, D, E, F, G, Q]) (hs : Small h) : Rd K ws h 0 A B C D E F G Q := by
  subst hh
  exact ⟨rfl, hs _ (by simp), hs _ (by simp), hs _ (by simp), hs _ (by simp), hs _ (by simp), hs _ (by simp), hs _ (by simp), hs _ (by simp)⟩

theorem Rd.next {K ws h : List Nat} {j A B C D E F G Q : Nat} (H : Rd K ws h j A B C D E F G Q) (k w x y : Nat) (hk : k = K.getD j 0) (hw : w = ws.getD j 0)
    (hx : x = ((Q + bg1 E + chf E F G + (k + w)) % 4294967296 + (bg0 A + maj A B C) % 4294967296) % 4294967296) (hy : y = (D + (Q + bg1 E + chf E F G + (k + w)) % 4294967296) % 4294967296) : Rd K ws h (j + 1) x A B C y E F G := by
  subst hk; subst hw; subst hx; subst hy
  exact ⟨by rw [rnds, H.eq, rnd], Nat.mod_lt _ (by omega), H.a, H.b, H.c, Nat.mod_lt _ (by omega), H.e, H.f, H.g⟩
theorem new_a (Q s c k w b m : Nat) : (((Q : Int) + s + c + k + w) % 4294967296 + ((b : Int) + m) % 4294967296) % 4294967296 = ((((Q + s + c + (k + w)) % 4294967296 + (b + m) % 4294967296) % 4294967296 : Nat) : Int) := by omega
theorem new_e (D Q s c k w : Nat) : ((D : Int) + ((Q : Int) + s + c + k + w) % 4294967296) % 4294967296 = (((D + (Q + s + c + (k + w)) % 4294967296) % 4294967296 : Nat) : Int) := by omega

set_option maxRecDepth 100000 in
set_option maxHeartbeats 4000000 in
theorem block_any {TK : TypeId} (K h b : List Nat) (h0 h1 h2 h3 h4 h5 h6 h7 : Nat) (hh : h = [h0, h1, h2, h3, h4, h5, h6, h7]) (hb : b.length = 64) (hs : Small h) (hy : Bytes b) (hKl : K.length = 64) (w : World)
    (hK : w.heap[0]? = some (.cells (cw .u32 K) TK (0, 0))) :
    Calls Tryd.prog 11 #[.agg (cw .u32 h), .agg (cw .u8 b)] w fun e w' => e = .returned (.agg (cw .u32 (blk K h b))) ∧ Below w.heap.size w w' := by
  have hst : Held w ((((w.alloc (.cells (cw .u32 h) 23)).alloc (.cells (cw .u8 b) 24)).alloc (.cells (cw .u32 [0, 0, 0, 0, 0, 0, 0, 0]) 23)).alloc (.cells (cw .u32 (List.replicate 64 0)) 56)) h b (W16 b 0) := by
    have e1 : ((((w.alloc (.cells (cw .u32 h) 23)).alloc (.cells (cw .u8 b) 24)).alloc (.cells (cw .u32 [0, 0, 0, 0, 0, 0, 0, 0]) 23)).alloc (.cells (cw .u32 (List.replicate 64 0)) 56)).heap = (((w.heap.push (.cells (cw .u32 h) 23)).push (.cells (cw .u8 b) 24)).push (.cells (cw .u32 [0, 0, 0, 0, 0, 0, 0, 0]) 23)).push (.cells (cw .u32 (List.replicate 64 0)) 56) := rfl
    refine ⟨by rw [e1]; simp, ?_, ?_, ?_, ?_, ((((Below.refl _ _).alloc (Nat.le_refl _) _).alloc (by simp) _).alloc (by simp; omega) _).alloc (by simp; omega) _⟩
    all_goals rw [e1]; simp only [Array.getElem?_push, Array.size_push]
    · rw [if_neg (by omega), if_neg (by omega), if_neg (by omega), if_pos trivial]
    · rw [if_neg (by omega), if_neg (by omega), if_pos trivial]
    · rw [if_neg (by omega), if_pos trivial]
    · rw [if_pos trivial]; rfl
  have HST := Lib.hid hst
  have HK := Lib.hid hK
  have hw0 : 0 < w.heap.size := by
    rcases Nat.eq_zero_or_pos w.heap.size with h | h
    · rw [Array.getElem?_eq_none (by omega)] at hK; cases hK
    · exact h
  have HHH := Lib.hid hh
  clear hst hK hh
  go_enter Tryd.func11, Tryd.ntmps11
  go_wp2_with fail
  go_loopw [23] (fun i wr => ∃ k : Nat, k ≤ 16 ∧ i = .int .i64 k ∧ Held w wr h b (W16 b k)) (fun i _ => 16 - (intOf i).toNat)
  case atStart => exact ⟨0, by omega, rfl, HST.out⟩
  case round =>
    obtain ⟨k, hk, rfl, hheld⟩ := hrel
    by_cases hlt : k < 16
    · have hl := W16_length b k
      have c0 := row_cell hheld.hb (4 * k) (by omega)
      have c1 := row_cell hheld.hb (4 * k + 1) (by omega)
      have c2 := row_cell hheld.hb (4 * k + 2) (by omega)
      have c3 := row_cell hheld.hb (4 * k + 3) (by omega)
      have c4 := row_cell hheld.hw k (by omega)
      have f4 := row_free hheld.hw k
      have hst := hheld.store k (word16 b k)
      have b0 := hy.get (4 * k)
      have b1 := hy.get (4 * k + 1)
      have b2 := hy.get (4 * k + 2)
      have b3 := hy.get (4 * k + 3)
      unfold word16 at hst
      obtain ⟨v0, v1, v2, v3, v4, v5, v6, v7⟩ := byte_or _ _ _ _ b0 b1 b2 b3
      obtain ⟨y, hy'⟩ : ∃ y : Nat, y = b.getD (4 * k) 0 * 16777216 + b.getD (4 * k + 1) 0 * 65536 + b.getD (4 * k + 2) 0 * 256 + b.getD (4 * k + 3) 0 := ⟨_, rfl⟩
      have eW : (W16 b k).set k y = W16 b (k + 1) := by rw [hy']; rfl
      rw [← hy'] at v7 hst
      rw [eW] at hst
      clear hy' eW
      have HST2 := Lib.hid hst
      have HHE := Lib.hid hheld
      clear hst hheld HST hl
      generalize b.getD (4 * k) 0 = x0 at *
      generalize b.getD (4 * k + 1) 0 = x1 at *
      generalize b.getD (4 * k + 2) 0 = x2 at *
      generalize b.getD (4 * k + 3) 0 = x3 at *
      have hk0 : (0 : Int) ≤ k := by omega
      have hk1 : (k : Int) < 64 := by omega
      have g0 : (0 : Int) ≤ 4 * k := by omega
      have g1 : (4 * k : Int) < 64 := by omega
      have g2 : (0 : Int) ≤ 4 * k + 1 := by omega
      have g3 : (4 * k + 1 : Int) < 64 := by omega
      have g4 : (0 : Int) ≤ 4 * k + 2 := by omega
      have g5 : (4 * k + 2 : Int) < 64 := by omega
      have g6 : (0 : Int) ≤ 4 * k + 3 := by omega
      have g7 : (4 * k + 3 : Int) < 64 := by omega
      have t0 : (4 * (k : Int)).toNat = 4 * k := by omega
      have t1 : (4 * (k : Int) + 1).toNat = 4 * k + 1 := by omega
      have t2 : (4 * (k : Int) + 2).toNat = 4 * k + 2 := by omega
      have t3 : (4 * (k : Int) + 3).toNat = 4 * k + 3 := by omega
      have w0 : IntKind.i64.wrap (4 * (k : Int)) = 4 * k := IntWalk.i64_in _ (by omega)
      have w1 : IntKind.i64.wrap (4 * (k : Int) + 1) = 4 * k + 1 := IntWalk.i64_in _ (by omega)
      have w2 : IntKind.i64.wrap (4 * (k : Int) + 2) = 4 * k + 2 := IntWalk.i64_in _ (by omega)
      have w3 : IntKind.i64.wrap (4 * (k : Int) + 3) = 4 * k + 3 := IntWalk.i64_in _ (by omega)
      go_wp2_with fail
      go_still_tail 31, (by kernel_rfl)
      clear g0 g1 g2 g3 g4 g5 g6 g7 t0 t1 t2 t3 w0 w1 w2 w3 b0 b1 b2 b3
      change wpList _ _ _ _ _ wr.drew
      go_wp2_with fail
      go_roundw
      case rel => exact ⟨k + 1, by omega, by go_num, HST2.out.drew1⟩
      case measure => simp [intOf]; omega
    · obtain rfl : k = 16 := by omega
      rw [show ((16 : Nat) : Int) = 16 from rfl]
      go_wp2_with fail
      go_loopw [7, 8, 9] (fun i _ _ wr => ∃ n : Nat, n ≤ 48 ∧ i = .int .i64 (16 + n : Nat) ∧ Held w wr h b (sch b n)) (fun i _ _ _ => 64 - (intOf i).toNat)
      case atStart => exact ⟨0, by omega, rfl, hheld⟩
      case round =>
        clear hheld hk HST hlt
        obtain ⟨n, hn, rfl, hheld⟩ := hrel
        by_cases hlt : n < 48
        · have hl := sch_length b n
          have hsm := sch_small hy n
          obtain ⟨i, hi⟩ : ∃ i : Nat, i = 16 + n := ⟨_, rfl⟩
          have eS : (sch b n).set i (nextW (sch b n) i) = sch b (n + 1) := by rw [hi]; rfl
          have c15 := row_cell hheld.hw (i - 15) (by omega)
          have c2 := row_cell hheld.hw (i - 2) (by omega)
          have c16 := row_cell hheld.hw (i - 16) (by omega)
          have c7 := row_cell hheld.hw (i - 7) (by omega)
          have ci := row_cell hheld.hw i (by omega)
          have fi := row_free hheld.hw i
          have s15 := hsm.get (i - 15)
          have s2 := hsm.get (i - 2)
          have hi16 : 16 ≤ i := by omega
          have hi64 : i < 64 := by omega
          unfold nextW at eS
          generalize (sch b n).getD (i - 15) 0 = x15 at *
          generalize (sch b n).getD (i - 2) 0 = x2 at *
          generalize (sch b n).getD (i - 16) 0 = x16 at *
          generalize (sch b n).getD (i - 7) 0 = x7 at *
          have m0 := (sm_bits x15 s15).1
          have m1 := (sm_bits x2 s2).2
          obtain ⟨y, hy', m2⟩ := sum4 x16 (sm0 x15) x7 (sm1 x2)
          rw [← hy'] at eS
          clear hy' hl hsm
          rw [← hi]
          have HI := Lib.hid hi
          have ES := Lib.hid eS
          have HHE := Lib.hid hheld
          clear hheld hi eS
          have r0 : (0 : Int) ≤ (i : Int) - 15 := by omega
          have r0' : (15 : Int) ≤ i := by omega
          have r1 : (i : Int) - 15 < 64 := by omega
          have r2 : (0 : Int) ≤ (i : Int) - 2 := by omega
          have r2' : (2 : Int) ≤ i := by omega
          have r3 : (i : Int) - 2 < 64 := by omega
          have r4 : (0 : Int) ≤ (i : Int) - 16 := by omega
          have r4' : (16 : Int) ≤ i := by omega
          have r5 : (i : Int) - 16 < 64 := by omega
          have r6 : (0 : Int) ≤ (i : Int) - 7 := by omega
          have r6' : (7 : Int) ≤ i := by omega
          have r7 : (i : Int) - 7 < 64 := by omega
          have r8 : (0 : Int) ≤ i := by omega
          have r9 : (i : Int) < 64 := by omega
          have t0 : ((i : Int) - 15).toNat = i - 15 := by omega
          have t1 : ((i : Int) - 2).toNat = i - 2 := by omega
          have t2 : ((i : Int) - 16).toNat = i - 16 := by omega
          have t3 : ((i : Int) - 7).toNat = i - 7 := by omega
          have w0 : IntKind.i64.wrap ((i : Int) - 15) = (i : Int) - 15 := IntWalk.i64_in _ (by omega)
          have w1 : IntKind.i64.wrap ((i : Int) - 2) = (i : Int) - 2 := IntWalk.i64_in _ (by omega)
          have w2 : IntKind.i64.wrap ((i : Int) - 16) = (i : Int) - 16 := IntWalk.i64_in _ (by omega)
          have w3 : IntKind.i64.wrap ((i : Int) - 7) = (i : Int) - 7 := IntWalk.i64_in _ (by omega)
          go_wp2_with fail
          go_quiet ((go_at_call 28; exact Calls.quiet_of (right_at x15 _ s15 (by omega) (by omega) _)))
          revert nq; intro q1
          go_wp2_with fail
          go_quiet ((go_at_call 28; exact quiet2 (right_at x2 _ s2 (by omega) (by omega))))
          revert nq; intro q2
          go_wp2_with fail
          have HH2 : Hid (Held w ((wr.drewN q1).drewN q2) h b (sch b n)) := Lib.hid ((HHE.out.drew q1).drew q2)
          have d16 : ((wr.drewN q1).drewN q2).cell? ⟨w.heap.size + 3, i - 16, none⟩ = _ := c16
          have d7 : ((wr.drewN q1).drewN q2).cell? ⟨w.heap.size + 3, i - 7, none⟩ = _ := c7
          have di : ((wr.drewN q1).drewN q2).cell? ⟨w.heap.size + 3, i, none⟩ = _ := ci
          have ei : ((wr.drewN q1).drewN q2).frozen? ⟨w.heap.size + 3, i, none⟩ = false := fi
          clear r0 r0' r1 r2 r2' r3 t0 t1 w0 w1 c15 c2 c16 c7 m0 m1 ci fi HHE
          generalize (wr.drewN q1).drewN q2 = w2 at *
          go_still_tail 15, (by kernel_rfl)
          change wpList _ _ _ _ _ w2.drew
          go_wp2_with fail
          go_roundw
          case rel => exact ⟨n + 1, by omega, by rw [show 16 + (n + 1) = i + 1 by have := HI.out; omega]; go_num, by have h1 := (HH2.out.store i y).drew1; rw [ES.out] at h1; exact h1⟩
          case measure => have := HI.out; simp [intOf]; omega
        · obtain rfl : n = 48 := by omega
          rw [show ((16 + 48 : Nat) : Int) = 64 from rfl]
          go_wp2_with fail
          have HHE := Lib.hid hheld
          have e0 := row_cell hheld.hh 0 (by rw [HHH.out]; simp)
          have e1 := row_cell hheld.hh 1 (by rw [HHH.out]; simp)
          have e2 := row_cell hheld.hh 2 (by rw [HHH.out]; simp)
          have e3 := row_cell hheld.hh 3 (by rw [HHH.out]; simp)
          have e4 := row_cell hheld.hh 4 (by rw [HHH.out]; simp)
          have e5 := row_cell hheld.hh 5 (by rw [HHH.out]; simp)
          have e6 := row_cell hheld.hh 6 (by rw [HHH.out]; simp)
          have e7 := row_cell hheld.hh 7 (by rw [HHH.out]; simp)
          rw [show h.getD 0 0 = h0 by rw [HHH.out]; rfl] at e0
          rw [show h.getD 1 0 = h1 by rw [HHH.out]; rfl] at e1
          rw [show h.getD 2 0 = h2 by rw [HHH.out]; rfl] at e2
          rw [show h.getD 3 0 = h3 by rw [HHH.out]; rfl] at e3
          rw [show h.getD 4 0 = h4 by rw [HHH.out]; rfl] at e4
          rw [show h.getD 5 0 = h5 by rw [HHH.out]; rfl] at e5
          rw [show h.getD 6 0 = h6 by rw [HHH.out]; rfl] at e6
          rw [show h.getD 7 0 = h7 by rw [HHH.out]; rfl] at e7
          clear hheld hlt hn
          go_quiet (fail)
          revert nq; intro q1
          go_wp2_with fail
          have HH2 : Hid (Held w (wr.drewN q1) h b (sch b 48)) := Lib.hid (HHE.out.drew q1)
          clear e0 e1 e2 e3 e4 e5 e6 e7 HHE
          generalize wr.drewN q1 = w2 at *
          go_loopw [127, 10, 11, 12, 13, 14, 15, 16, 17, 18, 19, 20, 21, 22] (fun ct va vb vc vd ve vf vg vk _ _ _ _ _ wx => ∃ (j A B C D E F G Q : Nat), j ≤ 64 ∧ ct = .int .i64 j ∧ va = .int .u32 A ∧ vb = .int .u32 B ∧ vc = .int .u32 C ∧ vd = .int .u32 D ∧ ve = .int .u32 E ∧ vf = .int .u32 F ∧ vg = .int .u32 G ∧ vk = .int .u32 Q ∧
              Rd K (sch b 48) h j A B C D E F G Q ∧ Held w wx h b (sch b 48)) (fun ct _ _ _ _ _ _ _ _ _ _ _ _ _ _ => 64 - (intOf ct).toNat)
          case atStart => exact ⟨0, h0, h1, h2, h3, h4, h5, h6, h7, by omega, rfl, rfl, rfl, rfl, rfl, rfl, rfl, rfl, rfl, Rd.start HHH.out hs, HH2.out⟩
          case round =>
            clear HH2
            obtain ⟨j, A, B, C, D, E, F, G, Q, hj, rfl, rfl, rfl, rfl, rfl, rfl, rfl, rfl, rfl, hrd, hheld⟩ := hrel
            by_cases hlt : j < 64
            · have hA := hrd.a
              have hB := hrd.b
              have hC := hrd.c
              have hE := hrd.e
              have hF := hrd.f
              have hG := hrd.g
              have hl := sch_length b 48
              have cK : wr.cell? ⟨0, j, none⟩ = some (.int .u32 (K.getD j 0 : Nat)) := row_cell (k := .u32) (xs := K) ((hheld.below.block 0 hw0).trans HK.out) j (by omega)
              have cW := row_cell hheld.hw j (by omega)
              obtain ⟨kj, hkj⟩ : ∃ kj, kj = K.getD j 0 := ⟨_, rfl⟩
              obtain ⟨wj, hwj⟩ : ∃ wj, wj = (sch b 48).getD j 0 := ⟨_, rfl⟩
              rw [← hkj] at cK
              rw [← hwj] at cW
              have HKJ := Lib.hid hkj
              have HWJ := Lib.hid hwj
              clear hkj hwj
              have fch := ch_bits E F G hE hF hG
              have j0 : (0 : Int) ≤ j := by omega
              have j1 : (j : Int) < 64 := by omega
              obtain ⟨fs1, fs0, fmj⟩ := round_bits A B C E hA hB hE
              have fmj' := fmj hC
              clear fmj
              have HR := Lib.hid hrd
              have HHE := Lib.hid hheld
              clear hrd hheld hl
              go_wp2_with (first | (go_at_call 28; first | ((with_reducible refine (right_6 E hE _).mono ?_); rintro e w' ⟨rfl, rfl⟩) | ((with_reducible refine (right_11 E hE _).mono ?_); rintro e w' ⟨rfl, rfl⟩) | ((with_reducible refine (right_25 E hE _).mono ?_); rintro e w' ⟨rfl, rfl⟩)))
              go_quiet (fail)
              revert nq; intro q1
              go_wp2_with (first | (go_at_call 28; first | ((with_reducible refine (right_2 A hA _).mono ?_); rintro e w' ⟨rfl, rfl⟩) | ((with_reducible refine (right_13 A hA _).mono ?_); rintro e w' ⟨rfl, rfl⟩) | ((with_reducible refine (right_22 A hA _).mono ?_); rintro e w' ⟨rfl, rfl⟩)))
              go_roundw
              case rel => exact ⟨j + 1, _, A, B, C, _, E, F, G, by omega, by go_num, congrArg (Value.int .u32) (new_a Q (bg1 E) (chf E F G) kj wj (bg0 A) (maj A B C)), rfl, rfl, rfl, congrArg (Value.int .u32) (new_e D Q (bg1 E) (chf E F G) kj wj), rfl, rfl, rfl, HR.out.next kj wj _ _ HKJ.out HWJ.out rfl rfl, HHE.out.drew q1⟩
              case measure => simp [intOf]; omega
            · obtain rfl : j = 64 := by omega
              rw [show ((64 : Nat) : Int) = 64 from rfl]
              have HHE := Lib.hid hheld
              have HR := Lib.hid hrd
              have e0 := row_cell hheld.hh 0 (by rw [HHH.out]; simp)
              have e1 := row_cell hheld.hh 1 (by rw [HHH.out]; simp)
              have e2 := row_cell hheld.hh 2 (by rw [HHH.out]; simp)
              have e3 := row_cell hheld.hh 3 (by rw [HHH.out]; simp)
              have e4 := row_cell hheld.hh 4 (by rw [HHH.out]; simp)
              have e5 := row_cell hheld.hh 5 (by rw [HHH.out]; simp)
              have e6 := row_cell hheld.hh 6 (by rw [HHH.out]; simp)
              have e7 := row_cell hheld.hh 7 (by rw [HHH.out]; simp)
              rw [show h.getD 0 0 = h0 by rw [HHH.out]; rfl] at e0
              rw [show h.getD 1 0 = h1 by rw [HHH.out]; rfl] at e1
              rw [show h.getD 2 0 = h2 by rw [HHH.out]; rfl] at e2
              rw [show h.getD 3 0 = h3 by rw [HHH.out]; rfl] at e3
              rw [show h.getD 4 0 = h4 by rw [HHH.out]; rfl] at e4
              rw [show h.getD 5 0 = h5 by rw [HHH.out]; rfl] at e5
              rw [show h.getD 6 0 = h6 by rw [HHH.out]; rfl] at e6
              rw [show h.getD 7 0 = h7 by rw [HHH.out]; rfl] at e7
              have hr := hheld.hr
              clear hheld hrd hlt hj
              have hbd : ∀ (a0 a1 a2 a3 a4 a5 a6 a7 : Int) (w1 : World), (Instr.build 23 #[(0, .int .u32 a0), (1, .int .u32 a1), (2, .int .u32 a2), (3, .int .u32 a3), (4, .int .u32 a4), (5, .int .u32 a5), (6, .int .u32 a6), (7, .int .u32 a7)]).run Tryd.prog w1 =
                  .ok (.agg #[.int .u32 a0, .int .u32 a1, .int .u32 a2, .int .u32 a3, .int .u32 a4, .int .u32 a5, .int .u32 a6, .int .u32 a7]) w1 := fun _ _ _ _ _ _ _ _ w1 => run_build w1 23 _ _ (by kernel_rfl)
              go_wp2_with (with_reducible refine wpList_store_row rfl 23 _ _ rfl (w.heap.size + 2) _ rfl rfl 23 _ hr ?_ ?_ ?_ ?_)
              · kernel_rfl
              · rfl
              · exact one8 _ _ _ _ _ _ _ _
              · have hfin : Below w.heap.size w (wr.setRow (w.heap.size + 2) #[.int .u32 (((h0 : Int) + A) % 4294967296), .int .u32 (((h1 : Int) + B) % 4294967296), .int .u32 (((h2 : Int) + C) % 4294967296), .int .u32 (((h3 : Int) + D) % 4294967296), .int .u32 (((h4 : Int) + E) % 4294967296), .int .u32 (((h5 : Int) + F) % 4294967296), .int .u32 (((h6 : Int) + G) % 4294967296), .int .u32 (((h7 : Int) + Q) % 4294967296)]) :=
                  below_setRow HHE.out.below (by omega) _
                have hrow := setRow_heap wr (w.heap.size + 2) (cw .u32 [0, 0, 0, 0, 0, 0, 0, 0]) #[.int .u32 (((h0 : Int) + A) % 4294967296), .int .u32 (((h1 : Int) + B) % 4294967296), .int .u32 (((h2 : Int) + C) % 4294967296), .int .u32 (((h3 : Int) + D) % 4294967296), .int .u32 (((h4 : Int) + E) % 4294967296), .int .u32 (((h5 : Int) + F) % 4294967296), .int .u32 (((h6 : Int) + G) % 4294967296), .int .u32 (((h7 : Int) + Q) % 4294967296)] 23 (0, 0) hr
                have hval : (#[.int .u32 (((h0 : Int) + A) % 4294967296), .int .u32 (((h1 : Int) + B) % 4294967296), .int .u32 (((h2 : Int) + C) % 4294967296), .int .u32 (((h3 : Int) + D) % 4294967296), .int .u32 (((h4 : Int) + E) % 4294967296), .int .u32 (((h5 : Int) + F) % 4294967296), .int .u32 (((h6 : Int) + G) % 4294967296), .int .u32 (((h7 : Int) + Q) % 4294967296)] : Array Value) = cw .u32 (blk K h b) := by
                  unfold blk
                  rw [HR.out.eq, HHH.out]
                  simp [addL, cw]
                have HF := Lib.hid hfin
                have HW := Lib.hid hrow
                have HV := Lib.hid hval
                clear hfin hrow hval hr hbd e0 e1 e2 e3 e4 e5 e6 e7
                go_wp2_with fail
                refine bodyPost_ret (results_cell_row rfl _ _ (w.heap.size + 2) 23 _ (0, 0) _ rfl HW.out Tryd.underlying23 rfl (by kernel_rfl)) rfl ⟨?_, HF.out⟩
                rw [HV.out]
end Go.Proofs.YtemioilfedpohaaDoor
