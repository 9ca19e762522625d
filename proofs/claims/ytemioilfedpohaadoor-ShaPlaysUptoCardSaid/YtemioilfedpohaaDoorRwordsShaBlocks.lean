/- The walks of depotref01.constants and depotref01.words. -/
import Derived.Test.YtemioilfedpohaaDoorRstepShaBlocks
namespace Go.Proofs.YtemioilfedpohaaDoor
open Go.RowKit

/-- the table of the document -/
def KT : List Nat := [0x428a2f98, 0x71374491, 0xb5c0fbcf, 0xe9b5dba5, 0x3956c25b, 0x59f111f1, 0x923f82a4, 0xab1c5ed5, 0xd807aa98, 0x12835b01, 0x243185be, 0x550c7dc3, 0x72be5d74, 0x80deb1fe, 0x9bdc06a7, 0xc19bf174, 0xe49b69c1, 0xefbe4786, 0x0fc19dc6, 0x240ca1cc, 0x2de92c6f, 0x4a7484aa, 0x5cb0a9dc, 0x76f988da, 0x983e5152, 0xa831c66d, 0xb00327c8, 0xbf597fc7, 0xc6e00bf3, 0xd5a79147, 0x06ca6351, 0x14292967, 0x27b70a85, 0x2e1b2138, 0x4d2c6dfc, 0x53380d13, 0x650a7354, 0x766a0abb, 0x81c2c92e, 0x92722c85, 0xa2bfe8a1, 0xa81a664b, 0xc24b8b70, 0xc76c51a3, 0xd192e819, 0xd6990624, 0xf40e3585, 0x106aa070, 0x19a4c116, 0x1e376c08, 0x2748774c, 0x34b0bcb5, 0x391c0cb3, 0x4ed8aa4a, 0x5b9cca4f, 0x682e6ff3, 0x748f82ee, 0x78a5636f, 0x84c87814, 0x8cc70208, 0x90befffa, 0xa4506ceb, 0xbef9a3f7, 0xc67178f2]
theorem KT_length : KT.length = 64 := by decide

/-- a word's bytes so far -/
def partW (b : List Nat) (i : Nat) : Nat → Nat
  | 0 => 0
  | j + 1 => partW b i j * 256 + b.getD (4 * i + j) 0
theorem partW_four (b : List Nat) (i : Nat) : partW b i 4 = word16 b i := by
  unfold word16
  simp only [partW, Nat.add_zero]
  omega
theorem W16_zero (b : List Nat) (i : Nat) : ∀ k, k ≤ i → (W16 b k).getD i 0 = 0
  | 0, _ => by
    simp only [W16, List.getD_eq_getElem?_getD, List.getElem?_replicate]
    split <;> rfl
  | k + 1, h => by
    have ih := W16_zero b i k (by omega)
    rw [List.getD_eq_getElem?_getD] at ih ⊢
    simp only [W16, List.getElem?_set, if_neg (show ¬ k = i by omega)]
    exact ih
theorem set_self (xs : List Nat) (i v : Nat) (h : xs.getD i 0 = v) : xs.set i v = xs := by
  apply List.ext_getElem?
  intro j
  rw [List.getElem?_set]
  split
  · rename_i e
    subst e
    split
    · rename_i hl
      rw [List.getD_eq_getElem?_getD] at h
      rw [List.getElem?_eq_getElem hl] at h ⊢
      exact congrArg some h.symm
    · rename_i hl
      rw [List.getElem?_eq_none (by omega)]
  · rfl

/-- what stands in memory while the words are worked out -/
structure Held2 (w wr : World) (b ws : List Nat) : Prop where
  size : wr.heap.size = w.heap.size + 3
  hb : wr.heap[w.heap.size]? = some (.cells (cw .u8 b) 24 (0, 0))
  hr : wr.heap[w.heap.size + 1]? = some (.cells (cw .u32 (List.replicate 64 0)) 56 (0, 0))
  hw : wr.heap[w.heap.size + 2]? = some (.cells (cw .u32 ws) 56 (0, 0))
  below : Below w.heap.size w wr
theorem Held2.drew1 {w wr : World} {b ws : List Nat} (H : Held2 w wr b ws) : Held2 w wr.drew b ws :=
  ⟨H.size, H.hb, H.hr, H.hw, ⟨H.below.os, H.below.tape, H.below.output, H.below.size, H.below.block⟩⟩
theorem Held2.store {w wr : World} {b ws : List Nat} (H : Held2 w wr b ws) (i v : Nat) : Held2 w (wr.setCell ⟨w.heap.size + 2, i, none⟩ (.int .u32 (v : Int))) b (ws.set i v) :=
  ⟨by simpa [World.setCell] using H.size, row_other H.hb (by omega), row_other H.hr (by omega), row_store H.hw i v, H.below.setCell (by simp) _⟩

theorem info64 : (Tryd.prog.info? 56).map (·.size) = some 64 := by kernel_rfl

theorem sum4' (p q r s : Nat) : ∃ y : Nat, y = (s + r + q + p) % 4294967296 ∧ ((p : Int) + q + r + s) % 4294967296 = (y : Int) := by
  refine ⟨_, rfl, ?_⟩
  omega

set_option maxRecDepth 100000 in
set_option maxHeartbeats 4000000 in
theorem words_any (b : List Nat) (hb : b.length = 64) (hy : Bytes b) (w : World) :
    Calls Tryd.prog 29 #[.agg (cw .u8 b)] w fun e w' => e = .returned (.agg (cw .u32 (sch b 48))) ∧ Below w.heap.size w w' := by
  have hst : Held2 w (((w.alloc (.cells (cw .u8 b) 24)).alloc (.cells (cw .u32 (List.replicate 64 0)) 56)).alloc (.cells (cw .u32 (List.replicate 64 0)) 56)) b (W16 b 0) := by
    have e1 : (((w.alloc (.cells (cw .u8 b) 24)).alloc (.cells (cw .u32 (List.replicate 64 0)) 56)).alloc (.cells (cw .u32 (List.replicate 64 0)) 56)).heap = ((w.heap.push (.cells (cw .u8 b) 24)).push (.cells (cw .u32 (List.replicate 64 0)) 56)).push (.cells (cw .u32 (List.replicate 64 0)) 56) := rfl
    refine ⟨by rw [e1]; simp, ?_, ?_, ?_, (((Below.refl _ _).alloc (Nat.le_refl _) _).alloc (by simp) _).alloc (by simp; omega) _⟩
    all_goals rw [e1]; simp only [Array.getElem?_push, Array.size_push]
    · rw [if_neg (by omega), if_neg (by omega), if_pos trivial]
    · rw [if_neg (by omega), if_pos trivial]
    · rw [if_pos trivial]; rfl
  have HST := Lib.hid hst
  clear hst
  go_enter Tryd.func29, Tryd.ntmps29
  go_wp2_with fail
  go_loopw [4, 5, 6, 7, 8, 9] (fun i _ _ _ _ _ wr => ∃ k : Nat, k ≤ 64 ∧ i = .int .i64 k ∧ (k < 16 → Held2 w wr b (W16 b k)) ∧ (16 ≤ k → Held2 w wr b (sch b (k - 16)))) (fun i _ _ _ _ _ _ => 64 - (intOf i).toNat)
  case atStart => exact ⟨0, by omega, rfl, fun _ => HST.out, fun h => by omega⟩
  case round =>
    clear HST
    obtain ⟨k, hk, rfl, hlo, hhi⟩ := hrel
    by_cases h16 : k < 16
    · have hheld := hlo h16
      have HHE := Lib.hid hheld
      clear hlo hhi hheld
      obtain ⟨wo, rfl⟩ : ∃ wo : World, wo = wr := ⟨_, rfl⟩
      have hkd : decide ((k : Int) < 64) = true := by simp; omega
      have hkd2 : decide ((k : Int) < 16) = true := by simp; omega
      go_wp2_with fail
      go_loopw [5] (fun j wx => ∃ jn : Nat, jn ≤ 4 ∧ j = .int .i64 jn ∧ Held2 w wx b ((W16 b k).set k (partW b k jn))) (fun j _ => 4 - (intOf j).toNat)
      case atStart => exact ⟨0, by omega, rfl, by rw [show partW b k 0 = 0 from rfl, set_self _ _ _ (W16_zero b k k (Nat.le_refl _))]; exact HHE.out⟩
      case round =>
        clear HHE
        obtain ⟨j, hj, rfl, hheld⟩ := hrel
        by_cases hlt : j < 4
        · have hl := W16_length b k
          have c0 := row_cell hheld.hb (4 * k + j) (by omega)
          have c1 := row_cell hheld.hw k (by rw [List.length_set]; omega)
          have f1 := row_free hheld.hw k
          have e1 : ((W16 b k).set k (partW b k j)).getD k 0 = partW b k j := by
            rw [List.getD_eq_getElem?_getD, List.getElem?_set_self (by omega)]; rfl
          rw [e1] at c1
          have hp : partW b k j < 16777216 := by
            have g0 := hy.get (4 * k + 0)
            have g1 := hy.get (4 * k + 1)
            have g2 := hy.get (4 * k + 2)
            match j, hlt with
            | 0, _ => simp only [partW]; omega
            | 1, _ => simp only [partW]; omega
            | 2, _ => simp only [partW]; omega
            | 3, _ => simp only [partW]; omega
          have hx := hy.get (4 * k + j)
          have hst := hheld.store k (partW b k (j + 1))
          rw [List.set_set] at hst
          obtain ⟨y, hy'⟩ : ∃ y, y = partW b k (j + 1) := ⟨_, rfl⟩
          have hv : ((partW b k j : Int) * 256 + (b.getD (4 * k + j) 0 : Nat)) % 4294967296 = (y : Int) := by
            rw [hy']; simp only [partW]; omega
          rw [← hy'] at hst
          have HST := Lib.hid hst
          have HY := Lib.hid hy'
          have hx2 : IntKind.u32.wrap ((b.getD (4 * k + j) 0 : Nat) : Int) = ((b.getD (4 * k + j) 0 : Nat) : Int) := wrap_id _ (by omega)
          clear hst hy' hheld hl e1
          generalize b.getD (4 * k + j) 0 = x at *
          generalize partW b k j = p at *
          have g0 : (0 : Int) ≤ 4 * k + j := by omega
          have g1 : (4 * k + j : Int) < 64 := by omega
          have g2 : (0 : Int) ≤ k := by omega
          have g3 : (k : Int) < 64 := by omega
          have t0 : (4 * (k : Int) + j).toNat = 4 * k + j := by omega
          have w0 : IntKind.i64.wrap (4 * (k : Int)) = 4 * k := IntWalk.i64_in _ (by omega)
          have w1 : IntKind.i64.wrap (4 * (k : Int) + j) = 4 * k + j := IntWalk.i64_in _ (by omega)
          go_wp2_with fail
          go_still_tail 14, (by kernel_rfl)
          change wpList _ _ _ _ _ wr.drew
          clear g0 g1 g2 g3 t0 w0 w1 c0 hx hp
          go_wp2_with fail
          go_roundw
          case rel => exact ⟨j + 1, by omega, by go_num, by rw [← HY.out]; exact HST.out.drew1⟩
          case measure => simp [intOf]; omega
        · obtain rfl : j = 4 := by omega
          rw [show ((4 : Nat) : Int) = 4 from rfl]
          have HHE := Lib.hid hheld
          clear hheld hlt hj
          go_wp2_with fail
          go_roundw
          case rel => exact ⟨k + 1, by omega, by go_num, fun _ => by have h := HHE.out; rw [partW_four] at h; exact h, fun h => by
            obtain rfl : k = 15 := by omega
            have h := HHE.out
            rw [partW_four] at h
            exact h⟩
          case measure => simp [intOf]; omega
    · by_cases hlt : k < 64
      · have hheld := hhi (by omega)
        clear hlo hhi
        obtain ⟨n, hn⟩ : ∃ n : Nat, n = k - 16 := ⟨_, rfl⟩
        rw [← hn] at hheld
        have hl := sch_length b n
        have hsm := sch_small hy n
        have eS : (sch b n).set k (nextW (sch b n) k) = sch b (n + 1) := by rw [show k = 16 + n by omega]; rfl
        have c15 := row_cell hheld.hw (k - 15) (by omega)
        have c2 := row_cell hheld.hw (k - 2) (by omega)
        have c16 := row_cell hheld.hw (k - 16) (by omega)
        have c7 := row_cell hheld.hw (k - 7) (by omega)
        have ci := row_cell hheld.hw k (by omega)
        have fi := row_free hheld.hw k
        have s15 := hsm.get (k - 15)
        have s2 := hsm.get (k - 2)
        unfold nextW at eS
        generalize (sch b n).getD (k - 15) 0 = x15 at *
        generalize (sch b n).getD (k - 2) 0 = x2 at *
        generalize (sch b n).getD (k - 16) 0 = x16 at *
        generalize (sch b n).getD (k - 7) 0 = x7 at *
        have m0 := (sm_bits x15 s15).1
        have m1 := (sm_bits x2 s2).2
        obtain ⟨y, hy', m2⟩ := sum4' (sm1 x2) x7 (sm0 x15) x16
        rw [← hy'] at eS
        have HN := Lib.hid hn
        have ES := Lib.hid eS
        have HHE := Lib.hid hheld
        clear hheld eS hy' hl hsm hn
        have r0 : (0 : Int) ≤ (k : Int) - 15 := by omega
        have r0' : (15 : Int) ≤ k := by omega
        have r1 : (k : Int) - 15 < 64 := by omega
        have r2 : (0 : Int) ≤ (k : Int) - 2 := by omega
        have r2' : (2 : Int) ≤ k := by omega
        have r3 : (k : Int) - 2 < 64 := by omega
        have r4 : (0 : Int) ≤ (k : Int) - 16 := by omega
        have r4' : (16 : Int) ≤ k := by omega
        have r5 : (k : Int) - 16 < 64 := by omega
        have r6 : (0 : Int) ≤ (k : Int) - 7 := by omega
        have r6' : (7 : Int) ≤ k := by omega
        have r7 : (k : Int) - 7 < 64 := by omega
        have r8 : (0 : Int) ≤ k := by omega
        have r9 : (k : Int) < 64 := by omega
        have t0 : ((k : Int) - 15).toNat = k - 15 := by omega
        have t1 : ((k : Int) - 2).toNat = k - 2 := by omega
        have t2 : ((k : Int) - 16).toNat = k - 16 := by omega
        have t3 : ((k : Int) - 7).toNat = k - 7 := by omega
        have w0 : IntKind.i64.wrap ((k : Int) - 15) = (k : Int) - 15 := IntWalk.i64_in _ (by omega)
        have w1 : IntKind.i64.wrap ((k : Int) - 2) = (k : Int) - 2 := IntWalk.i64_in _ (by omega)
        have w2 : IntKind.i64.wrap ((k : Int) - 16) = (k : Int) - 16 := IntWalk.i64_in _ (by omega)
        have w3 : IntKind.i64.wrap ((k : Int) - 7) = (k : Int) - 7 := IntWalk.i64_in _ (by omega)
        go_wp2_with (first | (go_at_call 36; first | ((with_reducible refine (turn_7 x15 s15 _).mono ?_); rintro e w' ⟨rfl, rfl⟩) | ((with_reducible refine (turn_18 x15 s15 _).mono ?_); rintro e w' ⟨rfl, rfl⟩) | ((with_reducible refine (turn_17 x2 s2 _).mono ?_); rintro e w' ⟨rfl, rfl⟩) | ((with_reducible refine (turn_19 x2 s2 _).mono ?_); rintro e w' ⟨rfl, rfl⟩)))
        go_still_tail 15, (by kernel_rfl)
        change wpList _ _ _ _ _ wr.drew
        clear r0 r0' r1 r2 r2' r3 r4 r4' r5 r6 r6' r7 t0 t1 t2 t3 w0 w1 w2 w3 c15 c2 c16 c7 m0 m1
        go_wp2_with fail
        go_roundw
        case rel => exact ⟨k + 1, by omega, by go_num, fun h => by omega, fun _ => by
          have h1 := (HHE.out.store k y).drew1
          rw [ES.out, show n + 1 = k + 1 - 16 by have := HN.out; omega] at h1
          exact h1⟩
        case measure => simp [intOf]; omega
      · obtain rfl : k = 64 := by omega
        rw [show ((64 : Nat) : Int) = 64 from rfl]
        have hheld := hhi (by omega)
        have hw := hheld.hw
        have hr := hheld.hr
        have hl := sch_length b (64 - 16)
        have HHE := Lib.hid hheld
        clear hlo hhi hheld hlt h16 hk
        go_wp2_with (first | (with_reducible refine wpList_load_row rfl 56 _ rfl (w.heap.size + 2) rfl 56 (cw .u32 (sch b (64 - 16))) (0, 0) _ hw Tryd.underlying56 rfl ?_ ?_) | (with_reducible refine wpList_store_row rfl 56 _ _ rfl (w.heap.size + 1) _ rfl rfl 56 _ hr ?_ ?_ ?_ ?_))
        · rw [cw_size, hl]; exact info64
        · rw [cw_size, hl]; exact info64
        · rw [cw_size, cw_size, hl]; rfl
        · exact cw_one _ _
        · have HF : Hid (Below w.heap.size w (wr.setRow (w.heap.size + 1) (cw .u32 (sch b (64 - 16))))) := Lib.hid (below_setRow HHE.out.below (by omega) _)
          have HW := Lib.hid (setRow_heap wr (w.heap.size + 1) (cw .u32 (List.replicate 64 0)) (cw .u32 (sch b (64 - 16))) 56 (0, 0) hr)
          go_wp2_with fail
          exact bodyPost_ret (results_cell_row rfl _ _ (w.heap.size + 1) 56 _ (0, 0) _ rfl HW.out Tryd.underlying56 rfl (by rw [cw_size, hl]; exact info64)) rfl ⟨rfl, HF.out⟩
end Go.Proofs.YtemioilfedpohaaDoor
