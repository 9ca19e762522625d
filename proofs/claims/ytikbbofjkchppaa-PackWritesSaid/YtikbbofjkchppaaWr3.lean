/- The walk of the reference's Pack. -/
import Derived.Test.YtikbbofjkchppaaWr2
import Derived.Deep.CutRange
namespace Go.Proofs.Ytikbbofjkchppaa
set_option linter.unusedVariables false
set_option linter.unusedSimpArgs false
open Go.RowKit

/-! ### 'append(out, p...)', both the call's own -/
theorem run_app_own (w : World) (base base2 : Nat) (v u : Value) (xs ys : List Nat) (hown : OwnB w base v xs) (hu : OwnB w base2 u ys) (ty : TypeId) (hl : xs.length + ys.length ≤ 140737488355328) (hbase : base ≤ w.heap.size) :
    ∃ v' w', (Builtin.append_ #[43, 43] ty #[v, u]).run Try.prog w = .ok v' w' ∧ OwnB w' base v' (xs ++ ys) ∧ w.grownBy w' v.ownBlock := by
  have hu' := hu
  rcases hu' with ⟨rfl, rfl⟩ | ⟨g, cap, cur, fz, rfl, _⟩
  · obtain ⟨i0, hi, hz, hs1, hb1⟩ := u8_info
    refine ⟨v, w, ?_, by rw [List.append_nil]; exact hown, World.grownBy.refl w _⟩
    rcases hown with ⟨rfl, rfl⟩ | ⟨g, cap, cur, fz, rfl, hb, hg, hc, hcap, hm, hs, ht⟩
    · simp [Builtin.append_, run_underlying Try.underlying43, sizeOf, typeInfo, hi, Builtin.lenOf, Builtin.firstCells]
    · simp [Builtin.append_, run_underlying Try.underlying43, sizeOf, typeInfo, hi, hs1, Builtin.lenOf, hcap, Builtin.firstCells, storeCells]
  · obtain ⟨v', w', h1, h2, h3, _⟩ := run_app_bytes w base v xs hown ⟨g, 0, none⟩ ys cap ty (OwnB.cells hu rfl) hl hbase
    exact ⟨v', w', h1, h2, h3⟩
theorem wpList_app_own (w : World) {ops : Array Oper} {rest : List Oper} {o : Oper} {a : Act} {Q : Exit → Act → World → Prop} (hgd : o.guard = none) (sl x : Operand)
    (ho : o.op = .call { callee := .builtin .append, args := #[sl, x], argTypes := #[43, 43] })
    (base base2 : Nat) (v u : Value) (xs ys : List Nat) (hs : a.eval sl = v) (hown : OwnB w base v xs) (hx : a.eval x = u) (hu : OwnB w base2 u ys) (hl : xs.length + ys.length ≤ 140737488355328) (hbase : base ≤ w.heap.size)
    (h : ∀ v' w', OwnB w' base v' (xs ++ ys) → w.grownBy w' v.ownBlock → wpList Try.prog ops Q rest (a.put o.dst v') w') : wpList Try.prog ops Q (o :: rest) a w := by
  refine wpList_plain hgd fun K hK => ?_
  obtain ⟨v', w', hr, h2, h3⟩ := run_app_own w base base2 v u xs ys hown hu o.type hl hbase
  unfold Oper.wp execOp
  simp only [ho, resolve, invoke, builtin, Sem.run_bind, Sem.run_pure, Result.andThen_ok, List.map_toArray, List.map_cons, List.map_nil, hs, hx, hr]
  exact hK _ _ (h v' w' h2 h3)

/-! ### the chain of places with the same two bytes -/
theorem heads_spec (L : List Nat) (x : Nat) : ∀ i, (headsF L i x = 0 ∧ ∀ j, j < i → two L j ≠ x) ∨ ∃ d : Nat, headsF L i x = (d : Int) + 1 ∧ d < i ∧ two L d = x ∧ ∀ j, d < j → j < i → two L j ≠ x
  | 0 => .inl ⟨rfl, fun j h => by omega⟩
  | i + 1 => by
    by_cases h : x = two L i
    · refine .inr ⟨i, ?_, by omega, h.symm, fun j h1 h2 => by omega⟩
      simp only [headsF, upd]
      rw [if_pos h]
    · have e : headsF L (i + 1) x = headsF L i x := by
        simp only [headsF, upd]
        rw [if_neg h]
      rw [e]
      rcases heads_spec L x i with ⟨h1, h2⟩ | ⟨d, h1, h2, h3, h4⟩
      · refine .inl ⟨h1, fun j hj => ?_⟩
        by_cases ej : j = i
        · subst ej; exact fun q => h q.symm
        · exact h2 j (by omega)
      · refine .inr ⟨d, h1, by omega, h3, fun j hj hj2 => ?_⟩
        by_cases ej : j = i
        · subst ej; exact fun q => h q.symm
        · exact h4 j hj (by omega)
theorem two_of_win {L : List Nat} {j i : Nat} (h : win L j = win L i) : two L j = two L i := by
  simp only [win, List.cons.injEq, and_true] at h
  unfold two
  rw [h.1, h.2.1]
/-- behind c no place ahead of i has i's four bytes -/
structure Past (L : List Nat) (i : Nat) (c : Int) : Prop where
  lo : -1 ≤ c
  hi : c < i
  tw : ∀ d : Nat, c = d → two L d = two L i
  no : ∀ j : Nat, c < (j : Int) → j < i → win L j ≠ win L i
theorem past_first (L : List Nat) (i : Nat) : Past L i (headsF L i (two L i) - 1) := by
  rcases heads_spec L (two L i) i with ⟨h1, h2⟩ | ⟨d, h1, h2, h3, h4⟩
  · rw [h1]
    exact ⟨by omega, by omega, fun d h => by omega, fun j _ hj e => h2 j hj (two_of_win e)⟩
  · rw [h1]
    refine ⟨by omega, by omega, fun d' h => ?_, fun j h hj e => h4 j (by omega) hj (two_of_win e)⟩
    obtain rfl : d' = d := by omega
    exact h3
theorem past_next (L : List Nat) (i d : Nat) (h : Past L i d) (hn : win L d ≠ win L i) : Past L i (headsF L d (two L d) - 1) := by
  have hd := h.hi
  have ht := h.tw d rfl
  rcases heads_spec L (two L d) d with ⟨h1, h2⟩ | ⟨q, h1, h2, h3, h4⟩
  · rw [h1]
    refine ⟨by omega, by omega, fun d h => by omega, fun j _ hj e => ?_⟩
    by_cases ej : j = d
    · subst ej; exact hn e
    · by_cases hjd : j < d
      · exact h2 j hjd ((two_of_win e).trans ht.symm)
      · exact h.no j (by omega) hj e
  · rw [h1]
    refine ⟨by omega, by omega, fun d' h' => ?_, fun j h' hj e => ?_⟩
    · obtain rfl : d' = q := by omega
      exact h3.trans ht
    · by_cases ej : j = d
      · subst ej; exact hn e
      · by_cases hjd : j < d
        · exact h4 j (by omega) hjd ((two_of_win e).trans ht.symm)
        · exact h.no j (by omega) hj e
theorem past_none (L : List Nat) (i : Nat) (c : Int) (h : Past L i c) (hc : c < 0 ∨ 65536 < (i : Int) - c) : (backP L i (lastW L i)).1 = 0 := by
  unfold backP
  by_cases h4 : i + 4 ≤ L.length
  · rw [if_pos h4]
    cases hl : lastW L i (win L i) with
    | none => rfl
    | some d =>
      obtain ⟨h1, h2, h3⟩ := lastW_some hl
      have hle : (d : Int) ≤ c := by
        rcases Int.lt_or_le c d with q | q
        · exact absurd h3.symm (h.no d q h1)
        · exact q
      simp only
      rw [if_pos (by omega)]
  · rw [if_neg h4]
theorem past_some (L : List Nat) (i d : Nat) (h : Past L i d) (h4 : i + 4 ≤ L.length) (hw : win L d = win L i) (hc : i - d ≤ 65536) : backP L i (lastW L i) = (mrun L d i 127 4, i - d) := by
  have hd := h.hi
  obtain ⟨q, hq, hdq⟩ := lastW_from (L := L) (ws := win L i) (c := d) (by omega) hw.symm (i := i) (by omega)
  obtain ⟨h1, h2, h3⟩ := lastW_some hq
  have hqd : q = d := by
    by_cases e : q = d
    · exact e
    · exact absurd h3.symm (h.no q (by omega) h1)
  subst hqd
  unfold backP
  rw [if_pos h4, hq]
  simp only
  rw [if_neg (by omega)]
theorem packG_end (L : List Nat) : ∀ k i p, L.length < i + 4 → packG L k i p = runs L L.length (L.length - p) p
  | 0, i, p, h => rfl
  | k + 1, i, p, h => by
    rw [packG]
    split
    · rw [if_pos (backP_late _ _ _ h)]
      exact packG_end L k _ _ (by omega)
    · rfl
/-- what stands while the reference packs -/
structure RkS (w0 w : World) (gp : Nat) (v : Value) (out : List Nat) (P : Nat → Int) (n : Nat) : Prop where
  row : w.heap[gp]? = some (.cells (rowF P n) 3 (0, 0))
  own : OwnB w w0.heap.size v out
  below : Below w0.heap.size w0 w
theorem RkS.later {w0 w w' : World} {gp : Nat} {v : Value} {out : List Nat} {P : Nat → Int} {n : Nat} (H : RkS w0 w gp v out P n) (hb : Below w.heap.size w w') : RkS w0 w' gp v out P n :=
  ⟨(hb.block _ (lt_of_row H.row)).trans H.row, H.own.later hb, H.below.trans (hb.mono H.below.size)⟩
theorem RkS.app {w0 w w' : World} {gp : Nat} {v v' : Value} {out out' : List Nat} {P : Nat → Int} {n : Nat} (H : RkS w0 w gp v out P n) (ho : OwnB w' w0.heap.size v' out') (hg : w.grownBy w' v.ownBlock) : RkS w0 w' gp v' out' P n :=
  ⟨(hg.block _ (lt_of_row H.row) (fun e => own_ne (H.own.mono (Nat.zero_le _)) H.row (by decide) e.symm)).trans H.row, ho, below_own H.below H.own hg⟩

set_option maxRecDepth 100000 in
set_option maxHeartbeats 4000000 in
theorem rpack_any (s : ByteArray) (w : World) (hs : s.size ≤ 1048576) :
    Calls Try.prog 17 #[.string s] w fun e w' => e = .returned (.tuple #[.string (strOf (packL (nb s))), .int .i64 0]) ∧ Below w.heap.size w w' := by
  obtain ⟨R, hR⟩ : ∃ R, packL (nb s) = R := ⟨_, rfl⟩
  have hRB := packL_bytes (nb s) (nb_bytes s)
  rw [hR] at hRB ⊢
  have HR := Lib.hid hR
  have HRB := Lib.hid hRB
  have hG : le8 s.size ++ packG (nb s) s.size 0 0 = R := by rw [← hR, packL, nb_length]
  have HG := Lib.hid hG
  clear hR hRB hG
  have hsI : (s.size : Int) ≤ 1048576 := by omega
  have hs0 : (0 : Int) ≤ s.size := by omega
  have HL8 := Lib.hid (le8_length s.size)
  have hcv := fun W => Lib.run_convert_string_bytes (P := Try.prog) W 9 43 5 (strOf (le8 s.size)) Try.underlying9 Try.underlying43 Try.underlying5
  go_enter Try.func17, Try.ntmps17
  go_upto_region 4 with (go_at_call 32; refine (chains_any s hs _).mono ?_; rintro e w1 ⟨gp, hgp, rfl, hrow, hb1⟩; have HROW := Lib.hid hrow; have HB1 := Lib.hid hb1; have HGP := Lib.hid hgp; clear hrow hb1 hgp)
  go_upto_region 5 with (go_at_call 33; refine (rint_any s.size (by omega) _).mono ?_; rintro e w2 ⟨rfl, hb2⟩; have HB2 := Lib.hid hb2; clear hb2)
  have hown := OwnB.conv (base := w.heap.size) w2 (strOf (le8 s.size)) (by rw [strOf_size, HL8.out]; omega) (by have := HB1.out.size; have := HB2.out.size; omega)
  have hnb : nb (strOf (le8 s.size)) = le8 s.size := nb_strOf _ (fl8_bytes _ 8)
  rw [hnb] at hown
  have hbw : Below w2.heap.size w2 (Lib.bytesWorld w2 5 (strOf (le8 s.size))) := below_conv w2 w2 _ (Below.refl _ _) (Nat.le_refl _)
  have hst0 : RkS w (Lib.bytesWorld w2 5 (strOf (le8 s.size))) gp (.slice (some ⟨w2.heap.size, 0, none⟩) (strOf (le8 s.size)).size (grownCap w2 (strOf (le8 s.size)).size 0 5)) (le8 s.size) (prevF (nb s) (s.size - 1)) s.size :=
    ⟨((HB2.out.trans (hbw.mono HB2.out.size)).block _ (lt_of_row HROW.out)).trans HROW.out, hown, bl_step (bl_step HB1.out HB2.out) hbw⟩
  have HST0 := Lib.hid hst0
  clear hown hbw hst0 hcv
  generalize Lib.bytesWorld w2 5 (strOf (le8 s.size)) = w3 at *
  generalize (strOf (le8 s.size)).size = z1 at *
  generalize grownCap w2 z1 0 5 = z2 at *
  generalize w2.heap.size = z3 at *
  go_wp2_with fail
  go_loopw [5, 6, 7] (fun x5 x6 x7 wr => ∃ (p i k : Nat) (out : List Nat), x6 = .int .i64 (p : Nat) ∧ x7 = .int .i64 (i : Nat) ∧ RkS w wr gp x5 out (prevF (nb s) (s.size - 1)) s.size ∧ p ≤ i ∧ i ≤ s.size ∧ out.length + 2 * (s.size - p) ≤ 2100000 ∧ s.size - i ≤ k ∧ out ++ packG (nb s) k i p = R) (fun _ _ x7 _ => s.size - (intOf x7).toNat)
  case atStart => exact ⟨0, 0, s.size, le8 s.size, rfl, rfl, HST0.out, Nat.le_refl _, Nat.zero_le _, by rw [HL8.out]; omega, by omega, HG.out⟩
  case round =>
    clear HST0 HG HL8
    obtain ⟨p, i, k, out, rfl, rfl, hP, hpi, his, hol, hk, hRR⟩ := hrel
    obtain ⟨A5, k5, hv5⟩ := hP.own.slice
    obtain ⟨lo, hlo⟩ : ∃ lo, out.length = lo := ⟨_, rfl⟩
    rw [hlo] at hv5 hol
    subst hv5
    have HLO := Lib.hid hlo
    have HP := Lib.hid hP
    have HRR := Lib.hid hRR
    clear hP hRR hlo
    have hp0 : (0 : Int) ≤ p := by omega
    have hi0 : (0 : Int) ≤ i := by omega
    have hpiI : (p : Int) ≤ i := by omega
    by_cases hlt : i + 4 ≤ s.size
    · have hltI : (i : Int) + 4 ≤ s.size := by omega
      have hlt1 : (i : Int) < s.size := by omega
      have hcell := rowF_cell HP.out.row i (by omega)
      rw [prevF_at (nb s) i (s.size - 1) (by omega)] at hcell
      have HPA := Lib.hid (past_first (nb s) i)
      generalize headsF (nb s) i (two (nb s) i) - 1 = c0 at *
      go_wp2_with fail
      go_loopw [8] (fun x8 wq => ∃ c : Int, x8 = .int .i64 c ∧ Past (nb s) i c ∧ RkS w wq gp (.slice A5 lo k5) out (prevF (nb s) (s.size - 1)) s.size) (fun x8 _ => (intOf x8 + 1).toNat)
      case atStart => exact ⟨c0, rfl, HPA.out, HP.out⟩
      case round =>
        clear HP HPA hcell
        obtain ⟨c, rfl, hpa, hP⟩ := hrel
        have HP := Lib.hid hP
        have hclo := hpa.lo
        have hchi := hpa.hi
        clear hP
        by_cases hex : c < 0 ∨ 65536 < (i : Int) - c
        · have hb0 := past_none (nb s) i c hpa hex
          have hnx : out ++ packG (nb s) (k - 1) (i + 1) p = R := by
            obtain ⟨k, rfl⟩ : ∃ k', k = k' + 1 := ⟨k - 1, by omega⟩
            have h := HRR.out
            rw [packG, if_pos (by rw [nb_length]; omega), if_pos hb0] at h
            exact h
          have HNX := Lib.hid hnx
          clear hpa hb0 hnx
          rcases hex with hc | hc
          · have d1 : ¬ (0 : Int) ≤ c := by omega
            go_wp2_with fail
            go_roundw
            case rel => exact ⟨p, i + 1, k - 1, out, rfl, by go_num, HP.out, by omega, by omega, by rw [HLO.out]; exact hol, by omega, HNX.out⟩
            case measure => simp [intOf]; omega
          · by_cases hc0 : c < 0
            · have d1 : ¬ (0 : Int) ≤ c := by omega
              clear hc
              go_wp2_with fail
              go_roundw
              case rel => exact ⟨p, i + 1, k - 1, out, rfl, by go_num, HP.out, by omega, by omega, by rw [HLO.out]; exact hol, by omega, HNX.out⟩
              case measure => simp [intOf]; omega
            · have d1 : (0 : Int) ≤ c := by omega
              have d2 : ¬ (i : Int) - c ≤ 65536 := by omega
              go_wp2_with fail
              go_roundw
              case rel => exact ⟨p, i + 1, k - 1, out, rfl, by go_num, HP.out, by omega, by omega, by rw [HLO.out]; exact hol, by omega, HNX.out⟩
              case measure => simp [intOf]; omega
        · obtain ⟨d, rfl⟩ : ∃ d : Nat, c = d := ⟨c.toNat, by omega⟩
          have d1 : (0 : Int) ≤ d := by omega
          have d2 : (i : Int) - d ≤ 65536 := by omega
          have d3 : ¬ (d : Int) < 0 := by omega
          have d4 : d < i := by omega
          have hdec : ∀ W, Calls Try.prog 34 #[.string s, .int .i64 (d : Int), .int .i64 (i : Int)] W fun e w' => e = .returned (.bool (decide (win (nb s) d = win (nb s) i))) ∧ Below W.heap.size W w' := fun W => rfour_any s d i (by omega) hlt hs W
          by_cases hw : win (nb s) d = win (nb s) i
          · rw [decide_eq_true hw] at hdec
            have HDEC := Lib.hid hdec
            have hbk := past_some (nb s) i d hpa (by rw [nb_length]; exact hlt) hw (by omega)
            have HBK := Lib.hid hbk
            clear hdec hbk hpa hw hex
            go_upto_region 13 with (go_at_call 34; refine (HDEC.out _).mono ?_; rintro e w4 ⟨rfl, h4⟩; have HP4 := Lib.hid (HP.out.later h4); clear h4)
            obtain ⟨M, hM0⟩ : ∃ M, mrun (nb s) d i 127 4 = M := ⟨_, rfl⟩
            rw [hM0] at HBK
            have hmb := mrun_bd (nb s) d i 127 4
            rw [hM0] at hmb
            obtain ⟨hm1, hm2, hm3, _⟩ := hmb
            have hm3 := hm3 (by rw [nb_length]; exact hlt)
            rw [nb_length] at hm3
            have HM0 := Lib.hid hM0
            have HM1 := Lib.hid hm1
            have HM2 := Lib.hid hm2
            have HM3 := Lib.hid hm3
            have hnbe : nb (s.extract p i) = ((nb s).drop p).take (i - p) := nb_extract s p i his
            have hese : (s.extract p i).size = i - p := by rw [← nb_length, hnbe, List.length_take, List.length_drop, nb_length]; omega
            have hrsh := runs_shift (nb s) i p (by rw [nb_length]; exact his) hpi (i - p) 0
            have hplain : ∀ W, Calls Try.prog 35 #[.string (s.extract p i)] W fun e w' => ∃ v, e = .returned v ∧ OwnB w' W.heap.size v (runs (nb s) i (i - p) p) ∧ Below W.heap.size W w' := by
              intro W
              have h := rplain_any (s.extract p i) (by rw [hese]; omega) W
              rw [hnbe, hese, ← hrsh, Nat.add_zero] at h
              exact h
            have HPLAIN := Lib.hid hplain
            have hrl := runs_length (nb s) i (by rw [nb_length]; omega) (i - p) p (Nat.le_refl _)
            have hrl2 : (out ++ runs (nb s) i (i - p) p).length ≤ lo + 2 * (i - p) := by
              rw [List.length_append, hrl, HLO.out]; unfold rc; omega
            have hbt0 : out.length + (runs (nb s) i (i - p) p).length ≤ 140737488355328 := by
              rw [List.length_append] at hrl2; omega
            have HBT := Lib.hid hbt0
            have HRL := Lib.hid hrl2
            obtain ⟨x0, hx0⟩ : ∃ x, x = 124 + M := ⟨_, rfl⟩
            obtain ⟨x1, hx1⟩ : ∃ x, x = (i - d - 1) % 256 := ⟨_, rfl⟩
            obtain ⟨x2, hx2⟩ : ∃ x, x = (i - d - 1) / 256 % 256 := ⟨_, rfl⟩
            have hstep2 : packG (nb s) k i p = runs (nb s) i (i - p) p ++ (x0 :: x1 :: x2 :: packG (nb s) (k - 1) (i + M) (i + M)) := by
              obtain ⟨k', rfl⟩ : ∃ k', k = k' + 1 := ⟨k - 1, by omega⟩
              rw [packG, if_pos (by rw [nb_length]; omega), HBK.out, if_neg (by show M ≠ 0; omega), hx0, hx1, hx2]
              rfl
            have HSTEP2 := Lib.hid hstep2
            have hq0 : 124 + (M : Int) = (x0 : Int) := by omega
            have hq1 : ((i : Int) - d - 1) % 256 = (x1 : Int) := by omega
            have hq2 : ((i : Int) - d - 1) / 256 = (x2 : Int) := by omega
            have hcl : (cl .u8 [x0, x1, x2]).toArray = #[.int .u8 (124 + (M : Int)), .int .u8 (((i : Int) - d - 1) % 256), .int .u8 (((i : Int) - d - 1) / 256)] := by rw [hq0, hq1, hq2]; rfl
            have HCL := Lib.hid hcl
            clear hnbe hese hrsh hplain hrl hrl2 hbt0 hstep2 hx0 hx1 hx2 hq0 hq1 hq2 hcl
            clear hM0 hm1 hm2 hm3
            go_wp2_with fail
            go_loopw [9] (fun v wr => ∃ m : Nat, 4 ≤ m ∧ m ≤ 131 ∧ v = .int .i64 m ∧ mrun (nb s) d i (131 - m) m = M ∧ RkS w wr gp (.slice A5 lo k5) out (prevF (nb s) (s.size - 1)) s.size) (fun v _ => 131 - (intOf v).toNat)
            case atStart => exact ⟨4, by omega, by omega, rfl, HM0.out, HP4.out⟩
            case round =>
              clear HP4 HM0 HBK
              obtain ⟨m, hm4, hm131, rfl, hM, hq⟩ := hrel
              have HQ := Lib.hid hq
              clear hq
              by_cases hm : m = 131
              · have d0 : ¬ (m : Int) < 131 := by omega
                have e : mrun (nb s) d i (131 - m) m = m := by rw [show 131 - m = 0 by omega]; rfl
                rw [e] at hM
                have HMM := Lib.hid hM
                clear hM e hm
                go_wp2_with fail
                refine wp_region_noPanic ?_
                refine wp_region_held_drew (S := fun _ => True) (by kernel_rfl) trivial (fun hHeld => ?_)
                refine wpAnyH_take (i := 0) (oi := _) (v := (.int .i64 (m : Int))) rfl (by kernel_rfl) (by kernel_rfl) (by kernel_rfl) (fun _ _ _ h => h) (Or.inl ⟨by rfl, fun w' _ => by go_simp⟩) hHeld ?_
                try simp only [Act.put, List.getElem_toArray, List.getElem_cons_succ, List.getElem_cons_zero, List.setIfInBounds_toArray, List.set_cons_zero, List.set_cons_succ]
                refine wpAnyH_take (i := 1) (oi := _) (v := (.bool false)) rfl (by kernel_rfl) (by kernel_rfl) (by kernel_rfl) (fun _ _ _ h => h) (Or.inl ⟨by rfl, fun w' _ => by go_simp⟩) hHeld ?_
                try simp only [Act.put, List.getElem_toArray, List.getElem_cons_succ, List.getElem_cons_zero, List.setIfInBounds_toArray, List.set_cons_zero, List.set_cons_succ]
                refine wpAnyH_take (i := 2) (oi := _) (v := (.bool false)) rfl (by kernel_rfl) (by kernel_rfl) (by kernel_rfl) (fun _ _ _ h => h) (Or.inl ⟨by rfl, fun w' _ => by go_simp⟩) hHeld ?_
                try simp only [Act.put, List.getElem_toArray, List.getElem_cons_succ, List.getElem_cons_zero, List.setIfInBounds_toArray, List.set_cons_zero, List.set_cons_succ]
                refine wpAnyH_take (i := 3) (oi := _) (v := undef) rfl (by kernel_rfl) (by kernel_rfl) (by kernel_rfl) (fun _ _ _ h => h) (Or.inr ⟨by rfl, rfl⟩) hHeld ?_
                try simp only [Act.put, List.getElem_toArray, List.getElem_cons_succ, List.getElem_cons_zero, List.setIfInBounds_toArray, List.set_cons_zero, List.set_cons_succ]
                refine wpAnyH_take (i := 4) (oi := _) (v := undef) rfl (by kernel_rfl) (by kernel_rfl) (by kernel_rfl) (fun _ _ _ h => h) (Or.inr ⟨by rfl, rfl⟩) hHeld ?_
                try simp only [Act.put, List.getElem_toArray, List.getElem_cons_succ, List.getElem_cons_zero, List.setIfInBounds_toArray, List.set_cons_zero, List.set_cons_succ]
                refine wpAnyH_take (i := 5) (oi := _) (v := undef) rfl (by kernel_rfl) (by kernel_rfl) (by kernel_rfl) (fun _ _ _ h => h) (Or.inr ⟨by rfl, rfl⟩) hHeld ?_
                try simp only [Act.put, List.getElem_toArray, List.getElem_cons_succ, List.getElem_cons_zero, List.setIfInBounds_toArray, List.set_cons_zero, List.set_cons_succ]
                refine wpAnyH_take (i := 6) (oi := _) (v := undef) rfl (by kernel_rfl) (by kernel_rfl) (by kernel_rfl) (fun _ _ _ h => h) (Or.inr ⟨by rfl, rfl⟩) hHeld ?_
                try simp only [Act.put, List.getElem_toArray, List.getElem_cons_succ, List.getElem_cons_zero, List.setIfInBounds_toArray, List.set_cons_zero, List.set_cons_succ]
                refine wpAnyH_take (i := 7) (oi := _) (v := undef) rfl (by kernel_rfl) (by kernel_rfl) (by kernel_rfl) (fun _ _ _ h => h) (Or.inr ⟨by rfl, rfl⟩) hHeld ?_
                try simp only [Act.put, List.getElem_toArray, List.getElem_cons_succ, List.getElem_cons_zero, List.setIfInBounds_toArray, List.set_cons_zero, List.set_cons_succ]
                refine wpAnyH_take (i := 8) (oi := _) (v := undef) rfl (by kernel_rfl) (by kernel_rfl) (by kernel_rfl) (fun _ _ _ h => h) (Or.inr ⟨by rfl, rfl⟩) hHeld ?_
                try simp only [Act.put, List.getElem_toArray, List.getElem_cons_succ, List.getElem_cons_zero, List.setIfInBounds_toArray, List.set_cons_zero, List.set_cons_succ]
                refine wpAnyH_take (i := 9) (oi := _) (v := (.bool false)) rfl (by kernel_rfl) (by kernel_rfl) (by kernel_rfl) (fun _ _ _ h => h) (Or.inl ⟨by rfl, fun w' _ => by go_simp⟩) hHeld ?_
                try simp only [Act.put, List.getElem_toArray, List.getElem_cons_succ, List.getElem_cons_zero, List.setIfInBounds_toArray, List.set_cons_zero, List.set_cons_succ]
                refine wpAnyH_take (i := 10) (oi := _) (v := (.bool false)) rfl (by kernel_rfl) (by kernel_rfl) (by kernel_rfl) (fun _ _ _ h => h) (Or.inl ⟨by rfl, fun w' _ => by go_simp⟩) hHeld ?_
                try simp only [Act.put, List.getElem_toArray, List.getElem_cons_succ, List.getElem_cons_zero, List.setIfInBounds_toArray, List.set_cons_zero, List.set_cons_succ]
                refine wpAnyH_take (i := 11) (oi := _) (v := undef) rfl (by kernel_rfl) (by kernel_rfl) (by kernel_rfl) (fun _ _ _ h => h) (Or.inr ⟨by rfl, rfl⟩) hHeld ?_
                try simp only [Act.put, List.getElem_toArray, List.getElem_cons_succ, List.getElem_cons_zero, List.setIfInBounds_toArray, List.set_cons_zero, List.set_cons_succ]
                refine wpAnyH_take (i := 12) (oi := _) (v := undef) rfl (by kernel_rfl) (by kernel_rfl) (by kernel_rfl) (fun _ _ _ h => h) (Or.inr ⟨by rfl, rfl⟩) hHeld ?_
                try simp only [Act.put, List.getElem_toArray, List.getElem_cons_succ, List.getElem_cons_zero, List.setIfInBounds_toArray, List.set_cons_zero, List.set_cons_succ]
                refine wpAnyH_take (i := 13) (oi := _) (v := undef) rfl (by kernel_rfl) (by kernel_rfl) (by kernel_rfl) (fun _ _ _ h => h) (Or.inr ⟨by rfl, rfl⟩) hHeld ?_
                try simp only [Act.put, List.getElem_toArray, List.getElem_cons_succ, List.getElem_cons_zero, List.setIfInBounds_toArray, List.set_cons_zero, List.set_cons_succ]
                refine wpAnyH_take (i := 14) (oi := _) (v := undef) rfl (by kernel_rfl) (by kernel_rfl) (by kernel_rfl) (fun _ _ _ h => h) (Or.inr ⟨by rfl, rfl⟩) hHeld ?_
                try simp only [Act.put, List.getElem_toArray, List.getElem_cons_succ, List.getElem_cons_zero, List.setIfInBounds_toArray, List.set_cons_zero, List.set_cons_succ]
                refine wpAnyH_take (i := 15) (oi := _) (v := undef) rfl (by kernel_rfl) (by kernel_rfl) (by kernel_rfl) (fun _ _ _ h => h) (Or.inr ⟨by rfl, rfl⟩) hHeld ?_
                try simp only [Act.put, List.getElem_toArray, List.getElem_cons_succ, List.getElem_cons_zero, List.setIfInBounds_toArray, List.set_cons_zero, List.set_cons_succ]
                refine wpAnyH_take (i := 16) (oi := _) (v := undef) rfl (by kernel_rfl) (by kernel_rfl) (by kernel_rfl) (fun _ _ _ h => h) (Or.inr ⟨by rfl, rfl⟩) hHeld ?_
                try simp only [Act.put, List.getElem_toArray, List.getElem_cons_succ, List.getElem_cons_zero, List.setIfInBounds_toArray, List.set_cons_zero, List.set_cons_succ]
                refine wpAnyH_take (i := 17) (oi := _) (v := undef) rfl (by kernel_rfl) (by kernel_rfl) (by kernel_rfl) (fun _ _ _ h => h) (Or.inr ⟨by rfl, rfl⟩) hHeld ?_
                try simp only [Act.put, List.getElem_toArray, List.getElem_cons_succ, List.getElem_cons_zero, List.setIfInBounds_toArray, List.set_cons_zero, List.set_cons_succ]
                refine wpAnyH_take (i := 18) (oi := _) (v := undef) rfl (by kernel_rfl) (by kernel_rfl) (by kernel_rfl) (fun _ _ _ h => h) (Or.inr ⟨by rfl, rfl⟩) hHeld ?_
                try simp only [Act.put, List.getElem_toArray, List.getElem_cons_succ, List.getElem_cons_zero, List.setIfInBounds_toArray, List.set_cons_zero, List.set_cons_succ]
                refine wpAnyH_take (i := 19) (oi := _) (v := undef) rfl (by kernel_rfl) (by kernel_rfl) (by kernel_rfl) (fun _ _ _ h => h) (Or.inr ⟨by rfl, rfl⟩) hHeld ?_
                try simp only [Act.put, List.getElem_toArray, List.getElem_cons_succ, List.getElem_cons_zero, List.setIfInBounds_toArray, List.set_cons_zero, List.set_cons_succ]
                refine wpAnyH_take (i := 20) (oi := _) (v := undef) rfl (by kernel_rfl) (by kernel_rfl) (by kernel_rfl) (fun _ _ _ h => h) (Or.inr ⟨by rfl, rfl⟩) hHeld ?_
                try simp only [Act.put, List.getElem_toArray, List.getElem_cons_succ, List.getElem_cons_zero, List.setIfInBounds_toArray, List.set_cons_zero, List.set_cons_succ]
                refine wpAnyH_take (i := 21) (oi := _) (v := undef) rfl (by kernel_rfl) (by kernel_rfl) (by kernel_rfl) (fun _ _ _ h => h) (Or.inr ⟨by rfl, rfl⟩) hHeld ?_
                try simp only [Act.put, List.getElem_toArray, List.getElem_cons_succ, List.getElem_cons_zero, List.setIfInBounds_toArray, List.set_cons_zero, List.set_cons_succ]
                refine wpAnyH_take (i := 22) (oi := _) (v := (.bool false)) rfl (by kernel_rfl) (by kernel_rfl) (by kernel_rfl) (fun _ _ _ h => h) (Or.inl ⟨by rfl, fun w' _ => by go_simp⟩) hHeld ?_
                try simp only [Act.put, List.getElem_toArray, List.getElem_cons_succ, List.getElem_cons_zero, List.setIfInBounds_toArray, List.set_cons_zero, List.set_cons_succ]
                refine wpAnyH_done (by kernel_rfl) ?_ _
                refine NoPanic.normal ?_
                clear hHeld
                have HPD := Lib.hid (HQ.out.later (Below.refl _ _).drew)
                clear HQ
                go_wp2_with fail
                have hmM := HMM.out
                subst hmM
                go_upto_region 17 with (first | (go_at_call 35; refine (HPLAIN.out _).mono ?_; rintro e w5 ⟨u5, rfl, hu5, hb5⟩; have HP5 := Lib.hid (HPD.out.later hb5); have HU5 := Lib.hid hu5; clear hb5 hu5) | (at_builtin; refine wpList_app_own _ rfl (.tmp 83) (.tmp 88) rfl w.heap.size _ _ u5 out _ rfl HP5.out.own rfl HU5.out HBT.out HP5.out.below.size ?_; intro v6 w6 ho6 hg6; have HP6 := Lib.hid (HP5.out.app ho6 hg6); obtain ⟨A6, k6, hv6⟩ := ho6.slice; generalize (out ++ runs (nb s) i (i - p) p).length = l6 at hv6; subst hv6; clear ho6 hg6))
                have hnew := news_bytes w6 [x0, x1, x2] 5
                rw [HCL.out] at hnew
                have hown := HP6.out.own.later ((Below.refl w6.heap.size w6).alloc (Nat.le_refl _) (.cells #[.int .u8 (124 + (m : Int)), .int .u8 (((i : Int) - d - 1) % 256), .int .u8 (((i : Int) - d - 1) / 256)] 5))
                have hlater := HP6.out.later ((Below.refl w6.heap.size w6).alloc (Nat.le_refl _) (.cells #[.int .u8 (124 + (m : Int)), .int .u8 (((i : Int) - d - 1) % 256), .int .u8 (((i : Int) - d - 1) / 256)] 5))
                have hbt : (out ++ runs (nb s) i (i - p) p).length + [x0, x1, x2].length ≤ 140737488355328 := by have := HRL.out; simp only [List.length_cons, List.length_nil]; omega
                have hbs := hlater.below.size
                have HNEW := Lib.hid hnew
                have HOWN := Lib.hid hown
                have HLAT := Lib.hid hlater
                have HBT2 := Lib.hid hbt
                clear hnew hown hbt hlater
                have HM1m := HM1.out
                have HM2m := HM2.out
                have HM3m := HM3.out
                go_wp2_with (at_builtin; refine wpList_app_bytes _ rfl (.tmp 90) (.tmp 106) rfl w.heap.size _ _ rfl HOWN.out ⟨w6.heap.size, 0, none⟩ [x0, x1, x2] 3 rfl HNEW.out HBT2.out hbs ?_; intro v7 w7 ho7 hg7 _; obtain ⟨A7, k7, hv7⟩ := ho7.slice; have HP7 := Lib.hid (HLAT.out.app ho7 hg7); generalize ((out ++ runs (nb s) i (i - p) p) ++ [x0, x1, x2]).length = l7 at hv7; subst hv7; clear ho7 hg7)
                go_roundw
                case rel =>
                  refine ⟨i + m, i + m, k - 1, _, by go_num, by go_num, HP7.out, Nat.le_refl _, by omega, ?_, by omega, ?_⟩
                  · have := HRL.out
                    simp only [List.length_append, List.length_cons, List.length_nil] at this ⊢
                    omega
                  · rw [← HRR.out, HSTEP2.out]
                    simp only [List.append_assoc, List.cons_append, List.nil_append]
                case measure => simp [intOf]; omega
              · by_cases hlt3 : i + m < s.size
                · have e0 : (m : Int) < 131 := by omega
                  have e1 : (i : Int) + m < s.size := by omega
                  have e2 : (d : Int) + m < s.size := by omega
                  have e3 : (0 : Int) ≤ (i : Int) + m := by omega
                  have e4 : (0 : Int) ≤ (d : Int) + m := by omega
                  have t1 : ((i : Int) + m).toNat = i + m := by omega
                  have t2 : ((d : Int) + m).toNat = d + m := by omega
                  have wI : IntKind.i64.wrap ((i : Int) + m) = (i : Int) + m := IntWalk.i64_in _ (by omega)
                  have wC : IntKind.i64.wrap ((d : Int) + m) = (d : Int) + m := IntWalk.i64_in _ (by omega)
                  have hx : (s[d + m]'(by omega)).toNat = (nb s).getD (d + m) 0 := (getD_nb s (d + m) (by omega)).symm
                  have hy : (s[i + m]'(by omega)).toNat = (nb s).getD (i + m) 0 := (getD_nb s (i + m) (by omega)).symm
                  have hst : mrun (nb s) d i (131 - m) m = if (nb s).getD (d + m) 0 = (nb s).getD (i + m) 0 then mrun (nb s) d i (130 - m) (m + 1) else m := by
                    rw [show 131 - m = (130 - m) + 1 by omega, mrun]
                    simp only [nb_length, hlt3, true_and]
                  generalize (nb s).getD (d + m) 0 = x at *
                  generalize (nb s).getD (i + m) 0 = y at *
                  by_cases hxy : x = y
                  · subst hxy
                    rw [if_pos rfl] at hst
                    have HMX := Lib.hid (hst.symm.trans hM)
                    clear hst hM
                    go_wp2_with fail
                    refine wp_region_noPanic ?_
                    refine wp_region_held_drew (S := fun _ => True) (by kernel_rfl) trivial (fun hHeld => ?_)
                    refine wpAnyH_take (i := 0) (oi := _) (v := (.int .i64 (m : Int))) rfl (by kernel_rfl) (by kernel_rfl) (by kernel_rfl) (fun _ _ _ h => h) (Or.inl ⟨by rfl, fun w' _ => by go_simp⟩) hHeld ?_
                    try simp only [Act.put, List.getElem_toArray, List.getElem_cons_succ, List.getElem_cons_zero, List.setIfInBounds_toArray, List.set_cons_zero, List.set_cons_succ]
                    refine wpAnyH_take (i := 1) (oi := _) (v := (.bool true)) rfl (by kernel_rfl) (by kernel_rfl) (by kernel_rfl) (fun _ _ _ h => h) (Or.inl ⟨by rfl, fun w' _ => by go_simp⟩) hHeld ?_
                    try simp only [Act.put, List.getElem_toArray, List.getElem_cons_succ, List.getElem_cons_zero, List.setIfInBounds_toArray, List.set_cons_zero, List.set_cons_succ]
                    refine wpAnyH_take (i := 2) (oi := _) (v := (.bool true)) rfl (by kernel_rfl) (by kernel_rfl) (by kernel_rfl) (fun _ _ _ h => h) (Or.inl ⟨by rfl, fun w' _ => by go_simp⟩) hHeld ?_
                    try simp only [Act.put, List.getElem_toArray, List.getElem_cons_succ, List.getElem_cons_zero, List.setIfInBounds_toArray, List.set_cons_zero, List.set_cons_succ]
                    refine wpAnyH_take (i := 3) (oi := _) (v := (.int .i64 (i : Int))) rfl (by kernel_rfl) (by kernel_rfl) (by kernel_rfl) (fun _ _ _ h => h) (Or.inl ⟨by rfl, fun w' _ => by go_simp⟩) hHeld ?_
                    try simp only [Act.put, List.getElem_toArray, List.getElem_cons_succ, List.getElem_cons_zero, List.setIfInBounds_toArray, List.set_cons_zero, List.set_cons_succ]
                    refine wpAnyH_take (i := 4) (oi := _) (v := (.int .i64 (m : Int))) rfl (by kernel_rfl) (by kernel_rfl) (by kernel_rfl) (fun _ _ _ h => h) (Or.inl ⟨by rfl, fun w' _ => by go_simp⟩) hHeld ?_
                    try simp only [Act.put, List.getElem_toArray, List.getElem_cons_succ, List.getElem_cons_zero, List.setIfInBounds_toArray, List.set_cons_zero, List.set_cons_succ]
                    refine wpAnyH_take (i := 5) (oi := _) (v := (.int .i64 ((i : Int) + m))) rfl (by kernel_rfl) (by kernel_rfl) (by kernel_rfl) (fun _ _ _ h => h) (Or.inl ⟨by rfl, fun w' _ => by go_simp⟩) hHeld ?_
                    try simp only [Act.put, List.getElem_toArray, List.getElem_cons_succ, List.getElem_cons_zero, List.setIfInBounds_toArray, List.set_cons_zero, List.set_cons_succ]
                    refine wpAnyH_take (i := 6) (oi := _) (v := (.string s)) rfl (by kernel_rfl) (by kernel_rfl) (by kernel_rfl) (fun _ _ _ h => h) (Or.inl ⟨by rfl, fun w' _ => by go_simp⟩) hHeld ?_
                    try simp only [Act.put, List.getElem_toArray, List.getElem_cons_succ, List.getElem_cons_zero, List.setIfInBounds_toArray, List.set_cons_zero, List.set_cons_succ]
                    refine wpAnyH_take (i := 7) (oi := _) (v := (.int .i64 (s.size : Int))) rfl (by kernel_rfl) (by kernel_rfl) (by kernel_rfl) (fun _ _ _ h => h) (Or.inl ⟨by rfl, fun w' _ => by go_simp⟩) hHeld ?_
                    try simp only [Act.put, List.getElem_toArray, List.getElem_cons_succ, List.getElem_cons_zero, List.setIfInBounds_toArray, List.set_cons_zero, List.set_cons_succ]
                    refine wpAnyH_take (i := 8) (oi := _) (v := (.bool true)) rfl (by kernel_rfl) (by kernel_rfl) (by kernel_rfl) (fun _ _ _ h => h) (Or.inl ⟨by rfl, fun w' _ => by go_simp⟩) hHeld ?_
                    try simp only [Act.put, List.getElem_toArray, List.getElem_cons_succ, List.getElem_cons_zero, List.setIfInBounds_toArray, List.set_cons_zero, List.set_cons_succ]
                    refine wpAnyH_take (i := 9) (oi := _) (v := (.bool true)) rfl (by kernel_rfl) (by kernel_rfl) (by kernel_rfl) (fun _ _ _ h => h) (Or.inl ⟨by rfl, fun w' _ => by go_simp⟩) hHeld ?_
                    try simp only [Act.put, List.getElem_toArray, List.getElem_cons_succ, List.getElem_cons_zero, List.setIfInBounds_toArray, List.set_cons_zero, List.set_cons_succ]
                    refine wpAnyH_take (i := 10) (oi := _) (v := (.bool true)) rfl (by kernel_rfl) (by kernel_rfl) (by kernel_rfl) (fun _ _ _ h => h) (Or.inl ⟨by rfl, fun w' _ => by go_simp⟩) hHeld ?_
                    try simp only [Act.put, List.getElem_toArray, List.getElem_cons_succ, List.getElem_cons_zero, List.setIfInBounds_toArray, List.set_cons_zero, List.set_cons_succ]
                    refine wpAnyH_take (i := 11) (oi := _) (v := (.string s)) rfl (by kernel_rfl) (by kernel_rfl) (by kernel_rfl) (fun _ _ _ h => h) (Or.inl ⟨by rfl, fun w' _ => by go_simp⟩) hHeld ?_
                    try simp only [Act.put, List.getElem_toArray, List.getElem_cons_succ, List.getElem_cons_zero, List.setIfInBounds_toArray, List.set_cons_zero, List.set_cons_succ]
                    refine wpAnyH_take (i := 12) (oi := _) (v := (.int .i64 (d : Int))) rfl (by kernel_rfl) (by kernel_rfl) (by kernel_rfl) (fun _ _ _ h => h) (Or.inl ⟨by rfl, fun w' _ => by go_simp⟩) hHeld ?_
                    try simp only [Act.put, List.getElem_toArray, List.getElem_cons_succ, List.getElem_cons_zero, List.setIfInBounds_toArray, List.set_cons_zero, List.set_cons_succ]
                    refine wpAnyH_take (i := 13) (oi := _) (v := (.int .i64 (m : Int))) rfl (by kernel_rfl) (by kernel_rfl) (by kernel_rfl) (fun _ _ _ h => h) (Or.inl ⟨by rfl, fun w' _ => by go_simp⟩) hHeld ?_
                    try simp only [Act.put, List.getElem_toArray, List.getElem_cons_succ, List.getElem_cons_zero, List.setIfInBounds_toArray, List.set_cons_zero, List.set_cons_succ]
                    refine wpAnyH_take (i := 14) (oi := _) (v := (.int .i64 ((d : Int) + m))) rfl (by kernel_rfl) (by kernel_rfl) (by kernel_rfl) (fun _ _ _ h => h) (Or.inl ⟨by rfl, fun w' _ => by go_simp⟩) hHeld ?_
                    try simp only [Act.put, List.getElem_toArray, List.getElem_cons_succ, List.getElem_cons_zero, List.setIfInBounds_toArray, List.set_cons_zero, List.set_cons_succ]
                    refine wpAnyH_take (i := 15) (oi := _) (v := (.int .u8 (x : Int))) rfl (by kernel_rfl) (by kernel_rfl) (by kernel_rfl) (fun _ _ _ h => h) (Or.inl ⟨by rfl, fun w' _ => by go_simp⟩) hHeld ?_
                    try simp only [Act.put, List.getElem_toArray, List.getElem_cons_succ, List.getElem_cons_zero, List.setIfInBounds_toArray, List.set_cons_zero, List.set_cons_succ]
                    refine wpAnyH_take (i := 16) (oi := _) (v := (.string s)) rfl (by kernel_rfl) (by kernel_rfl) (by kernel_rfl) (fun _ _ _ h => h) (Or.inl ⟨by rfl, fun w' _ => by go_simp⟩) hHeld ?_
                    try simp only [Act.put, List.getElem_toArray, List.getElem_cons_succ, List.getElem_cons_zero, List.setIfInBounds_toArray, List.set_cons_zero, List.set_cons_succ]
                    refine wpAnyH_take (i := 17) (oi := _) (v := (.int .i64 (i : Int))) rfl (by kernel_rfl) (by kernel_rfl) (by kernel_rfl) (fun _ _ _ h => h) (Or.inl ⟨by rfl, fun w' _ => by go_simp⟩) hHeld ?_
                    try simp only [Act.put, List.getElem_toArray, List.getElem_cons_succ, List.getElem_cons_zero, List.setIfInBounds_toArray, List.set_cons_zero, List.set_cons_succ]
                    refine wpAnyH_take (i := 18) (oi := _) (v := (.int .i64 (m : Int))) rfl (by kernel_rfl) (by kernel_rfl) (by kernel_rfl) (fun _ _ _ h => h) (Or.inl ⟨by rfl, fun w' _ => by go_simp⟩) hHeld ?_
                    try simp only [Act.put, List.getElem_toArray, List.getElem_cons_succ, List.getElem_cons_zero, List.setIfInBounds_toArray, List.set_cons_zero, List.set_cons_succ]
                    refine wpAnyH_take (i := 19) (oi := _) (v := (.int .i64 ((i : Int) + m))) rfl (by kernel_rfl) (by kernel_rfl) (by kernel_rfl) (fun _ _ _ h => h) (Or.inl ⟨by rfl, fun w' _ => by go_simp⟩) hHeld ?_
                    try simp only [Act.put, List.getElem_toArray, List.getElem_cons_succ, List.getElem_cons_zero, List.setIfInBounds_toArray, List.set_cons_zero, List.set_cons_succ]
                    refine wpAnyH_take (i := 20) (oi := _) (v := (.int .u8 (x : Int))) rfl (by kernel_rfl) (by kernel_rfl) (by kernel_rfl) (fun _ _ _ h => h) (Or.inl ⟨by rfl, fun w' _ => by go_simp⟩) hHeld ?_
                    try simp only [Act.put, List.getElem_toArray, List.getElem_cons_succ, List.getElem_cons_zero, List.setIfInBounds_toArray, List.set_cons_zero, List.set_cons_succ]
                    refine wpAnyH_take (i := 21) (oi := _) (v := (.bool true)) rfl (by kernel_rfl) (by kernel_rfl) (by kernel_rfl) (fun _ _ _ h => h) (Or.inl ⟨by rfl, fun w' _ => by go_simp⟩) hHeld ?_
                    try simp only [Act.put, List.getElem_toArray, List.getElem_cons_succ, List.getElem_cons_zero, List.setIfInBounds_toArray, List.set_cons_zero, List.set_cons_succ]
                    refine wpAnyH_take (i := 22) (oi := _) (v := (.bool true)) rfl (by kernel_rfl) (by kernel_rfl) (by kernel_rfl) (fun _ _ _ h => h) (Or.inl ⟨by rfl, fun w' _ => by go_simp⟩) hHeld ?_
                    try simp only [Act.put, List.getElem_toArray, List.getElem_cons_succ, List.getElem_cons_zero, List.setIfInBounds_toArray, List.set_cons_zero, List.set_cons_succ]
                    refine wpAnyH_done (by kernel_rfl) ?_ _
                    refine NoPanic.normal ?_
                    clear hHeld
                    have HPD := Lib.hid (HQ.out.later (Below.refl _ _).drew)
                    clear HQ
                    go_wp2_with fail
                    go_roundw
                    case rel => exact ⟨m + 1, by omega, by omega, by go_num, by rw [show 131 - (m + 1) = 130 - m by omega]; exact HMX.out, HPD.out⟩
                    case measure => simp [intOf]; omega
                  · rw [if_neg hxy] at hst
                    rw [hst] at hM
                    have HMM := Lib.hid hM
                    clear hst hM
                    have hxyI : ¬ (x : Int) = (y : Int) := by omega
                    go_wp2_with fail
                    refine wp_region_noPanic ?_
                    refine wp_region_held_drew (S := fun _ => True) (by kernel_rfl) trivial (fun hHeld => ?_)
                    refine wpAnyH_take (i := 0) (oi := _) (v := (.int .i64 (m : Int))) rfl (by kernel_rfl) (by kernel_rfl) (by kernel_rfl) (fun _ _ _ h => h) (Or.inl ⟨by rfl, fun w' _ => by go_simp⟩) hHeld ?_
                    try simp only [Act.put, List.getElem_toArray, List.getElem_cons_succ, List.getElem_cons_zero, List.setIfInBounds_toArray, List.set_cons_zero, List.set_cons_succ]
                    refine wpAnyH_take (i := 1) (oi := _) (v := (.bool true)) rfl (by kernel_rfl) (by kernel_rfl) (by kernel_rfl) (fun _ _ _ h => h) (Or.inl ⟨by rfl, fun w' _ => by go_simp⟩) hHeld ?_
                    try simp only [Act.put, List.getElem_toArray, List.getElem_cons_succ, List.getElem_cons_zero, List.setIfInBounds_toArray, List.set_cons_zero, List.set_cons_succ]
                    refine wpAnyH_take (i := 2) (oi := _) (v := (.bool true)) rfl (by kernel_rfl) (by kernel_rfl) (by kernel_rfl) (fun _ _ _ h => h) (Or.inl ⟨by rfl, fun w' _ => by go_simp⟩) hHeld ?_
                    try simp only [Act.put, List.getElem_toArray, List.getElem_cons_succ, List.getElem_cons_zero, List.setIfInBounds_toArray, List.set_cons_zero, List.set_cons_succ]
                    refine wpAnyH_take (i := 3) (oi := _) (v := (.int .i64 (i : Int))) rfl (by kernel_rfl) (by kernel_rfl) (by kernel_rfl) (fun _ _ _ h => h) (Or.inl ⟨by rfl, fun w' _ => by go_simp⟩) hHeld ?_
                    try simp only [Act.put, List.getElem_toArray, List.getElem_cons_succ, List.getElem_cons_zero, List.setIfInBounds_toArray, List.set_cons_zero, List.set_cons_succ]
                    refine wpAnyH_take (i := 4) (oi := _) (v := (.int .i64 (m : Int))) rfl (by kernel_rfl) (by kernel_rfl) (by kernel_rfl) (fun _ _ _ h => h) (Or.inl ⟨by rfl, fun w' _ => by go_simp⟩) hHeld ?_
                    try simp only [Act.put, List.getElem_toArray, List.getElem_cons_succ, List.getElem_cons_zero, List.setIfInBounds_toArray, List.set_cons_zero, List.set_cons_succ]
                    refine wpAnyH_take (i := 5) (oi := _) (v := (.int .i64 ((i : Int) + m))) rfl (by kernel_rfl) (by kernel_rfl) (by kernel_rfl) (fun _ _ _ h => h) (Or.inl ⟨by rfl, fun w' _ => by go_simp⟩) hHeld ?_
                    try simp only [Act.put, List.getElem_toArray, List.getElem_cons_succ, List.getElem_cons_zero, List.setIfInBounds_toArray, List.set_cons_zero, List.set_cons_succ]
                    refine wpAnyH_take (i := 6) (oi := _) (v := (.string s)) rfl (by kernel_rfl) (by kernel_rfl) (by kernel_rfl) (fun _ _ _ h => h) (Or.inl ⟨by rfl, fun w' _ => by go_simp⟩) hHeld ?_
                    try simp only [Act.put, List.getElem_toArray, List.getElem_cons_succ, List.getElem_cons_zero, List.setIfInBounds_toArray, List.set_cons_zero, List.set_cons_succ]
                    refine wpAnyH_take (i := 7) (oi := _) (v := (.int .i64 (s.size : Int))) rfl (by kernel_rfl) (by kernel_rfl) (by kernel_rfl) (fun _ _ _ h => h) (Or.inl ⟨by rfl, fun w' _ => by go_simp⟩) hHeld ?_
                    try simp only [Act.put, List.getElem_toArray, List.getElem_cons_succ, List.getElem_cons_zero, List.setIfInBounds_toArray, List.set_cons_zero, List.set_cons_succ]
                    refine wpAnyH_take (i := 8) (oi := _) (v := (.bool true)) rfl (by kernel_rfl) (by kernel_rfl) (by kernel_rfl) (fun _ _ _ h => h) (Or.inl ⟨by rfl, fun w' _ => by go_simp⟩) hHeld ?_
                    try simp only [Act.put, List.getElem_toArray, List.getElem_cons_succ, List.getElem_cons_zero, List.setIfInBounds_toArray, List.set_cons_zero, List.set_cons_succ]
                    refine wpAnyH_take (i := 9) (oi := _) (v := (.bool true)) rfl (by kernel_rfl) (by kernel_rfl) (by kernel_rfl) (fun _ _ _ h => h) (Or.inl ⟨by rfl, fun w' _ => by go_simp⟩) hHeld ?_
                    try simp only [Act.put, List.getElem_toArray, List.getElem_cons_succ, List.getElem_cons_zero, List.setIfInBounds_toArray, List.set_cons_zero, List.set_cons_succ]
                    refine wpAnyH_take (i := 10) (oi := _) (v := (.bool true)) rfl (by kernel_rfl) (by kernel_rfl) (by kernel_rfl) (fun _ _ _ h => h) (Or.inl ⟨by rfl, fun w' _ => by go_simp⟩) hHeld ?_
                    try simp only [Act.put, List.getElem_toArray, List.getElem_cons_succ, List.getElem_cons_zero, List.setIfInBounds_toArray, List.set_cons_zero, List.set_cons_succ]
                    refine wpAnyH_take (i := 11) (oi := _) (v := (.string s)) rfl (by kernel_rfl) (by kernel_rfl) (by kernel_rfl) (fun _ _ _ h => h) (Or.inl ⟨by rfl, fun w' _ => by go_simp⟩) hHeld ?_
                    try simp only [Act.put, List.getElem_toArray, List.getElem_cons_succ, List.getElem_cons_zero, List.setIfInBounds_toArray, List.set_cons_zero, List.set_cons_succ]
                    refine wpAnyH_take (i := 12) (oi := _) (v := (.int .i64 (d : Int))) rfl (by kernel_rfl) (by kernel_rfl) (by kernel_rfl) (fun _ _ _ h => h) (Or.inl ⟨by rfl, fun w' _ => by go_simp⟩) hHeld ?_
                    try simp only [Act.put, List.getElem_toArray, List.getElem_cons_succ, List.getElem_cons_zero, List.setIfInBounds_toArray, List.set_cons_zero, List.set_cons_succ]
                    refine wpAnyH_take (i := 13) (oi := _) (v := (.int .i64 (m : Int))) rfl (by kernel_rfl) (by kernel_rfl) (by kernel_rfl) (fun _ _ _ h => h) (Or.inl ⟨by rfl, fun w' _ => by go_simp⟩) hHeld ?_
                    try simp only [Act.put, List.getElem_toArray, List.getElem_cons_succ, List.getElem_cons_zero, List.setIfInBounds_toArray, List.set_cons_zero, List.set_cons_succ]
                    refine wpAnyH_take (i := 14) (oi := _) (v := (.int .i64 ((d : Int) + m))) rfl (by kernel_rfl) (by kernel_rfl) (by kernel_rfl) (fun _ _ _ h => h) (Or.inl ⟨by rfl, fun w' _ => by go_simp⟩) hHeld ?_
                    try simp only [Act.put, List.getElem_toArray, List.getElem_cons_succ, List.getElem_cons_zero, List.setIfInBounds_toArray, List.set_cons_zero, List.set_cons_succ]
                    refine wpAnyH_take (i := 15) (oi := _) (v := (.int .u8 (x : Int))) rfl (by kernel_rfl) (by kernel_rfl) (by kernel_rfl) (fun _ _ _ h => h) (Or.inl ⟨by rfl, fun w' _ => by go_simp⟩) hHeld ?_
                    try simp only [Act.put, List.getElem_toArray, List.getElem_cons_succ, List.getElem_cons_zero, List.setIfInBounds_toArray, List.set_cons_zero, List.set_cons_succ]
                    refine wpAnyH_take (i := 16) (oi := _) (v := (.string s)) rfl (by kernel_rfl) (by kernel_rfl) (by kernel_rfl) (fun _ _ _ h => h) (Or.inl ⟨by rfl, fun w' _ => by go_simp⟩) hHeld ?_
                    try simp only [Act.put, List.getElem_toArray, List.getElem_cons_succ, List.getElem_cons_zero, List.setIfInBounds_toArray, List.set_cons_zero, List.set_cons_succ]
                    refine wpAnyH_take (i := 17) (oi := _) (v := (.int .i64 (i : Int))) rfl (by kernel_rfl) (by kernel_rfl) (by kernel_rfl) (fun _ _ _ h => h) (Or.inl ⟨by rfl, fun w' _ => by go_simp⟩) hHeld ?_
                    try simp only [Act.put, List.getElem_toArray, List.getElem_cons_succ, List.getElem_cons_zero, List.setIfInBounds_toArray, List.set_cons_zero, List.set_cons_succ]
                    refine wpAnyH_take (i := 18) (oi := _) (v := (.int .i64 (m : Int))) rfl (by kernel_rfl) (by kernel_rfl) (by kernel_rfl) (fun _ _ _ h => h) (Or.inl ⟨by rfl, fun w' _ => by go_simp⟩) hHeld ?_
                    try simp only [Act.put, List.getElem_toArray, List.getElem_cons_succ, List.getElem_cons_zero, List.setIfInBounds_toArray, List.set_cons_zero, List.set_cons_succ]
                    refine wpAnyH_take (i := 19) (oi := _) (v := (.int .i64 ((i : Int) + m))) rfl (by kernel_rfl) (by kernel_rfl) (by kernel_rfl) (fun _ _ _ h => h) (Or.inl ⟨by rfl, fun w' _ => by go_simp⟩) hHeld ?_
                    try simp only [Act.put, List.getElem_toArray, List.getElem_cons_succ, List.getElem_cons_zero, List.setIfInBounds_toArray, List.set_cons_zero, List.set_cons_succ]
                    refine wpAnyH_take (i := 20) (oi := _) (v := (.int .u8 (y : Int))) rfl (by kernel_rfl) (by kernel_rfl) (by kernel_rfl) (fun _ _ _ h => h) (Or.inl ⟨by rfl, fun w' _ => by go_simp⟩) hHeld ?_
                    try simp only [Act.put, List.getElem_toArray, List.getElem_cons_succ, List.getElem_cons_zero, List.setIfInBounds_toArray, List.set_cons_zero, List.set_cons_succ]
                    refine wpAnyH_take (i := 21) (oi := _) (v := (.bool false)) rfl (by kernel_rfl) (by kernel_rfl) (by kernel_rfl) (fun _ _ _ h => h) (Or.inl ⟨by rfl, fun w' _ => by go_simp⟩) hHeld ?_
                    try simp only [Act.put, List.getElem_toArray, List.getElem_cons_succ, List.getElem_cons_zero, List.setIfInBounds_toArray, List.set_cons_zero, List.set_cons_succ]
                    refine wpAnyH_take (i := 22) (oi := _) (v := (.bool false)) rfl (by kernel_rfl) (by kernel_rfl) (by kernel_rfl) (fun _ _ _ h => h) (Or.inl ⟨by rfl, fun w' _ => by go_simp⟩) hHeld ?_
                    try simp only [Act.put, List.getElem_toArray, List.getElem_cons_succ, List.getElem_cons_zero, List.setIfInBounds_toArray, List.set_cons_zero, List.set_cons_succ]
                    refine wpAnyH_done (by kernel_rfl) ?_ _
                    refine NoPanic.normal ?_
                    clear hHeld
                    have HPD := Lib.hid (HQ.out.later (Below.refl _ _).drew)
                    clear HQ
                    go_wp2_with fail
                    have hmM := HMM.out
                    subst hmM
                    go_upto_region 17 with (first | (go_at_call 35; refine (HPLAIN.out _).mono ?_; rintro e w5 ⟨u5, rfl, hu5, hb5⟩; have HP5 := Lib.hid (HPD.out.later hb5); have HU5 := Lib.hid hu5; clear hb5 hu5) | (at_builtin; refine wpList_app_own _ rfl (.tmp 83) (.tmp 88) rfl w.heap.size _ _ u5 out _ rfl HP5.out.own rfl HU5.out HBT.out HP5.out.below.size ?_; intro v6 w6 ho6 hg6; have HP6 := Lib.hid (HP5.out.app ho6 hg6); obtain ⟨A6, k6, hv6⟩ := ho6.slice; generalize (out ++ runs (nb s) i (i - p) p).length = l6 at hv6; subst hv6; clear ho6 hg6))
                    have hnew := news_bytes w6 [x0, x1, x2] 5
                    rw [HCL.out] at hnew
                    have hown := HP6.out.own.later ((Below.refl w6.heap.size w6).alloc (Nat.le_refl _) (.cells #[.int .u8 (124 + (m : Int)), .int .u8 (((i : Int) - d - 1) % 256), .int .u8 (((i : Int) - d - 1) / 256)] 5))
                    have hlater := HP6.out.later ((Below.refl w6.heap.size w6).alloc (Nat.le_refl _) (.cells #[.int .u8 (124 + (m : Int)), .int .u8 (((i : Int) - d - 1) % 256), .int .u8 (((i : Int) - d - 1) / 256)] 5))
                    have hbt : (out ++ runs (nb s) i (i - p) p).length + [x0, x1, x2].length ≤ 140737488355328 := by have := HRL.out; simp only [List.length_cons, List.length_nil]; omega
                    have hbs := hlater.below.size
                    have HNEW := Lib.hid hnew
                    have HOWN := Lib.hid hown
                    have HLAT := Lib.hid hlater
                    have HBT2 := Lib.hid hbt
                    clear hnew hown hbt hlater
                    have HM1m := HM1.out
                    have HM2m := HM2.out
                    have HM3m := HM3.out
                    go_wp2_with (at_builtin; refine wpList_app_bytes _ rfl (.tmp 90) (.tmp 106) rfl w.heap.size _ _ rfl HOWN.out ⟨w6.heap.size, 0, none⟩ [x0, x1, x2] 3 rfl HNEW.out HBT2.out hbs ?_; intro v7 w7 ho7 hg7 _; obtain ⟨A7, k7, hv7⟩ := ho7.slice; have HP7 := Lib.hid (HLAT.out.app ho7 hg7); generalize ((out ++ runs (nb s) i (i - p) p) ++ [x0, x1, x2]).length = l7 at hv7; subst hv7; clear ho7 hg7)
                    go_roundw
                    case rel =>
                      refine ⟨i + m, i + m, k - 1, _, by go_num, by go_num, HP7.out, Nat.le_refl _, by omega, ?_, by omega, ?_⟩
                      · have := HRL.out
                        simp only [List.length_append, List.length_cons, List.length_nil] at this ⊢
                        omega
                      · rw [← HRR.out, HSTEP2.out]
                        simp only [List.append_assoc, List.cons_append, List.nil_append]
                    case measure => simp [intOf]; omega
                · have e0 : (m : Int) < 131 := by omega
                  have e1 : ¬ (i : Int) + m < s.size := by omega
                  have wI : IntKind.i64.wrap ((i : Int) + m) = (i : Int) + m := IntWalk.i64_in _ (by omega)
                  have e : mrun (nb s) d i (131 - m) m = m := by
                    rw [show 131 - m = (130 - m) + 1 by omega, mrun, if_neg (by rw [nb_length]; omega)]
                  rw [e] at hM
                  have HMM := Lib.hid hM
                  clear hM e
                  go_wp2_with fail
                  refine wp_region_noPanic ?_
                  refine wp_region_held_drew (S := fun _ => True) (by kernel_rfl) trivial (fun hHeld => ?_)
                  refine wpAnyH_take (i := 0) (oi := _) (v := (.int .i64 (m : Int))) rfl (by kernel_rfl) (by kernel_rfl) (by kernel_rfl) (fun _ _ _ h => h) (Or.inl ⟨by rfl, fun w' _ => by go_simp⟩) hHeld ?_
                  try simp only [Act.put, List.getElem_toArray, List.getElem_cons_succ, List.getElem_cons_zero, List.setIfInBounds_toArray, List.set_cons_zero, List.set_cons_succ]
                  refine wpAnyH_take (i := 1) (oi := _) (v := (.bool true)) rfl (by kernel_rfl) (by kernel_rfl) (by kernel_rfl) (fun _ _ _ h => h) (Or.inl ⟨by rfl, fun w' _ => by go_simp⟩) hHeld ?_
                  try simp only [Act.put, List.getElem_toArray, List.getElem_cons_succ, List.getElem_cons_zero, List.setIfInBounds_toArray, List.set_cons_zero, List.set_cons_succ]
                  refine wpAnyH_take (i := 2) (oi := _) (v := (.bool true)) rfl (by kernel_rfl) (by kernel_rfl) (by kernel_rfl) (fun _ _ _ h => h) (Or.inl ⟨by rfl, fun w' _ => by go_simp⟩) hHeld ?_
                  try simp only [Act.put, List.getElem_toArray, List.getElem_cons_succ, List.getElem_cons_zero, List.setIfInBounds_toArray, List.set_cons_zero, List.set_cons_succ]
                  refine wpAnyH_take (i := 3) (oi := _) (v := (.int .i64 (i : Int))) rfl (by kernel_rfl) (by kernel_rfl) (by kernel_rfl) (fun _ _ _ h => h) (Or.inl ⟨by rfl, fun w' _ => by go_simp⟩) hHeld ?_
                  try simp only [Act.put, List.getElem_toArray, List.getElem_cons_succ, List.getElem_cons_zero, List.setIfInBounds_toArray, List.set_cons_zero, List.set_cons_succ]
                  refine wpAnyH_take (i := 4) (oi := _) (v := (.int .i64 (m : Int))) rfl (by kernel_rfl) (by kernel_rfl) (by kernel_rfl) (fun _ _ _ h => h) (Or.inl ⟨by rfl, fun w' _ => by go_simp⟩) hHeld ?_
                  try simp only [Act.put, List.getElem_toArray, List.getElem_cons_succ, List.getElem_cons_zero, List.setIfInBounds_toArray, List.set_cons_zero, List.set_cons_succ]
                  refine wpAnyH_take (i := 5) (oi := _) (v := (.int .i64 ((i : Int) + m))) rfl (by kernel_rfl) (by kernel_rfl) (by kernel_rfl) (fun _ _ _ h => h) (Or.inl ⟨by rfl, fun w' _ => by go_simp⟩) hHeld ?_
                  try simp only [Act.put, List.getElem_toArray, List.getElem_cons_succ, List.getElem_cons_zero, List.setIfInBounds_toArray, List.set_cons_zero, List.set_cons_succ]
                  refine wpAnyH_take (i := 6) (oi := _) (v := (.string s)) rfl (by kernel_rfl) (by kernel_rfl) (by kernel_rfl) (fun _ _ _ h => h) (Or.inl ⟨by rfl, fun w' _ => by go_simp⟩) hHeld ?_
                  try simp only [Act.put, List.getElem_toArray, List.getElem_cons_succ, List.getElem_cons_zero, List.setIfInBounds_toArray, List.set_cons_zero, List.set_cons_succ]
                  refine wpAnyH_take (i := 7) (oi := _) (v := (.int .i64 (s.size : Int))) rfl (by kernel_rfl) (by kernel_rfl) (by kernel_rfl) (fun _ _ _ h => h) (Or.inl ⟨by rfl, fun w' _ => by go_simp⟩) hHeld ?_
                  try simp only [Act.put, List.getElem_toArray, List.getElem_cons_succ, List.getElem_cons_zero, List.setIfInBounds_toArray, List.set_cons_zero, List.set_cons_succ]
                  refine wpAnyH_take (i := 8) (oi := _) (v := (.bool false)) rfl (by kernel_rfl) (by kernel_rfl) (by kernel_rfl) (fun _ _ _ h => h) (Or.inl ⟨by rfl, fun w' _ => by go_simp⟩) hHeld ?_
                  try simp only [Act.put, List.getElem_toArray, List.getElem_cons_succ, List.getElem_cons_zero, List.setIfInBounds_toArray, List.set_cons_zero, List.set_cons_succ]
                  refine wpAnyH_take (i := 9) (oi := _) (v := (.bool false)) rfl (by kernel_rfl) (by kernel_rfl) (by kernel_rfl) (fun _ _ _ h => h) (Or.inl ⟨by rfl, fun w' _ => by go_simp⟩) hHeld ?_
                  try simp only [Act.put, List.getElem_toArray, List.getElem_cons_succ, List.getElem_cons_zero, List.setIfInBounds_toArray, List.set_cons_zero, List.set_cons_succ]
                  refine wpAnyH_take (i := 10) (oi := _) (v := (.bool false)) rfl (by kernel_rfl) (by kernel_rfl) (by kernel_rfl) (fun _ _ _ h => h) (Or.inl ⟨by rfl, fun w' _ => by go_simp⟩) hHeld ?_
                  try simp only [Act.put, List.getElem_toArray, List.getElem_cons_succ, List.getElem_cons_zero, List.setIfInBounds_toArray, List.set_cons_zero, List.set_cons_succ]
                  refine wpAnyH_take (i := 11) (oi := _) (v := undef) rfl (by kernel_rfl) (by kernel_rfl) (by kernel_rfl) (fun _ _ _ h => h) (Or.inr ⟨by rfl, rfl⟩) hHeld ?_
                  try simp only [Act.put, List.getElem_toArray, List.getElem_cons_succ, List.getElem_cons_zero, List.setIfInBounds_toArray, List.set_cons_zero, List.set_cons_succ]
                  refine wpAnyH_take (i := 12) (oi := _) (v := undef) rfl (by kernel_rfl) (by kernel_rfl) (by kernel_rfl) (fun _ _ _ h => h) (Or.inr ⟨by rfl, rfl⟩) hHeld ?_
                  try simp only [Act.put, List.getElem_toArray, List.getElem_cons_succ, List.getElem_cons_zero, List.setIfInBounds_toArray, List.set_cons_zero, List.set_cons_succ]
                  refine wpAnyH_take (i := 13) (oi := _) (v := undef) rfl (by kernel_rfl) (by kernel_rfl) (by kernel_rfl) (fun _ _ _ h => h) (Or.inr ⟨by rfl, rfl⟩) hHeld ?_
                  try simp only [Act.put, List.getElem_toArray, List.getElem_cons_succ, List.getElem_cons_zero, List.setIfInBounds_toArray, List.set_cons_zero, List.set_cons_succ]
                  refine wpAnyH_take (i := 14) (oi := _) (v := undef) rfl (by kernel_rfl) (by kernel_rfl) (by kernel_rfl) (fun _ _ _ h => h) (Or.inr ⟨by rfl, rfl⟩) hHeld ?_
                  try simp only [Act.put, List.getElem_toArray, List.getElem_cons_succ, List.getElem_cons_zero, List.setIfInBounds_toArray, List.set_cons_zero, List.set_cons_succ]
                  refine wpAnyH_take (i := 15) (oi := _) (v := undef) rfl (by kernel_rfl) (by kernel_rfl) (by kernel_rfl) (fun _ _ _ h => h) (Or.inr ⟨by rfl, rfl⟩) hHeld ?_
                  try simp only [Act.put, List.getElem_toArray, List.getElem_cons_succ, List.getElem_cons_zero, List.setIfInBounds_toArray, List.set_cons_zero, List.set_cons_succ]
                  refine wpAnyH_take (i := 16) (oi := _) (v := undef) rfl (by kernel_rfl) (by kernel_rfl) (by kernel_rfl) (fun _ _ _ h => h) (Or.inr ⟨by rfl, rfl⟩) hHeld ?_
                  try simp only [Act.put, List.getElem_toArray, List.getElem_cons_succ, List.getElem_cons_zero, List.setIfInBounds_toArray, List.set_cons_zero, List.set_cons_succ]
                  refine wpAnyH_take (i := 17) (oi := _) (v := undef) rfl (by kernel_rfl) (by kernel_rfl) (by kernel_rfl) (fun _ _ _ h => h) (Or.inr ⟨by rfl, rfl⟩) hHeld ?_
                  try simp only [Act.put, List.getElem_toArray, List.getElem_cons_succ, List.getElem_cons_zero, List.setIfInBounds_toArray, List.set_cons_zero, List.set_cons_succ]
                  refine wpAnyH_take (i := 18) (oi := _) (v := undef) rfl (by kernel_rfl) (by kernel_rfl) (by kernel_rfl) (fun _ _ _ h => h) (Or.inr ⟨by rfl, rfl⟩) hHeld ?_
                  try simp only [Act.put, List.getElem_toArray, List.getElem_cons_succ, List.getElem_cons_zero, List.setIfInBounds_toArray, List.set_cons_zero, List.set_cons_succ]
                  refine wpAnyH_take (i := 19) (oi := _) (v := undef) rfl (by kernel_rfl) (by kernel_rfl) (by kernel_rfl) (fun _ _ _ h => h) (Or.inr ⟨by rfl, rfl⟩) hHeld ?_
                  try simp only [Act.put, List.getElem_toArray, List.getElem_cons_succ, List.getElem_cons_zero, List.setIfInBounds_toArray, List.set_cons_zero, List.set_cons_succ]
                  refine wpAnyH_take (i := 20) (oi := _) (v := undef) rfl (by kernel_rfl) (by kernel_rfl) (by kernel_rfl) (fun _ _ _ h => h) (Or.inr ⟨by rfl, rfl⟩) hHeld ?_
                  try simp only [Act.put, List.getElem_toArray, List.getElem_cons_succ, List.getElem_cons_zero, List.setIfInBounds_toArray, List.set_cons_zero, List.set_cons_succ]
                  refine wpAnyH_take (i := 21) (oi := _) (v := undef) rfl (by kernel_rfl) (by kernel_rfl) (by kernel_rfl) (fun _ _ _ h => h) (Or.inr ⟨by rfl, rfl⟩) hHeld ?_
                  try simp only [Act.put, List.getElem_toArray, List.getElem_cons_succ, List.getElem_cons_zero, List.setIfInBounds_toArray, List.set_cons_zero, List.set_cons_succ]
                  refine wpAnyH_take (i := 22) (oi := _) (v := (.bool false)) rfl (by kernel_rfl) (by kernel_rfl) (by kernel_rfl) (fun _ _ _ h => h) (Or.inl ⟨by rfl, fun w' _ => by go_simp⟩) hHeld ?_
                  try simp only [Act.put, List.getElem_toArray, List.getElem_cons_succ, List.getElem_cons_zero, List.setIfInBounds_toArray, List.set_cons_zero, List.set_cons_succ]
                  refine wpAnyH_done (by kernel_rfl) ?_ _
                  refine NoPanic.normal ?_
                  clear hHeld
                  have HPD := Lib.hid (HQ.out.later (Below.refl _ _).drew)
                  clear HQ
                  go_wp2_with fail
                  have hmM := HMM.out
                  subst hmM
                  go_upto_region 17 with (first | (go_at_call 35; refine (HPLAIN.out _).mono ?_; rintro e w5 ⟨u5, rfl, hu5, hb5⟩; have HP5 := Lib.hid (HPD.out.later hb5); have HU5 := Lib.hid hu5; clear hb5 hu5) | (at_builtin; refine wpList_app_own _ rfl (.tmp 83) (.tmp 88) rfl w.heap.size _ _ u5 out _ rfl HP5.out.own rfl HU5.out HBT.out HP5.out.below.size ?_; intro v6 w6 ho6 hg6; have HP6 := Lib.hid (HP5.out.app ho6 hg6); obtain ⟨A6, k6, hv6⟩ := ho6.slice; generalize (out ++ runs (nb s) i (i - p) p).length = l6 at hv6; subst hv6; clear ho6 hg6))
                  have hnew := news_bytes w6 [x0, x1, x2] 5
                  rw [HCL.out] at hnew
                  have hown := HP6.out.own.later ((Below.refl w6.heap.size w6).alloc (Nat.le_refl _) (.cells #[.int .u8 (124 + (m : Int)), .int .u8 (((i : Int) - d - 1) % 256), .int .u8 (((i : Int) - d - 1) / 256)] 5))
                  have hlater := HP6.out.later ((Below.refl w6.heap.size w6).alloc (Nat.le_refl _) (.cells #[.int .u8 (124 + (m : Int)), .int .u8 (((i : Int) - d - 1) % 256), .int .u8 (((i : Int) - d - 1) / 256)] 5))
                  have hbt : (out ++ runs (nb s) i (i - p) p).length + [x0, x1, x2].length ≤ 140737488355328 := by have := HRL.out; simp only [List.length_cons, List.length_nil]; omega
                  have hbs := hlater.below.size
                  have HNEW := Lib.hid hnew
                  have HOWN := Lib.hid hown
                  have HLAT := Lib.hid hlater
                  have HBT2 := Lib.hid hbt
                  clear hnew hown hbt hlater
                  have HM1m := HM1.out
                  have HM2m := HM2.out
                  have HM3m := HM3.out
                  go_wp2_with (at_builtin; refine wpList_app_bytes _ rfl (.tmp 90) (.tmp 106) rfl w.heap.size _ _ rfl HOWN.out ⟨w6.heap.size, 0, none⟩ [x0, x1, x2] 3 rfl HNEW.out HBT2.out hbs ?_; intro v7 w7 ho7 hg7 _; obtain ⟨A7, k7, hv7⟩ := ho7.slice; have HP7 := Lib.hid (HLAT.out.app ho7 hg7); generalize ((out ++ runs (nb s) i (i - p) p) ++ [x0, x1, x2]).length = l7 at hv7; subst hv7; clear ho7 hg7)
                  go_roundw
                  case rel =>
                    refine ⟨i + m, i + m, k - 1, _, by go_num, by go_num, HP7.out, Nat.le_refl _, by omega, ?_, by omega, ?_⟩
                    · have := HRL.out
                      simp only [List.length_append, List.length_cons, List.length_nil] at this ⊢
                      omega
                    · rw [← HRR.out, HSTEP2.out]
                      simp only [List.append_assoc, List.cons_append, List.nil_append]
                  case measure => simp [intOf]; omega
          · rw [decide_eq_false hw] at hdec
            have HDEC := Lib.hid hdec
            have HPN := Lib.hid (past_next (nb s) i d hpa hw)
            have hPV := prevF_at (nb s) d (s.size - 1) (by omega)
            have hbd : -1 ≤ headsF (nb s) d (two (nb s) d) - 1 ∧ headsF (nb s) d (two (nb s) d) - 1 < d := by have := headsF_bd (nb s) d (two (nb s) d); omega
            generalize headsF (nb s) d (two (nb s) d) - 1 = c2 at *
            have hd2 : (d : Int) < s.size := by omega
            clear hdec hpa hw hex
            go_upto_region 10 with (go_at_call 34; refine (HDEC.out _).mono ?_; rintro e w4 ⟨rfl, h4⟩; have HP4 := Lib.hid (HP.out.later h4); clear h4)
            have hcd4 := rowF_cell HP4.out.row d (by omega)
            rw [hPV] at hcd4
            clear hPV
            go_wp2_with fail
            go_roundw
            case rel => exact ⟨c2, rfl, HPN.out, HP4.out⟩
            case measure => simp [intOf]; omega
    · have hltI : ¬ (i : Int) + 4 ≤ s.size := by omega
      have hR2 : out ++ runs (nb s) s.size (s.size - p) p = R := by
        rw [← HRR.out, packG_end (nb s) k i p (by rw [nb_length]; omega), nb_length]
      have hnbe : nb (s.extract p s.size) = ((nb s).drop p).take (s.size - p) := nb_extract s p s.size (Nat.le_refl _)
      have hese : (s.extract p s.size).size = s.size - p := by rw [← nb_length, hnbe, List.length_take, List.length_drop, nb_length]; omega
      have hrsh := runs_shift (nb s) s.size p (by rw [nb_length]; exact Nat.le_refl _) (by omega) (s.size - p) 0
      have hplain : ∀ W, Calls Try.prog 35 #[.string (s.extract p s.size)] W fun e w' => ∃ v, e = .returned v ∧ OwnB w' W.heap.size v (runs (nb s) s.size (s.size - p) p) ∧ Below W.heap.size W w' := by
        intro W
        have h := rplain_any (s.extract p s.size) (by rw [hese]; omega) W
        rw [hnbe, hese, ← hrsh, Nat.add_zero] at h
        exact h
      have HPLAIN := Lib.hid hplain
      have hrl := runs_length (nb s) s.size (by rw [nb_length]; exact Nat.le_refl _) (s.size - p) p (Nat.le_refl _)
      have hbt0 : out.length + (runs (nb s) s.size (s.size - p) p).length ≤ 140737488355328 := by
        rw [hrl, HLO.out]; unfold rc; omega
      have HBT := Lib.hid hbt0
      have HR2 := Lib.hid hR2
      have hconv : ∀ (W : World) (u : Value), OwnB W w.heap.size u R → (convert 43 9 u).run Try.prog W = .ok (.string (strOf R)) W := fun W u h => run_conv_own W h HRB.out
      have HCONV := Lib.hid hconv
      have hps : (p : Int) ≤ s.size := by omega
      clear hR2 hnbe hese hrsh hplain hrl hbt0 hconv
      go_wp2_with (first | (go_at_call 35; refine (HPLAIN.out _).mono ?_; rintro e w5 ⟨u5, rfl, hu5, hb5⟩; have HP5 := Lib.hid (HP.out.later hb5); have HU5 := Lib.hid hu5; clear hb5 hu5) | (at_builtin; refine wpList_app_own _ rfl (.tmp 112) (.tmp 116) rfl w.heap.size _ _ u5 out _ rfl HP5.out.own rfl HU5.out HBT.out HP5.out.below.size ?_; intro v6 w6 ho6 hg6; rw [HR2.out] at ho6; have hcv := HCONV.out w6 v6 ho6; have HB6 := Lib.hid (below_own HP5.out.below HP5.out.own hg6); clear ho6 hg6))
      go_ret2
      exact ⟨rfl, HB6.out⟩
end Go.Proofs.Ytikbbofjkchppaa

