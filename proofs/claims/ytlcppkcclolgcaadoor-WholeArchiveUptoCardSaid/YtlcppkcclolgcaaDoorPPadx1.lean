-- PRINTED BY print.sh 35421559b90ae4d0a3588c463048766b98c2df88dd9212a6774a882060cdf62d: not written by this session
import Derived.Test.YtlcppkcclolgcaaDoorPPadx0
namespace Go.Proofs.YtlcppkcclolgcaaDoor.PPad
open Go.RowKit Go.Proofs.YtlcppkcclolgcaaDoorW.PrintWords Go.Proofs.YtlcppkcclolgcaaDoorW.PrintLast Go.Proofs.YtlcppkcclolgcaaDoorW.PrintMore
attribute [local go_sem] max2_int min2_int max_two min_two max_three min_three max_four min_four   -- for this text's walks alone
set_option linter.unusedVariables false
set_option linter.unusedSimpArgs false

/-! ### sha_Pad: function 33 -/
def sha_Pad.l0 : Nat → List Int → Int → Int → Option (ByteArray)
  | 0, _, _, _ => none
  | k + 1, x4, x5, x22 => if x22 < 8 then (if 0 ≤ (wrap64 (8 * x22)) then (if 0 ≤ (wrap64 ((wrap64 ((x4.length : Int) - 1)) - x22)) then (if (wrap64 ((wrap64 ((x4.length : Int) - 1)) - x22)) < (x4.length : Int) then (sha_Pad.l0 k (x4.set ((wrap64 ((wrap64 ((x4.length : Int) - 1)) - x22)) : Int).toNat ((shr .u64 x5 (wrap64 (8 * x22))) % 256)) x5 (wrap64 (x22 + 1))) else (none)) else (none)) else (none)) else (some (strOfNums x4))
def sha_Pad.f (k : Nat) (a0 : Int) : Option (ByteArray) := if a0 < 0 then (some (⟨#[]⟩ : ByteArray)) else (if 0 ≤ (wrap64 ((wrap64 (1 + (Int.tmod (wrap64 (119 - (Int.tmod a0 64))) 64))) + 8)) then (if (wrap64 ((wrap64 (1 + (Int.tmod (wrap64 (119 - (Int.tmod a0 64))) 64))) + 8) : Int).toNat ≤ 281474976710656 then ((some (List.replicate (wrap64 ((wrap64 (1 + (Int.tmod (wrap64 (119 - (Int.tmod a0 64))) 64))) + 8) : Int).toNat 0 : List Int)).bind fun y101 => (if 0 < (y101.length : Int) then (sha_Pad.l0 k (y101.set (0 : Int).toNat 128) (IntKind.u64.wrap ((IntKind.u64.wrap (a0)) * 8)) 0) else (none))) else (none)) else (none))
theorem sha_Pad.mono_l : ∀ k, (∀ y0 y1 y2, LeO (sha_Pad.l0 k y0 y1 y2) (sha_Pad.l0 (k + 1) y0 y1 y2))
  | 0 => fun _ _ _ r h => by simp [sha_Pad.l0] at h
  | k + 1 => by
    have ih0 := sha_Pad.mono_l k
    · intro y0 y1 y2
      unfold sha_Pad.l0
      repeat' first
      | (with_reducible exact ih0 _ _ _)
      | (with_reducible exact LeO.refl _)
      | (with_reducible exact LeO.none _)
      | (with_reducible refine LeO.ite ?_ ?_)
      | (with_reducible refine LeO.bind ?_ (fun _ => ?_))
      | exact ih0 _ _ _
      | exact LeO.none _
      | refine LeO.ite ?_ ?_
      | refine LeO.bind ?_ (fun _ => ?_)
theorem sha_Pad.mono : ∀ a0 k, LeO (sha_Pad.f k a0) (sha_Pad.f (k + 1) a0) := by
  intro a0 k
  have ih0 := sha_Pad.mono_l k
  unfold sha_Pad.f
  repeat' first
      | (with_reducible exact ih0 _ _ _)
      | (with_reducible exact LeO.refl _)
      | (with_reducible exact LeO.none _)
      | (with_reducible refine LeO.ite ?_ ?_)
      | (with_reducible refine LeO.bind ?_ (fun _ => ?_))
      | exact ih0 _ _ _
      | exact LeO.none _
      | refine LeO.ite ?_ ?_
      | refine LeO.bind ?_ (fun _ => ?_)
set_option maxHeartbeats 8000000 in
set_option maxRecDepth 100000 in
theorem sha_Pad.calls (k : Nat) (a0 : Int) (r : ByteArray) (w : World) (h : sha_Pad.f k a0 = some r) :
    Calls Tryd.prog 33 #[.int .i64 a0] w fun e w' => e = .returned (.string r) ∧ Below w.heap.size w w' := by
  have HB := Aside0.mk (Below.refl w.heap.size w)
  have H : (if a0 < 0 then (some (⟨#[]⟩ : ByteArray)) else (if 0 ≤ (wrap64 ((wrap64 (1 + (Int.tmod (wrap64 (119 - (Int.tmod a0 64))) 64))) + 8)) then (if (wrap64 ((wrap64 (1 + (Int.tmod (wrap64 (119 - (Int.tmod a0 64))) 64))) + 8) : Int).toNat ≤ 281474976710656 then ((some (List.replicate (wrap64 ((wrap64 (1 + (Int.tmod (wrap64 (119 - (Int.tmod a0 64))) 64))) + 8) : Int).toNat 0 : List Int)).bind fun y101 => (if 0 < (y101.length : Int) then (sha_Pad.l0 k (y101.set (0 : Int).toNat 128) (IntKind.u64.wrap ((IntKind.u64.wrap (a0)) * 8)) 0) else (none))) else (none)) else (none))) = some r := h
  clear h
  by_cases c2 : a0 < 0
  · rw [if_pos c2] at H
    have c2b0 : decide (a0 < 0) = true := decide_eq_true c2
    clear c2
    obtain rfl := Option.some.inj H
    go_enter Tryd.func33, Tryd.ntmps33
    go_wp2
    go_ret
    exact ⟨by first | rfl | (simp [errW_none, errW_some] <;> rfl) | (simp [*, errW_none, errW_some] <;> rfl), by repeat (first | (with_reducible first | exact HB.out | apply below_alloc | apply pw_below_drewN | apply below_drew1) | exact HB.out)⟩
  · rw [if_neg c2] at H
    have c2b0 : decide (a0 < 0) = false := decide_eq_false c2
    clear c2
    obtain ⟨ji3, hji3⟩ : ∃ j_ : Int, (wrap64 ((wrap64 (1 + (Int.tmod (wrap64 (119 - (Int.tmod a0 64))) 64))) + 8)) = j_ := ⟨_, rfl⟩
    replace H : (if 0 ≤ (ji3) then (if (ji3 : Int).toNat ≤ 281474976710656 then ((some (List.replicate (ji3 : Int).toNat 0 : List Int)).bind fun y101 => (if 0 < (y101.length : Int) then (sha_Pad.l0 k (y101.set (0 : Int).toNat 128) (IntKind.u64.wrap ((IntKind.u64.wrap (a0)) * 8)) 0) else (none))) else (none)) else (none)) = some r := by first | (rw [hji3] at H; exact H) | (simp only [hji3] at H ⊢; exact H)
    have hji3w : (IntKind.i64.wrap ((wrap64 (1 + (Int.tmod (wrap64 (119 - (Int.tmod a0 64))) 64))) + 8)) = ji3 := (i64_w _).trans hji3
    by_cases c4 : 0 ≤ (ji3)
    · rw [if_pos c4] at H
      have c4b0 := eq_true c4
      have c4b1 : decide (0 ≤ (ji3)) = true := decide_eq_true c4
      clear c4
      by_cases c5 : (ji3 : Int).toNat ≤ 281474976710656
      · rw [if_pos c5] at H
        have c5b0 := eq_true c5
        have c5b1 : decide ((ji3 : Int).toNat ≤ 281474976710656) = true := decide_eq_true c5
        clear c5
        obtain ⟨y101, hy101⟩ : ∃ y_ : List Int, y_ = (List.replicate (ji3 : Int).toNat 0) := ⟨_, rfl⟩
        replace H : (if 0 < (y101.length : Int) then (sha_Pad.l0 k (y101.set (0 : Int).toNat 128) (IntKind.u64.wrap ((IntKind.u64.wrap (a0)) * 8)) 0) else (none)) = some r := by first | (rw [hy101]; with_reducible exact H) | (have H2_ := (Option.bind_some _ _).symm.trans H; rw [hy101]; with_reducible exact H2_) | (have H2_ := (Option.bind_some _ _).symm.trans H; with_reducible exact H2_) | with_reducible exact H | (rw [hy101]; exact H) | exact H
        have Ny101 := Aside0.mk hy101
        clear hy101
        by_cases c6 : 0 < (y101.length : Int)
        · rw [if_pos c6] at H
          have c6b0 : decide (0 < (y101.length : Int)) = true := decide_eq_true c6
          have c6b1 : decide (0 < y101.length) = true := decide_eq_true (by omega)
          clear c6
          obtain ⟨y104, hy104⟩ : ∃ y_ : List Int, y_ = (y101.set (0 : Int).toNat 128) := ⟨_, rfl⟩
          replace H : (sha_Pad.l0 k y104 (IntKind.u64.wrap ((IntKind.u64.wrap (a0)) * 8)) 0) = some r := by first | (rw [hy104]; with_reducible exact H) | (have H2_ := (Option.bind_some _ _).symm.trans H; rw [hy104]; with_reducible exact H2_) | (have H2_ := (Option.bind_some _ _).symm.trans H; with_reducible exact H2_) | with_reducible exact H | (rw [hy104]; exact H) | exact H
          have Ny104 := Aside0.mk hy104
          clear hy104
          have H' := Aside0.mk H
          clear H
          go_enter Tryd.func33, Tryd.ntmps33
          go_wp2_with (first | ((with_reducible refine gate_dst (N := 16) rfl ?_); refine Kd.R_make (Kd.int .u8) _ 5 rfl (N := 16) rfl 38 _ _ rfl ji3 rfl rfl Tryd.underlying38 (.int .u8 0) 1 info5 rfl (by decide) (by omega) 0 (ok := fun _ => True) (okp := fun _ => True) rfl (fun _ hk => hk) trivial (of_decide_eq_true (by first | (with_reducible assumption) | assumption)) (Nat.le_trans (Nat.mul_le_mul_right _ (of_decide_eq_true (by first | (with_reducible assumption) | assumption) : ji3.toNat ≤ 281474976710656)) (by omega)) (Below.refl _ _) (Nat.le_refl _) ?_; intro v102 w8 ho9 hb hg_ hnew_; clear hg_ hnew_; (first | rw [← Ny101.out] at ho9 | (simp only [Int.reduceToNat] at ho9; rw [← Ny101.out] at ho9)); have n0_ := Aside0.mk (Kd.R_lower ho9 (below_size (by repeat (first | (with_reducible first | exact HB.out | apply below_alloc | apply pw_below_drewN | apply below_drew1) | exact HB.out)))); have n1_ := Aside0.mk (below_step (by repeat (first | (with_reducible first | exact HB.out | apply below_alloc | apply pw_below_drewN | apply below_drew1) | exact HB.out)) hb); clear HB; have HO103 := n0_; have HB := n1_; clear n0_ n1_; clear hb ho9; have p7 : 0 ≤ (0 : Int) := (by omega); have q7 : (0 : Int) < ((y101.length : Int) : Int) := of_decide_eq_true (by first | (with_reducible assumption) | assumption); have qi7 : (0 < y101.length) = True := eq_true (by omega); obtain ⟨go7, co7, eo7, gb7, gl7, cl7, HG7⟩ := Kd.R_form HO103.out (by omega); (first | cases eo7 | (injection eo7 with ea_ en_ ec_; (first | subst ea_ | (injection ea_ with ea_; subst ea_)); subst ec_; clear en_)); have GB7 := Aside0.mk gb7; have GG7 := Aside0.mk HG7; clear gb7 gl7 HG7; obtain ⟨hx7_0, hf7_0⟩ := Kd.R_celln 0 HO103.out (0 : Int) p7 q7; (try rw [show ((0 : Int)).toNat = 0 from rfl] at hx7_0); (try simp only [Nat.reduceMul, Nat.zero_mul, Nat.zero_add, Nat.reduceAdd] at hx7_0); (try rw [show ((0 : Int)).toNat = 0 from rfl] at hf7_0); (try simp only [Nat.reduceMul, Nat.zero_mul, Nat.zero_add, Nat.reduceAdd] at hf7_0); replace p7 := eq_true p7; replace q7 := eq_true q7; obtain ⟨hy10_, hz10_⟩ := Kd.R_celln 0 HO103.out (0 : Int) (by omega) (of_decide_eq_true (by first | (with_reducible assumption) | assumption)); (try simp only [Int.reduceToNat, Int.toNat_zero, Int.toNat_ofNat, Nat.reduceMul, Nat.zero_mul, Nat.zero_add] at hy10_ hz10_); (try rw [show ((0 : Int)).toNat = 0 from rfl] at hy10_); (try rw [show ((0 : Int)).toNat = 0 from rfl] at hz10_); have HP10 := Kd.R_putg HO103.out (0 : Int) 128) | ((with_reducible refine gate_store (t := 5) (p := 18) rfl ?_); refine store_event (t := 5) (p := 18) (v := ?vo_w11) (w1 := (w8.setCell ⟨go7, (0 : Int).toNat, none⟩ (.int .u8 128))) ?hg ?ho ?hn ?hr ?_; (case ho => rfl); (case hg => rfl); (case hn => rfl); (case hr => first | (go_simp; done) | (go_simp; rfl)); intro w11 hw; have hg : w8.grownBy w11 (some go7) := (by rw [hw]; exact HP10.2); have hp_ : Kd.R (Kd.int .u8) 5 w11 w.heap.size (fun _ => True) (.slice (some ⟨go7, 0, none⟩) y101.length co7) y104 := (by rw [hw, Ny104.out]; exact HP10.1); clear HP10; have n0_ := Aside0.mk (hp_); have n1_ := Aside0.mk ((by rw [hw]; exact below_set (HB.out) GB7.out : Below w.heap.size w w11)); clear HO103; clear HB; have HO103 := n0_; have HB := n1_; clear n0_ n1_; clear hg hw hp_))
          go_loopg [22] k (fun kq v22 w' => ∃ (x4_1 : List Int) (x22_1 : Int), v22 = .int .i64 x22_1 ∧ Aside0 (sha_Pad.l0 kq x4_1 (IntKind.u64.wrap ((IntKind.u64.wrap (a0)) * 8)) x22_1 = some r) ∧ Aside0 (kq ≤ k) ∧ Aside0 (Kd.R (Kd.int .u8) 5 w' w.heap.size (fun _ => True) (.slice (some ⟨go7, 0, none⟩) y101.length co7) x4_1) ∧ Aside0 (Below w.heap.size w w'))
          case atStart => exact ⟨(y104), (0), (by first | rfl | (simp; done) | (simp [*]; done)), H', ⟨Nat.le_refl _⟩, ⟨by (with_reducible repeat (first | apply Kd.R_alloc | apply Kd.R_drewN | apply Kd.R_drew)); exact HO103.out⟩, ⟨by repeat (first | (with_reducible first | exact HB.out | apply below_alloc | apply pw_below_drewN | apply below_drew1) | exact HB.out)⟩⟩
          case round =>
            clear H'
            try clear c2
            try clear c2b0
            try clear p2
            try clear c3
            try clear c4
            try clear c4b0
            try clear c4b1
            try clear c5
            try clear c5b0
            try clear c5b1
            try clear c6
            try clear c6b0
            try clear c6b1
            try clear p6
            try clear p7
            try clear q7
            try clear hx7
            try clear qi7
            try clear hf7
            try clear hx7_0
            try clear p7
            try clear q7
            obtain ⟨x4_1, x22_1, rfl, HA, HK1, HO_4, HB⟩ := hrel
            have hl4_1 := (Kd.R_reads' HO_4.out).1
            rw [hl4_1] at HO_4
            (try simp only [hl4_1])
            cases gk with
            | zero => exact absurd HA.out (by simp [sha_Pad.l0])
            | succ k1 =>
              have H := HA.out
              clear HA
              simp only [sha_Pad.l0] at H
              by_cases c12 : x22_1 < 8
              · rw [if_pos c12] at H
                have c12b0 : decide (x22_1 < 8) = true := decide_eq_true c12
                clear c12
                obtain ⟨ji13, hji13⟩ : ∃ j_ : Int, (wrap64 (8 * x22_1)) = j_ := ⟨_, rfl⟩
                replace H : (if 0 ≤ (ji13) then (if 0 ≤ (wrap64 ((wrap64 ((x4_1.length : Int) - 1)) - x22_1)) then (if (wrap64 ((wrap64 ((x4_1.length : Int) - 1)) - x22_1)) < (x4_1.length : Int) then (sha_Pad.l0 k1 (x4_1.set ((wrap64 ((wrap64 ((x4_1.length : Int) - 1)) - x22_1)) : Int).toNat ((shr .u64 (IntKind.u64.wrap ((IntKind.u64.wrap (a0)) * 8)) (ji13)) % 256)) (IntKind.u64.wrap ((IntKind.u64.wrap (a0)) * 8)) (wrap64 (x22_1 + 1))) else (none)) else (none)) else (none)) = some r := by first | (rw [hji13] at H; exact H) | (simp only [hji13] at H ⊢; exact H)
                have hji13w : (IntKind.i64.wrap (8 * x22_1)) = ji13 := (i64_w _).trans hji13
                by_cases c14 : 0 ≤ (ji13)
                · rw [if_pos c14] at H
                  have c14b0 := eq_true c14
                  have c14b1 : decide (0 ≤ (ji13)) = true := decide_eq_true c14
                  clear c14
                  obtain ⟨ji15, hji15⟩ : ∃ j_ : Int, (shr .u64 (IntKind.u64.wrap ((IntKind.u64.wrap (a0)) * 8)) (ji13)) = j_ := ⟨_, rfl⟩
                  replace H : (if 0 ≤ (wrap64 ((wrap64 ((x4_1.length : Int) - 1)) - x22_1)) then (if (wrap64 ((wrap64 ((x4_1.length : Int) - 1)) - x22_1)) < (x4_1.length : Int) then (sha_Pad.l0 k1 (x4_1.set ((wrap64 ((wrap64 ((x4_1.length : Int) - 1)) - x22_1)) : Int).toNat ((ji15) % 256)) (IntKind.u64.wrap ((IntKind.u64.wrap (a0)) * 8)) (wrap64 (x22_1 + 1))) else (none)) else (none)) = some r := by first | (rw [hji15] at H; exact H) | (simp only [hji15] at H ⊢; exact H)
                  have hji15_ : ((IntKind.u64.wrap ((IntKind.u64.wrap (a0)) * 8)) / 2 ^ min (ji13).toNat 64) = ji15 := hji15
                  have hji15z : (ji13) ≤ 64 → ((IntKind.u64.wrap ((IntKind.u64.wrap (a0)) * 8)) / 2 ^ (ji13).toNat) = ji15 := shr_small hji15
                  obtain ⟨ji16, hji16⟩ : ∃ j_ : Int, (wrap64 ((wrap64 ((x4_1.length : Int) - 1)) - x22_1)) = j_ := ⟨_, rfl⟩
                  replace H : (if 0 ≤ (ji16) then (if (ji16) < (x4_1.length : Int) then (sha_Pad.l0 k1 (x4_1.set ((ji16) : Int).toNat ((ji15) % 256)) (IntKind.u64.wrap ((IntKind.u64.wrap (a0)) * 8)) (wrap64 (x22_1 + 1))) else (none)) else (none)) = some r := by first | (rw [hji16] at H; exact H) | (simp only [hji16] at H ⊢; exact H)
                  have hji16w : (IntKind.i64.wrap ((wrap64 ((x4_1.length : Int) - 1)) - x22_1)) = ji16 := (i64_w _).trans hji16
                  by_cases c17 : 0 ≤ (ji16)
                  · rw [if_pos c17] at H
                    have c17b0 : decide (0 ≤ (ji16)) = true := decide_eq_true c17
                    clear c17
                    by_cases c18 : (ji16) < (x4_1.length : Int)
                    · rw [if_pos c18] at H
                      have c18b0 : decide ((ji16) < (x4_1.length : Int)) = true := decide_eq_true c18
                      clear c18
                      obtain ⟨y105, hy105⟩ : ∃ y_ : List Int, y_ = (x4_1.set ((ji16) : Int).toNat ((ji15) % 256)) := ⟨_, rfl⟩
                      replace H : (sha_Pad.l0 k1 y105 (IntKind.u64.wrap ((IntKind.u64.wrap (a0)) * 8)) (wrap64 (x22_1 + 1))) = some r := by first | (rw [hy105]; with_reducible exact H) | (have H2_ := (Option.bind_some _ _).symm.trans H; rw [hy105]; with_reducible exact H2_) | (have H2_ := (Option.bind_some _ _).symm.trans H; with_reducible exact H2_) | with_reducible exact H | (rw [hy105]; exact H) | exact H
                      have Ny105 := Aside0.mk hy105
                      clear hy105
                      have H' := Aside0.mk H
                      clear H
                      have p19 : 0 ≤ ((ji16) : Int) := of_decide_eq_true (by first | (with_reducible assumption) | assumption)
                      have q19 : ((ji16) : Int) < ((x4_1.length : Int) : Int) := of_decide_eq_true (by first | (with_reducible assumption) | assumption)
                      obtain ⟨hx19_0, hf19_0⟩ := Kd.R_celln 0 HO_4.out ((ji16) : Int) p19 q19
                      replace p19 := eq_true p19
                      replace q19 := eq_true q19
                      have HP20 := Kd.R_putg HO_4.out ((ji16) : Int) ((ji15) % 256)
                      go_wp2_with (first | ((with_reducible refine gate_store (t := 5) (p := 36) rfl ?_); refine store_event (t := 5) (p := 36) (v := ?vo_w21) (w1 := (wr.setCell ⟨go7, ((ji16) : Int).toNat, none⟩ (.int .u8 ((ji15) % 256)))) ?hg ?ho ?hn ?hr ?_; (case ho => rfl); (case hg => rfl); (case hn => rfl); (case hr => first | (go_simp; done) | (go_simp; rfl)); intro w21 hw; have hg : wr.grownBy w21 (some go7) := (by rw [hw]; exact HP20.2); have hp_ : Kd.R (Kd.int .u8) 5 w21 w.heap.size (fun _ => True) (.slice (some ⟨go7, 0, none⟩) x4_1.length co7) y105 := (by rw [hw, Ny105.out]; exact HP20.1); clear HP20; have n0_ := Aside0.mk (hp_); have n1_ := Aside0.mk ((by rw [hw]; exact below_set (HB.out) GB7.out : Below w.heap.size w w21)); clear HO_4; clear HB; have HO_4 := n0_; have HB := n1_; clear n0_ n1_; clear hg hw hp_))
                      (try simp only [← hl4_1])
                      go_roundg k1
                      case measure => have := HK1.out; omega
                      case rel => exact ⟨(y105), (wrap64 (x22_1 + 1)), (by first | rfl | (simp; done) | (simp [*]; done)), H', ⟨by have := HK1.out; omega⟩, ⟨by (try simp only [hl4_1]); (with_reducible repeat (first | apply Kd.R_alloc | apply Kd.R_drewN | apply Kd.R_drew)); exact HO_4.out⟩, ⟨by repeat (first | (with_reducible first | exact HB.out | apply below_alloc | apply pw_below_drewN | apply below_drew1) | exact HB.out)⟩⟩
                    · rw [if_neg c18] at H
                      exact absurd H (by simp)
                  · rw [if_neg c17] at H
                    exact absurd H (by simp)
                · rw [if_neg c14] at H
                  exact absurd H (by simp)
              · rw [if_neg c12] at H
                have c12b0 : decide (x22_1 < 8) = false := decide_eq_false c12
                clear c12
                obtain rfl := Option.some.inj H
                have hcv22 := own_string (P := Tryd.prog) Tryd.underlying38 Tryd.underlying5 Tryd.underlying9 (Kd.own_of_R HO_4.out)
                go_wp2
                go_ret
                exact ⟨by first | rfl | (simp [errW_none, errW_some] <;> rfl) | (simp only [← hji3]; first | rfl | (simp [errW_none, errW_some] <;> rfl)) | (simp [*, errW_none, errW_some] <;> rfl), by repeat (first | (with_reducible first | exact HB.out | apply below_alloc | apply pw_below_drewN | apply below_drew1) | exact HB.out)⟩
        · rw [if_neg c6] at H
          exact absurd H (by simp)
      · rw [if_neg c5] at H
        exact absurd H (by simp)
    · rw [if_neg c4] at H
      exact absurd H (by simp)

end Go.Proofs.YtlcppkcclolgcaaDoor.PPad
