/- The walk of the packer's flush. -/
import Derived.Test.YtikbbofjkchppaaFlush
import Derived.Deep.CutRange
import Derived.IntWalk
import Derived.StillTailTactics
namespace Go.Proofs.Ytikbbofjkchppaa
set_option linter.unusedVariables false
set_option linter.unusedSimpArgs false
open Go.RowKit

theorem nb_extract (s : ByteArray) (a b : Nat) (h : b ≤ s.size) : nb (s.extract a b) = ((nb s).drop a).take (b - a) := by
  have e : (s.extract a b).data = s.data.extract a b := by simp
  unfold nb
  rw [e, Array.toList_extract, List.map_take, List.map_drop]
theorem runs_fuel (L : List Nat) (i : Nat) : ∀ k k' p, i - p ≤ k → i - p ≤ k' → runs L i k p = runs L i k' p
  | 0, 0, p, _, _ => rfl
  | 0, k' + 1, p, h, _ => by rw [runs, runs, if_neg (by omega)]
  | k + 1, 0, p, _, h => by rw [runs, runs, if_neg (by omega)]
  | k + 1, k' + 1, p, h, h' => by
    rw [runs, runs]
    split
    · rw [runs_fuel L i k k' _ (by omega) (by omega)]
    · rfl
theorem PkS.drew {w0 w : World} {gp b plain n : Nat} {v : Value} {F : List Nat → Option Nat} {out : List Nat} (H : PkS w0 w gp b v plain n F out) : PkS w0 w.drew gp b v plain n F out :=
  H.later (Below.refl _ _).drew

set_option maxRecDepth 100000 in
set_option maxHeartbeats 4000000 in
theorem flush_any (gp b n plain i : Nat) (v : Value) (F : List Nat → Option Nat) (out : List Nat) (s : ByteArray) (w0 w : World) (H : PkS w0 w gp b v plain n F out) (hpi : plain ≤ i) (hi : i ≤ s.size) (hs : s.size ≤ 1048576) (hol : out.length + 2 * (i - plain) ≤ 8000000) :
    Calls Try.prog 31 #[.pointer (some ⟨gp, 0, none⟩), .string s, .int .i64 (i : Int)] w fun e w' => e = .returned (.tuple #[]) ∧ ∃ v', PkS w0 w' gp b v' i n F (out ++ runs (nb s) i (i - plain) plain) := by
  obtain ⟨R, hR⟩ : ∃ R, out ++ runs (nb s) i (i - plain) plain = R := ⟨_, rfl⟩
  rw [hR]
  have HH := Lib.hid H
  have HR := Lib.hid hR
  clear H hR
  go_enter Try.func31, Try.ntmps31
  go_wp2_with fail
  go_loopw [6] (fun _ wr => ∃ v p out' k, PkS w0 wr gp b v p n F out' ∧ p ≤ i ∧ out'.length + 2 * (i - p) ≤ 8000000 ∧ i - p ≤ k ∧ out' ++ runs (nb s) i k p = R) (fun _ wr => i - (intOf ((wr.cell? ⟨gp, 1, none⟩).getD undef)).toNat)
  case atStart => exact ⟨v, plain, out, i - plain, HH.out, hpi, hol, Nat.le_refl _, HR.out⟩
  case round =>
    clear HH HR
    obtain ⟨v', p, out', k, hpk, hpi', hol', hk, hRR⟩ := hrel
    have c1 := hpk.p.cell1
    have C1O := Lib.hid c1
    have HP := Lib.hid hpk
    have HRR := Lib.hid hRR
    clear hpk hRR
    have hp0 : (0 : Int) ≤ p := by omega
    by_cases hlt : p < i
    · obtain ⟨m, hm⟩ : ∃ m, m = min 128 (i - p) := ⟨_, rfl⟩
      have hm1 : 1 ≤ m ∧ m ≤ 128 ∧ p + m ≤ i := by omega
      have hltI : (p : Int) < i := by omega
      have c0 := HP.out.p.cell0
      have f0 := HP.out.p.free 0
      have f1 := HP.out.p.free 1
      go_upto_region 1 with fail
      go_cut [6] from 7 to 59 (fun x6 wx => x6 = .int .i64 (m : Int) ∧ wx = wr)
      case first =>
        by_cases hsm : i - p < 128
        · have hme : (i : Int) - p = (m : Int) := by omega
          have hm0 : (m : Int) < 128 := by omega
          have hm00 : ¬ (128 : Int) ≤ m := by omega
          clear hm hm1
          go_wp2_with fail
          all_goals (go_meet; exact ⟨rfl, rfl⟩)
        · have hme : (m : Int) = 128 := by omega
          have hm0 : (128 : Int) ≤ (i : Int) - p := by omega
          go_wp2_with fail
          all_goals (go_meet; exact ⟨by rw [hme], rfl⟩)
      case rest =>
        obtain ⟨rfl, rfl⟩ := hcut
        have hmI : ((m - 1 : Nat) : Int) = (m : Int) - 1 := by omega
        have hm2 : (1 : Int) ≤ m := by omega
        have hm3 : (m : Int) ≤ 128 := by omega
        have hplen : (p : Int) + m ≤ s.size := by omega
        have hpm0 : (0 : Int) ≤ (p : Int) + m := by omega
        have hppm : (p : Int) ≤ (p : Int) + m := by omega
        have tpm : ((p : Int) + m).toNat = p + m := by omega
        have wm2 : IntKind.u8.wrap ((m : Int) - 1) = (m : Int) - 1 := IntWalk.u8_in _ (by omega)
        have HMM := Lib.hid hm
        have HMI := Lib.hid hmI
        have HPL := Lib.hid tpm
        clear hm hmI tpm
        go_upto_region 2 with fail
        go_cut [] from 7 to 59 (fun wx => ∃ v1, PkS w0 wx gp b v1 p n F (out' ++ [m - 1]))
        case first =>
          have hown := HP.out.own.later ((Below.refl wc.heap.size wc).alloc (Nat.le_refl _) (.cells #[.int .u8 ((m : Int) - 1)] 5))
          have hnew := news_bytes wc [m - 1] 5
          have hcl1 : (cl .u8 [m - 1]).toArray = #[.int .u8 ((m : Int) - 1)] := by simp [cl, HMI.out]
          rw [hcl1] at hnew
          have hbt2 : out'.length + [m - 1].length ≤ 140737488355328 := by simp; omega
          have HNEW := Lib.hid hnew
          have HBT := Lib.hid hbt2
          clear hnew hbt2 hcl1
          have hbs : w0.heap.size ≤ (wc.alloc (.cells #[.int .u8 ((m : Int) - 1)] 5)).heap.size := by
            have := HP.out.below.size
            simp
            omega
          have HOWN := Lib.hid hown
          clear hown
          obtain ⟨A0, k0, hv0⟩ := HP.out.own.slice
          have HV0 := Lib.hid hv0
          rw [hv0] at c0
          clear hv0
          go_wp2_with (at_builtin; refine wpList_app_bytes _ rfl (.tmp 24) (.tmp 28) rfl w0.heap.size _ out' rfl (by rw [← HV0.out]; exact HOWN.out) ⟨wc.heap.size, 0, none⟩ [m - 1] 1 rfl HNEW.out HBT.out hbs ?_; intro v1 w1 ho1 hg1 _; obtain ⟨A1, k1, hv2⟩ := ho1.slice; generalize (out' ++ [m - 1]).length = l1 at hv2; subst hv2; have hga : wc.grownBy w1 v'.ownBlock := (World.grownBy_alloc wc _ v'.ownBlock).trans (by rw [HV0.out]; exact hg1); have hP1 : PkRow w1 gp v' p b := HP.out.p.far (hga.block _ HP.out.p.lt (fun e => HP.out.vg e.symm)); have c01 := hP1.cell0; have f01 := hP1.free 0; have hst : PkS w0 (w1.setCell ⟨gp, 0, none⟩ (.slice A1 l1 k1)) gp b (.slice A1 l1 k1) p n F (out' ++ [m - 1]) := HP.out.step ho1 hga; have HS1 := Lib.hid hst; clear ho1 hg1 hga hP1 hst)
          go_meet
          exact ⟨_, HS1.out⟩
        case rest =>
          obtain ⟨v1, hP1⟩ := hcut
          clear HP c0 f0 f1 c1
          have c0 := hP1.p.cell0
          have c1 := hP1.p.cell1
          have HP := Lib.hid hP1.drew
          have HS := Lib.hid hs
          have hbt : (out' ++ [m - 1]).length + (s.extract p (p + m)).size ≤ 140737488355328 := by
            simp only [List.length_append, ByteArray.size_extract, List.length_cons, List.length_nil]
            omega
          have hxs : (out' ++ [m - 1]) ++ nb (s.extract p (p + m)) = out' ++ (m - 1) :: ((nb s).drop p).take m := by
            rw [nb_extract s p (p + m) (by omega), show p + m - p = m by omega]
            simp
          have hbs : w0.heap.size ≤ wc.drew.heap.size := HP.out.below.size
          have c0d := HP.out.p.cell0
          have f0d := HP.out.p.free 0
          have HXS := Lib.hid hxs
          have HBS := Lib.hid hbs
          have HBT := Lib.hid hbt
          have t1 := HPL.out
          have wpI : IntKind.i64.wrap ((p : Int) + m) = (p : Int) + m := IntWalk.i64_in _ (by omega)
          clear hxs hbs hbt hP1
          go_upto_region 3 with fail
          go_cut [] from 7 to 59 (fun wx => ∃ v2, PkS w0 wx gp b v2 p n F (out' ++ (m - 1) :: ((nb s).drop p).take m))
          case first =>
            refine wp_region_noPanic ?_
            refine wp_region_held_drew (S := fun w' => w'.cell? ⟨gp, 1, none⟩ = some (.int .i64 (p : Int))) (by kernel_rfl) c1 (fun hHeld => ?_)
            refine wpAnyH_take (i := 0) (oi := _) (v := (.pointer (some ⟨gp, 0, none⟩))) rfl (by kernel_rfl) (by kernel_rfl) (by kernel_rfl) (fun _ _ _ h => h) (Or.inl ⟨by rfl, fun w' _ => by go_simp⟩) hHeld ?_
            try simp only [Act.put, List.getElem_toArray, List.getElem_cons_succ, List.getElem_cons_zero, List.setIfInBounds_toArray, List.set_cons_zero, List.set_cons_succ]
            refine wpAnyH_take (i := 1) (oi := _) (v := (.pointer (some ⟨gp, 0, none⟩))) rfl (by kernel_rfl) (by kernel_rfl) (by kernel_rfl) (fun _ _ _ h => h) (Or.inl ⟨by rfl, fun w' _ => by go_simp⟩) hHeld ?_
            try simp only [Act.put, List.getElem_toArray, List.getElem_cons_succ, List.getElem_cons_zero, List.setIfInBounds_toArray, List.set_cons_zero, List.set_cons_succ]
            refine wpAnyH_take (i := 2) (oi := _) (v := (.pointer (some ⟨gp, 0, none⟩))) rfl (by kernel_rfl) (by kernel_rfl) (by kernel_rfl) (fun _ _ _ h => h) (Or.inl ⟨by rfl, fun w' _ => by go_simp⟩) hHeld ?_
            try simp only [Act.put, List.getElem_toArray, List.getElem_cons_succ, List.getElem_cons_zero, List.setIfInBounds_toArray, List.set_cons_zero, List.set_cons_succ]
            refine wpAnyH_take (i := 3) (oi := _) (v := (.pointer (some ⟨gp, 0, none⟩))) rfl (by kernel_rfl) (by kernel_rfl) (by kernel_rfl) (fun _ _ _ h => h) (Or.inl ⟨by rfl, fun w' _ => by go_simp⟩) hHeld ?_
            try simp only [Act.put, List.getElem_toArray, List.getElem_cons_succ, List.getElem_cons_zero, List.setIfInBounds_toArray, List.set_cons_zero, List.set_cons_succ]
            refine wpAnyH_take (i := 5) (oi := _) (v := (.string s)) rfl (by kernel_rfl) (by kernel_rfl) (by kernel_rfl) (fun _ _ _ h => h) (Or.inl ⟨by rfl, fun w' _ => by go_simp⟩) hHeld ?_
            try simp only [Act.put, List.getElem_toArray, List.getElem_cons_succ, List.getElem_cons_zero, List.setIfInBounds_toArray, List.set_cons_zero, List.set_cons_succ]
            refine wpAnyH_take (i := 6) (oi := _) (v := (.pointer (some ⟨gp, 0, none⟩))) rfl (by kernel_rfl) (by kernel_rfl) (by kernel_rfl) (fun _ _ _ h => h) (Or.inl ⟨by rfl, fun w' _ => by go_simp⟩) hHeld ?_
            try simp only [Act.put, List.getElem_toArray, List.getElem_cons_succ, List.getElem_cons_zero, List.setIfInBounds_toArray, List.set_cons_zero, List.set_cons_succ]
            refine wpAnyH_take (i := 7) (oi := _) (v := (.pointer (some ⟨gp, 0, none⟩))) rfl (by kernel_rfl) (by kernel_rfl) (by kernel_rfl) (fun _ _ _ h => h) (Or.inl ⟨by rfl, fun w' _ => by go_simp⟩) hHeld ?_
            try simp only [Act.put, List.getElem_toArray, List.getElem_cons_succ, List.getElem_cons_zero, List.setIfInBounds_toArray, List.set_cons_zero, List.set_cons_succ]
            refine wpAnyH_take (i := 8) (oi := _) (v := (.pointer (some ⟨gp, 1, none⟩))) rfl (by kernel_rfl) (by kernel_rfl) (by kernel_rfl) (fun _ _ _ h => h) (Or.inl ⟨by rfl, fun w' _ => by go_simp⟩) hHeld ?_
            try simp only [Act.put, List.getElem_toArray, List.getElem_cons_succ, List.getElem_cons_zero, List.setIfInBounds_toArray, List.set_cons_zero, List.set_cons_succ]
            refine wpAnyH_take (i := 9) (oi := _) (v := (.int .i64 (p : Int))) rfl (by kernel_rfl) (by kernel_rfl) (by kernel_rfl) (fun _ _ _ h => h) (Or.inl ⟨by rfl, fun w' hSw => by go_simp⟩) hHeld ?_
            try simp only [Act.put, List.getElem_toArray, List.getElem_cons_succ, List.getElem_cons_zero, List.setIfInBounds_toArray, List.set_cons_zero, List.set_cons_succ]
            refine wpAnyH_take (i := 10) (oi := _) (v := (.pointer (some ⟨gp, 0, none⟩))) rfl (by kernel_rfl) (by kernel_rfl) (by kernel_rfl) (fun _ _ _ h => h) (Or.inl ⟨by rfl, fun w' _ => by go_simp⟩) hHeld ?_
            try simp only [Act.put, List.getElem_toArray, List.getElem_cons_succ, List.getElem_cons_zero, List.setIfInBounds_toArray, List.set_cons_zero, List.set_cons_succ]
            refine wpAnyH_take (i := 11) (oi := _) (v := (.pointer (some ⟨gp, 0, none⟩))) rfl (by kernel_rfl) (by kernel_rfl) (by kernel_rfl) (fun _ _ _ h => h) (Or.inl ⟨by rfl, fun w' _ => by go_simp⟩) hHeld ?_
            try simp only [Act.put, List.getElem_toArray, List.getElem_cons_succ, List.getElem_cons_zero, List.setIfInBounds_toArray, List.set_cons_zero, List.set_cons_succ]
            refine wpAnyH_take (i := 12) (oi := _) (v := (.pointer (some ⟨gp, 1, none⟩))) rfl (by kernel_rfl) (by kernel_rfl) (by kernel_rfl) (fun _ _ _ h => h) (Or.inl ⟨by rfl, fun w' _ => by go_simp⟩) hHeld ?_
            try simp only [Act.put, List.getElem_toArray, List.getElem_cons_succ, List.getElem_cons_zero, List.setIfInBounds_toArray, List.set_cons_zero, List.set_cons_succ]
            refine wpAnyH_take (i := 13) (oi := _) (v := (.int .i64 (p : Int))) rfl (by kernel_rfl) (by kernel_rfl) (by kernel_rfl) (fun _ _ _ h => h) (Or.inl ⟨by rfl, fun w' hSw => by go_simp⟩) hHeld ?_
            try simp only [Act.put, List.getElem_toArray, List.getElem_cons_succ, List.getElem_cons_zero, List.setIfInBounds_toArray, List.set_cons_zero, List.set_cons_succ]
            refine wpAnyH_take (i := 14) (oi := _) (v := (.int .i64 (m : Int))) rfl (by kernel_rfl) (by kernel_rfl) (by kernel_rfl) (fun _ _ _ h => h) (Or.inl ⟨by rfl, fun w' _ => by go_simp⟩) hHeld ?_
            try simp only [Act.put, List.getElem_toArray, List.getElem_cons_succ, List.getElem_cons_zero, List.setIfInBounds_toArray, List.set_cons_zero, List.set_cons_succ]
            refine wpAnyH_take (i := 15) (oi := _) (v := (.int .i64 ((p : Int) + m))) rfl (by kernel_rfl) (by kernel_rfl) (by kernel_rfl) (fun _ _ _ h => h) (Or.inl ⟨by rfl, fun w' _ => by go_simp⟩) hHeld ?_
            try simp only [Act.put, List.getElem_toArray, List.getElem_cons_succ, List.getElem_cons_zero, List.setIfInBounds_toArray, List.set_cons_zero, List.set_cons_succ]
            refine wpAnyH_take (i := 16) (oi := _) (v := (.string (s.extract p (p + m)))) rfl (by kernel_rfl) (by kernel_rfl) (by kernel_rfl) (fun _ _ _ h => h) (Or.inl ⟨by rfl, fun w' _ => by go_simp⟩) hHeld ?_
            try simp only [Act.put, List.getElem_toArray, List.getElem_cons_succ, List.getElem_cons_zero, List.setIfInBounds_toArray, List.set_cons_zero, List.set_cons_succ]
            refine wpAnyH_ready (rs := [4]) (by kernel_rfl) (by simp) ?_
            refine AllReadyH.cons (o := _) rfl (fun K hK => ?_) AllReadyH.nil
            rw [if_pos (by rfl)]
            go_simp
            refine hK.out _ _ hHeld (fun hHeld => ?_)
            clear hK K
            try dsimp only
            try simp only [Act.put, List.getElem_toArray, List.getElem_cons_succ, List.getElem_cons_zero, List.setIfInBounds_toArray, List.set_cons_zero, List.set_cons_succ]
            refine wpAnyH_ready (rs := [17]) (by kernel_rfl) (by simp) ?_
            refine AllReadyH.cons (o := _) rfl (fun K hK => ?_) AllReadyH.nil
            rw [if_pos (by rfl)]
            refine wp_app_string _ (.tmp 36) (.tmp 48) (by rfl) w0.heap.size v1 _ (by rfl) HP.out.own (s.extract p (p + m)) (by rfl) HBT.out HBS.out ?_
            intro v2 w1 ho1 hg1
            rw [HXS.out] at ho1
            obtain ⟨A1, k1, hv2⟩ := ho1.slice
            generalize (out' ++ (m - 1) :: ((nb s).drop p).take m).length = l1 at hv2
            subst hv2
            have hP1 : PkRow w1 gp v1 p b := HP.out.p.far (hg1.block _ HP.out.p.lt (fun e => HP.out.vg e.symm))
            have c01 := hP1.cell0
            have c11 := hP1.cell1
            have f01 := hP1.free 0
            have hst := HP.out.step ho1 hg1
            have HS1 := Lib.hid hst
            clear ho1 hg1 hP1 hst
            refine hK.out _ _ c11 (fun hHeld => ?_)
            clear hK K
            try dsimp only
            try simp only [Act.put, List.getElem_toArray, List.getElem_cons_succ, List.getElem_cons_zero, List.setIfInBounds_toArray, List.set_cons_zero, List.set_cons_succ]
            refine wpAnyH_take (i := 18) (oi := _) (v := (.pointer (some ⟨gp, 0, none⟩))) rfl (by kernel_rfl) (by kernel_rfl) (by kernel_rfl) (fun _ _ _ h => h) (Or.inl ⟨by rfl, fun w' _ => by go_simp⟩) hHeld ?_
            try simp only [Act.put, List.getElem_toArray, List.getElem_cons_succ, List.getElem_cons_zero, List.setIfInBounds_toArray, List.set_cons_zero, List.set_cons_succ]
            refine wpAnyH_take (i := 19) (oi := _) (v := (.pointer (some ⟨gp, 0, none⟩))) rfl (by kernel_rfl) (by kernel_rfl) (by kernel_rfl) (fun _ _ _ h => h) (Or.inl ⟨by rfl, fun w' _ => by go_simp⟩) hHeld ?_
            try simp only [Act.put, List.getElem_toArray, List.getElem_cons_succ, List.getElem_cons_zero, List.setIfInBounds_toArray, List.set_cons_zero, List.set_cons_succ]
            refine wpAnyH_ready (rs := [20]) (by kernel_rfl) (by simp) ?_
            refine AllReadyH.cons (o := _) rfl (fun K hK => ?_) AllReadyH.nil
            rw [if_pos (by rfl)]
            go_simp
            refine hK.out _ _ HS1.out.p.cell1 (fun hHeld => ?_)
            clear hK K
            try dsimp only
            try simp only [Act.put, List.getElem_toArray, List.getElem_cons_succ, List.getElem_cons_zero, List.setIfInBounds_toArray, List.set_cons_zero, List.set_cons_succ]
            refine wpAnyH_done (by kernel_rfl) ?_ _
            refine NoPanic.normal ?_
            go_wp2_with fail
            go_meet
            exact ⟨_, HS1.out⟩
          case rest =>
            obtain ⟨v2, hP2⟩ := hcut
            clear HP HXS HBS HBT c0 c1 c0d f0d
            have c1 := hP2.p.cell1
            have f1 := hP2.p.free 1
            have HP := Lib.hid hP2
            clear hP2
            have hst : ∀ (q : Nat), PkS w0 (wc.setCell ⟨gp, 1, none⟩ (.int .i64 (q : Int))) gp b v2 q n F (out' ++ (m - 1) :: ((nb s).drop p).take m) := fun q => HP.out.moved q
            have hst2 := hst (p + m)
            rw [Int.natCast_add] at hst2
            have HS2 := Lib.hid hst2
            have hrr : (out' ++ (m - 1) :: ((nb s).drop p).take m) ++ runs (nb s) i (i - (p + m)) (p + m) = R := by
              have h1 := HRR.out
              rw [← h1]
              obtain ⟨k, rfl⟩ : ∃ k', k = k' + 1 := ⟨k - 1, by omega⟩
              rw [runs, if_pos hlt, ← HMM.out]
              simp only [List.append_assoc, List.cons_append]
              congr 3
              exact runs_fuel _ _ _ _ _ (by omega) (by omega)
            have hlen : (out' ++ (m - 1) :: ((nb s).drop p).take m).length + 2 * (i - (p + m)) ≤ 8000000 := by
              simp only [List.length_append, List.length_cons, List.length_take, List.length_drop, nb_length]
              omega
            have HRR2 := Lib.hid hrr
            have HLEN := Lib.hid hlen
            have hcell : ((wc.setCell ⟨gp, 1, none⟩ (.int .i64 ((p : Int) + m))).cell? ⟨gp, 1, none⟩) = some (.int .i64 ((p + m : Nat) : Int)) := (hst (p + m)).p.cell1
            have HCELL := Lib.hid hcell
            have hold := c1
            have HPM := Lib.hid hm1
            clear hst hst2 hrr hlen hcell
            go_wp2_with fail
            go_roundw
            case rel => exact ⟨v2, p + m, _, i - (p + m), HS2.out, hm1.2.2, HLEN.out, Nat.le_refl _, HRR2.out⟩
            case measure =>
              have h1 := HCELL.out
              have h2 := C1O.out
              rw [h2]
              first | rw [h1] | (simp only [h1])
              simp only [Option.getD_some, intOf]
              have h3 := HPM.out
              omega
    · have hpe : p = i := by omega
      subst hpe
      have hz : ∀ k, runs (nb s) p k p = [] := by intro k; cases k <;> simp [runs]
      have hd : ¬ (p : Int) < p := by omega
      go_wp2_with fail
      go_end0
      have := HRR.out
      rw [hz, List.append_nil] at this
      rw [← this]
      exact ⟨rfl, _, HP.out⟩
end Go.Proofs.Ytikbbofjkchppaa

