/- The walks of the unpacker's Close and of Unpack. -/
import Derived.Test.YtikbbofjkchppaaUf
import Derived.Deep.DeepCutAuto
namespace Go.Proofs.Ytikbbofjkchppaa
set_option linter.unusedVariables false
set_option linter.unusedSimpArgs false
open Go.RowKit
open Go.Proofs.YtikbbofjkchppaaW.PrintLast

/-- what Close answers -/
def closeText (u : US) : ByteArray := if u.close.code = 0 then strOf u.out else ⟨#[]⟩
def closeCode (u : US) : Nat := u.close.code
def closeAt (u : US) : Nat := if u.close.code = 0 then 0 else u.close.at_

/-- a store into a block that is none of the unpacker's -/
theorem UkS.other {w0 w : World} {S : Nat → Prop} {g : Nat} {vo vt : Value} {u : US} (H : UkS w0 S w g vo vt u) {b i : Nat} {x : Value} (hb : w0.heap.size ≤ b) (hm : ¬ Mine g vo vt b) : UkS w0 S (w.setCell ⟨b, i, none⟩ x) g vo vt u := by
  have hset : w.grownBy (w.setCell ⟨b, i, none⟩ x) (some b) := only_setG (World.grownBy.refl w _) i _
  refine ⟨?_, H.oo.kept hset (.inr fun e => hm (.inr (.inl e))), H.ot.kept hset (.inr fun e => hm (.inr (.inr e))), H.ne, H.far.grown hset (fun k e hk => by injection e with e; omega), H.sg, H.so, H.st⟩
  exact (hset.block _ H.lt (by simp; exact fun e => hm (.inl e.symm))).trans H.row
theorem close_shut (u : US) (h : ¬ (u.shut = false ∧ u.whole = false ∧ u.code = 0)) : u.close = { u with shut := true } := by
  unfold US.close
  rw [if_neg h]

set_option maxRecDepth 100000 in
set_option maxHeartbeats 8000000 in
theorem close_any (w0 : World) (S : Nat → Prop) (g : Nat) (vo vt : Value) (u : US) (w : World) (H : UkS w0 S w g vo vt u) (hs : Sane u) :
    Calls Try.prog 22 #[.pointer (some ⟨g, 0, none⟩)] w fun e w' => e = .returned (.tuple #[.string (closeText u), .agg #[.int .i64 (closeCode u : Nat), .int .i64 (closeAt u : Nat)]]) ∧ UkS w0 S w' g vo vt u.close := by
  obtain ⟨rt, hrt⟩ : ∃ x, closeText u = x := ⟨_, rfl⟩
  obtain ⟨rc, hrc⟩ : ∃ x, closeCode u = x := ⟨_, rfl⟩
  obtain ⟨ra, hra⟩ : ∃ x, closeAt u = x := ⟨_, rfl⟩
  obtain ⟨uc, huc⟩ : ∃ x, u.close = x := ⟨_, rfl⟩
  rw [hrt, hrc, hra, huc]
  unfold closeText at hrt
  unfold closeCode at hrc
  unfold closeAt at hra
  rw [huc] at hrt hrc hra
  have hsl := H.far.size
  have HA := H.later ((Below.refl w.heap.size w).alloc (Nat.le_refl _) (.cells #[.int .i64 0, .int .i64 0] 38))
  have hnm : ¬ Mine g vo vt w.heap.size := fun h => Nat.lt_irrefl _ (H.mine h).1
  have hrow := heap_alloc_new w (.cells #[.int .i64 0, .int .i64 0] 38)
  have hlt : w.heap.size < (w.alloc (.cells #[.int .i64 0, .int .i64 0] 38)).heap.size := by simp
  obtain ⟨A6, k6, hv6⟩ := H.oo.slice
  obtain ⟨lo, hlo⟩ : ∃ lo, u.out.length = lo := ⟨_, rfl⟩
  rw [hlo] at hv6
  have hhd := hs.head
  have hsz := hs.size
  have hconv : ∀ (W : World), OwnB W 0 vo u.out → (convert 43 9 (.slice A6 lo k6)).run Try.prog W = .ok (.string (strOf u.out)) W := fun W h => by rw [← hv6]; exact run_conv_own W h hs.out
  have HCONV := Lib.hid hconv
  have HV6 := Lib.hid hv6
  have HLO := Lib.hid hlo
  have HRT := Lib.hid hrt
  have HRC := Lib.hid hrc
  have HRA := Lib.hid hra
  have HUC := Lib.hid huc
  have HSL := Lib.hid hsl
  have HNM := Lib.hid hnm
  clear hv6 hlo H hs hrt hrc hra huc hsl hnm hconv
  go_enter Try.func22, Try.ntmps22
  go_upto_region 1 with fail
  generalize w.heap.size = rb at *
  generalize w.alloc (.cells #[.int .i64 0, .int .i64 0] 38) = W1 at *
  have HJ := Lib.hid HA
  have HB := Lib.hid HA.rebase
  have HROW := Lib.hid hrow
  clear HA hrow
  have c4 := HB.out.c4
  have c5 := HB.out.c5
  have c6 := HB.out.c6
  rw [HV6.out] at c6
  -- the result's block is as it was wherever the unpacker alone has changed
  have hkeep : ∀ (W : World) (x y : Value) (u' : US), UkS W1 (Mine g vo vt) W g x y u' → W.heap[rb]? = some (.cells #[.int .i64 0, .int .i64 0] 38 (0, 0)) := fun W x y u' h => (h.far.block rb hlt HNM.out).trans HROW.out
  have HKEEP := Lib.hid hkeep
  clear hkeep
  go_cut [4] (fun x wx => x = .bool u.whole ∧ UkS W1 (Mine g vo vt) wx g vo vt u)
  case first =>
    by_cases h8 : u.head = 8
    · have h8I : ((u.head : Int) == 8) = true := by simp; omega
      have hsI : (u.size : Int) ≤ 1048576 := by have := hsz h8; omega
      have hs0 : (0 : Int) ≤ u.size := by omega
      have ho0 : (0 : Int) ≤ lo := by omega
      by_cases hos : lo = u.size
      · have hoI : ((lo : Int) == (u.size : Int)) = true := by simp; omega
        have hw : u.whole = true := by unfold US.whole; rw [HLO.out, h8, hos]; simp
        have HW := Lib.hid hw
        clear h8 hos hsz hw
        go_quiet (fail)
        go_wp2_with fail
        go_meet
        exact ⟨by rw [HW.out], HB.out.drewN nq⟩
      · have hoI : ((lo : Int) == (u.size : Int)) = false := by simp; omega
        have hw : u.whole = false := by unfold US.whole; rw [HLO.out, h8]; simp; exact hos
        have HW := Lib.hid hw
        clear h8 hos hsz hw
        go_quiet (fail)
        go_wp2_with fail
        go_meet
        exact ⟨by rw [HW.out], HB.out.drewN nq⟩
    · have h8I : ((u.head : Int) == 8) = false := by simp; omega
      have hw : u.whole = false := by unfold US.whole; simp; intro e; exact absurd e h8
      have HW := Lib.hid hw
      clear h8 hsz hw
      go_quiet (fail)
      go_wp2_with fail
      go_meet
      exact ⟨by rw [HW.out], HB.out.drewN nq⟩
  case rest =>
    obtain ⟨rfl, hP⟩ := hcut
    have HP := Lib.hid hP
    clear hP c4 c5 c6 HB hsz hhd
    have c3 := HP.out.c3
    have c1 := HP.out.c1
    have c0 := HP.out.c0
    have f3 := HP.out.free 3
    by_cases hb : u.shut = false ∧ u.whole = false ∧ u.code = 0
    · obtain ⟨h1, h2, h3⟩ := hb
      have hcI : ((u.code : Int) == 0) = true := by simp; omega
      have hcI2 : ((u.code : Int) != 0) = false := by simp; omega
      have hcl : uc = { u.fail 4 u.taken with shut := true } := by rw [← HUC.out, US.close, if_pos ⟨h1, h2, h3⟩]
      have HCL := Lib.hid hcl
      have hcode : ¬ ({ u.fail 4 u.taken with shut := true } : US).code = 0 := by simp [US.fail]
      have HCODE := Lib.hid hcode
      rw [h1] at c3
      rw [h2]
      clear h1 h2 h3 hcl hcode
      go_upto_region 4 with (go_at_call 37; refine (fail_any W1 (Mine g vo vt) g 4 u.taken vo vt _ _ HP.out).mono ?_; rintro e w3 ⟨rfl, hf⟩; have HF := Lib.hid hf; clear hf)
      have f3' := HF.out.free 3
      have c3' := HF.out.c3
      clear c0 c1 c3 f3 hcI hcI2
      have HQ := Lib.hid (HF.out.put 3 (.bool true) { u.fail 4 u.taken with shut := true } rfl rfl rfl)
      go_upto_region 5 with fail
      generalize w3.setCell ⟨g, 3, none⟩ (.bool true) = w4 at *
      clear c3' f3'
      have hq2 := HQ.out
      rw [← HCL.out] at hq2
      have d1 := hq2.c1
      have d2 := hq2.c2
      have d6 := hq2.c6
      rw [HRC.out] at d1
      rw [HV6.out] at d6
      have hr2 := HKEEP.out _ _ _ _ hq2
      have r0 := cell_of_row _ rb 0 _ _ _ hr2
      have r1 := cell_of_row _ rb 1 _ _ _ hr2
      have g0 := frozen_of_row _ rb 0 _ _ hr2
      have g1 := frozen_of_row _ rb 1 _ _ hr2
      have HQ2 := Lib.hid hq2
      clear hq2 hr2 HQ
      have hrc := HRC.out
      have hnz : ¬ rc = 0 := by rw [← hrc, HCL.out]; exact HCODE.out
      have hra := HRA.out
      have hrt := HRT.out
      rw [if_neg (by rw [HRC.out]; exact hnz)] at hra hrt
      rw [hra] at d2
      subst hrt
      have hnI : ((rc : Int) != 0) = true := by simp; omega
      have hnI2 : ((rc : Int) == 0) = false := by simp; omega
      have HFIN := Lib.hid (((HJ.out.join HQ2.out).other (i := 0) (x := .int .i64 (rc : Int)) HSL.out HNM.out).other (i := 1) (x := .int .i64 (ra : Int)) HSL.out HNM.out).drew
      clear hra hrc hnz
      go_upto_region 6 with fail
      go_region
      go_wp2_with fail
      exact bodyPost_ret (v := .tuple #[.string ⟨#[]⟩, .agg #[.int .i64 (rc : Int), .int .i64 (ra : Int)]]) (by simp [results, Try.results22, go_sem, r0, r1]) rfl ⟨rfl, HFIN.out⟩
    · have hcl : uc = { u with shut := true } := by rw [← HUC.out, close_shut u hb]
      have HCL := Lib.hid hcl
      have HQ := Lib.hid (HP.out.put 3 (.bool true) { u with shut := true } rfl rfl rfl)
      clear hcl
      by_cases hsh : u.shut = true
      · rw [hsh] at c3
        by_cases hcd : u.code = 0
        · have HCODE := Lib.hid hcd
          clear hb hsh hcd
          go_upto_region 5 with fail
          generalize wc.setCell ⟨g, 3, none⟩ (.bool true) = w4 at *
          clear c0 c1 c3 f3
          have hq2 := HQ.out
          rw [← HCL.out] at hq2
          have d1 := hq2.c1
          have d2 := hq2.c2
          have d6 := hq2.c6
          rw [HRC.out] at d1
          rw [HV6.out] at d6
          have hr2 := HKEEP.out _ _ _ _ hq2
          have r0 := cell_of_row _ rb 0 _ _ _ hr2
          have r1 := cell_of_row _ rb 1 _ _ _ hr2
          have g0 := frozen_of_row _ rb 0 _ _ hr2
          have g1 := frozen_of_row _ rb 1 _ _ hr2
          have HQ2 := Lib.hid hq2
          clear hq2 hr2 HQ
          have hrc := HRC.out
          have hnz : rc = 0 := by rw [← hrc, HCL.out]; exact HCODE.out
          have hra := HRA.out
          have hrt := HRT.out
          rw [if_pos (by rw [HRC.out]; exact hnz)] at hra hrt
          subst hra
          have hnI : ((rc : Int) != 0) = false := by simp; omega
          have hnI2 : ((rc : Int) == 0) = true := by simp; omega
          have hout : uc.out = u.out := by rw [HCL.out]
          have hcv := HCONV.out w4 (by have := HQ2.out.oo; rwa [hout] at this)
          have hrt2 : strOf u.out = rt := by rw [← hrt]
          have HFIN := Lib.hid ((HJ.out.join HQ2.out).other (i := 0) (x := .int .i64 0) HSL.out HNM.out |>.other (i := 1) (x := .int .i64 0) HSL.out HNM.out)
          have HRC0 := Lib.hid hnz
          have HRT2 := Lib.hid hrt2
          clear hrc hnz hrt hout hrt2
          go_wp2_with fail
          rw [HRC0.out, ← HRT2.out]
          exact bodyPost_ret (v := .tuple #[.string (strOf u.out), .agg #[.int .i64 0, .int .i64 0]]) (by simp [results, Try.results22, go_sem, r0, r1]) rfl ⟨rfl, HFIN.out⟩
        · have HCODE := Lib.hid hcd
          clear hb hsh hcd
          go_upto_region 5 with fail
          generalize wc.setCell ⟨g, 3, none⟩ (.bool true) = w4 at *
          clear c0 c1 c3 f3
          have hq2 := HQ.out
          rw [← HCL.out] at hq2
          have d1 := hq2.c1
          have d2 := hq2.c2
          have d6 := hq2.c6
          rw [HRC.out] at d1
          rw [HV6.out] at d6
          have hr2 := HKEEP.out _ _ _ _ hq2
          have r0 := cell_of_row _ rb 0 _ _ _ hr2
          have r1 := cell_of_row _ rb 1 _ _ _ hr2
          have g0 := frozen_of_row _ rb 0 _ _ hr2
          have g1 := frozen_of_row _ rb 1 _ _ hr2
          have HQ2 := Lib.hid hq2
          clear hq2 hr2 HQ
          have hrc := HRC.out
          have hnz : ¬ rc = 0 := by rw [← hrc, HCL.out]; exact HCODE.out
          have hra := HRA.out
          have hrt := HRT.out
          rw [if_neg (by rw [HRC.out]; exact hnz)] at hra hrt
          rw [hra] at d2
          subst hrt
          have hnI : ((rc : Int) != 0) = true := by simp; omega
          have hnI2 : ((rc : Int) == 0) = false := by simp; omega
          have HFIN := Lib.hid (((HJ.out.join HQ2.out).other (i := 0) (x := .int .i64 (rc : Int)) HSL.out HNM.out).other (i := 1) (x := .int .i64 (ra : Int)) HSL.out HNM.out).drew
          clear hra hrc hnz
          go_upto_region 6 with fail
          go_region
          go_wp2_with fail
          exact bodyPost_ret (v := .tuple #[.string ⟨#[]⟩, .agg #[.int .i64 (rc : Int), .int .i64 (ra : Int)]]) (by simp [results, Try.results22, go_sem, r0, r1]) rfl ⟨rfl, HFIN.out⟩
      · have hshf : u.shut = false := by simpa using hsh
        rw [hshf] at c3
        by_cases hw : u.whole = true
        · rw [hw]
          by_cases hcd : u.code = 0
          · have HCODE := Lib.hid hcd
            have hcI : ((u.code : Int) == 0) = true := by simp; omega
            clear hb hsh hcd hshf hw
            go_upto_region 5 with fail
            generalize wc.setCell ⟨g, 3, none⟩ (.bool true) = w4 at *
            clear c0 c1 c3 f3
            have hq2 := HQ.out
            rw [← HCL.out] at hq2
            have d1 := hq2.c1
            have d2 := hq2.c2
            have d6 := hq2.c6
            rw [HRC.out] at d1
            rw [HV6.out] at d6
            have hr2 := HKEEP.out _ _ _ _ hq2
            have r0 := cell_of_row _ rb 0 _ _ _ hr2
            have r1 := cell_of_row _ rb 1 _ _ _ hr2
            have g0 := frozen_of_row _ rb 0 _ _ hr2
            have g1 := frozen_of_row _ rb 1 _ _ hr2
            have HQ2 := Lib.hid hq2
            clear hq2 hr2 HQ
            have hrc := HRC.out
            have hnz : rc = 0 := by rw [← hrc, HCL.out]; exact HCODE.out
            have hra := HRA.out
            have hrt := HRT.out
            rw [if_pos (by rw [HRC.out]; exact hnz)] at hra hrt
            subst hra
            have hnI : ((rc : Int) != 0) = false := by simp; omega
            have hnI2 : ((rc : Int) == 0) = true := by simp; omega
            have hout : uc.out = u.out := by rw [HCL.out]
            have hcv := HCONV.out w4 (by have := HQ2.out.oo; rwa [hout] at this)
            have hrt2 : strOf u.out = rt := by rw [← hrt]
            have HFIN := Lib.hid ((HJ.out.join HQ2.out).other (i := 0) (x := .int .i64 0) HSL.out HNM.out |>.other (i := 1) (x := .int .i64 0) HSL.out HNM.out)
            have HRC0 := Lib.hid hnz
            have HRT2 := Lib.hid hrt2
            clear hrc hnz hrt hout hrt2
            go_wp2_with fail
            rw [HRC0.out, ← HRT2.out]
            exact bodyPost_ret (v := .tuple #[.string (strOf u.out), .agg #[.int .i64 0, .int .i64 0]]) (by simp [results, Try.results22, go_sem, r0, r1]) rfl ⟨rfl, HFIN.out⟩
          · have HCODE := Lib.hid hcd
            have hcI : ((u.code : Int) == 0) = false := by simp; omega
            clear hb hsh hcd hshf hw
            go_upto_region 5 with fail
            generalize wc.setCell ⟨g, 3, none⟩ (.bool true) = w4 at *
            clear c0 c1 c3 f3
            have hq2 := HQ.out
            rw [← HCL.out] at hq2
            have d1 := hq2.c1
            have d2 := hq2.c2
            have d6 := hq2.c6
            rw [HRC.out] at d1
            rw [HV6.out] at d6
            have hr2 := HKEEP.out _ _ _ _ hq2
            have r0 := cell_of_row _ rb 0 _ _ _ hr2
            have r1 := cell_of_row _ rb 1 _ _ _ hr2
            have g0 := frozen_of_row _ rb 0 _ _ hr2
            have g1 := frozen_of_row _ rb 1 _ _ hr2
            have HQ2 := Lib.hid hq2
            clear hq2 hr2 HQ
            have hrc := HRC.out
            have hnz : ¬ rc = 0 := by rw [← hrc, HCL.out]; exact HCODE.out
            have hra := HRA.out
            have hrt := HRT.out
            rw [if_neg (by rw [HRC.out]; exact hnz)] at hra hrt
            rw [hra] at d2
            subst hrt
            have hnI : ((rc : Int) != 0) = true := by simp; omega
            have hnI2 : ((rc : Int) == 0) = false := by simp; omega
            have HFIN := Lib.hid (((HJ.out.join HQ2.out).other (i := 0) (x := .int .i64 (rc : Int)) HSL.out HNM.out).other (i := 1) (x := .int .i64 (ra : Int)) HSL.out HNM.out).drew
            clear hra hrc hnz
            go_upto_region 6 with fail
            go_region
            go_wp2_with fail
            exact bodyPost_ret (v := .tuple #[.string ⟨#[]⟩, .agg #[.int .i64 (rc : Int), .int .i64 (ra : Int)]]) (by simp [results, Try.results22, go_sem, r0, r1]) rfl ⟨rfl, HFIN.out⟩
        · have hwf : u.whole = false := by simpa using hw
          rw [hwf]
          by_cases hcd : u.code = 0
          · exact absurd ⟨hshf, hwf, hcd⟩ hb
          · have HCODE := Lib.hid hcd
            have hcI : ((u.code : Int) == 0) = false := by simp; omega
            clear hb hsh hcd hshf hw hwf
            go_upto_region 5 with fail
            generalize wc.setCell ⟨g, 3, none⟩ (.bool true) = w4 at *
            clear c0 c1 c3 f3
            have hq2 := HQ.out
            rw [← HCL.out] at hq2
            have d1 := hq2.c1
            have d2 := hq2.c2
            have d6 := hq2.c6
            rw [HRC.out] at d1
            rw [HV6.out] at d6
            have hr2 := HKEEP.out _ _ _ _ hq2
            have r0 := cell_of_row _ rb 0 _ _ _ hr2
            have r1 := cell_of_row _ rb 1 _ _ _ hr2
            have g0 := frozen_of_row _ rb 0 _ _ hr2
            have g1 := frozen_of_row _ rb 1 _ _ hr2
            have HQ2 := Lib.hid hq2
            clear hq2 hr2 HQ
            have hrc := HRC.out
            have hnz : ¬ rc = 0 := by rw [← hrc, HCL.out]; exact HCODE.out
            have hra := HRA.out
            have hrt := HRT.out
            rw [if_neg (by rw [HRC.out]; exact hnz)] at hra hrt
            rw [hra] at d2
            subst hrt
            have hnI : ((rc : Int) != 0) = true := by simp; omega
            have hnI2 : ((rc : Int) == 0) = false := by simp; omega
            have HFIN := Lib.hid (((HJ.out.join HQ2.out).other (i := 0) (x := .int .i64 (rc : Int)) HSL.out HNM.out).other (i := 1) (x := .int .i64 (ra : Int)) HSL.out HNM.out).drew
            clear hra hrc hnz
            go_upto_region 6 with fail
            go_region
            go_wp2_with fail
            exact bodyPost_ret (v := .tuple #[.string ⟨#[]⟩, .agg #[.int .i64 (rc : Int), .int .i64 (ra : Int)]]) (by simp [results, Try.results22, go_sem, r0, r1]) rfl ⟨rfl, HFIN.out⟩
end Go.Proofs.Ytikbbofjkchppaa

