/- The walk of the unpacker's copy. -/
import Derived.Test.YtikbbofjkchppaaUb
import Derived.Test.YtikbbofjkchppaaWLast
import Derived.Deep.CutRange
namespace Go.Proofs.Ytikbbofjkchppaa
set_option linter.unusedVariables false
set_option linter.unusedSimpArgs false
open Go.RowKit
open Go.Proofs.YtikbbofjkchppaaW.PrintLast

/-- an operation that yields in every world, taken first -/
theorem last_pure {P : Program} {ops : Array Oper} {Q : Exit → Act → World → Prop} {md : Region.Mode} {S : World → Prop} {ds : List Nat} {i : Nat} {oi : Oper} {v : Value} {fuel : Nat} {listed : Array Bool} {a : Act} {w : World} (hi : ops[i]? = some oi)
    (hs : Region.noSelect ops = true) (hf : Region.free md ops listed i = true) (hr : (Region.ready md ops listed).contains i = true)
    (hQ : ∀ c a w, Q (.panic c) (a.put oi.dst v) w → Q (.panic c) a w) (hy : Yields P ops oi v a)
    (h : wpAnyLast P md ops Q S ds fuel (listed.setIfInBounds i true) (a.put oi.dst v) w) : wpAnyLast P md ops Q S ds (fuel + 1) listed a w :=
  wpAnyLast_any hi (Region.noSelect_spec hs) hQ fuel listed a w (Region.free_spec hi hf) (by simpa using hr) hy h

set_option maxRecDepth 100000 in
set_option maxHeartbeats 4000000 in
theorem copy_any (w0 : World) (S : Nat → Prop) (g : Nat) (vo vt : Value) (u : US) (w : World) (H : UkS w0 S w g vo vt u) (hl : u.token.length = 3) (hb : Bytes u.token) (ht0 : 128 ≤ u.token.getD 0 0) (ho : u.out.length ≤ 1048576) :
    Calls Try.prog 42 #[.pointer (some ⟨g, 0, none⟩)] w fun e w' => e = .returned (.bool u.copy.2) ∧ ∃ vo' vt', UkS w0 S w' g vo' vt' u.copy.1 := by
  obtain ⟨r, hr⟩ : ∃ r, u.copy = r := ⟨_, rfl⟩
  rw [hr]
  have HR := Lib.hid hr
  clear hr
  obtain ⟨lo, hlo⟩ : ∃ lo, u.out.length = lo := ⟨_, rfl⟩
  obtain ⟨A6, k6, hv6⟩ := H.oo.slice
  obtain ⟨A8, k8, hv8⟩ := H.ot.slice
  obtain ⟨gt, rfl, q0⟩ := H.ot.cell hv8 0 (by omega)
  obtain ⟨_, e1, q1⟩ := H.ot.cell hv8 1 (by omega)
  injection e1 with e1
  injection e1 with e1
  subst e1
  obtain ⟨_, e1, q2⟩ := H.ot.cell hv8 2 (by omega)
  injection e1 with e1
  injection e1 with e1
  subst e1
  rw [hlo] at hv6 ho
  rw [hl] at hv8
  obtain ⟨t0, h0⟩ : ∃ t, u.token.getD 0 0 = t := ⟨_, rfl⟩
  obtain ⟨t1, h1⟩ : ∃ t, u.token.getD 1 0 = t := ⟨_, rfl⟩
  obtain ⟨t2, h2⟩ : ∃ t, u.token.getD 2 0 = t := ⟨_, rfl⟩
  have hbd : ∀ j, j < 3 → u.token.getD j 0 < 256 := fun j hj => by
    rw [List.getD_eq_getElem?_getD, List.getElem?_eq_getElem (by omega)]
    exact hb _ (List.getElem_mem _)
  have b0 := hbd 0 (by omega)
  have b1 := hbd 1 (by omega)
  have b2 := hbd 2 (by omega)
  rw [h0] at q0 ht0 b0
  rw [h1] at q1 b1
  rw [h2] at q2 b2
  have hfar : farOf u.token = t1 + t2 * 256 + 1 := by unfold farOf; rw [h1, h2]
  have HFAR := Lib.hid hfar
  have HLO := Lib.hid hlo
  have HV6 := Lib.hid hv6
  have HV8 := Lib.hid hv8
  have H0 := Lib.hid h0
  have HH := Lib.hid H
  have HHL := Lib.hid hl
  have c6 := H.c6
  have c8 := H.c8
  rw [hv6] at c6
  rw [hv8] at c8
  have p10 : (0 : Int) ≤ t1 := by omega
  have p11 : (t1 : Int) < 256 := by omega
  have p20 : (0 : Int) ≤ t2 := by omega
  have p21 : (t2 : Int) < 256 := by omega
  have p00 : (128 : Int) ≤ t0 := by omega
  have p01 : (t0 : Int) < 256 := by omega
  have po : (lo : Int) ≤ 1048576 := by omega
  have po0 : (0 : Int) ≤ lo := by omega
  clear hfar hlo hv6 hv8 h0 h1 h2 H hl hb hbd
  go_enter Try.func42, Try.ntmps42
  go_upto_region 1 with fail
  go_quiet (fail)
  obtain ⟨far, hf⟩ : ∃ far : Nat, (t1 : Int) + (t2 : Int) * 256 + 1 = (far : Int) := ⟨t1 + t2 * 256 + 1, by omega⟩
  rw [hf]
  have hfn : farOf u.token = far := by rw [HFAR.out]; omega
  have hf1 : 1 ≤ far := by omega
  have HFN := Lib.hid hfn
  have HQ := Lib.hid (HH.out.drewN nq)
  have hq0 : (w.drewN nq).cell? ⟨gt, 0, none⟩ = some (.int .u8 (t0 : Int)) := q0
  generalize w.drewN nq = w2 at *
  clear hf hfn q0 HFAR q1 q2 p10 p11 p20 p21 b1 b2 HH
  have c6 := HQ.out.c6
  rw [HV6.out] at c6
  by_cases hfl : lo < far
  · have hflI : (lo : Int) < far := by omega
    have hres : r = (u.fail 100 u.start, false) := by rw [← HR.out, US.copy, HFN.out, HLO.out, if_pos hfl]
    have HRES := Lib.hid hres
    clear hres
    have c7 := HQ.out.c7
    go_wp2_with (go_at_call 37; refine (fail_any w0 S g 100 u.start vo vt _ _ HQ.out).mono ?_; rintro e w3 ⟨rfl, hf⟩; have HF := Lib.hid hf; clear hf)
    go_ret
    rw [HRES.out]
    exact ⟨rfl, _, _, HF.out⟩
  · have hflI : ¬ (lo : Int) < far := by omega
    obtain ⟨n, hn⟩ : ∃ n, n = t0 - 124 := ⟨_, rfl⟩
    have hnI : (t0 : Int) - 128 + 4 = n := by omega
    have hres : r = ({ u with out := copyOut far n u.out, token := [] }, true) := by rw [← HR.out, US.copy, HFN.out, HLO.out, if_neg hfl, H0.out, hn]
    have HRES := Lib.hid hres
    have c8 := HQ.out.c8
    rw [HV8.out] at c8
    have hn131 : n ≤ 131 := by omega
    have HN := Lib.hid hn
    clear hres hn
    have ht0I : ¬ (n : Int) ≤ 0 := by omega
    go_upto_region 4 with fail
    go_cut [42, 43] from 34 to 41 (fun x y wx => x = .int .i64 (n : Int) ∧ y = .int .i64 0 ∧ wx = w2)
    case first =>
      go_wp2_with fail
      go_meet
      exact ⟨rfl, rfl, rfl⟩
    case rest =>
      obtain ⟨rfl, rfl, rfl⟩ := hcut
      have hnc : (0 : Int) ≤ n := by omega
      have HFL := Lib.hid hfl
      clear hnI p00 p01 ht0 b0 hq0 hflI c6 c8
      go_wp2_with fail
      go_loopw [43] (fun x wr => ∃ (k : Nat) (vo' : Value) (o : List Nat), x = .int .i64 (k : Nat) ∧ UkS w0 S wr g vo' vt { u with out := o } ∧ o.length = lo + k ∧ k ≤ n ∧ copyOut far (n - k) o = copyOut far n u.out) (fun x _ => n - (intOf x).toNat)
      case atStart => exact ⟨0, vo, u.out, rfl, HQ.out, HLO.out, Nat.zero_le _, rfl⟩
      case round =>
        obtain ⟨k, vo', o, rfl, hP, hol, hkn, hco⟩ := hrel
        have HP := Lib.hid hP
        have HOL := Lib.hid hol
        have HCO := Lib.hid hco
        clear hP hol hco
        have hk0 : (0 : Int) ≤ k := by omega
        by_cases hlt : k < n
        · have hltI : (k : Int) < n := by omega
          obtain ⟨e, he⟩ : ∃ e, e = lo + k := ⟨_, rfl⟩
          obtain ⟨pl, hpl⟩ : ∃ pl, pl = e - far := ⟨_, rfl⟩
          have hfle : far ≤ e := by have := HFL.out; omega
          have hple : pl < e := by omega
          have hoe : o.length = e := by rw [HOL.out, he]
          obtain ⟨A6', k6', hv6'⟩ := HP.out.oo.slice
          simp only at hv6'
          obtain ⟨go, rfl, hx⟩ := HP.out.oo.cell hv6' pl (by simp only; omega)
          simp only at hx
          obtain ⟨x, hxe⟩ : ∃ x, o.getD pl 0 = x := ⟨_, rfl⟩
          rw [hxe] at hx
          rw [hoe] at hv6'
          have c6 := HP.out.c6
          rw [hv6'] at c6
          have hxx : copyOut far (n - (k + 1)) (o ++ [x]) = copyOut far n u.out := by
            have h1 := HCO.out
            rw [show n - k = (n - (k + 1)) + 1 by omega, copyOut, hoe, ← hpl, hxe] at h1
            exact h1
          have hbt : o.length + [x].length ≤ 140737488355328 := by rw [hoe]; simp only [List.length_cons, List.length_nil]; omega
          have hlen2 : (o ++ [x]).length = lo + (k + 1) := by rw [List.length_append, hoe]; simp only [List.length_cons, List.length_nil]; omega
          have d0 : (0 : Int) ≤ pl := by omega
          have d1 : (pl : Int) < e := by omega
          have d2 : (0 : Int) ≤ e := by omega
          have wpl : IntKind.i64.wrap ((e : Int) - far) = (pl : Int) := by rw [IntWalk.i64_in _ (by omega)]; omega
          have HXX := Lib.hid hxx
          have HV6' := Lib.hid hv6'
          have HBT := Lib.hid hbt
          have HLEN2 := Lib.hid hlen2
          clear hbt hlen2 hxx hv6' hxe hoe hpl he hple hfle
          have HPD := Lib.hid (HP.out.drew.later ((Below.refl wr.drew.heap.size wr.drew).alloc (Nat.le_refl _) (.cells #[.int .u8 (x : Int)] 5)))
          have HNEW := Lib.hid (one_byte wr.drew x 5)
          have c6a : ((wr.drew).alloc (.cells #[.int .u8 (x : Int)] 5)).cell? ⟨g, 6, none⟩ = some (.slice (some ⟨go, 0, none⟩) e k6') := by rw [HPD.out.c6, HV6'.out]
          have hxa : ((wr.drew).alloc (.cells #[.int .u8 (x : Int)] 5)).cell? ⟨go, pl, none⟩ = some (.int .u8 (x : Int)) := (World.cell?_of_block (Below.heap_alloc wr.drew _ go (World.block_lt_of_cell? _ _ hx))).trans hx
          have HC6A := Lib.hid c6a
          have HXA := Lib.hid hxa
          clear c6a hxa
          go_upto_region 6 with fail
          refine wp_region_noPanic ?_
          refine wp_region_last_drew (S := fun w' => w'.cell? ⟨g, 6, none⟩ = some (.slice (some ⟨go, 0, none⟩) e k6') ∧ w'.cell? ⟨go, pl, none⟩ = some (.int .u8 (x : Int))) (ds := [19, 22]) (by kernel_rfl) ⟨c6, hx⟩ (fun hHeld => ?_)
          refine last_pure (i := 0) (oi := _) (v := (.pointer (some ⟨g, 0, none⟩))) rfl (by kernel_rfl) (by kernel_rfl) (by kernel_rfl) (fun _ _ _ h => h) (Or.inl ⟨by rfl, fun w' => by go_simp⟩) ?_
          try simp only [Act.put, List.getElem_toArray, List.getElem_cons_succ, List.getElem_cons_zero, List.setIfInBounds_toArray, List.set_cons_zero, List.set_cons_succ]
          refine wpAnyLast_take (i := 1) (oi := _) (v := (.pointer (some ⟨g, 0, none⟩))) rfl (by kernel_rfl) (by kernel_rfl) (by kernel_rfl) (by kernel_rfl) (by kernel_rfl) (fun _ _ _ h => h) (Or.inl ⟨by rfl, fun w' _ => by go_simp⟩) hHeld ?_
          try simp only [Act.put, List.getElem_toArray, List.getElem_cons_succ, List.getElem_cons_zero, List.setIfInBounds_toArray, List.set_cons_zero, List.set_cons_succ]
          refine wpAnyLast_take (i := 2) (oi := _) (v := (.pointer (some ⟨g, 0, none⟩))) rfl (by kernel_rfl) (by kernel_rfl) (by kernel_rfl) (by kernel_rfl) (by kernel_rfl) (fun _ _ _ h => h) (Or.inl ⟨by rfl, fun w' _ => by go_simp⟩) hHeld ?_
          try simp only [Act.put, List.getElem_toArray, List.getElem_cons_succ, List.getElem_cons_zero, List.setIfInBounds_toArray, List.set_cons_zero, List.set_cons_succ]
          refine wpAnyLast_take (i := 3) (oi := _) (v := (.pointer (some ⟨g, 6, none⟩))) rfl (by kernel_rfl) (by kernel_rfl) (by kernel_rfl) (by kernel_rfl) (by kernel_rfl) (fun _ _ _ h => h) (Or.inl ⟨by rfl, fun w' _ => by go_simp⟩) hHeld ?_
          try simp only [Act.put, List.getElem_toArray, List.getElem_cons_succ, List.getElem_cons_zero, List.setIfInBounds_toArray, List.set_cons_zero, List.set_cons_succ]
          refine wpAnyLast_take (i := 4) (oi := _) (v := (.slice (some ⟨go, 0, none⟩) e k6')) rfl (by kernel_rfl) (by kernel_rfl) (by kernel_rfl) (by kernel_rfl) (by kernel_rfl) (fun _ _ _ h => h) (Or.inl ⟨by rfl, fun w' hSw => by have h1 := hSw.1; go_simp⟩) hHeld ?_
          try simp only [Act.put, List.getElem_toArray, List.getElem_cons_succ, List.getElem_cons_zero, List.setIfInBounds_toArray, List.set_cons_zero, List.set_cons_succ]
          refine wpAnyLast_take (i := 5) (oi := _) (v := (.pointer (some ⟨g, 0, none⟩))) rfl (by kernel_rfl) (by kernel_rfl) (by kernel_rfl) (by kernel_rfl) (by kernel_rfl) (fun _ _ _ h => h) (Or.inl ⟨by rfl, fun w' _ => by go_simp⟩) hHeld ?_
          try simp only [Act.put, List.getElem_toArray, List.getElem_cons_succ, List.getElem_cons_zero, List.setIfInBounds_toArray, List.set_cons_zero, List.set_cons_succ]
          refine wpAnyLast_take (i := 6) (oi := _) (v := (.pointer (some ⟨g, 0, none⟩))) rfl (by kernel_rfl) (by kernel_rfl) (by kernel_rfl) (by kernel_rfl) (by kernel_rfl) (fun _ _ _ h => h) (Or.inl ⟨by rfl, fun w' _ => by go_simp⟩) hHeld ?_
          try simp only [Act.put, List.getElem_toArray, List.getElem_cons_succ, List.getElem_cons_zero, List.setIfInBounds_toArray, List.set_cons_zero, List.set_cons_succ]
          refine wpAnyLast_take (i := 7) (oi := _) (v := (.pointer (some ⟨g, 6, none⟩))) rfl (by kernel_rfl) (by kernel_rfl) (by kernel_rfl) (by kernel_rfl) (by kernel_rfl) (fun _ _ _ h => h) (Or.inl ⟨by rfl, fun w' _ => by go_simp⟩) hHeld ?_
          try simp only [Act.put, List.getElem_toArray, List.getElem_cons_succ, List.getElem_cons_zero, List.setIfInBounds_toArray, List.set_cons_zero, List.set_cons_succ]
          refine wpAnyLast_take (i := 8) (oi := _) (v := (.slice (some ⟨go, 0, none⟩) e k6')) rfl (by kernel_rfl) (by kernel_rfl) (by kernel_rfl) (by kernel_rfl) (by kernel_rfl) (fun _ _ _ h => h) (Or.inl ⟨by rfl, fun w' hSw => by have h1 := hSw.1; go_simp⟩) hHeld ?_
          try simp only [Act.put, List.getElem_toArray, List.getElem_cons_succ, List.getElem_cons_zero, List.setIfInBounds_toArray, List.set_cons_zero, List.set_cons_succ]
          refine wpAnyLast_take (i := 9) (oi := _) (v := (.pointer (some ⟨g, 0, none⟩))) rfl (by kernel_rfl) (by kernel_rfl) (by kernel_rfl) (by kernel_rfl) (by kernel_rfl) (fun _ _ _ h => h) (Or.inl ⟨by rfl, fun w' _ => by go_simp⟩) hHeld ?_
          try simp only [Act.put, List.getElem_toArray, List.getElem_cons_succ, List.getElem_cons_zero, List.setIfInBounds_toArray, List.set_cons_zero, List.set_cons_succ]
          refine wpAnyLast_take (i := 10) (oi := _) (v := (.pointer (some ⟨g, 0, none⟩))) rfl (by kernel_rfl) (by kernel_rfl) (by kernel_rfl) (by kernel_rfl) (by kernel_rfl) (fun _ _ _ h => h) (Or.inl ⟨by rfl, fun w' _ => by go_simp⟩) hHeld ?_
          try simp only [Act.put, List.getElem_toArray, List.getElem_cons_succ, List.getElem_cons_zero, List.setIfInBounds_toArray, List.set_cons_zero, List.set_cons_succ]
          refine wpAnyLast_take (i := 11) (oi := _) (v := (.pointer (some ⟨g, 6, none⟩))) rfl (by kernel_rfl) (by kernel_rfl) (by kernel_rfl) (by kernel_rfl) (by kernel_rfl) (fun _ _ _ h => h) (Or.inl ⟨by rfl, fun w' _ => by go_simp⟩) hHeld ?_
          try simp only [Act.put, List.getElem_toArray, List.getElem_cons_succ, List.getElem_cons_zero, List.setIfInBounds_toArray, List.set_cons_zero, List.set_cons_succ]
          refine wpAnyLast_take (i := 12) (oi := _) (v := (.slice (some ⟨go, 0, none⟩) e k6')) rfl (by kernel_rfl) (by kernel_rfl) (by kernel_rfl) (by kernel_rfl) (by kernel_rfl) (fun _ _ _ h => h) (Or.inl ⟨by rfl, fun w' hSw => by have h1 := hSw.1; go_simp⟩) hHeld ?_
          try simp only [Act.put, List.getElem_toArray, List.getElem_cons_succ, List.getElem_cons_zero, List.setIfInBounds_toArray, List.set_cons_zero, List.set_cons_succ]
          refine wpAnyLast_take (i := 13) (oi := _) (v := (.int .i64 (e : Int))) rfl (by kernel_rfl) (by kernel_rfl) (by kernel_rfl) (by kernel_rfl) (by kernel_rfl) (fun _ _ _ h => h) (Or.inl ⟨by rfl, fun w' _ => by go_simp⟩) hHeld ?_
          try simp only [Act.put, List.getElem_toArray, List.getElem_cons_succ, List.getElem_cons_zero, List.setIfInBounds_toArray, List.set_cons_zero, List.set_cons_succ]
          refine wpAnyLast_take (i := 14) (oi := _) (v := (.int .i64 (far : Int))) rfl (by kernel_rfl) (by kernel_rfl) (by kernel_rfl) (by kernel_rfl) (by kernel_rfl) (fun _ _ _ h => h) (Or.inl ⟨by rfl, fun w' _ => by go_simp⟩) hHeld ?_
          try simp only [Act.put, List.getElem_toArray, List.getElem_cons_succ, List.getElem_cons_zero, List.setIfInBounds_toArray, List.set_cons_zero, List.set_cons_succ]
          refine wpAnyLast_take (i := 15) (oi := _) (v := (.int .i64 (pl : Int))) rfl (by kernel_rfl) (by kernel_rfl) (by kernel_rfl) (by kernel_rfl) (by kernel_rfl) (fun _ _ _ h => h) (Or.inl ⟨by rfl, fun w' _ => by go_simp⟩) hHeld ?_
          try simp only [Act.put, List.getElem_toArray, List.getElem_cons_succ, List.getElem_cons_zero, List.setIfInBounds_toArray, List.set_cons_zero, List.set_cons_succ]
          refine wpAnyLast_take (i := 16) (oi := _) (v := (.pointer (some ⟨go, pl, none⟩))) rfl (by kernel_rfl) (by kernel_rfl) (by kernel_rfl) (by kernel_rfl) (by kernel_rfl) (fun _ _ _ h => h) (Or.inl ⟨by rfl, fun w' _ => by go_simp⟩) hHeld ?_
          try simp only [Act.put, List.getElem_toArray, List.getElem_cons_succ, List.getElem_cons_zero, List.setIfInBounds_toArray, List.set_cons_zero, List.set_cons_succ]
          refine wpAnyLast_take (i := 17) (oi := _) (v := (.int .u8 (x : Int))) rfl (by kernel_rfl) (by kernel_rfl) (by kernel_rfl) (by kernel_rfl) (by kernel_rfl) (fun _ _ _ h => h) (Or.inl ⟨by rfl, fun w' hSw => by have h1 := hSw.2; go_simp⟩) hHeld ?_
          try simp only [Act.put, List.getElem_toArray, List.getElem_cons_succ, List.getElem_cons_zero, List.setIfInBounds_toArray, List.set_cons_zero, List.set_cons_succ]
          refine wpAnyLast_ready (rs := [18]) (by kernel_rfl) (by simp) ?_
          refine AllReadyL.cons (o := _) rfl (by decide) (fun K hK => ?_) AllReadyL.nil
          rw [if_pos (by rfl)]
          go_simp
          refine hK.out _ _ ⟨HC6A.out, HXA.out⟩ (fun hHeld => ?_)
          clear hK K
          try dsimp only
          try simp only [Act.put, List.getElem_toArray, List.getElem_cons_succ, List.getElem_cons_zero, List.setIfInBounds_toArray, List.set_cons_zero, List.set_cons_succ]
          refine wpAnyLast_ready (rs := [19]) (by kernel_rfl) (by simp) ?_
          refine AllReadyL.cons_last (o := _) rfl (by decide) (fun K hK => ?_) AllReadyL.nil
          rw [if_pos (by rfl)]
          refine wp_app_bytes _ (.tmp 49) (.tmp 63) (by rfl) 0 vo' o (by rw [HV6'.out]; rfl) HPD.out.oo ⟨wr.heap.size, 0, none⟩ [x] 1 (by rfl) HNEW.out HBT.out (Nat.zero_le _) ?_
          intro v5 w5 ho5 hg5 ha5
          refine hK.out _ _ ?_
          clear hK K hHeld
          have hrow5 := (hg5.block _ HPD.out.lt (fun e => HPD.out.vog e.symm)).trans HPD.out.row
          have c65 := cell_of_row w5 g 6 _ _ _ hrow5
          have f65 := frozen_of_row w5 g 6 _ _ hrow5
          obtain ⟨A5, k5, hv5⟩ := ho5.slice
          generalize (o ++ [x]).length = l5 at hv5
          subst hv5
          have hst := HPD.out.putOut ho5 hg5 ha5
          have HS5 := Lib.hid hst
          clear ho5 hg5 ha5 hrow5 hst
          try dsimp only
          try simp only [Act.put, List.getElem_toArray, List.getElem_cons_succ, List.getElem_cons_zero, List.setIfInBounds_toArray, List.set_cons_zero, List.set_cons_succ]
          refine last_pure (i := 20) (oi := _) (v := (.pointer (some ⟨g, 0, none⟩))) rfl (by kernel_rfl) (by kernel_rfl) (by kernel_rfl) (fun _ _ _ h => h) (Or.inl ⟨by rfl, fun w' => by go_simp⟩) ?_
          try simp only [Act.put, List.getElem_toArray, List.getElem_cons_succ, List.getElem_cons_zero, List.setIfInBounds_toArray, List.set_cons_zero, List.set_cons_succ]
          refine last_pure (i := 21) (oi := _) (v := (.pointer (some ⟨g, 6, none⟩))) rfl (by kernel_rfl) (by kernel_rfl) (by kernel_rfl) (fun _ _ _ h => h) (Or.inl ⟨by rfl, fun w' => by go_simp⟩) ?_
          try simp only [Act.put, List.getElem_toArray, List.getElem_cons_succ, List.getElem_cons_zero, List.setIfInBounds_toArray, List.set_cons_zero, List.set_cons_succ]
          refine wpAnyLast_ready (rs := [22]) (by kernel_rfl) (by simp) ?_
          refine AllReadyL.cons_last (o := _) rfl (by decide) (fun K hK => ?_) AllReadyL.nil
          rw [if_pos (by rfl)]
          go_simp
          refine hK.out _ _ ?_
          clear hK K
          try dsimp only
          try simp only [Act.put, List.getElem_toArray, List.getElem_cons_succ, List.getElem_cons_zero, List.setIfInBounds_toArray, List.set_cons_zero, List.set_cons_succ]
          refine wpAnyLast_done (by kernel_rfl) ?_ _
          refine NoPanic.normal ?_
          clear hx c6 wpl
          go_wp2_with fail
          go_roundw
          case rel => exact ⟨k + 1, _, _, by go_num, HS5.out, HLEN2.out, by omega, HXX.out⟩
          case measure => simp [intOf]; omega
        · obtain rfl : k = n := by omega
          have hltI : ¬ (k : Int) < k := by omega
          have hk2 : o = copyOut far k u.out := by
            have := HCO.out
            rwa [Nat.sub_self] at this
          subst hk2
          have hv8 := HV8.out
          have hl := HHL.out
          have hcut := HP.out.cutTok (A := some ⟨gt, 0, none⟩) (c := k8) (by simp only; rw [hl]; exact hv8)
          have HCUT := Lib.hid hcut
          have c8 := HP.out.c8
          have f8 := HP.out.free 8
          rw [hv8] at c8
          clear hcut hv8 hl
          go_wp2_with fail
          go_ret
          rw [HRES.out]
          exact ⟨rfl, _, _, HCUT.out⟩
end Go.Proofs.Ytikbbofjkchppaa

