/- ShaRoots: for every eight words and 64 bytes (no condition) the law returns true; sha's round table is tied to the program's text. -/
import Derived.Test.YtemioilfedpohaaDoorTab
import Derived.Test.YtemioilfedpohaaDoorShaRoots
import Derived.Test.YtemioilfedpohaaDoorCards
import Derived.Test.YtemioilfedpohaaDoorTie
import Derived.LaidMore
import Derived.Stop.Joined
import Derived.SevenTiedAt
import Derived.SizedLaws
import Derived.ShutString
import Derived.Test.YtemioilfedpohaaDoorLaid
namespace Go.Proofs.YtemioilfedpohaaDoor.shaRoots
open Go.ChangeShapes Go.WideShapes Go.ChangeAt Go.RowKit
open Go.ChangeMaps (open_string shut_string)
set_option linter.unusedVariables false

theorem own : ownKnob Tryd.prog.godebug = none := by kernel_rfl
theorem door_met (os : Os) (args : Array Value) : laidMetH Tryd.prog Rows.shaRootsRow.laid ((World.doorLaid Tryd.prog 400 os).forCall (fun _ _ => 0) ⟨#[], args, []⟩).memory := by
  rw [MakeChecks.laidMetH_plain _ _ _ (by kernel_rfl)]
  exact laidMet_of_run' 8 (by kernel_rfl) (by kernel_rfl)
theorem of_laid {W : World} (h : laidMetH Tryd.prog Rows.shaRootsRow.laid W) : ∃ TK, W.heap[0]? = some (.cells (cw .u32 KT) TK (0, 0)) := by
  rw [MakeChecks.laidMetH_plain _ _ _ (by kernel_rfl)] at h
  exact rounds_of_laid h
set_option maxRecDepth 100000 in
set_option maxHeartbeats 2000000 in
theorem lifted (os : Os) (started : os.Started) (H : Type) (enc : TypeId × Value → H) :
    ReturnsInHanded {} Tryd.checked os 4 .any (fun w args => (Rows.shaRootsSpec.pre enc Tryd.prog Tryd.f4 [] false w args ∧ laidMetH Tryd.prog Rows.shaRootsRow.laid w) ∧ sizedMet enc Tryd.prog Tryd.f4 (OpenSpec.ofChange Rows.shaRootsSpec) false w args)
      (Rows.shaRootsSpec.post enc Tryd.prog Tryd.f4 false true false false) := by
  refine returnsInHanded_of_change_and (C := Tryd.checked) (X := fun w _ => laidMetH Tryd.prog Rows.shaRootsRow.laid w) (fun _ _ _ hh h => h.of_heap hh) own started (by kernel_rfl) Tryd.func4
    (ChangeSpec.witness_shaped (enc := enc) (C := Tryd.checked) (os := os) (X := fun w _ => laidMetH Tryd.prog Rows.shaRootsRow.laid w) false (World.doorLaid Tryd.prog 400 os) #[.agg (cw .u32 (List.replicate 8 0)), .agg (cw .u8 (List.replicate 64 0))] 8 rfl (World.shaped_of_RefB (by kernel_rfl) (by kernel_rfl)) (by kernel_rfl) (by kernel_rfl) (by kernel_rfl) (door_met os _)) ?_
  intro W base args ds gs before hval0 hW _ hsz0 hL _
  have hsz : (DataW.weightsEach Tryd.prog (Tryd.f4.params.toList ++ Rows.shaRootsSpec.plain.varTypes Tryd.prog) (ds ++ gs)).all (· ≤ reachBytes) = true := hsz0
  have hval : ∀ (j : Nat) t v, Tryd.f4.params[j]? = some t → args[j]? = some v → Value.okWide Tryd.prog W .any base t v := hval0
  have hW' := hW
  obtain ⟨p, q, hA0, hV, rfl, hfz, hnd⟩ := hW
  have hA : DataW.TrodAll enc Tryd.prog W 0 (fun _ => true) true Tryd.f4.params.toList args.toList ds p := hA0
  rw [Tryd.params4] at hA hval hsz
  obtain ⟨v0, vs0, d0, ds0, p0, q0, hargs, rfl, rfl, h0, r0⟩ := trodAll_cons hA
  obtain ⟨v1, vs1, d1, ds1, p1, q1, rfl, rfl, rfl, h1, r1⟩ := trodAll_cons r0
  obtain ⟨rfl, rfl, rfl⟩ := trodAll_nil r1
  obtain rfl : args = #[v0, v1] := by cases args; simp_all
  obtain ⟨rfl, rfl⟩ := trodVars_none hV
  obtain ⟨a0, rfl, rfl, rfl, l0, w0⟩ := open_row_nat (n := 8) (B := 4294967296) Tryd.underlying23 Tryd.underlying22 (by kernel_rfl) (by kernel_rfl) (fun _ h => wf_u32 h) (hval 0 23 v0 rfl rfl) h0
  obtain ⟨a1, rfl, rfl, rfl, l1, w1⟩ := open_row_nat (n := 64) (B := 256) Tryd.underlying24 Tryd.underlying5 (by kernel_rfl) (by kernel_rfl) (fun _ h => wf_u8 h) (hval 1 24 v1 rfl rfl) h1
  have hT := of_laid hL
  clear hA0 hval0 hsz0 hsz
  refine (shaRoots_walk a0 l0 w0 a1 l1 w1 W hT).mono fun e W' ⟨he, bel⟩ => ?_
  subst he
  exact ⟨_, rfl, _, _, _, [], _, [], hW', trodAll_mk1 (shut_bool Tryd.underlying4 _), (trodAll_cons_mk (shut_row_nat Tryd.underlying23 Tryd.underlying22 (by kernel_rfl) (by kernel_rfl) l0 (fun x hx => u32_wf (w0 x hx))) (trodAll_cons_mk (shut_row_nat Tryd.underlying24 Tryd.underlying5 (by kernel_rfl) (by kernel_rfl) l1 (fun x hx => u8_wf (w1 x hx))) trodAll_mk0)), rfl, bel.frame _, fun h => by cases h⟩

theorem said : Rows.ShaRootsSaid :=
  OpenClaim.holds_of_wide 4 Tryd.f4 rfl rfl rfl rfl rfl rfl rfl ⟨rfl, rfl, rfl, rfl, rfl⟩ rfl rfl rfl rfl rfl (by kernel_rfl) Tryd.func4 (by kernel_rfl)
    (of_decide_eq_true (by kernel_rfl)) (by unfold Func.isWrapper; first | (rw [if_pos (by decide +kernel)]; kernel_rfl) | (rw [if_neg (by decide +kernel)]; exact ⟨rfl, rfl⟩))
    (fun os started H enc _ => lifted os started H enc)

theorem proved : Rows.ShaRootsCardSaid :=
  Claim7.holds_tied_plain_at .later [] [.data] true (true, "f4920ecfd9cb2a07056ef2e3a7d8d3f36369c826dde1db64f24f921180b101d3") false
    said (fun _ h => by cases h) (by kernel_rfl) (fun _ h => by cases h) shaRoots_row_tie rfl ⟨rfl, rfl⟩ (by kernel_rfl) rfl
    (fun f fn hf hfn => by
      obtain rfl : f = 4 := Option.some.inj ((show Tryd.prog.funcNamed "depot/depotlaw01.ShaRoots" = some 4 by kernel_rfl).symm.trans hf) |>.symm
      obtain rfl : fn = Tryd.f4 := (Option.some.inj (Tryd.func4.symm.trans hfn)).symm
      exact ⟨by kernel_rfl, fun j t ht => by
        rw [Tryd.params4] at ht
        have hm : t ∈ [23, 24] := by simpa using Array.mem_of_getElem? ht
        have hall : ([23, 24].all fun u => !Tryd.prog.wantsStandIn u) = true := by kernel_rfl
        exact (show Tryd.prog.wantsStandIn t = false by simpa using List.all_eq_true.1 hall t hm)⟩)
    (by kernel_rfl)
#print axioms proved
end Go.Proofs.YtemioilfedpohaaDoor.shaRoots
