/- ShaBlocks: the row and its card. -/
import Derived.Test.YtemioilfedpohaaDoorTab
import Derived.Test.YtemioilfedpohaaDoorSbWalkShaBlocks
import Derived.Test.YtemioilfedpohaaDoorCards
import Derived.Test.YtemioilfedpohaaDoorTie
import Derived.LaidMore
import Derived.Stop.Joined
import Derived.SevenTiedAt
namespace Go.Proofs.YtemioilfedpohaaDoor.shaBlocks
open Go.ChangeShapes Go.WideShapes Go.ChangeAt Go.RowKit
set_option linter.unusedVariables false

theorem own : ownKnob Tryd.prog.godebug = none := by kernel_rfl
theorem gRounds : Tryd.prog.globalNamed "depot/sha.rounds" = some 0 := by kernel_rfl
theorem tRounds : (Tryd.prog.globals[0]?).map (·.type) = some 56 := by kernel_rfl
theorem laid_eq : Rows.shaBlocksRow.laid = [("depot/sha.rounds", Lib.tabData .u32 (KT.map fun (n : Nat) => (n : Int)))] := by kernel_rfl

theorem door_met (os : Os) (args : Array Value) : laidMetH Tryd.prog Rows.shaBlocksRow.laid ((World.doorLaid Tryd.prog 400 os).forCall (fun _ _ => 0) ⟨#[], args, []⟩).memory := by
  rw [MakeChecks.laidMetH_plain _ _ _ (by kernel_rfl)]
  exact laidMet_of_run' 8 (by kernel_rfl) (by kernel_rfl)

theorem of_laid {W : World} (h : laidMetH Tryd.prog Rows.shaBlocksRow.laid W) : ∃ TK, W.heap[0]? = some (.cells (cw .u32 KT) TK (0, 0)) := by
  rw [MakeChecks.laidMetH_plain _ _ _ (by kernel_rfl), laid_eq] at h
  obtain ⟨T, hT⟩ := table_block (n := 64) (by decide) gRounds tRounds Tryd.underlying56 Tryd.underlying22 (by kernel_rfl) (by kernel_rfl) (by rw [List.length_map]; exact KT_length) h
  refine ⟨T, hT.trans ?_⟩
  rw [List.map_map]
  rfl

theorem eight_of (h : List Nat) (hl : h.length = 8) : ∃ a0 a1 a2 a3 a4 a5 a6 a7, h = [a0, a1, a2, a3, a4, a5, a6, a7] :=
  match h, hl with
  | [a0, a1, a2, a3, a4, a5, a6, a7], _ => ⟨a0, a1, a2, a3, a4, a5, a6, a7, rfl⟩

set_option maxRecDepth 100000 in
set_option maxHeartbeats 2000000 in
theorem lifted (os : Os) (started : os.Started) (H : Type) (enc : TypeId × Value → H) :
    ReturnsInHanded {} Tryd.checked os 3 .any (fun w args => (Rows.shaBlocksSpec.pre enc Tryd.prog Tryd.f3 [] false w args ∧ laidMetH Tryd.prog Rows.shaBlocksRow.laid w) ∧ sizedMet enc Tryd.prog Tryd.f3 (OpenSpec.ofChange Rows.shaBlocksSpec) false w args)
      (Rows.shaBlocksSpec.post enc Tryd.prog Tryd.f3 false true false false) := by
  refine returnsInHanded_of_change_and (C := Tryd.checked) (X := fun w _ => laidMetH Tryd.prog Rows.shaBlocksRow.laid w) (fun _ _ _ hh h => h.of_heap hh) own started (by kernel_rfl) Tryd.func3
    (ChangeSpec.witness_shaped (enc := enc) (C := Tryd.checked) (os := os) (X := fun w _ => laidMetH Tryd.prog Rows.shaBlocksRow.laid w) false (World.doorLaid Tryd.prog 400 os) #[.agg (cw .u32 (List.replicate 8 0)), .agg (cw .u8 (List.replicate 64 0))] 8 rfl (World.shaped_of_RefB (by kernel_rfl) (by kernel_rfl)) (by kernel_rfl) (by kernel_rfl) (by kernel_rfl) (door_met os _)) ?_
  intro W base args ds gs before hval0 hW _ _ hL _
  have hval : ∀ (j : Nat) t v, Tryd.f3.params[j]? = some t → args[j]? = some v → Value.okWide Tryd.prog W .any base t v := hval0
  have hW' := hW
  obtain ⟨p, q, hA0, hV, rfl, hfz, hnd⟩ := hW
  have hA : DataW.TrodAll enc Tryd.prog W 0 (fun _ => true) true Tryd.f3.params.toList args.toList ds p := hA0
  rw [Tryd.params3] at hA hval
  obtain ⟨v0, vs0, d0, ds0, p0, q0, hargs, rfl, rfl, h0, r0⟩ := trodAll_cons hA
  obtain ⟨v1, vs1, d1, ds1, p1, q1, rfl, rfl, rfl, h1, r1⟩ := trodAll_cons r0
  obtain ⟨rfl, rfl, rfl⟩ := trodAll_nil r1
  obtain rfl : args = #[v0, v1] := by cases args; simp_all
  obtain ⟨rfl, rfl⟩ := trodVars_none hV
  obtain ⟨h, rfl, rfl, rfl, hl, hs⟩ := open_row_nat (n := 8) (B := 4294967296) Tryd.underlying23 Tryd.underlying22 (by kernel_rfl) (by kernel_rfl) (fun _ h => wf_u32 h) (hval 0 23 v0 rfl rfl) h0
  obtain ⟨b, rfl, rfl, rfl, hbl, hb⟩ := open_row_nat (n := 64) (B := 256) Tryd.underlying24 Tryd.underlying5 (by kernel_rfl) (by kernel_rfl) (fun _ h => wf_u8 h) (hval 1 24 v1 rfl rfl) h1
  obtain ⟨TK, hK⟩ := of_laid hL
  clear hA0 hval0
  obtain ⟨h0', h1', h2', h3', h4', h5', h6', h7', hh⟩ := eight_of h hl
  refine (sb_walk h b h0' h1' h2' h3' h4' h5' h6' h7' hh hbl hs hb W hK).mono fun e W' ⟨he, bel⟩ => ?_
  subst he
  exact ⟨_, rfl, _, _, _, [], _, [], hW', trodAll_mk1 (shut_bool Tryd.underlying4 _),
    (trodAll_cons_mk (shut_row_nat Tryd.underlying23 Tryd.underlying22 (by kernel_rfl) (by kernel_rfl) hl (fun x hx => u32_wf (hs x hx))) (trodAll_cons_mk (shut_row_nat Tryd.underlying24 Tryd.underlying5 (by kernel_rfl) (by kernel_rfl) hbl (fun x hx => u8_wf (hb x hx))) trodAll_mk0)),
    rfl, bel.frame _, fun h => by cases h⟩

theorem said : Rows.ShaBlocksSaid :=
  OpenClaim.holds_of_wide 3 Tryd.f3 rfl rfl rfl rfl rfl rfl rfl ⟨rfl, rfl, rfl, rfl, rfl⟩ rfl rfl rfl rfl rfl (by kernel_rfl) Tryd.func3 (by kernel_rfl)
    (of_decide_eq_true (by kernel_rfl)) (by unfold Func.isWrapper; first | (rw [if_pos (by decide +kernel)]; kernel_rfl) | (rw [if_neg (by decide +kernel)]; exact ⟨rfl, rfl⟩))
    (fun os started H enc _ => lifted os started H enc)

theorem proved : Rows.ShaBlocksCardSaid :=
  Claim7.holds_tied_plain_at .later [] [.data] true (true, "f4920ecfd9cb2a07056ef2e3a7d8d3f36369c826dde1db64f24f921180b101d3") false
    said (fun _ h => by cases h) (by kernel_rfl) (fun _ h => by cases h) shaBlocks_row_tie rfl ⟨rfl, rfl⟩ (by kernel_rfl) rfl
    (fun f fn hf hfn => by
      obtain rfl : f = 3 := Option.some.inj ((show Tryd.prog.funcNamed "depot/depotlaw01.ShaBlocks" = some 3 by kernel_rfl).symm.trans hf) |>.symm
      obtain rfl : fn = Tryd.f3 := (Option.some.inj (Tryd.func3.symm.trans hfn)).symm
      exact ⟨by kernel_rfl, fun j t ht => by
        rw [Tryd.params3] at ht
        have hm : t ∈ [23, 24] := by simpa using Array.mem_of_getElem? ht
        have hall : ([23, 24].all fun u => !Tryd.prog.wantsStandIn u) = true := by kernel_rfl
        exact (show Tryd.prog.wantsStandIn t = false by simpa using List.all_eq_true.1 hall t hm)⟩)
    (by kernel_rfl)
#print axioms proved
end Go.Proofs.YtemioilfedpohaaDoor.shaBlocks
