/- ShaPlays, the second form: for every script of bulk at most 1048576 the law returns true; sha's tables are tied to the program's text. -/
import Derived.Test.YtemioilfedpohaaDoorTab
import Derived.Test.YtemioilfedpohaaDoorPlays
import Derived.Test.YtemioilfedpohaaDoorCards
import Derived.Test.YtemioilfedpohaaDoorTie
import Derived.LaidMore
import Derived.Stop.Joined
import Derived.SevenTiedAt
import Derived.SizedLaws
import Derived.ShutString
import Derived.Deep.DeepHandedRow
import Derived.Deep.Strs
import Derived.Test.YtemioilfedpohaaDoorLaid
namespace Go.Proofs.YtemioilfedpohaaDoor.shaPlays
open Go.ChangeShapes Go.WideShapes Go.ChangeAt Go.RowKit
set_option linter.unusedVariables false

theorem own : ownKnob Tryd.prog.godebug = none := by kernel_rfl
theorem door_met (os : Os) (args : Array Value) : laidMetH Tryd.prog Rows.shaPlaysUptoRow.laid ((World.doorLaid Tryd.prog 400 os).forCall (fun _ _ => 0) ⟨#[], args, []⟩).memory := by
  rw [MakeChecks.laidMetH_plain _ _ _ (by kernel_rfl)]
  exact laidMet_of_run' 8 (by kernel_rfl) (by kernel_rfl)
theorem of_laid {W : World} (h : laidMetH Tryd.prog Rows.shaPlaysUptoRow.laid W) : Tab W := by
  rw [MakeChecks.laidMetH_plain _ _ _ (by kernel_rfl)] at h
  exact tab_of_laid h
theorem laidOut : laidOutB Tryd.prog = true := by kernel_rfl
theorem cells3 : Tryd.prog.cellsOf 52 = 3 := by kernel_rfl
theorem cellsI : Tryd.prog.cellsOf 3 = 1 := by kernel_rfl
theorem cellsS : Tryd.prog.cellsOf 9 = 1 := by kernel_rfl

theorem bulk_append {H : Type} (l r : List (DataW H)) : Rows.uptoBulkAll (l ++ r) = Rows.uptoBulkAll l + Rows.uptoBulkAll r := by
  induction l with
  | nil => simp [Rows.uptoBulkAll]
  | cons x l ih => simp only [List.cons_append, Rows.uptoBulkAll, ih]; omega

/-- the calls out of the slice that came in, and what their reading's bulk says of them -/
theorem open_ops {H : Type} {enc : TypeId × Value → H} {W : World} {fuel : Nat} {a : Option Addr} {len cap : Nat} {d : DataW H} {p : List MemPlace}
    (h : DataW.trod enc Tryd.prog W 0 (fun _ => true) true fuel 48 [.slice a len cap] = some (d, p)) : ∃ f, IsOps W a len cap f ∧ len + tsum f len ≤ Rows.uptoBulk d := by
  rcases Go.Deep.open_slice Tryd.underlying48 h with ⟨hcs, hx⟩ | ⟨x, len', cap', m, n, D, Pl, hcs, hb, hl, hm, hmm, hx, hi⟩
  · simp only [List.cons.injEq, Value.slice.injEq, and_true] at hcs
    obtain ⟨rfl, rfl, rfl⟩ := hcs
    exact ⟨fun _ => ⟨0, 0, ⟨#[]⟩⟩, ⟨fun h => by omega, fun i hi => by omega⟩, by simp [tsum]⟩
  · simp only [List.cons.injEq, Value.slice.injEq, and_true] at hcs
    obtain ⟨rfl, rfl, rfl⟩ := hcs
    have hmc : len ≤ m := by rw [hmm]; simpa using hl
    have each : ∀ i, i < len → ∃ c : Call, (W.cell? (x.add (i * 3)) = some (.int .i64 c.who) ∧ W.cell? (x.add (i * 3 + 1)) = some (.int .i64 c.kind) ∧ W.cell? (x.add (i * 3 + 2)) = some (.string c.text)) ∧ (Lit.int .i64 c.who).wf = true ∧ D i = .agg [.lit (.int .i64 c.who), .lit (.int .i64 c.kind), .lit (.string c.text.data.toList)] := by
      intro i hi'
      obtain ⟨cs', hc, ht⟩ := hi i (by omega)
      rw [cells3] at hc
      obtain ⟨_, hcl, hat⟩ := World.cells?_some hc
      obtain ⟨y0, y1, y2, n', hy, hlen, g0, g1, g2⟩ := Go.Deep.trod_struct3 Tryd.underlying52 ht
      match cs', hcl with
      | [u0, u1, u2], _ =>
        have q0 := hat 0 (by omega)
        have q1 := hat 1 (by omega)
        have q2 := hat 2 (by omega)
        rw [add_add] at q0 q1 q2
        simp only [cellsI, cellsS, List.drop_zero, List.take_succ_cons, List.take_zero, List.drop_succ_cons] at g0 g1 g2
        obtain ⟨a0, e0, rfl, w0⟩ := DataW.trod_int Tryd.underlying3 g0
        obtain ⟨a1, e1, rfl, w1⟩ := DataW.trod_int Tryd.underlying3 g1
        obtain ⟨a2, e2, rfl, w2⟩ := DataW.trod_string Tryd.underlying9 g2
        simp only [List.cons.injEq, and_true] at e0 e1 e2
        subst e0 e1 e2
        exact ⟨⟨a0, a1, a2⟩, ⟨q0, q1, q2⟩, w0, (Prod.mk.inj hy).1⟩
    let f : Nat → Call := fun i => if h : i < len then Classical.choose (each i h) else ⟨0, 0, ⟨#[]⟩⟩
    have hf : ∀ i, i < len → (W.cell? (x.add (i * 3)) = some (.int .i64 (f i).who) ∧ W.cell? (x.add (i * 3 + 1)) = some (.int .i64 (f i).kind) ∧ W.cell? (x.add (i * 3 + 2)) = some (.string (f i).text)) ∧ (Lit.int .i64 (f i).who).wf = true ∧ D i = .agg [.lit (.int .i64 (f i).who), .lit (.int .i64 (f i).kind), .lit (.string (f i).text.data.toList)] := by
      intro i hi'
      have e : f i = Classical.choose (each i hi') := dif_pos hi'
      rw [e]
      exact Classical.choose_spec (each i hi')
    have hbk : ∀ k, k ≤ len → k + tsum f k ≤ Rows.uptoBulkAll ((List.range k).map D) := by
      intro k
      induction k with
      | zero => intro _; simp [tsum]
      | succ k ih =>
        intro hk
        have h1 := ih (by omega)
        rw [List.range_succ, List.map_append, bulk_append]
        have h2 : (f k).text.size + 1 ≤ Rows.uptoBulkAll (List.map D [k]) := by
          simp only [List.map_cons, List.map_nil, (hf k (by omega)).2.2, Rows.uptoBulkAll, Rows.uptoBulk]
          have e : (f k).text.data.toList.length = (f k).text.size := by rw [Array.length_toList]; rfl
          omega
        show k + 1 + (tsum f k + (f k).text.size) ≤ _
        omega
    refine ⟨f, ⟨fun h0 => ⟨x, rfl, ?_, fun i hi' => (hf i hi').1⟩, fun i hi' => (hf i hi').2.1⟩, ?_⟩
    · have := block_lt_of_cell (hf 0 h0).1.1
      rw [block_add] at this
      exact this
    · have := hbk len (Nat.le_refl _)
      rw [(Prod.mk.inj hx).1]
      simp only [Rows.uptoBulk]
      omega

set_option maxRecDepth 100000 in
set_option maxHeartbeats 2000000 in
theorem contract (H : Type) (enc : TypeId × Value → H) (W : World) (base : Nat) (args : Array Value) (ds gs : List (DataW H)) (before : List MemPlace)
    (hval : ∀ (j : Nat) t v, Tryd.f9.params[j]? = some t → args[j]? = some v → Value.okWide Tryd.prog W .any base t v)
    (hW : DataW.Whole enc Tryd.prog Tryd.f9.params.toList Rows.shaPlaysSpec.vars false W args.toList ds gs before) (hk : Rows.uptoSmall H (ds ++ gs) = true) (hL : laidMetH Tryd.prog Rows.shaPlaysUptoRow.laid W) :
    Calls Tryd.prog 9 args W fun e W' => ∃ v, e = .returned v ∧ Rows.shaPlaysSpec.post enc Tryd.prog Tryd.f9 false true false false W args v W' := by
  have hW' := hW
  obtain ⟨p, q, hA0, hV, rfl, hfz, hnd⟩ := hW
  have hA : DataW.TrodAll enc Tryd.prog W 0 (fun _ => true) true Tryd.f9.params.toList args.toList ds p := hA0
  rw [Tryd.params9] at hA hval
  obtain ⟨v0, vs0, d0, ds0, p0, q0, hargs, rfl, rfl, h0, r0⟩ := trodAll_cons hA
  obtain ⟨rfl, rfl, rfl⟩ := trodAll_nil r0
  obtain rfl : args = #[v0] := by cases args; simp_all
  obtain ⟨rfl, rfl⟩ := trodVars_none hV
  obtain ⟨a0, len0, cap0, rfl⟩ := okWide_slice Tryd.underlying48 (hval 0 48 v0 rfl rfl)
  have k0 := h0
  have lt0 : ∀ x ∈ p0, x.block < W.heap.size := by obtain ⟨m, hm⟩ := k0; exact DataW.trod_lt m _ _ _ hm
  obtain ⟨f, hf, hb⟩ : ∃ f, IsOps W a0 len0 cap0 f ∧ len0 + tsum f len0 ≤ Rows.uptoBulk d0 := by
    obtain ⟨fuel, hf⟩ := h0
    exact open_ops hf
  have hbk : Rows.uptoBulkAll ([d0] ++ []) ≤ 1048576 := of_decide_eq_true hk
  simp only [List.append_nil, Rows.uptoBulkAll] at hbk
  have hT := of_laid hL
  clear hA0 hk
  refine (shaPlays_walk a0 len0 cap0 f W hf (by omega) (by omega) hT).mono fun e W' ⟨he, bel⟩ => ?_
  subst he
  exact ⟨_, rfl, _, _, _, [], _, [], hW', trodAll_mk1 (shut_bool Tryd.underlying4 _), (trodAll_cons_mk (Below.trod laidOut (by kernel_rfl) (of_decide_eq_true (by kernel_rfl)) k0 bel lt0) trodAll_mk0), rfl, bel.frame _, fun h => by cases h⟩

theorem reads (os : Os) {H : Type} (enc : TypeId × Value → H) : ∃ places, DataW.whole enc Tryd.prog ((World.doorLaid Tryd.prog 400 os).forCall (fun _ _ => 0) ⟨#[], #[.slice none 0 0], []⟩).memory Tryd.f9.params.toList Rows.shaPlaysSpec.vars false #[Value.slice none 0 0].toList 8 = some ([.nil], [], places) :=
  ⟨[], by kernel_rfl⟩

set_option maxRecDepth 100000 in
set_option maxHeartbeats 2000000 in
theorem lifted (os : Os) (started : os.Started) (H : Type) (enc : TypeId × Value → H) (F : Stop.Interp) :
    ReturnsInHanded {} Tryd.checked os 9 .any ((Rows.OpenSpec.upto Rows.shaPlaysSpec).preRow enc Tryd.prog Tryd.f9 Rows.shaPlaysUptoRow.domain false Rows.shaPlaysUptoRow.laid) (((Rows.OpenSpec.upto Rows.shaPlaysSpec).at F).post enc Tryd.prog Tryd.f9 false true false false) := by
  obtain ⟨places, hx⟩ := reads os enc
  refine returnsInHanded_of_row (C := Tryd.checked) (s := Rows.OpenSpec.upto Rows.shaPlaysSpec) own started (by kernel_rfl) Tryd.func9
    (witness_row_at (enc := enc) (C := Tryd.checked) false (World.doorLaid Tryd.prog 400 os) #[.slice none 0 0] rfl (by kernel_rfl) (by kernel_rfl) (by kernel_rfl)
      (OpenSpec.preRow_of_cond 8 hx (by kernel_rfl) (fun k hk => by cases hk; kernel_rfl) (by kernel_rfl) (door_met os _))) ?_
  intro W base args ds gs before hval hW _ hcond _ hL _ _
  exact contract H enc W base args ds gs before hval hW (hcond _ rfl) hL

theorem said : Rows.ShaPlaysUptoSaid :=
  OpenClaim.holds_of_cond 9 Tryd.f9 rfl rfl rfl rfl rfl rfl rfl ⟨rfl, rfl, rfl, rfl, rfl⟩ rfl rfl rfl rfl rfl (by kernel_rfl) Tryd.func9 (by kernel_rfl)
    (of_decide_eq_true (by kernel_rfl)) (by unfold Func.isWrapper; first | (rw [if_pos (by decide +kernel)]; kernel_rfl) | (rw [if_neg (by decide +kernel)]; exact ⟨rfl, rfl⟩))
    (fun os started H enc _ F => by rw [OpenClaim.pre_eq_preRow]; exact lifted os started H enc F)

theorem proved : Rows.ShaPlaysUptoCardSaid :=
  Claim7.holds_tied_plain_at .later [] [.data, .data] true (true, "f4920ecfd9cb2a07056ef2e3a7d8d3f36369c826dde1db64f24f921180b101d3") false
    said (fun _ h => by cases h) (by kernel_rfl) (fun _ h => by cases h) shaPlaysUpto_row_tie rfl ⟨rfl, rfl⟩ (by kernel_rfl) rfl
    (fun f fn hf hfn => by
      obtain rfl : f = 9 := Option.some.inj ((show Tryd.prog.funcNamed "depot/depotlaw01.ShaPlays" = some 9 by kernel_rfl).symm.trans hf) |>.symm
      obtain rfl : fn = Tryd.f9 := (Option.some.inj (Tryd.func9.symm.trans hfn)).symm
      exact ⟨by kernel_rfl, fun j t ht => by
        rw [Tryd.params9] at ht
        have hm : t ∈ [48] := by simpa using Array.mem_of_getElem? ht
        have hall : ([48].all fun u => !Tryd.prog.wantsStandIn u) = true := by kernel_rfl
        exact (show Tryd.prog.wantsStandIn t = false by simpa using List.all_eq_true.1 hall t hm)⟩)
    (by kernel_rfl)
#print axioms proved
end Go.Proofs.YtemioilfedpohaaDoor.shaPlays
