/- PackPlays, the second form: for every script of bulk at most 1048576 the law returns true. -/
import Derived.Test.YtikbbofjkchppaaRows
import Derived.Test.YtikbbofjkchppaaPackPlays
import Derived.WalkKit
import Derived.ProofKit
import Derived.OpenShut
import Derived.ShutString
import Derived.JoinedCond
import Derived.Below
import Derived.SizedLaws
import Derived.Deep.Strs
import Derived.ChangeArms
namespace Go.Proofs.Ytikbbofjkchppaa.packPlays
open Go.ChangeShapes Go.WideShapes Go.ChangeAt Go.RowKit
set_option linter.unusedVariables false

theorem own : ownKnob Try.prog.godebug = none := by kernel_rfl
theorem laidOut : laidOutB Try.prog = true := by kernel_rfl
theorem cells2 : Try.prog.cellsOf 63 = 2 := by kernel_rfl
theorem cellsB : Try.prog.cellsOf 4 = 1 := by kernel_rfl
theorem cellsS : Try.prog.cellsOf 9 = 1 := by kernel_rfl

theorem bulk_append {H : Type} (l r : List (DataW H)) : Rows.uptoBulkAll (l ++ r) = Rows.uptoBulkAll l + Rows.uptoBulkAll r := by
  induction l with
  | nil => simp [Rows.uptoBulkAll]
  | cons x l ih => simp only [List.cons_append, Rows.uptoBulkAll, ih]; omega

theorem trod_struct2 {H : Type} {enc : TypeId × Value → H} {P : Program} {w : World} {base : Nat} {spare : Nat → Bool} {held : Bool} {t : TypeId} {f0 f1 : Field} {fuel : Nat} {cs : List Value} {x : DataW H × List MemPlace} (ht : P.underlying t = some (.struct #[f0, f1])) (h : DataW.trod enc P w base spare held fuel t cs = some x) :
    ∃ y0 y1 n, x = (.agg [y0.1, y1.1], y0.2 ++ y1.2) ∧ cs.length = P.cellsOf t ∧ DataW.trod enc P w base spare held n f0.type ((cs.drop f0.offset).take (P.cellsOf f0.type)) = some y0 ∧
      DataW.trod enc P w base spare held n f1.type ((cs.drop f1.offset).take (P.cellsOf f1.type)) = some y1 := by
  obtain ⟨xs, n, _, rfl, hl, hlen, hf⟩ := DataW.trod_struct ht h
  match xs, hlen with
  | [y0, y1], _ => exact ⟨y0, y1, n, by simp, hl, by simpa using hf 0 f0 rfl, by simpa using hf 1 f1 rfl⟩

/-- the calls out of the slice that came in, and what their reading's bulk says of them -/
theorem open_ops {H : Type} {enc : TypeId × Value → H} {W : World} {fuel : Nat} {a : Option Addr} {len cap : Nat} {d : DataW H} {p : List MemPlace}
    (h : DataW.trod enc Try.prog W 0 (fun _ => true) true fuel 58 [.slice a len cap] = some (d, p)) : ∃ f, IsPOps W a len cap f ∧ len + psum f len ≤ Rows.uptoBulk d := by
  rcases Go.Deep.open_slice Try.underlying58 h with ⟨hcs, hx⟩ | ⟨x, len', cap', m, n, D, Pl, hcs, hb, hl, hm, hmm, hx, hi⟩
  · simp only [List.cons.injEq, Value.slice.injEq, and_true] at hcs
    obtain ⟨rfl, rfl, rfl⟩ := hcs
    exact ⟨fun _ => ⟨false, ⟨#[]⟩⟩, ⟨fun h => by omega⟩, by simp [psum]⟩
  · simp only [List.cons.injEq, Value.slice.injEq, and_true] at hcs
    obtain ⟨rfl, rfl, rfl⟩ := hcs
    have hmc : len ≤ m := by rw [hmm]; simpa using hl
    have each : ∀ i, i < len → ∃ c : PCall, (W.cell? (x.add (i * 2)) = some (.bool c.shut) ∧ W.cell? (x.add (i * 2 + 1)) = some (.string c.text)) ∧ D i = .agg [.lit (.bool c.shut), .lit (.string c.text.data.toList)] := by
      intro i hi'
      obtain ⟨cs', hc, ht⟩ := hi i (by omega)
      rw [cells2] at hc
      obtain ⟨_, hcl, hat⟩ := World.cells?_some hc
      obtain ⟨y0, y1, n', hy, hlen, g0, g1⟩ := trod_struct2 Try.underlying63 ht
      match cs', hcl with
      | [u0, u1], _ =>
        have q0 := hat 0 (by omega)
        have q1 := hat 1 (by omega)
        rw [add_add] at q0 q1
        simp only [cellsB, cellsS, List.drop_zero, List.take_succ_cons, List.take_zero, List.drop_succ_cons] at g0 g1
        obtain ⟨a0, e0, rfl⟩ := DataW.trod_bool Try.underlying4 g0
        obtain ⟨a1, e1, rfl, w1⟩ := DataW.trod_string Try.underlying9 g1
        simp only [List.cons.injEq, and_true] at e0 e1
        subst e0 e1
        exact ⟨⟨a0, a1⟩, ⟨q0, q1⟩, (Prod.mk.inj hy).1⟩
    let f : Nat → PCall := fun i => if h : i < len then Classical.choose (each i h) else ⟨false, ⟨#[]⟩⟩
    have hf : ∀ i, i < len → (W.cell? (x.add (i * 2)) = some (.bool (f i).shut) ∧ W.cell? (x.add (i * 2 + 1)) = some (.string (f i).text)) ∧ D i = .agg [.lit (.bool (f i).shut), .lit (.string (f i).text.data.toList)] := by
      intro i hi'
      have e : f i = Classical.choose (each i hi') := dif_pos hi'
      rw [e]
      exact Classical.choose_spec (each i hi')
    have hbk : ∀ k, k ≤ len → k + psum f k ≤ Rows.uptoBulkAll ((List.range k).map D) := by
      intro k
      induction k with
      | zero => intro _; simp [psum]
      | succ k ih =>
        intro hk
        have h1 := ih (by omega)
        rw [List.range_succ, List.map_append, bulk_append]
        have h2 : (f k).text.size + 1 ≤ Rows.uptoBulkAll (List.map D [k]) := by
          simp only [List.map_cons, List.map_nil, (hf k (by omega)).2, Rows.uptoBulkAll, Rows.uptoBulk]
          have e : (f k).text.data.toList.length = (f k).text.size := by rw [Array.length_toList]; rfl
          omega
        show k + 1 + (psum f k + (f k).text.size) ≤ _
        omega
    refine ⟨f, ⟨fun h0 => ⟨x, rfl, ?_, fun i hi' => (hf i hi').1⟩⟩, ?_⟩
    · have := block_lt_of_cell (hf 0 h0).1.1
      rw [block_add] at this
      exact this
    · have := hbk len (Nat.le_refl _)
      rw [(Prod.mk.inj hx).1]
      simp only [Rows.uptoBulk]
      omega

set_option maxRecDepth 100000 in
set_option maxHeartbeats 2000000 in
theorem contract (H : Type) (enc : TypeId × Value → H) (W : World) (base : Nat) (args : Array Value) (ds gs : List (DataW H)) (before : List MemPlace)
    (hval : ∀ (j : Nat) t v, Try.f11.params[j]? = some t → args[j]? = some v → Value.okWide Try.prog W .any base t v)
    (hW : DataW.Whole enc Try.prog Try.f11.params.toList Rows.packPlaysSpec.vars false W args.toList ds gs before) (hk : Rows.uptoSmall H (ds ++ gs) = true) :
    Calls Try.prog 11 args W fun e W' => ∃ v, e = .returned v ∧ Rows.packPlaysSpec.post enc Try.prog Try.f11 false true false false W args v W' := by
  have hW' := hW
  obtain ⟨p, q, hA0, hV, rfl, hfz, hnd⟩ := hW
  have hA : DataW.TrodAll enc Try.prog W 0 (fun _ => true) true Try.f11.params.toList args.toList ds p := hA0
  rw [Try.params11] at hA hval
  obtain ⟨v0, vs0, d0, ds0, p0, q0, hargs, rfl, rfl, h0, r0⟩ := trodAll_cons hA
  obtain ⟨rfl, rfl, rfl⟩ := trodAll_nil r0
  obtain rfl : args = #[v0] := by cases args; simp_all
  obtain ⟨rfl, rfl⟩ := trodVars_none hV
  obtain ⟨a0, len0, cap0, rfl⟩ := okWide_slice Try.underlying58 (hval 0 58 v0 rfl rfl)
  have k0 := h0
  have lt0 : ∀ x ∈ p0, x.block < W.heap.size := by obtain ⟨m, hm⟩ := k0; exact DataW.trod_lt m _ _ _ hm
  obtain ⟨f, hf, hb⟩ : ∃ f, IsPOps W a0 len0 cap0 f ∧ len0 + psum f len0 ≤ Rows.uptoBulk d0 := by
    obtain ⟨fuel, hf⟩ := h0
    exact open_ops hf
  have hbk : Rows.uptoBulkAll ([d0] ++ []) ≤ 1048576 := of_decide_eq_true hk
  simp only [List.append_nil, Rows.uptoBulkAll] at hbk
  clear hA0 hk
  refine (plays_law a0 len0 cap0 f W hf (by omega) (by omega)).mono fun e W' ⟨he, bel⟩ => ?_
  subst he
  exact ⟨_, rfl, _, _, _, [], _, [], hW', trodAll_mk1 (shut_bool Try.underlying4 _), (trodAll_cons_mk (Below.trod laidOut (by kernel_rfl) (of_decide_eq_true (by kernel_rfl)) k0 bel lt0) trodAll_mk0), rfl, bel.frame _, fun h => by cases h⟩

set_option maxRecDepth 100000 in
set_option maxHeartbeats 2000000 in
theorem lifted (os : Os) (started : os.Started) (H : Type) (enc : TypeId × Value → H) (F : Stop.Interp) :
    ReturnsInHanded {} Try.checked os 11 .any ((Rows.OpenSpec.upto Rows.packPlaysSpec).pre6 enc Try.prog Try.f11 Rows.packPlaysUptoRow.domain false) (((Rows.OpenSpec.upto Rows.packPlaysSpec).at F).post enc Try.prog Try.f11 false true false false) := by
  refine returnsInHanded_of_cond (C := Try.checked) (s := Rows.OpenSpec.upto Rows.packPlaysSpec) (k := Rows.uptoSmall) rfl own started (by kernel_rfl) Try.func11
    (OpenSpec.witness (enc := enc) (C := Try.checked) (s := Rows.OpenSpec.upto Rows.packPlaysSpec) (k := Rows.uptoSmall) rfl false ⟨#[], #[.slice none 0 0], []⟩ 8 (by kernel_rfl) (by kernel_rfl) (by kernel_rfl)
      (x := ([.nil], [], [])) (by kernel_rfl) rfl (by kernel_rfl)) ?_
  intro W base args ds gs before hval hW _ hk _
  exact contract H enc W base args ds gs before hval hW hk

theorem proved : Rows.PackPlaysUptoSaid :=
  OpenClaim.holds_of_cond 11 Try.f11 rfl rfl rfl rfl rfl rfl rfl ⟨rfl, rfl, rfl, rfl, rfl⟩ rfl rfl rfl rfl rfl (by kernel_rfl) Try.func11 (by kernel_rfl)
    (of_decide_eq_true (by kernel_rfl)) (by unfold Func.isWrapper; first | (rw [if_pos (by decide +kernel)]; kernel_rfl) | (rw [if_neg (by decide +kernel)]; exact ⟨rfl, rfl⟩))
    (fun os started H enc _ F => lifted os started H enc F)
#print axioms proved
end Go.Proofs.Ytikbbofjkchppaa.packPlays
