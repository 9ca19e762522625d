/- An argument that is an array of whole numbers, opened and shut: its numbers are one list. A listed table of whole numbers that stands first on the list: its block. sha's two tables out of what a row lists; a slice of whole numbers that came in. -/
import Derived.Test.YtlcppkcclolgcaaDoorDBl
import Derived.OpenShut
import Derived.ProofKit
import Derived.Lib.LaidTab
import Derived.Test.YtlcppkcclolgcaaDoorRows
import Derived.Test.YtlcppkcclolgcaaDoorDBk
import Derived.LaidMore
namespace Go.Proofs.YtlcppkcclolgcaaDoor.Hs
set_option maxRecDepth 20000

section
variable {H : Type} {enc : TypeId × Value → H} {P : Program} {w : World} {base : Nat} {spare : Nat → Bool} {held : Bool}

theorem row_nats {k : IntKind} {B : Nat} : ∀ (cs : List Value) (xs : List (DataW H × List MemPlace)), cs.length = xs.length →
    (∀ i, i < cs.length → ∃ x : Nat, x < B ∧ cs[i]? = some (.int k (x : Int)) ∧ xs[i]? = some (.lit (.int k (x : Int)), [])) →
    ∃ ns : List Nat, cs = ns.map (fun (x : Nat) => Value.int k (x : Int)) ∧ xs = ns.map (fun (x : Nat) => ((.lit (.int k (x : Int)) : DataW H), ([] : List MemPlace))) ∧ ∀ x ∈ ns, x < B
  | [], [], _, _ => ⟨[], rfl, rfl, by simp⟩
  | c :: cs, x :: xs, hl, h => by
    obtain ⟨y, hy, h1, h2⟩ := h 0 (by simp)
    simp only [List.getElem?_cons_zero, Option.some.injEq] at h1 h2
    obtain ⟨ns, e1, e2, e3⟩ := row_nats cs xs (by simpa using hl) (fun i hi => by
      have := h (i + 1) (by simp; omega)
      simpa using this)
    refine ⟨y :: ns, ?_, ?_, ?_⟩
    · simp [h1, e1]
    · simp [h2, e2]
    · intro z hz
      rcases List.mem_cons.1 hz with rfl | hz
      · exact hy
      · exact e3 z hz
  | [], _ :: _, hl, _ => by simp at hl
  | _ :: _, [], hl, _ => by simp at hl

theorem open_row_nat {t e : TypeId} {n B : Nat} {k : IntKind} {r : Reach} {b0 : Nat} {v : Value} {d : DataW H} {ps : List MemPlace} (ht : P.underlying t = some (.array n e)) (he : P.underlying e = some (.int k)) (hce : P.cellsOf e = 1)
    (hct : P.cellsOf t = n) (hB : ∀ z : Int, (Lit.int k z).wf = true → 0 ≤ z ∧ z < B) (hval : Value.okWide P w r b0 t v) (hd : DataW.Trod enc P w base spare held t v d ps) :
    ∃ ns : List Nat, v = .agg (cwE k ns) ∧ d = .agg (ns.map fun (x : Nat) => .lit (.int k (x : Int))) ∧ ps = [] ∧ ns.length = n ∧ ∀ x ∈ ns, x < B := by
  simp only [Value.okWide, ht] at hval
  obtain ⟨cs, rfl, hsz, _⟩ := hval
  obtain ⟨fuel, hf⟩ := hd
  obtain ⟨xs, m, _, hx, hl, hn, hel⟩ := DataW.trod_array ht hf
  simp only [Value.cells] at hl hel
  have hcl : cs.toList.length = n := by rw [hl, hct]
  obtain ⟨ns, e1, e2, e3⟩ := row_nats (k := k) (B := B) cs.toList xs (by rw [hcl, hn]) (fun i hi => by
    have hi' : i < n := by omega
    have h1 := hel i hi'
    have hx' : xs[i]? = some xs[i] := List.getElem?_eq_getElem (by omega)
    rw [hce, hx'] at h1
    obtain ⟨z, hcz, hxz, hw⟩ := DataW.trod_int he h1
    have hz := hB z hw
    obtain ⟨x, rfl⟩ := Int.eq_ofNat_of_zero_le hz.1
    refine ⟨x, by omega, ?_, by rw [hx', hxz]⟩
    have := congrArg (·[0]?) hcz
    simpa [List.getElem?_take, List.getElem?_drop] using this)
  refine ⟨ns, ?_, ?_, ?_, ?_, e3⟩
  · congr 1
    apply Array.ext'
    rw [e1]
    rfl
  · have := congrArg Prod.fst hx
    simp only [e2, List.map_map] at this
    exact this
  · have := congrArg Prod.snd hx
    simp only [e2] at this
    rw [this]
    simp
  · have := congrArg List.length e2
    simp at this
    omega

theorem mapM_range_some {α : Type} (f : Nat → Option α) (g : Nat → α) : ∀ L : List Nat, (∀ i ∈ L, f i = some (g i)) → L.mapM f = some (L.map g)
  | [], _ => rfl
  | i :: L, h => by
    rw [List.mapM_cons, h i (by simp), mapM_range_some f g L (fun j hj => h j (by simp [hj]))]
    rfl

theorem shut_row_nat {t e : TypeId} {n : Nat} {k : IntKind} {ns : List Nat} (ht : P.underlying t = some (.array n e)) (he : P.underlying e = some (.int k)) (hce : P.cellsOf e = 1)
    (hct : P.cellsOf t = n) (hl : ns.length = n) (hw : ∀ x ∈ ns, (Lit.int k ((x : Nat) : Int)).wf = true) :
    DataW.Trod enc P w base spare held t (.agg (cwE k ns)) (.agg (ns.map fun (x : Nat) => .lit (.int k (x : Int)))) [] := by
  refine ⟨2, ?_⟩
  have hc : (Value.agg (cwE k ns)).cells.toList = ns.map fun (x : Nat) => Value.int k (x : Int) := rfl
  rw [hc]
  unfold DataW.trod
  rw [ht]
  simp only []
  rw [if_pos (by rw [List.length_map, hl, hct])]
  rw [mapM_range_some _ (fun i => ((.lit (.int k ((ns.getD i 0 : Nat) : Int)) : DataW H), ([] : List MemPlace))) (List.range n) (fun i hi => by
    have hi' : i < ns.length := by have := List.mem_range.1 hi; omega
    have hone : ((ns.map fun (x : Nat) => Value.int k (x : Int)).drop (i * P.cellsOf e)).take (P.cellsOf e) = [Value.int k ((ns.getD i 0 : Nat) : Int)] := by
      rw [hce, Nat.mul_one]
      rw [List.drop_eq_getElem_cons (by simpa using hi')]
      simp [hi']
    rw [hone]
    unfold DataW.trod
    rw [he]
    have hwi := hw (ns.getD i 0) (by rw [List.getD_eq_getElem?_getD, List.getElem?_eq_getElem hi']; simp)
    simp only [hwi, and_self, if_true])]
  have hm : (List.range n).map (fun i => ns.getD i 0) = ns := by
    apply List.ext_getElem?
    intro i
    by_cases hi : i < n
    · simp [hi, hl ▸ hi]
    · rw [List.getElem?_eq_none (by simp; omega), List.getElem?_eq_none (by omega)]
  simp only [Option.map_some, List.map_map, Option.some.injEq, Prod.mk.injEq]
  constructor
  · congr 1
    conv => rhs; rw [← hm]
    rw [List.map_map]
    rfl
  · simp [List.flatMap]
end

theorem wf_u32 {z : Int} (h : (Lit.int .u32 z).wf = true) : 0 ≤ z ∧ z < (4294967296 : Nat) := by have := bounds_u32 h; omega
theorem wf_u8 {z : Int} (h : (Lit.int .u8 z).wf = true) : 0 ≤ z ∧ z < (256 : Nat) := by have := bounds_u8 h; omega
theorem u32_wf {x : Nat} (h : x < 4294967296) : (Lit.int .u32 (x : Int)).wf = true := by
  simp [Lit.wf, IntKind.min, IntKind.max, IntKind.signed, IntKind.bits]; omega
theorem u8_wf {x : Nat} (h : x < 256) : (Lit.int .u8 (x : Int)).wf = true := by
  simp [Lit.wf, IntKind.min, IntKind.max, IntKind.signed, IntKind.bits]; omega
end Go.Proofs.YtlcppkcclolgcaaDoor.Hs

namespace Go.Proofs.YtlcppkcclolgcaaDoor.Hs
set_option maxRecDepth 20000

theorem table_block {P : Program} {W : World} {name : String} {k : IntKind} {zs : List Int} {rest : List (String × DataW Unit)} {g : Nat} {t e : TypeId} {n : Nat} (hn : 0 < n)
    (hg : P.globalNamed name = some g) (hty : (P.globals[g]?).map (·.type) = some t) (ht : P.underlying t = some (.array n e)) (he : P.underlying e = some (.int k)) (hce : P.cellsOf e = 1) (hct : P.cellsOf t = n) (hzl : zs.length = n)
    (h : laidMet P ((name, Lib.tabData k zs) :: rest) W) : ∃ T, W.heap[g]? = some (.cells (zs.map fun z => Value.int k z).toArray T (0, 0)) := by
  obtain ⟨ps, ⟨g', t', cs, fuel, p, q, hg', ht', hvar, hd, _, hps⟩, _, hall⟩ := h
  obtain rfl := Option.some.inj (hg.symm.trans hg')
  obtain rfl := Option.some.inj (hty.symm.trans ht')
  have hcs := Lib.cells_of_tab ht he hce hct hd
  have hsz : cs.size = n := by rw [← Array.length_toList, hcs, List.length_map, hzl]
  obtain ⟨⟨c, T, hb⟩, _⟩ := hall g 0 (by
    rw [hps]
    refine List.mem_append_left _ (List.mem_append_left _ ?_)
    exact List.mem_map.2 ⟨0, List.mem_range.2 (by omega), rfl⟩)
  refine ⟨T, ?_⟩
  unfold World.var? at hvar
  rw [hg] at hvar
  simp only [Option.bind_some, hb, Option.some.injEq] at hvar
  rw [hb, hvar, ← hcs]
end Go.Proofs.YtlcppkcclolgcaaDoor.Hs

namespace Go.Proofs.YtlcppkcclolgcaaDoor.Hs
set_option maxRecDepth 20000
set_option linter.unusedVariables false
open Go.RowKit

theorem laid_tail {P : Program} {W : World} {x : String × DataW Unit} {rest : List (String × DataW Unit)} (h : laidMet P (x :: rest) W) : laidMet P rest W := by
  obtain ⟨ps, ⟨g', t', cs, fuel, p, q, _, _, _, _, hq, hps⟩, hnd, hall⟩ := h
  rw [hps] at hnd
  exact ⟨q, hq, (List.nodup_append.1 hnd).2.1, fun b off hm => hall b off (by rw [hps]; exact List.mem_append_right _ hm)⟩

theorem gRounds : Tryd.prog.globalNamed "depot/sha.rounds" = some 1 := by kernel_rfl
theorem tRounds : (Tryd.prog.globals[1]?).map (·.type) = some 136 := by kernel_rfl
theorem gStart : Tryd.prog.globalNamed "depot/sha.start" = some 0 := by kernel_rfl
theorem tStart : (Tryd.prog.globals[0]?).map (·.type) = some 74 := by kernel_rfl

theorem rounds_of_laid {W : World} {rest : List (String × DataW Unit)} (h : laidMet Tryd.prog (("depot/sha.rounds", Rows.laid_depot_sha_rounds) :: rest) W) : ∃ TK, W.heap[1]? = some (.cells (cw .u32 KT) TK (0, 0)) := by
  have e : (Rows.laid_depot_sha_rounds : DataW Unit) = Lib.tabData .u32 (KT.map fun (n : Nat) => (n : Int)) := by kernel_rfl
  rw [e] at h
  obtain ⟨T, hT⟩ := table_block (n := 64) (by decide) gRounds tRounds Tryd.underlying136 Tryd.underlying73 (by kernel_rfl) (by kernel_rfl) (by rw [List.length_map]; exact KT_length) h
  refine ⟨T, hT.trans ?_⟩
  rw [List.map_map]
  rfl
theorem start_of_laid {W : World} {rest : List (String × DataW Unit)} (h : laidMet Tryd.prog (("depot/sha.start", Rows.laid_depot_sha_start) :: rest) W) : ∃ TS, W.heap[0]? = some (.cells (cw .u32 ST) TS (0, 0)) := by
  have e : (Rows.laid_depot_sha_start : DataW Unit) = Lib.tabData .u32 (ST.map fun (n : Nat) => (n : Int)) := by kernel_rfl
  rw [e] at h
  obtain ⟨T, hT⟩ := table_block (n := 8) (by decide) gStart tStart Tryd.underlying74 Tryd.underlying73 (by kernel_rfl) (by kernel_rfl) (by rw [List.length_map]; rfl) h
  refine ⟨T, hT.trans ?_⟩
  rw [List.map_map]
  rfl
theorem tab_of_laid {W : World} (h : laidMet Tryd.prog [("depot/sha.rounds", Rows.laid_depot_sha_rounds), ("depot/sha.start", Rows.laid_depot_sha_start)] W) : Tab W :=
  ⟨rounds_of_laid h, start_of_laid (laid_tail h)⟩

end Go.Proofs.YtlcppkcclolgcaaDoor.Hs
