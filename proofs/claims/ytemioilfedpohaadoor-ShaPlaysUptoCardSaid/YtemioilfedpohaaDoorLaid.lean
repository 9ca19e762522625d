/- sha's two tables out of what a row lists; a slice of whole numbers that came in. -/
import Derived.Test.YtemioilfedpohaaDoorRows
import Derived.Test.YtemioilfedpohaaDoorTab
import Derived.Test.YtemioilfedpohaaDoorStm
import Derived.LaidMore
namespace Go.Proofs.YtemioilfedpohaaDoor
set_option linter.unusedVariables false
open Go.RowKit

theorem laid_tail {P : Program} {W : World} {x : String × DataW Unit} {rest : List (String × DataW Unit)} (h : laidMet P (x :: rest) W) : laidMet P rest W := by
  obtain ⟨ps, ⟨g', t', cs, fuel, p, q, _, _, _, _, hq, hps⟩, hnd, hall⟩ := h
  rw [hps] at hnd
  exact ⟨q, hq, (List.nodup_append.1 hnd).2.1, fun b off hm => hall b off (by rw [hps]; exact List.mem_append_right _ hm)⟩

theorem gRounds : Tryd.prog.globalNamed "depot/sha.rounds" = some 0 := by kernel_rfl
theorem tRounds : (Tryd.prog.globals[0]?).map (·.type) = some 56 := by kernel_rfl
theorem gStart : Tryd.prog.globalNamed "depot/sha.start" = some 1 := by kernel_rfl
theorem tStart : (Tryd.prog.globals[1]?).map (·.type) = some 23 := by kernel_rfl

theorem rounds_of_laid {W : World} {rest : List (String × DataW Unit)} (h : laidMet Tryd.prog (("depot/sha.rounds", Rows.laid_depot_sha_rounds) :: rest) W) : ∃ TK, W.heap[0]? = some (.cells (cw .u32 KT) TK (0, 0)) := by
  have e : (Rows.laid_depot_sha_rounds : DataW Unit) = Lib.tabData .u32 (KT.map fun (n : Nat) => (n : Int)) := by kernel_rfl
  rw [e] at h
  obtain ⟨T, hT⟩ := table_block (n := 64) (by decide) gRounds tRounds Tryd.underlying56 Tryd.underlying22 (by kernel_rfl) (by kernel_rfl) (by rw [List.length_map]; exact KT_length) h
  refine ⟨T, hT.trans ?_⟩
  rw [List.map_map]
  rfl
theorem start_of_laid {W : World} {rest : List (String × DataW Unit)} (h : laidMet Tryd.prog (("depot/sha.start", Rows.laid_depot_sha_start) :: rest) W) : ∃ TS, W.heap[1]? = some (.cells (cw .u32 ST) TS (0, 0)) := by
  have e : (Rows.laid_depot_sha_start : DataW Unit) = Lib.tabData .u32 (ST.map fun (n : Nat) => (n : Int)) := by kernel_rfl
  rw [e] at h
  obtain ⟨T, hT⟩ := table_block (n := 8) (by decide) gStart tStart Tryd.underlying23 Tryd.underlying22 (by kernel_rfl) (by kernel_rfl) (by rw [List.length_map]; rfl) h
  refine ⟨T, hT.trans ?_⟩
  rw [List.map_map]
  rfl
theorem tab_of_laid {W : World} (h : laidMet Tryd.prog [("depot/sha.rounds", Rows.laid_depot_sha_rounds), ("depot/sha.start", Rows.laid_depot_sha_start)] W) : Tab W :=
  ⟨rounds_of_laid h, start_of_laid (laid_tail h)⟩

/-- a slice of whole numbers that came in: nil, or a row of as many as its capacity -/
def IsRow (k : IntKind) (w : World) (a : Option Addr) (len cap : Nat) (zs : List Int) : Prop :=
  (a = none ∧ len = 0 ∧ cap = 0 ∧ zs = []) ∨
  ∃ x, a = some x ∧ len ≤ cap ∧ cap ≤ maxLen ∧ zs.length = cap ∧ (∀ i, i < zs.length → w.cell? (x.add i) = some (.int k (zs.getD i 0))) ∧ ∀ n ∈ zs, (Lit.int k n).wf = true
end Go.Proofs.YtemioilfedpohaaDoor
