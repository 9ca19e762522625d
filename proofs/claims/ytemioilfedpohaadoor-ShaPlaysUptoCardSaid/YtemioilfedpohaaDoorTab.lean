/- A listed table of whole numbers that stands first on the list: its block. -/
import Derived.Test.YtemioilfedpohaaDoorArr
namespace Go.Proofs.YtemioilfedpohaaDoor

theorem table_block {P : Program} {W : World} {name : String} {k : IntKind} {zs : List Int} {rest : List (String × DataW Unit)} {g : Nat} {t e : TypeId} {n : Nat} (hn : 0 < n)
    (hg : P.globalNamed name = some g) (hty : (P.globals[g]?).map (·.type) = some t) (ht : P.underlying t = some (.array n e)) (he : P.underlying e = some (.int k)) (hce : P.cellsOf e = 1) (hct : P.cellsOf t = n) (hzl : zs.length = n)
    (h : laidMet P ((name, Lib.tabData k zs) :: rest) W) : ∃ T, W.heap[g]? = some (.cells (zs.map fun z => Value.int k z).toArray T (0, 0)) := by
  obtain ⟨ps, ⟨g', t', cs, fuel, p, q, hg', ht', hvar, hd, _, hps⟩, _, hall⟩ := h
  obtain rfl := Option.some.inj (hg.symm.trans hg')
  obtain rfl := Option.some.inj (hty.symm.trans ht')
  have hcs := Lib.cells_of_tab ht he hce hct hd
  have hsz : cs.size = n := by rw [← Array.length_toList, hcs, List.length_map, hzl]
  obtain ⟨⟨c, T, hb⟩, _⟩ := hall g 0 (by
    rw [hps]
    refine List.mem_append_left _ (List.mem_append_left _ ?_)
    exact List.mem_map.2 ⟨0, List.mem_range.2 (by omega), rfl⟩)
  refine ⟨T, ?_⟩
  unfold World.var? at hvar
  rw [hg] at hvar
  simp only [Option.bind_some, hb, Option.some.injEq] at hvar
  rw [hb, hvar, ← hcs]
end Go.Proofs.YtemioilfedpohaaDoor
