/- The table that the rows list: its cells. -/
import Derived.Test.YtfecgfefchdapaaDoorRows
import Derived.Test.YtfecgfefchdapaaDoorTz
import Derived.LaidMore
import Derived.Lib.LaidTab
namespace Go.Proofs.YtfecgfefchdapaaDoor
open Go.RowKit Go.Shelf

theorem table_block {P : Program} {W : World} {name : String} {k : IntKind} {zs : List Int} {rest : List (String × DataW Unit)} {g : Nat} {t e : TypeId} {n : Nat} (hn : 0 < n)
    (hg : P.globalNamed name = some g) (hty : (P.globals[g]?).map (·.type) = some t) (ht : P.underlying t = some (.array n e)) (he : P.underlying e = some (.int k)) (hce : P.cellsOf e = 1) (hct : P.cellsOf t = n) (hzl : zs.length = n)
    (h : laidMet P ((name, Lib.tabData k zs) :: rest) W) : ∃ T, W.heap[g]? = some (.cells (zs.map fun z => Value.int k z).toArray T (0, 0)) := by
  obtain ⟨ps, ⟨g', t', cs, fuel, p, q, hg', ht', hvar, hd, _, hps⟩, _, hall⟩ := h
  obtain rfl := Option.some.inj (hg.symm.trans hg')
  obtain rfl := Option.some.inj (hty.symm.trans ht')
  have hcs := Lib.cells_of_tab ht he hce hct hd
  have hsz : cs.size = n := by rw [← Array.length_toList, hcs, List.length_map, hzl]
  obtain ⟨⟨c, T, hb⟩, _⟩ := hall g 0 (by
    rw [hps]
    refine List.mem_append_left _ (List.mem_append_left _ ?_)
    exact List.mem_map.2 ⟨0, List.mem_range.2 (by omega), rfl⟩)
  refine ⟨T, ?_⟩
  unfold World.var? at hvar
  rw [hg] at hvar
  simp only [Option.bind_some, hb, Option.some.injEq] at hvar
  rw [hb, hvar, ← hcs]

theorem gTab : Tryd.prog.globalNamed "math/bits.deBruijn64tab" = some 1 := by kernel_rfl
theorem tTab : (Tryd.prog.globals[1]?).map (·.type) = some 65 := by kernel_rfl
theorem tab_of_laid {W : World} (h : laidMet Tryd.prog [("math/bits.deBruijn64tab", Rows.laid_math_bits_deBruijn64tab)] W) : TabAt 1 Lib.deBruijn64tab W := by
  have e : (Rows.laid_math_bits_deBruijn64tab : DataW Unit) = Lib.tabData .u8 (Lib.deBruijn64tab.map fun (n : Nat) => (n : Int)) := by kernel_rfl
  rw [e] at h
  obtain ⟨T, hT⟩ := table_block (n := 64) (by decide) gTab tTab Tryd.underlying65 Tryd.underlying5 (by kernel_rfl) (by kernel_rfl) (by rw [List.length_map]; rfl) h
  intro j hj
  have hj' : j < 64 := hj
  unfold World.cell?
  simp [hT]
  exact ⟨Lib.deBruijn64tab[j], List.getElem?_eq_getElem hj, by rw [List.getElem?_eq_getElem hj]; rfl⟩
end Go.Proofs.YtfecgfefchdapaaDoor

