/-
  No cell of these rows narrows 'for every input' (looked for: loops, veiled, ifaces, maps, wideKeys, modest, calm, conditions, laid).
  DERIVED. THE GIVEN ROWS OF THIS SEAT. 3 by the template 'for every input the law returns true; each argument reads behind the call as it read before'; 0 by the template 'total and deterministic' (their statements: YtfecgfefchdapaaTotals.lean).
  GIVEN WITH THE SEED: the statements are not yours to turn. If you find one false, say at which input.
  Laid BY PROGRAM, IN A SANDBOX (cutbox-rows.mjs): the forced cells as the released guide's own fill.sh prints them over the translation 5932ae7538820b9a… (all of the seat's roots in one cut). By AI agents, Wed Nov 11 2026. No macro, syntax, notation, axiom, sorry.
-/
import Derived.Test.YtfecgfefchdapaaChecked
import GoSem.Claim
import GoSem.ClaimJoined
import GoSem.ClaimMapViews
import Derived.JoinedTies
import Derived.KernelRfl
namespace Go.Proofs.Ytfecgfefchdapaa
/- THE CELL 'sum', in the pinned program and in every row, IS THE sha256 OF THE DUMP (.gsa) THAT YtfecgfefchdapaaProg.lean LOADS. Nothing in Lean hashes anything: it is a label: what it is worth is what the hold of that sum in a sandbox is worth. -/
noncomputable def Try.pinned : Pinned := { name := "ytfecgfefchdapaa", sum := "5932ae7538820b9acfad3ed6ea784ba131e4204eb034d929926cedbd5ec52a4b", checked := Try.checked }
namespace Rows
def none {H : Type} : Left H := { results := [], args := [] }

/-- 'depotlaw04.GaugeWhole': WHATEVER THE INPUT: true; the input reads as it did. -/
def gaugeWholeSpec : ChangeSpec := { name := "gaugeWhole", fn := fun _ => fun
  | [d1, d2, d3] => { results := [.lit (.bool true)], args := [d1, d2, d3] }
  | _ => none }
def gaugeWholeRow : OpenClaim := { program := "ytfecgfefchdapaa", sum := "5932ae7538820b9acfad3ed6ea784ba131e4204eb034d929926cedbd5ec52a4b", func := "depot/depotlaw04.GaugeWhole", spec := "gaugeWhole", apart := false }
def GaugeWholeSaid : Prop := gaugeWholeRow.holds Try.pinned (OpenSpec.ofChange gaugeWholeSpec)

/-- ITS FALSE NEIGHBOUR: 'it returns false'. Refute it at one input. -/
def gaugeWholeWrong : ChangeSpec := { name := "gaugeWhole", fn := fun _ => fun
  | [d1, d2, d3] => { results := [.lit (.bool false)], args := [d1, d2, d3] }
  | _ => none }
def GaugeWholeWrongFalsely : Prop := gaugeWholeRow.holds Try.pinned (OpenSpec.ofChange gaugeWholeWrong)

/-- 'depotlaw04.GaugeOrders': WHATEVER THE INPUT: true; the input reads as it did. -/
def gaugeOrdersSpec : ChangeSpec := { name := "gaugeOrders", fn := fun _ => fun
  | [d1, d2, d3] => { results := [.lit (.bool true)], args := [d1, d2, d3] }
  | _ => none }
def gaugeOrdersRow : OpenClaim := { program := "ytfecgfefchdapaa", sum := "5932ae7538820b9acfad3ed6ea784ba131e4204eb034d929926cedbd5ec52a4b", func := "depot/depotlaw04.GaugeOrders", spec := "gaugeOrders", inPlace := ["math.Float64frombits"], apart := false }
def GaugeOrdersSaid : Prop := gaugeOrdersRow.holds Try.pinned (OpenSpec.ofChange gaugeOrdersSpec)

/-- ITS FALSE NEIGHBOUR: 'it returns false'. Refute it at one input. -/
def gaugeOrdersWrong : ChangeSpec := { name := "gaugeOrders", fn := fun _ => fun
  | [d1, d2, d3] => { results := [.lit (.bool false)], args := [d1, d2, d3] }
  | _ => none }
def GaugeOrdersWrongFalsely : Prop := gaugeOrdersRow.holds Try.pinned (OpenSpec.ofChange gaugeOrdersWrong)

/-- 'depotlaw04.GaugeShares': WHATEVER THE INPUT: true; the input reads as it did. -/
def gaugeSharesSpec : ChangeSpec := { name := "gaugeShares", fn := fun _ => fun
  | [d1, d2] => { results := [.lit (.bool true)], args := [d1, d2] }
  | _ => none }
def gaugeSharesRow : OpenClaim := { program := "ytfecgfefchdapaa", sum := "5932ae7538820b9acfad3ed6ea784ba131e4204eb034d929926cedbd5ec52a4b", func := "depot/depotlaw04.GaugeShares", spec := "gaugeShares", inPlace := ["math.Float64frombits", "math.Float64bits"], apart := false }
def GaugeSharesSaid : Prop := gaugeSharesRow.holds Try.pinned (OpenSpec.ofChange gaugeSharesSpec)

/-- ITS FALSE NEIGHBOUR: 'it returns false'. Refute it at one input. -/
def gaugeSharesWrong : ChangeSpec := { name := "gaugeShares", fn := fun _ => fun
  | [d1, d2] => { results := [.lit (.bool false)], args := [d1, d2] }
  | _ => none }
def GaugeSharesWrongFalsely : Prop := gaugeSharesRow.holds Try.pinned (OpenSpec.ofChange gaugeSharesWrong)

/- THE SECOND FORM. 'bulk': how many values and letters a reading holds, each counted each time it is reached (what is shared counts as often as it is met; a slice's spare places count too). A statement '..UptoSaid' is the law's where the arguments, and the package variables that the reading takes, are together of bulk at most 1048576: NARROWER than '..Said'. Prove '..Said' where nothing that the law and all that it calls make is longer than what came in: it says more and counts as full. Else prove '..UptoSaid'. A law counts once. -/
mutual
def uptoBulk {H : Type} : DataW H → Nat
  | .lit (.string bytes) => bytes.length + 1
  | .lit _ => 1
  | .nil => 1
  | .ptr d => uptoBulk d + 1
  | .slice elems spare => uptoBulkAll elems + uptoBulkAll spare + 1
  | .agg parts => uptoBulkAll parts + 1
  | .iface _ d => uptoBulk d + 1
  | .map entries => uptoBulkEntries entries + 1
  | .held _ => 1
def uptoBulkAll {H : Type} : List (DataW H) → Nat
  | [] => 0
  | d :: r => uptoBulk d + uptoBulkAll r
def uptoBulkEntries {H : Type} : List (Lit × DataW H) → Nat
  | [] => 0
  | x :: r => uptoBulkEntry x + uptoBulkEntries r
def uptoBulkEntry {H : Type} : Lit × DataW H → Nat
  | (.string bytes, d) => bytes.length + uptoBulk d + 1
  | (_, d) => uptoBulk d + 1
 end
def uptoSmall : (H : Type) → List (DataW H) → Bool := fun _ ds => decide (uptoBulkAll ds ≤ 1048576)
def OpenSpec.upto (s : _root_.Go.ChangeSpec) : _root_.Go.OpenSpec := { _root_.Go.OpenSpec.ofChange s with cond := some uptoSmall }

/-- 'depotlaw04.GaugeWhole', WHERE WHAT IT READS IS OF BULK AT MOST 1048576: true; the input reads as it did. -/
def gaugeWholeUptoRow : OpenClaim := { program := "ytfecgfefchdapaa", sum := "5932ae7538820b9acfad3ed6ea784ba131e4204eb034d929926cedbd5ec52a4b", func := "depot/depotlaw04.GaugeWhole", spec := "gaugeWhole", apart := false, narrowed := true }
def GaugeWholeUptoSaid : Prop := gaugeWholeUptoRow.holds Try.pinned (OpenSpec.upto gaugeWholeSpec)

/-- 'depotlaw04.GaugeOrders', WHERE WHAT IT READS IS OF BULK AT MOST 1048576: true; the input reads as it did. -/
def gaugeOrdersUptoRow : OpenClaim := { program := "ytfecgfefchdapaa", sum := "5932ae7538820b9acfad3ed6ea784ba131e4204eb034d929926cedbd5ec52a4b", func := "depot/depotlaw04.GaugeOrders", spec := "gaugeOrders", inPlace := ["math.Float64frombits"], apart := false, narrowed := true }
def GaugeOrdersUptoSaid : Prop := gaugeOrdersUptoRow.holds Try.pinned (OpenSpec.upto gaugeOrdersSpec)

/-- 'depotlaw04.GaugeShares', WHERE WHAT IT READS IS OF BULK AT MOST 1048576: true; the input reads as it did. -/
def gaugeSharesUptoRow : OpenClaim := { program := "ytfecgfefchdapaa", sum := "5932ae7538820b9acfad3ed6ea784ba131e4204eb034d929926cedbd5ec52a4b", func := "depot/depotlaw04.GaugeShares", spec := "gaugeShares", inPlace := ["math.Float64frombits", "math.Float64bits"], apart := false, narrowed := true }
def GaugeSharesUptoSaid : Prop := gaugeSharesUptoRow.holds Try.pinned (OpenSpec.upto gaugeSharesSpec)

end Rows
end Go.Proofs.Ytfecgfefchdapaa
