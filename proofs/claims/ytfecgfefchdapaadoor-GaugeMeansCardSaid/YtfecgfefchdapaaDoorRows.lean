/-
  NARROWER THAN 'FOR EVERY INPUT', by the rows' own cells (each row's printed sentence says how): GaugeParts: laid · GaugeMakes: laid · GaugeBack: laid · GaugeTurns: laid · GaugeNear: laid · GaugeMeans: laid.
  DERIVED. THE GIVEN ROWS OF THIS SEAT. 6 by the template 'for every input the law returns true; each argument reads behind the call as it read before'; 0 by the template 'total and deterministic' (their statements: YtfecgfefchdapaaDoorTotals.lean).
  GIVEN WITH THE SEED: the statements are not yours to turn. If you find one false, say at which input.
  Laid BY PROGRAM, IN A SANDBOX (cutbox-rows.mjs): the forced cells as the released guide's own fill.sh prints them over the translation 2036c6cc9a4cab89… (all of the seat's roots in one cut). By AI agents, Wed Nov 11 2026. No macro, syntax, notation, axiom, sorry.
-/
import Derived.Test.YtfecgfefchdapaaDoorChecked
import GoSem.Claim
import GoSem.ClaimJoined
import GoSem.ClaimMapViews
import Derived.JoinedTies
import Derived.KernelRfl
namespace Go.Proofs.YtfecgfefchdapaaDoor
/- THE CELL 'sum', in the pinned program and in every row, IS THE sha256 OF THE DUMP (.gsa) THAT YtfecgfefchdapaaDoorProg.lean LOADS. Nothing in Lean hashes anything: it is a label: what it is worth is what the hold of that sum in a sandbox is worth. -/
noncomputable def Tryd.pinned : Pinned := { name := "ytfecgfefchdapaadoor", sum := "2036c6cc9a4cab89857e72f9a4344ca997f9fda729a37b78ac7da483e7daa0af", checked := Tryd.checked }
namespace Rows
def none {H : Type} : Left H := { results := [], args := [] }

/- WHAT THE LISTED PACKAGE-LEVEL VARIABLES READ AS WHEN THE CALL BEGINS. Each datum BY PROGRAM (the guide's laid-datum.mjs) off the statement by which the dump's own 'gosem.cut.vars' lays the variable. In a bare row this is a premise. The card (YtfecgfefchdapaaDoorCards.lean) ties it to the program's text. -/
def laid_math_bits_deBruijn64tab {H : Type} : DataW H := .agg [.lit (.int .u8 0), .lit (.int .u8 1), .lit (.int .u8 56), .lit (.int .u8 2), .lit (.int .u8 57), .lit (.int .u8 49), .lit (.int .u8 28), .lit (.int .u8 3), .lit (.int .u8 61), .lit (.int .u8 58), .lit (.int .u8 42), .lit (.int .u8 50), .lit (.int .u8 38), .lit (.int .u8 29), .lit (.int .u8 17), .lit (.int .u8 4), .lit (.int .u8 62), .lit (.int .u8 47), .lit (.int .u8 59), .lit (.int .u8 36), .lit (.int .u8 45), .lit (.int .u8 43), .lit (.int .u8 51), .lit (.int .u8 22), .lit (.int .u8 53), .lit (.int .u8 39), .lit (.int .u8 33), .lit (.int .u8 30), .lit (.int .u8 24), .lit (.int .u8 18), .lit (.int .u8 12), .lit (.int .u8 5), .lit (.int .u8 63), .lit (.int .u8 55), .lit (.int .u8 48), .lit (.int .u8 27), .lit (.int .u8 60), .lit (.int .u8 41), .lit (.int .u8 37), .lit (.int .u8 16), .lit (.int .u8 46), .lit (.int .u8 35), .lit (.int .u8 44), .lit (.int .u8 21), .lit (.int .u8 52), .lit (.int .u8 32), .lit (.int .u8 23), .lit (.int .u8 11), .lit (.int .u8 54), .lit (.int .u8 26), .lit (.int .u8 40), .lit (.int .u8 15), .lit (.int .u8 34), .lit (.int .u8 20), .lit (.int .u8 31), .lit (.int .u8 10), .lit (.int .u8 25), .lit (.int .u8 14), .lit (.int .u8 19), .lit (.int .u8 9), .lit (.int .u8 13), .lit (.int .u8 8), .lit (.int .u8 7), .lit (.int .u8 6)]

/-- 'depotlaw04.GaugeParts': WHATEVER THE INPUT: true; the input reads as it did. -/
def gaugePartsSpec : ChangeSpec := { name := "gaugeParts", fn := fun _ => fun
  | [d] => { results := [.lit (.bool true)], args := [d] }
  | _ => none }
def gaugePartsRow : OpenClaim := { program := "ytfecgfefchdapaadoor", sum := "2036c6cc9a4cab89857e72f9a4344ca997f9fda729a37b78ac7da483e7daa0af", func := "depot/depotlaw04.GaugeParts", spec := "gaugeParts", inPlace := ["math.Float64bits", "math.Float64frombits"], named := ["math/bits.deBruijn64tab"], apart := false, laid := [("math/bits.deBruijn64tab", laid_math_bits_deBruijn64tab)] }
def GaugePartsSaid : Prop := gaugePartsRow.holds Tryd.pinned (OpenSpec.ofChange gaugePartsSpec)

/-- ITS FALSE NEIGHBOUR: 'it returns false'. Refute it at one input. -/
def gaugePartsWrong : ChangeSpec := { name := "gaugeParts", fn := fun _ => fun
  | [d] => { results := [.lit (.bool false)], args := [d] }
  | _ => none }
def GaugePartsWrongFalsely : Prop := gaugePartsRow.holds Tryd.pinned (OpenSpec.ofChange gaugePartsWrong)

/-- 'depotlaw04.GaugeMakes': WHATEVER THE INPUT: true; the input reads as it did. -/
def gaugeMakesSpec : ChangeSpec := { name := "gaugeMakes", fn := fun _ => fun
  | [d1, d2] => { results := [.lit (.bool true)], args := [d1, d2] }
  | _ => none }
def gaugeMakesRow : OpenClaim := { program := "ytfecgfefchdapaadoor", sum := "2036c6cc9a4cab89857e72f9a4344ca997f9fda729a37b78ac7da483e7daa0af", func := "depot/depotlaw04.GaugeMakes", spec := "gaugeMakes", inPlace := ["math.Float64bits", "math.Float64frombits"], named := ["math/bits.deBruijn64tab"], apart := false, laid := [("math/bits.deBruijn64tab", laid_math_bits_deBruijn64tab)] }
def GaugeMakesSaid : Prop := gaugeMakesRow.holds Tryd.pinned (OpenSpec.ofChange gaugeMakesSpec)

/-- ITS FALSE NEIGHBOUR: 'it returns false'. Refute it at one input. -/
def gaugeMakesWrong : ChangeSpec := { name := "gaugeMakes", fn := fun _ => fun
  | [d1, d2] => { results := [.lit (.bool false)], args := [d1, d2] }
  | _ => none }
def GaugeMakesWrongFalsely : Prop := gaugeMakesRow.holds Tryd.pinned (OpenSpec.ofChange gaugeMakesWrong)

/-- 'depotlaw04.GaugeBack': WHATEVER THE INPUT: true; the input reads as it did. -/
def gaugeBackSpec : ChangeSpec := { name := "gaugeBack", fn := fun _ => fun
  | [d] => { results := [.lit (.bool true)], args := [d] }
  | _ => none }
def gaugeBackRow : OpenClaim := { program := "ytfecgfefchdapaadoor", sum := "2036c6cc9a4cab89857e72f9a4344ca997f9fda729a37b78ac7da483e7daa0af", func := "depot/depotlaw04.GaugeBack", spec := "gaugeBack", inPlace := ["math.Float64bits", "math.Float64frombits"], named := ["math/bits.deBruijn64tab"], apart := false, laid := [("math/bits.deBruijn64tab", laid_math_bits_deBruijn64tab)] }
def GaugeBackSaid : Prop := gaugeBackRow.holds Tryd.pinned (OpenSpec.ofChange gaugeBackSpec)

/-- ITS FALSE NEIGHBOUR: 'it returns false'. Refute it at one input. -/
def gaugeBackWrong : ChangeSpec := { name := "gaugeBack", fn := fun _ => fun
  | [d] => { results := [.lit (.bool false)], args := [d] }
  | _ => none }
def GaugeBackWrongFalsely : Prop := gaugeBackRow.holds Tryd.pinned (OpenSpec.ofChange gaugeBackWrong)

/-- 'depotlaw04.GaugeTurns': WHATEVER THE INPUT: true; the input reads as it did. -/
def gaugeTurnsSpec : ChangeSpec := { name := "gaugeTurns", fn := fun _ => fun
  | [d1, d2] => { results := [.lit (.bool true)], args := [d1, d2] }
  | _ => none }
def gaugeTurnsRow : OpenClaim := { program := "ytfecgfefchdapaadoor", sum := "2036c6cc9a4cab89857e72f9a4344ca997f9fda729a37b78ac7da483e7daa0af", func := "depot/depotlaw04.GaugeTurns", spec := "gaugeTurns", inPlace := ["math.Float64bits", "math.Float64frombits"], named := ["math/bits.deBruijn64tab"], apart := false, laid := [("math/bits.deBruijn64tab", laid_math_bits_deBruijn64tab)] }
def GaugeTurnsSaid : Prop := gaugeTurnsRow.holds Tryd.pinned (OpenSpec.ofChange gaugeTurnsSpec)

/-- ITS FALSE NEIGHBOUR: 'it returns false'. Refute it at one input. -/
def gaugeTurnsWrong : ChangeSpec := { name := "gaugeTurns", fn := fun _ => fun
  | [d1, d2] => { results := [.lit (.bool false)], args := [d1, d2] }
  | _ => none }
def GaugeTurnsWrongFalsely : Prop := gaugeTurnsRow.holds Tryd.pinned (OpenSpec.ofChange gaugeTurnsWrong)

/-- 'depotlaw04.GaugeNear': WHATEVER THE INPUT: true; the input reads as it did. -/
def gaugeNearSpec : ChangeSpec := { name := "gaugeNear", fn := fun _ => fun
  | [d1, d2] => { results := [.lit (.bool true)], args := [d1, d2] }
  | _ => none }
def gaugeNearRow : OpenClaim := { program := "ytfecgfefchdapaadoor", sum := "2036c6cc9a4cab89857e72f9a4344ca997f9fda729a37b78ac7da483e7daa0af", func := "depot/depotlaw04.GaugeNear", spec := "gaugeNear", inPlace := ["math.Float64bits", "math.Float64frombits"], named := ["math/bits.deBruijn64tab"], apart := false, laid := [("math/bits.deBruijn64tab", laid_math_bits_deBruijn64tab)] }
def GaugeNearSaid : Prop := gaugeNearRow.holds Tryd.pinned (OpenSpec.ofChange gaugeNearSpec)

/-- ITS FALSE NEIGHBOUR: 'it returns false'. Refute it at one input. -/
def gaugeNearWrong : ChangeSpec := { name := "gaugeNear", fn := fun _ => fun
  | [d1, d2] => { results := [.lit (.bool false)], args := [d1, d2] }
  | _ => none }
def GaugeNearWrongFalsely : Prop := gaugeNearRow.holds Tryd.pinned (OpenSpec.ofChange gaugeNearWrong)

/-- 'depotlaw04.GaugeMeans': WHATEVER THE INPUT: true; the input reads as it did. -/
def gaugeMeansSpec : ChangeSpec := { name := "gaugeMeans", fn := fun _ => fun
  | [d] => { results := [.lit (.bool true)], args := [d] }
  | _ => none }
def gaugeMeansRow : OpenClaim := { program := "ytfecgfefchdapaadoor", sum := "2036c6cc9a4cab89857e72f9a4344ca997f9fda729a37b78ac7da483e7daa0af", func := "depot/depotlaw04.GaugeMeans", spec := "gaugeMeans", inPlace := ["math.Float64bits", "math.Float64frombits"], named := ["math/bits.deBruijn64tab"], apart := false, laid := [("math/bits.deBruijn64tab", laid_math_bits_deBruijn64tab)] }
def GaugeMeansSaid : Prop := gaugeMeansRow.holds Tryd.pinned (OpenSpec.ofChange gaugeMeansSpec)

/-- ITS FALSE NEIGHBOUR: 'it returns false'. Refute it at one input. -/
def gaugeMeansWrong : ChangeSpec := { name := "gaugeMeans", fn := fun _ => fun
  | [d] => { results := [.lit (.bool false)], args := [d] }
  | _ => none }
def GaugeMeansWrongFalsely : Prop := gaugeMeansRow.holds Tryd.pinned (OpenSpec.ofChange gaugeMeansWrong)

/- THE SECOND FORM. 'bulk': how many values and letters a reading holds, each counted each time it is reached (what is shared counts as often as it is met; a slice's spare places count too). A statement '..UptoSaid' is the law's where the arguments, and the package variables that the reading takes, are together of bulk at most 1048576: NARROWER than '..Said'. Prove '..Said' where nothing that the law and all that it calls make is longer than what came in: it says more and counts as full. Else prove '..UptoSaid'. A law counts once. -/
mutual
def uptoBulk {H : Type} : DataW H → Nat
  | .lit (.string bytes) => bytes.length + 1
  | .lit _ => 1
  | .nil => 1
  | .ptr d => uptoBulk d + 1
  | .slice elems spare => uptoBulkAll elems + uptoBulkAll spare + 1
  | .agg parts => uptoBulkAll parts + 1
  | .iface _ d => uptoBulk d + 1
  | .map entries => uptoBulkEntries entries + 1
  | .held _ => 1
def uptoBulkAll {H : Type} : List (DataW H) → Nat
  | [] => 0
  | d :: r => uptoBulk d + uptoBulkAll r
def uptoBulkEntries {H : Type} : List (Lit × DataW H) → Nat
  | [] => 0
  | x :: r => uptoBulkEntry x + uptoBulkEntries r
def uptoBulkEntry {H : Type} : Lit × DataW H → Nat
  | (.string bytes, d) => bytes.length + uptoBulk d + 1
  | (_, d) => uptoBulk d + 1
 end
def uptoSmall : (H : Type) → List (DataW H) → Bool := fun _ ds => decide (uptoBulkAll ds ≤ 1048576)
def OpenSpec.upto (s : _root_.Go.ChangeSpec) : _root_.Go.OpenSpec := { _root_.Go.OpenSpec.ofChange s with cond := some uptoSmall }

/-- 'depotlaw04.GaugeParts', WHERE WHAT IT READS IS OF BULK AT MOST 1048576: true; the input reads as it did. -/
def gaugePartsUptoRow : OpenClaim := { program := "ytfecgfefchdapaadoor", sum := "2036c6cc9a4cab89857e72f9a4344ca997f9fda729a37b78ac7da483e7daa0af", func := "depot/depotlaw04.GaugeParts", spec := "gaugeParts", inPlace := ["math.Float64bits", "math.Float64frombits"], named := ["math/bits.deBruijn64tab"], apart := false, laid := [("math/bits.deBruijn64tab", laid_math_bits_deBruijn64tab)], narrowed := true }
def GaugePartsUptoSaid : Prop := gaugePartsUptoRow.holds Tryd.pinned (OpenSpec.upto gaugePartsSpec)

/-- 'depotlaw04.GaugeMakes', WHERE WHAT IT READS IS OF BULK AT MOST 1048576: true; the input reads as it did. -/
def gaugeMakesUptoRow : OpenClaim := { program := "ytfecgfefchdapaadoor", sum := "2036c6cc9a4cab89857e72f9a4344ca997f9fda729a37b78ac7da483e7daa0af", func := "depot/depotlaw04.GaugeMakes", spec := "gaugeMakes", inPlace := ["math.Float64bits", "math.Float64frombits"], named := ["math/bits.deBruijn64tab"], apart := false, laid := [("math/bits.deBruijn64tab", laid_math_bits_deBruijn64tab)], narrowed := true }
def GaugeMakesUptoSaid : Prop := gaugeMakesUptoRow.holds Tryd.pinned (OpenSpec.upto gaugeMakesSpec)

/-- 'depotlaw04.GaugeBack', WHERE WHAT IT READS IS OF BULK AT MOST 1048576: true; the input reads as it did. -/
def gaugeBackUptoRow : OpenClaim := { program := "ytfecgfefchdapaadoor", sum := "2036c6cc9a4cab89857e72f9a4344ca997f9fda729a37b78ac7da483e7daa0af", func := "depot/depotlaw04.GaugeBack", spec := "gaugeBack", inPlace := ["math.Float64bits", "math.Float64frombits"], named := ["math/bits.deBruijn64tab"], apart := false, laid := [("math/bits.deBruijn64tab", laid_math_bits_deBruijn64tab)], narrowed := true }
def GaugeBackUptoSaid : Prop := gaugeBackUptoRow.holds Tryd.pinned (OpenSpec.upto gaugeBackSpec)

/-- 'depotlaw04.GaugeTurns', WHERE WHAT IT READS IS OF BULK AT MOST 1048576: true; the input reads as it did. -/
def gaugeTurnsUptoRow : OpenClaim := { program := "ytfecgfefchdapaadoor", sum := "2036c6cc9a4cab89857e72f9a4344ca997f9fda729a37b78ac7da483e7daa0af", func := "depot/depotlaw04.GaugeTurns", spec := "gaugeTurns", inPlace := ["math.Float64bits", "math.Float64frombits"], named := ["math/bits.deBruijn64tab"], apart := false, laid := [("math/bits.deBruijn64tab", laid_math_bits_deBruijn64tab)], narrowed := true }
def GaugeTurnsUptoSaid : Prop := gaugeTurnsUptoRow.holds Tryd.pinned (OpenSpec.upto gaugeTurnsSpec)

/-- 'depotlaw04.GaugeNear', WHERE WHAT IT READS IS OF BULK AT MOST 1048576: true; the input reads as it did. -/
def gaugeNearUptoRow : OpenClaim := { program := "ytfecgfefchdapaadoor", sum := "2036c6cc9a4cab89857e72f9a4344ca997f9fda729a37b78ac7da483e7daa0af", func := "depot/depotlaw04.GaugeNear", spec := "gaugeNear", inPlace := ["math.Float64bits", "math.Float64frombits"], named := ["math/bits.deBruijn64tab"], apart := false, laid := [("math/bits.deBruijn64tab", laid_math_bits_deBruijn64tab)], narrowed := true }
def GaugeNearUptoSaid : Prop := gaugeNearUptoRow.holds Tryd.pinned (OpenSpec.upto gaugeNearSpec)

/-- 'depotlaw04.GaugeMeans', WHERE WHAT IT READS IS OF BULK AT MOST 1048576: true; the input reads as it did. -/
def gaugeMeansUptoRow : OpenClaim := { program := "ytfecgfefchdapaadoor", sum := "2036c6cc9a4cab89857e72f9a4344ca997f9fda729a37b78ac7da483e7daa0af", func := "depot/depotlaw04.GaugeMeans", spec := "gaugeMeans", inPlace := ["math.Float64bits", "math.Float64frombits"], named := ["math/bits.deBruijn64tab"], apart := false, laid := [("math/bits.deBruijn64tab", laid_math_bits_deBruijn64tab)], narrowed := true }
def GaugeMeansUptoSaid : Prop := gaugeMeansUptoRow.holds Tryd.pinned (OpenSpec.upto gaugeMeansSpec)

end Rows
end Go.Proofs.YtfecgfefchdapaaDoor
