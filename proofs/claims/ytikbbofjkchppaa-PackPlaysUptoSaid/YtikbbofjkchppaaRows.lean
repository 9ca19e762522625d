/-
  No cell of these rows narrows 'for every input' (looked for: loops, veiled, ifaces, maps, wideKeys, modest, calm, conditions, laid).
  DERIVED. THE GIVEN ROWS OF THIS SEAT. 9 by the template 'for every input the law returns true; each argument reads behind the call as it read before'; 0 by the template 'total and deterministic' (their statements: YtikbbofjkchppaaTotals.lean).
  GIVEN WITH THE SEED: the statements are not yours to turn. If you find one false, say at which input.
  Laid BY PROGRAM, IN A SANDBOX (cutbox-rows.mjs): the forced cells as the released guide's own fill.sh prints them over the translation ac8da3fb2242be08… (all of the seat's roots in one cut). By AI agents, Wed Nov 11 2026. No macro, syntax, notation, axiom, sorry.
-/
import Derived.Test.YtikbbofjkchppaaChecked
import GoSem.Claim
import GoSem.ClaimJoined
import GoSem.ClaimMapViews
import Derived.JoinedTies
import Derived.KernelRfl
namespace Go.Proofs.Ytikbbofjkchppaa
/- THE CELL 'sum', in the pinned program and in every row, IS THE sha256 OF THE DUMP (.gsa) THAT YtikbbofjkchppaaProg.lean LOADS. Nothing in Lean hashes anything: it is a label: what it is worth is what the hold of that sum in a sandbox is worth. -/
noncomputable def Try.pinned : Pinned := { name := "ytikbbofjkchppaa", sum := "ac8da3fb2242be0800031e4862cbb68f57b0c9aebca2e38c67e04570663590c9", checked := Try.checked }
namespace Rows
def none {H : Type} : Left H := { results := [], args := [] }

/-- 'depotlaw10.PackShares': WHATEVER THE INPUT: true; the input reads as it did. -/
def packSharesSpec : ChangeSpec := { name := "packShares", fn := fun _ => fun
  | [d1, d2] => { results := [.lit (.bool true)], args := [d1, d2] }
  | _ => none }
def packSharesRow : OpenClaim := { program := "ytikbbofjkchppaa", sum := "ac8da3fb2242be0800031e4862cbb68f57b0c9aebca2e38c67e04570663590c9", func := "depot/depotlaw10.PackShares", spec := "packShares", inPlace := ["math.Float64bits"], plainKeys := false, apart := false }
def PackSharesSaid : Prop := packSharesRow.holds Try.pinned (OpenSpec.ofChange packSharesSpec)

/-- ITS FALSE NEIGHBOUR: 'it returns false'. Refute it at one input. -/
def packSharesWrong : ChangeSpec := { name := "packShares", fn := fun _ => fun
  | [d1, d2] => { results := [.lit (.bool false)], args := [d1, d2] }
  | _ => none }
def PackSharesWrongFalsely : Prop := packSharesRow.holds Try.pinned (OpenSpec.ofChange packSharesWrong)

/-- 'depotlaw10.PackWrites': WHATEVER THE INPUT: true; the input reads as it did. -/
def packWritesSpec : ChangeSpec := { name := "packWrites", fn := fun _ => fun
  | [d] => { results := [.lit (.bool true)], args := [d] }
  | _ => none }
def packWritesRow : OpenClaim := { program := "ytikbbofjkchppaa", sum := "ac8da3fb2242be0800031e4862cbb68f57b0c9aebca2e38c67e04570663590c9", func := "depot/depotlaw10.PackWrites", spec := "packWrites", plainKeys := false, apart := false }
def PackWritesSaid : Prop := packWritesRow.holds Try.pinned (OpenSpec.ofChange packWritesSpec)

/-- ITS FALSE NEIGHBOUR: 'it returns false'. Refute it at one input. -/
def packWritesWrong : ChangeSpec := { name := "packWrites", fn := fun _ => fun
  | [d] => { results := [.lit (.bool false)], args := [d] }
  | _ => none }
def PackWritesWrongFalsely : Prop := packWritesRow.holds Try.pinned (OpenSpec.ofChange packWritesWrong)

/-- 'depotlaw10.PackReads': WHATEVER THE INPUT: true; the input reads as it did. -/
def packReadsSpec : ChangeSpec := { name := "packReads", fn := fun _ => fun
  | [d] => { results := [.lit (.bool true)], args := [d] }
  | _ => none }
def packReadsRow : OpenClaim := { program := "ytikbbofjkchppaa", sum := "ac8da3fb2242be0800031e4862cbb68f57b0c9aebca2e38c67e04570663590c9", func := "depot/depotlaw10.PackReads", spec := "packReads", plainKeys := false, apart := false }
def PackReadsSaid : Prop := packReadsRow.holds Try.pinned (OpenSpec.ofChange packReadsSpec)

/-- ITS FALSE NEIGHBOUR: 'it returns false'. Refute it at one input. -/
def packReadsWrong : ChangeSpec := { name := "packReads", fn := fun _ => fun
  | [d] => { results := [.lit (.bool false)], args := [d] }
  | _ => none }
def PackReadsWrongFalsely : Prop := packReadsRow.holds Try.pinned (OpenSpec.ofChange packReadsWrong)

/-- 'depotlaw10.PackBack': WHATEVER THE INPUT: true; the input reads as it did. -/
def packBackSpec : ChangeSpec := { name := "packBack", fn := fun _ => fun
  | [d] => { results := [.lit (.bool true)], args := [d] }
  | _ => none }
def packBackRow : OpenClaim := { program := "ytikbbofjkchppaa", sum := "ac8da3fb2242be0800031e4862cbb68f57b0c9aebca2e38c67e04570663590c9", func := "depot/depotlaw10.PackBack", spec := "packBack", plainKeys := false, apart := false }
def PackBackSaid : Prop := packBackRow.holds Try.pinned (OpenSpec.ofChange packBackSpec)

/-- ITS FALSE NEIGHBOUR: 'it returns false'. Refute it at one input. -/
def packBackWrong : ChangeSpec := { name := "packBack", fn := fun _ => fun
  | [d] => { results := [.lit (.bool false)], args := [d] }
  | _ => none }
def PackBackWrongFalsely : Prop := packBackRow.holds Try.pinned (OpenSpec.ofChange packBackWrong)

/-- 'depotlaw10.PackRuns': WHATEVER THE INPUT: true; the input reads as it did. -/
def packRunsSpec : ChangeSpec := { name := "packRuns", fn := fun _ => fun
  | [d1, d2, d3] => { results := [.lit (.bool true)], args := [d1, d2, d3] }
  | _ => none }
def packRunsRow : OpenClaim := { program := "ytikbbofjkchppaa", sum := "ac8da3fb2242be0800031e4862cbb68f57b0c9aebca2e38c67e04570663590c9", func := "depot/depotlaw10.PackRuns", spec := "packRuns", plainKeys := false, apart := false }
def PackRunsSaid : Prop := packRunsRow.holds Try.pinned (OpenSpec.ofChange packRunsSpec)

/-- ITS FALSE NEIGHBOUR: 'it returns false'. Refute it at one input. -/
def packRunsWrong : ChangeSpec := { name := "packRuns", fn := fun _ => fun
  | [d1, d2, d3] => { results := [.lit (.bool false)], args := [d1, d2, d3] }
  | _ => none }
def PackRunsWrongFalsely : Prop := packRunsRow.holds Try.pinned (OpenSpec.ofChange packRunsWrong)

/-- 'depotlaw10.PackShort': WHATEVER THE INPUT: true; the input reads as it did. -/
def packShortSpec : ChangeSpec := { name := "packShort", fn := fun _ => fun
  | [d1, d2, d3] => { results := [.lit (.bool true)], args := [d1, d2, d3] }
  | _ => none }
def packShortRow : OpenClaim := { program := "ytikbbofjkchppaa", sum := "ac8da3fb2242be0800031e4862cbb68f57b0c9aebca2e38c67e04570663590c9", func := "depot/depotlaw10.PackShort", spec := "packShort", plainKeys := false, apart := false }
def PackShortSaid : Prop := packShortRow.holds Try.pinned (OpenSpec.ofChange packShortSpec)

/-- ITS FALSE NEIGHBOUR: 'it returns false'. Refute it at one input. -/
def packShortWrong : ChangeSpec := { name := "packShort", fn := fun _ => fun
  | [d1, d2, d3] => { results := [.lit (.bool false)], args := [d1, d2, d3] }
  | _ => none }
def PackShortWrongFalsely : Prop := packShortRow.holds Try.pinned (OpenSpec.ofChange packShortWrong)

/-- 'depotlaw10.PackKeeps': WHATEVER THE INPUT: true; the input reads as it did. -/
def packKeepsSpec : ChangeSpec := { name := "packKeeps", fn := fun _ => fun
  | [d1, d2] => { results := [.lit (.bool true)], args := [d1, d2] }
  | _ => none }
def packKeepsRow : OpenClaim := { program := "ytikbbofjkchppaa", sum := "ac8da3fb2242be0800031e4862cbb68f57b0c9aebca2e38c67e04570663590c9", func := "depot/depotlaw10.PackKeeps", spec := "packKeeps", plainKeys := false, apart := false }
def PackKeepsSaid : Prop := packKeepsRow.holds Try.pinned (OpenSpec.ofChange packKeepsSpec)

/-- ITS FALSE NEIGHBOUR: 'it returns false'. Refute it at one input. -/
def packKeepsWrong : ChangeSpec := { name := "packKeeps", fn := fun _ => fun
  | [d1, d2] => { results := [.lit (.bool false)], args := [d1, d2] }
  | _ => none }
def PackKeepsWrongFalsely : Prop := packKeepsRow.holds Try.pinned (OpenSpec.ofChange packKeepsWrong)

/-- 'depotlaw10.PackChunks': WHATEVER THE INPUT: true; the input reads as it did. -/
def packChunksSpec : ChangeSpec := { name := "packChunks", fn := fun _ => fun
  | [d1, d2] => { results := [.lit (.bool true)], args := [d1, d2] }
  | _ => none }
def packChunksRow : OpenClaim := { program := "ytikbbofjkchppaa", sum := "ac8da3fb2242be0800031e4862cbb68f57b0c9aebca2e38c67e04570663590c9", func := "depot/depotlaw10.PackChunks", spec := "packChunks", plainKeys := false, apart := false }
def PackChunksSaid : Prop := packChunksRow.holds Try.pinned (OpenSpec.ofChange packChunksSpec)

/-- ITS FALSE NEIGHBOUR: 'it returns false'. Refute it at one input. -/
def packChunksWrong : ChangeSpec := { name := "packChunks", fn := fun _ => fun
  | [d1, d2] => { results := [.lit (.bool false)], args := [d1, d2] }
  | _ => none }
def PackChunksWrongFalsely : Prop := packChunksRow.holds Try.pinned (OpenSpec.ofChange packChunksWrong)

/-- 'depotlaw10.PackPlays': WHATEVER THE INPUT: true; the input reads as it did. -/
def packPlaysSpec : ChangeSpec := { name := "packPlays", fn := fun _ => fun
  | [d] => { results := [.lit (.bool true)], args := [d] }
  | _ => none }
def packPlaysRow : OpenClaim := { program := "ytikbbofjkchppaa", sum := "ac8da3fb2242be0800031e4862cbb68f57b0c9aebca2e38c67e04570663590c9", func := "depot/depotlaw10.PackPlays", spec := "packPlays", plainKeys := false, apart := false }
def PackPlaysSaid : Prop := packPlaysRow.holds Try.pinned (OpenSpec.ofChange packPlaysSpec)

/-- ITS FALSE NEIGHBOUR: 'it returns false'. Refute it at one input. -/
def packPlaysWrong : ChangeSpec := { name := "packPlays", fn := fun _ => fun
  | [d] => { results := [.lit (.bool false)], args := [d] }
  | _ => none }
def PackPlaysWrongFalsely : Prop := packPlaysRow.holds Try.pinned (OpenSpec.ofChange packPlaysWrong)

/- THE SECOND FORM. 'bulk': how many values and letters a reading holds, each counted each time it is reached (what is shared counts as often as it is met; a slice's spare places count too). A statement '..UptoSaid' is the law's where the arguments, and the package variables that the reading takes, are together of bulk at most 1048576: NARROWER than '..Said'. Prove '..Said' where nothing that the law and all that it calls make is longer than what came in: it says more and counts as full. Else prove '..UptoSaid'. A law counts once. -/
mutual
def uptoBulk {H : Type} : DataW H → Nat
  | .lit (.string bytes) => bytes.length + 1
  | .lit _ => 1
  | .nil => 1
  | .ptr d => uptoBulk d + 1
  | .slice elems spare => uptoBulkAll elems + uptoBulkAll spare + 1
  | .agg parts => uptoBulkAll parts + 1
  | .iface _ d => uptoBulk d + 1
  | .map entries => uptoBulkEntries entries + 1
  | .held _ => 1
def uptoBulkAll {H : Type} : List (DataW H) → Nat
  | [] => 0
  | d :: r => uptoBulk d + uptoBulkAll r
def uptoBulkEntries {H : Type} : List (Lit × DataW H) → Nat
  | [] => 0
  | x :: r => uptoBulkEntry x + uptoBulkEntries r
def uptoBulkEntry {H : Type} : Lit × DataW H → Nat
  | (.string bytes, d) => bytes.length + uptoBulk d + 1
  | (_, d) => uptoBulk d + 1
 end
def uptoSmall : (H : Type) → List (DataW H) → Bool := fun _ ds => decide (uptoBulkAll ds ≤ 1048576)
def OpenSpec.upto (s : _root_.Go.ChangeSpec) : _root_.Go.OpenSpec := { _root_.Go.OpenSpec.ofChange s with cond := some uptoSmall }

/-- 'depotlaw10.PackShares', WHERE WHAT IT READS IS OF BULK AT MOST 1048576: true; the input reads as it did. -/
def packSharesUptoRow : OpenClaim := { program := "ytikbbofjkchppaa", sum := "ac8da3fb2242be0800031e4862cbb68f57b0c9aebca2e38c67e04570663590c9", func := "depot/depotlaw10.PackShares", spec := "packShares", inPlace := ["math.Float64bits"], plainKeys := false, apart := false, narrowed := true }
def PackSharesUptoSaid : Prop := packSharesUptoRow.holds Try.pinned (OpenSpec.upto packSharesSpec)

/-- 'depotlaw10.PackWrites', WHERE WHAT IT READS IS OF BULK AT MOST 1048576: true; the input reads as it did. -/
def packWritesUptoRow : OpenClaim := { program := "ytikbbofjkchppaa", sum := "ac8da3fb2242be0800031e4862cbb68f57b0c9aebca2e38c67e04570663590c9", func := "depot/depotlaw10.PackWrites", spec := "packWrites", plainKeys := false, apart := false, narrowed := true }
def PackWritesUptoSaid : Prop := packWritesUptoRow.holds Try.pinned (OpenSpec.upto packWritesSpec)

/-- 'depotlaw10.PackReads', WHERE WHAT IT READS IS OF BULK AT MOST 1048576: true; the input reads as it did. -/
def packReadsUptoRow : OpenClaim := { program := "ytikbbofjkchppaa", sum := "ac8da3fb2242be0800031e4862cbb68f57b0c9aebca2e38c67e04570663590c9", func := "depot/depotlaw10.PackReads", spec := "packReads", plainKeys := false, apart := false, narrowed := true }
def PackReadsUptoSaid : Prop := packReadsUptoRow.holds Try.pinned (OpenSpec.upto packReadsSpec)

/-- 'depotlaw10.PackBack', WHERE WHAT IT READS IS OF BULK AT MOST 1048576: true; the input reads as it did. -/
def packBackUptoRow : OpenClaim := { program := "ytikbbofjkchppaa", sum := "ac8da3fb2242be0800031e4862cbb68f57b0c9aebca2e38c67e04570663590c9", func := "depot/depotlaw10.PackBack", spec := "packBack", plainKeys := false, apart := false, narrowed := true }
def PackBackUptoSaid : Prop := packBackUptoRow.holds Try.pinned (OpenSpec.upto packBackSpec)

/-- 'depotlaw10.PackRuns', WHERE WHAT IT READS IS OF BULK AT MOST 1048576: true; the input reads as it did. -/
def packRunsUptoRow : OpenClaim := { program := "ytikbbofjkchppaa", sum := "ac8da3fb2242be0800031e4862cbb68f57b0c9aebca2e38c67e04570663590c9", func := "depot/depotlaw10.PackRuns", spec := "packRuns", plainKeys := false, apart := false, narrowed := true }
def PackRunsUptoSaid : Prop := packRunsUptoRow.holds Try.pinned (OpenSpec.upto packRunsSpec)

/-- 'depotlaw10.PackShort', WHERE WHAT IT READS IS OF BULK AT MOST 1048576: true; the input reads as it did. -/
def packShortUptoRow : OpenClaim := { program := "ytikbbofjkchppaa", sum := "ac8da3fb2242be0800031e4862cbb68f57b0c9aebca2e38c67e04570663590c9", func := "depot/depotlaw10.PackShort", spec := "packShort", plainKeys := false, apart := false, narrowed := true }
def PackShortUptoSaid : Prop := packShortUptoRow.holds Try.pinned (OpenSpec.upto packShortSpec)

/-- 'depotlaw10.PackKeeps', WHERE WHAT IT READS IS OF BULK AT MOST 1048576: true; the input reads as it did. -/
def packKeepsUptoRow : OpenClaim := { program := "ytikbbofjkchppaa", sum := "ac8da3fb2242be0800031e4862cbb68f57b0c9aebca2e38c67e04570663590c9", func := "depot/depotlaw10.PackKeeps", spec := "packKeeps", plainKeys := false, apart := false, narrowed := true }
def PackKeepsUptoSaid : Prop := packKeepsUptoRow.holds Try.pinned (OpenSpec.upto packKeepsSpec)

/-- 'depotlaw10.PackChunks', WHERE WHAT IT READS IS OF BULK AT MOST 1048576: true; the input reads as it did. -/
def packChunksUptoRow : OpenClaim := { program := "ytikbbofjkchppaa", sum := "ac8da3fb2242be0800031e4862cbb68f57b0c9aebca2e38c67e04570663590c9", func := "depot/depotlaw10.PackChunks", spec := "packChunks", plainKeys := false, apart := false, narrowed := true }
def PackChunksUptoSaid : Prop := packChunksUptoRow.holds Try.pinned (OpenSpec.upto packChunksSpec)

/-- 'depotlaw10.PackPlays', WHERE WHAT IT READS IS OF BULK AT MOST 1048576: true; the input reads as it did. -/
def packPlaysUptoRow : OpenClaim := { program := "ytikbbofjkchppaa", sum := "ac8da3fb2242be0800031e4862cbb68f57b0c9aebca2e38c67e04570663590c9", func := "depot/depotlaw10.PackPlays", spec := "packPlays", plainKeys := false, apart := false, narrowed := true }
def PackPlaysUptoSaid : Prop := packPlaysUptoRow.holds Try.pinned (OpenSpec.upto packPlaysSpec)

end Rows
end Go.Proofs.Ytikbbofjkchppaa
