/-
  NARROWER THAN 'FOR EVERY INPUT', by the rows' own cells (each row's printed sentence says how): WholeBytes: loops · WholeLong: loops · WholePacked: loops.
  DERIVED. THE GIVEN ROWS OF THIS SEAT. 3 by the template 'for every input the law returns true; each argument reads behind the call as it read before'; 0 by the template 'total and deterministic' (their statements: YtlcppkcclolgcaaTotals.lean).
  GIVEN WITH THE SEED: the statements are not yours to turn. If you find one false, say at which input.
  Laid BY PROGRAM, IN A SANDBOX (cutbox-rows.mjs): the forced cells as the released guide's own fill.sh prints them over the translation 5534ad9acac644d7… (all of the seat's roots in one cut). By AI agents, Wed Nov 11 2026. No macro, syntax, notation, axiom, sorry.
-/
import Derived.Test.YtlcppkcclolgcaaChecked
import GoSem.Claim
import GoSem.ClaimJoined
import GoSem.ClaimMapViews
import Derived.JoinedTies
import Derived.KernelRfl
namespace Go.Proofs.Ytlcppkcclolgcaa
/- THE CELL 'sum', in the pinned program and in every row, IS THE sha256 OF THE DUMP (.gsa) THAT YtlcppkcclolgcaaProg.lean LOADS. Nothing in Lean hashes anything: it is a label: what it is worth is what the hold of that sum in a sandbox is worth. -/
noncomputable def Try.pinned : Pinned := { name := "ytlcppkcclolgcaa", sum := "5534ad9acac644d72b4a1a5b96c7cf2ba96d40a20dc267f9c52b8d5a867cd08c", checked := Try.checked }
namespace Rows
def none {H : Type} : Left H := { results := [], args := [] }

/-- 'depottop.WholeBytes': WHATEVER THE INPUT: true; the input reads as it did. -/
def wholeBytesSpec : ChangeSpec := { name := "wholeBytes", fn := fun _ => fun
  | [d1, d2, d3] => { results := [.lit (.bool true)], args := [d1, d2, d3] }
  | _ => none }
def wholeBytesRow : OpenClaim := { program := "ytlcppkcclolgcaa", sum := "5534ad9acac644d72b4a1a5b96c7cf2ba96d40a20dc267f9c52b8d5a867cd08c", func := "depot/depottop.WholeBytes", spec := "wholeBytes", inPlace := ["internal/bytealg.IndexByteString", "internal/bytealg.IndexString", "internal/abi.NoEscape", "internal/bytealg.MakeNoZero", "internal/bytealg.abigen_runtime_cmpstring"], unfollowed := true, recurses := true, named := ["internal/bytealg.MaxLen"], loops := true, plainKeys := false, apart := false }
def WholeBytesSaid : Prop := wholeBytesRow.holds Try.pinned (OpenSpec.ofChange wholeBytesSpec)

/-- ITS FALSE NEIGHBOUR: 'it returns false'. Refute it at one input. -/
def wholeBytesWrong : ChangeSpec := { name := "wholeBytes", fn := fun _ => fun
  | [d1, d2, d3] => { results := [.lit (.bool false)], args := [d1, d2, d3] }
  | _ => none }
def WholeBytesWrongFalsely : Prop := wholeBytesRow.holds Try.pinned (OpenSpec.ofChange wholeBytesWrong)

/-- 'depottop.WholeLong': WHATEVER THE INPUT: true; the input reads as it did. -/
def wholeLongSpec : ChangeSpec := { name := "wholeLong", fn := fun _ => fun
  | [d1, d2, d3] => { results := [.lit (.bool true)], args := [d1, d2, d3] }
  | _ => none }
def wholeLongRow : OpenClaim := { program := "ytlcppkcclolgcaa", sum := "5534ad9acac644d72b4a1a5b96c7cf2ba96d40a20dc267f9c52b8d5a867cd08c", func := "depot/depottop.WholeLong", spec := "wholeLong", inPlace := ["internal/bytealg.IndexByteString", "internal/bytealg.IndexString", "internal/abi.NoEscape", "internal/bytealg.MakeNoZero", "internal/bytealg.abigen_runtime_cmpstring"], unfollowed := true, recurses := true, named := ["internal/bytealg.MaxLen"], loops := true, plainKeys := false, apart := false }
def WholeLongSaid : Prop := wholeLongRow.holds Try.pinned (OpenSpec.ofChange wholeLongSpec)

/-- ITS FALSE NEIGHBOUR: 'it returns false'. Refute it at one input. -/
def wholeLongWrong : ChangeSpec := { name := "wholeLong", fn := fun _ => fun
  | [d1, d2, d3] => { results := [.lit (.bool false)], args := [d1, d2, d3] }
  | _ => none }
def WholeLongWrongFalsely : Prop := wholeLongRow.holds Try.pinned (OpenSpec.ofChange wholeLongWrong)

/-- 'depottop.WholePacked': WHATEVER THE INPUT: true; the input reads as it did. -/
def wholePackedSpec : ChangeSpec := { name := "wholePacked", fn := fun _ => fun
  | [d1, d2] => { results := [.lit (.bool true)], args := [d1, d2] }
  | _ => none }
def wholePackedRow : OpenClaim := { program := "ytlcppkcclolgcaa", sum := "5534ad9acac644d72b4a1a5b96c7cf2ba96d40a20dc267f9c52b8d5a867cd08c", func := "depot/depottop.WholePacked", spec := "wholePacked", inPlace := ["internal/bytealg.IndexByteString", "internal/bytealg.IndexString", "internal/abi.NoEscape", "internal/bytealg.MakeNoZero", "internal/bytealg.abigen_runtime_cmpstring"], unfollowed := true, recurses := true, named := ["internal/bytealg.MaxLen"], loops := true, plainKeys := false, apart := false }
def WholePackedSaid : Prop := wholePackedRow.holds Try.pinned (OpenSpec.ofChange wholePackedSpec)

/-- ITS FALSE NEIGHBOUR: 'it returns false'. Refute it at one input. -/
def wholePackedWrong : ChangeSpec := { name := "wholePacked", fn := fun _ => fun
  | [d1, d2] => { results := [.lit (.bool false)], args := [d1, d2] }
  | _ => none }
def WholePackedWrongFalsely : Prop := wholePackedRow.holds Try.pinned (OpenSpec.ofChange wholePackedWrong)

/- THE SECOND FORM. 'bulk': how many values and letters a reading holds, each counted each time it is reached (what is shared counts as often as it is met; a slice's spare places count too). A statement '..UptoSaid' is the law's where the arguments, and the package variables that the reading takes, are together of bulk at most 1048576: NARROWER than '..Said'. Prove '..Said' where nothing that the law and all that it calls make is longer than what came in: it says more and counts as full. Else prove '..UptoSaid'. A law counts once. -/
mutual
def uptoBulk {H : Type} : DataW H → Nat
  | .lit (.string bytes) => bytes.length + 1
  | .lit _ => 1
  | .nil => 1
  | .ptr d => uptoBulk d + 1
  | .slice elems spare => uptoBulkAll elems + uptoBulkAll spare + 1
  | .agg parts => uptoBulkAll parts + 1
  | .iface _ d => uptoBulk d + 1
  | .map entries => uptoBulkEntries entries + 1
  | .held _ => 1
def uptoBulkAll {H : Type} : List (DataW H) → Nat
  | [] => 0
  | d :: r => uptoBulk d + uptoBulkAll r
def uptoBulkEntries {H : Type} : List (Lit × DataW H) → Nat
  | [] => 0
  | x :: r => uptoBulkEntry x + uptoBulkEntries r
def uptoBulkEntry {H : Type} : Lit × DataW H → Nat
  | (.string bytes, d) => bytes.length + uptoBulk d + 1
  | (_, d) => uptoBulk d + 1
 end
def uptoSmall : (H : Type) → List (DataW H) → Bool := fun _ ds => decide (uptoBulkAll ds ≤ 1048576)
def OpenSpec.upto (s : _root_.Go.ChangeSpec) : _root_.Go.OpenSpec := { _root_.Go.OpenSpec.ofChange s with cond := some uptoSmall }

/-- 'depottop.WholeBytes', WHERE WHAT IT READS IS OF BULK AT MOST 1048576: true; the input reads as it did. -/
def wholeBytesUptoRow : OpenClaim := { program := "ytlcppkcclolgcaa", sum := "5534ad9acac644d72b4a1a5b96c7cf2ba96d40a20dc267f9c52b8d5a867cd08c", func := "depot/depottop.WholeBytes", spec := "wholeBytes", inPlace := ["internal/bytealg.IndexByteString", "internal/bytealg.IndexString", "internal/abi.NoEscape", "internal/bytealg.MakeNoZero", "internal/bytealg.abigen_runtime_cmpstring"], unfollowed := true, recurses := true, named := ["internal/bytealg.MaxLen"], loops := true, plainKeys := false, apart := false, narrowed := true }
def WholeBytesUptoSaid : Prop := wholeBytesUptoRow.holds Try.pinned (OpenSpec.upto wholeBytesSpec)

/-- 'depottop.WholeLong', WHERE WHAT IT READS IS OF BULK AT MOST 1048576: true; the input reads as it did. -/
def wholeLongUptoRow : OpenClaim := { program := "ytlcppkcclolgcaa", sum := "5534ad9acac644d72b4a1a5b96c7cf2ba96d40a20dc267f9c52b8d5a867cd08c", func := "depot/depottop.WholeLong", spec := "wholeLong", inPlace := ["internal/bytealg.IndexByteString", "internal/bytealg.IndexString", "internal/abi.NoEscape", "internal/bytealg.MakeNoZero", "internal/bytealg.abigen_runtime_cmpstring"], unfollowed := true, recurses := true, named := ["internal/bytealg.MaxLen"], loops := true, plainKeys := false, apart := false, narrowed := true }
def WholeLongUptoSaid : Prop := wholeLongUptoRow.holds Try.pinned (OpenSpec.upto wholeLongSpec)

/-- 'depottop.WholePacked', WHERE WHAT IT READS IS OF BULK AT MOST 1048576: true; the input reads as it did. -/
def wholePackedUptoRow : OpenClaim := { program := "ytlcppkcclolgcaa", sum := "5534ad9acac644d72b4a1a5b96c7cf2ba96d40a20dc267f9c52b8d5a867cd08c", func := "depot/depottop.WholePacked", spec := "wholePacked", inPlace := ["internal/bytealg.IndexByteString", "internal/bytealg.IndexString", "internal/abi.NoEscape", "internal/bytealg.MakeNoZero", "internal/bytealg.abigen_runtime_cmpstring"], unfollowed := true, recurses := true, named := ["internal/bytealg.MaxLen"], loops := true, plainKeys := false, apart := false, narrowed := true }
def WholePackedUptoSaid : Prop := wholePackedUptoRow.holds Try.pinned (OpenSpec.upto wholePackedSpec)

end Rows
end Go.Proofs.Ytlcppkcclolgcaa
