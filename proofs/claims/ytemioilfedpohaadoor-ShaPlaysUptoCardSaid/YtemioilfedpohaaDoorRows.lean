/-
  NARROWER THAN 'FOR EVERY INPUT', by the rows' own cells (each row's printed sentence says how): ShaBlocks: laid · ShaRoots: laid · ShaOf: laid · ShaFolds: laid · ShaForks: laid · ShaKeeps: laid · ShaPlays: laid · ShaCuts: laid.
  DERIVED. THE GIVEN ROWS OF THIS SEAT. 8 by the template 'for every input the law returns true; each argument reads behind the call as it read before'; 0 by the template 'total and deterministic' (their statements: YtemioilfedpohaaDoorTotals.lean).
  GIVEN WITH THE SEED: the statements are not yours to turn. If you find one false, say at which input.
  Laid BY PROGRAM, IN A SANDBOX (cutbox-rows.mjs): the forced cells as the released guide's own fill.sh prints them over the translation ab302ce9789434b1… (all of the seat's roots in one cut). By AI agents, Wed Nov 11 2026. No macro, syntax, notation, axiom, sorry.
-/
import Derived.Test.YtemioilfedpohaaDoorChecked
import GoSem.Claim
import GoSem.ClaimJoined
import GoSem.ClaimMapViews
import Derived.JoinedTies
import Derived.KernelRfl
namespace Go.Proofs.YtemioilfedpohaaDoor
/- THE CELL 'sum', in the pinned program and in every row, IS THE sha256 OF THE DUMP (.gsa) THAT YtemioilfedpohaaDoorProg.lean LOADS. Nothing in Lean hashes anything: it is a label: what it is worth is what the hold of that sum in a sandbox is worth. -/
noncomputable def Tryd.pinned : Pinned := { name := "ytemioilfedpohaadoor", sum := "ab302ce9789434b18e670e0418c6a347c9421ea6a9f5ef723ab3d58299f1cc8f", checked := Tryd.checked }
namespace Rows
def none {H : Type} : Left H := { results := [], args := [] }

/- WHAT THE LISTED PACKAGE-LEVEL VARIABLES READ AS WHEN THE CALL BEGINS. Each datum BY PROGRAM (the guide's laid-datum.mjs) off the statement by which the dump's own 'gosem.cut.vars' lays the variable. In a bare row this is a premise. The card (YtemioilfedpohaaDoorCards.lean) ties it to the program's text. -/
def laid_depot_sha_rounds {H : Type} : DataW H := .agg [.lit (.int .u32 1116352408), .lit (.int .u32 1899447441), .lit (.int .u32 3049323471), .lit (.int .u32 3921009573), .lit (.int .u32 961987163), .lit (.int .u32 1508970993), .lit (.int .u32 2453635748), .lit (.int .u32 2870763221), .lit (.int .u32 3624381080), .lit (.int .u32 310598401), .lit (.int .u32 607225278), .lit (.int .u32 1426881987), .lit (.int .u32 1925078388), .lit (.int .u32 2162078206), .lit (.int .u32 2614888103), .lit (.int .u32 3248222580), .lit (.int .u32 3835390401), .lit (.int .u32 4022224774), .lit (.int .u32 264347078), .lit (.int .u32 604807628), .lit (.int .u32 770255983), .lit (.int .u32 1249150122), .lit (.int .u32 1555081692), .lit (.int .u32 1996064986), .lit (.int .u32 2554220882), .lit (.int .u32 2821834349), .lit (.int .u32 2952996808), .lit (.int .u32 3210313671), .lit (.int .u32 3336571891), .lit (.int .u32 3584528711), .lit (.int .u32 113926993), .lit (.int .u32 338241895), .lit (.int .u32 666307205), .lit (.int .u32 773529912), .lit (.int .u32 1294757372), .lit (.int .u32 1396182291), .lit (.int .u32 1695183700), .lit (.int .u32 1986661051), .lit (.int .u32 2177026350), .lit (.int .u32 2456956037), .lit (.int .u32 2730485921), .lit (.int .u32 2820302411), .lit (.int .u32 3259730800), .lit (.int .u32 3345764771), .lit (.int .u32 3516065817), .lit (.int .u32 3600352804), .lit (.int .u32 4094571909), .lit (.int .u32 275423344), .lit (.int .u32 430227734), .lit (.int .u32 506948616), .lit (.int .u32 659060556), .lit (.int .u32 883997877), .lit (.int .u32 958139571), .lit (.int .u32 1322822218), .lit (.int .u32 1537002063), .lit (.int .u32 1747873779), .lit (.int .u32 1955562222), .lit (.int .u32 2024104815), .lit (.int .u32 2227730452), .lit (.int .u32 2361852424), .lit (.int .u32 2428436474), .lit (.int .u32 2756734187), .lit (.int .u32 3204031479), .lit (.int .u32 3329325298)]
def laid_depot_sha_start {H : Type} : DataW H := .agg [.lit (.int .u32 1779033703), .lit (.int .u32 3144134277), .lit (.int .u32 1013904242), .lit (.int .u32 2773480762), .lit (.int .u32 1359893119), .lit (.int .u32 2600822924), .lit (.int .u32 528734635), .lit (.int .u32 1541459225)]

/-- 'depotlaw01.ShaBlocks': WHATEVER THE INPUT: true; the input reads as it did. -/
def shaBlocksSpec : ChangeSpec := { name := "shaBlocks", fn := fun _ => fun
  | [d1, d2] => { results := [.lit (.bool true)], args := [d1, d2] }
  | _ => none }
def shaBlocksRow : OpenClaim := { program := "ytemioilfedpohaadoor", sum := "ab302ce9789434b18e670e0418c6a347c9421ea6a9f5ef723ab3d58299f1cc8f", func := "depot/depotlaw01.ShaBlocks", spec := "shaBlocks", named := ["depot/sha.rounds"], apart := false, laid := [("depot/sha.rounds", laid_depot_sha_rounds)] }
def ShaBlocksSaid : Prop := shaBlocksRow.holds Tryd.pinned (OpenSpec.ofChange shaBlocksSpec)

/-- ITS FALSE NEIGHBOUR: 'it returns false'. Refute it at one input. -/
def shaBlocksWrong : ChangeSpec := { name := "shaBlocks", fn := fun _ => fun
  | [d1, d2] => { results := [.lit (.bool false)], args := [d1, d2] }
  | _ => none }
def ShaBlocksWrongFalsely : Prop := shaBlocksRow.holds Tryd.pinned (OpenSpec.ofChange shaBlocksWrong)

/-- 'depotlaw01.ShaRoots': WHATEVER THE INPUT: true; the input reads as it did. -/
def shaRootsSpec : ChangeSpec := { name := "shaRoots", fn := fun _ => fun
  | [d1, d2] => { results := [.lit (.bool true)], args := [d1, d2] }
  | _ => none }
def shaRootsRow : OpenClaim := { program := "ytemioilfedpohaadoor", sum := "ab302ce9789434b18e670e0418c6a347c9421ea6a9f5ef723ab3d58299f1cc8f", func := "depot/depotlaw01.ShaRoots", spec := "shaRoots", named := ["depot/sha.rounds"], apart := false, laid := [("depot/sha.rounds", laid_depot_sha_rounds)] }
def ShaRootsSaid : Prop := shaRootsRow.holds Tryd.pinned (OpenSpec.ofChange shaRootsSpec)

/-- ITS FALSE NEIGHBOUR: 'it returns false'. Refute it at one input. -/
def shaRootsWrong : ChangeSpec := { name := "shaRoots", fn := fun _ => fun
  | [d1, d2] => { results := [.lit (.bool false)], args := [d1, d2] }
  | _ => none }
def ShaRootsWrongFalsely : Prop := shaRootsRow.holds Tryd.pinned (OpenSpec.ofChange shaRootsWrong)

/-- 'depotlaw01.ShaOf': WHATEVER THE INPUT: true; the input reads as it did. -/
def shaOfSpec : ChangeSpec := { name := "shaOf", fn := fun _ => fun
  | [d] => { results := [.lit (.bool true)], args := [d] }
  | _ => none }
def shaOfRow : OpenClaim := { program := "ytemioilfedpohaadoor", sum := "ab302ce9789434b18e670e0418c6a347c9421ea6a9f5ef723ab3d58299f1cc8f", func := "depot/depotlaw01.ShaOf", spec := "shaOf", named := ["depot/sha.start", "depot/sha.rounds"], apart := false, laid := [("depot/sha.rounds", laid_depot_sha_rounds), ("depot/sha.start", laid_depot_sha_start)] }
def ShaOfSaid : Prop := shaOfRow.holds Tryd.pinned (OpenSpec.ofChange shaOfSpec)

/-- ITS FALSE NEIGHBOUR: 'it returns false'. Refute it at one input. -/
def shaOfWrong : ChangeSpec := { name := "shaOf", fn := fun _ => fun
  | [d] => { results := [.lit (.bool false)], args := [d] }
  | _ => none }
def ShaOfWrongFalsely : Prop := shaOfRow.holds Tryd.pinned (OpenSpec.ofChange shaOfWrong)

/-- 'depotlaw01.ShaFolds': WHATEVER THE INPUT: true; the input reads as it did. -/
def shaFoldsSpec : ChangeSpec := { name := "shaFolds", fn := fun _ => fun
  | [d] => { results := [.lit (.bool true)], args := [d] }
  | _ => none }
def shaFoldsRow : OpenClaim := { program := "ytemioilfedpohaadoor", sum := "ab302ce9789434b18e670e0418c6a347c9421ea6a9f5ef723ab3d58299f1cc8f", func := "depot/depotlaw01.ShaFolds", spec := "shaFolds", named := ["depot/sha.start", "depot/sha.rounds"], apart := false, laid := [("depot/sha.rounds", laid_depot_sha_rounds), ("depot/sha.start", laid_depot_sha_start)] }
def ShaFoldsSaid : Prop := shaFoldsRow.holds Tryd.pinned (OpenSpec.ofChange shaFoldsSpec)

/-- ITS FALSE NEIGHBOUR: 'it returns false'. Refute it at one input. -/
def shaFoldsWrong : ChangeSpec := { name := "shaFolds", fn := fun _ => fun
  | [d] => { results := [.lit (.bool false)], args := [d] }
  | _ => none }
def ShaFoldsWrongFalsely : Prop := shaFoldsRow.holds Tryd.pinned (OpenSpec.ofChange shaFoldsWrong)

/-- 'depotlaw01.ShaForks': WHATEVER THE INPUT: true; the input reads as it did. -/
def shaForksSpec : ChangeSpec := { name := "shaForks", fn := fun _ => fun
  | [d1, d2, d3] => { results := [.lit (.bool true)], args := [d1, d2, d3] }
  | _ => none }
def shaForksRow : OpenClaim := { program := "ytemioilfedpohaadoor", sum := "ab302ce9789434b18e670e0418c6a347c9421ea6a9f5ef723ab3d58299f1cc8f", func := "depot/depotlaw01.ShaForks", spec := "shaForks", named := ["depot/sha.start", "depot/sha.rounds"], apart := false, laid := [("depot/sha.rounds", laid_depot_sha_rounds), ("depot/sha.start", laid_depot_sha_start)] }
def ShaForksSaid : Prop := shaForksRow.holds Tryd.pinned (OpenSpec.ofChange shaForksSpec)

/-- ITS FALSE NEIGHBOUR: 'it returns false'. Refute it at one input. -/
def shaForksWrong : ChangeSpec := { name := "shaForks", fn := fun _ => fun
  | [d1, d2, d3] => { results := [.lit (.bool false)], args := [d1, d2, d3] }
  | _ => none }
def ShaForksWrongFalsely : Prop := shaForksRow.holds Tryd.pinned (OpenSpec.ofChange shaForksWrong)

/-- 'depotlaw01.ShaKeeps': WHATEVER THE INPUT: true; the input reads as it did. -/
def shaKeepsSpec : ChangeSpec := { name := "shaKeeps", fn := fun _ => fun
  | [d1, d2] => { results := [.lit (.bool true)], args := [d1, d2] }
  | _ => none }
def shaKeepsRow : OpenClaim := { program := "ytemioilfedpohaadoor", sum := "ab302ce9789434b18e670e0418c6a347c9421ea6a9f5ef723ab3d58299f1cc8f", func := "depot/depotlaw01.ShaKeeps", spec := "shaKeeps", named := ["depot/sha.start", "depot/sha.rounds"], apart := false, laid := [("depot/sha.rounds", laid_depot_sha_rounds), ("depot/sha.start", laid_depot_sha_start)] }
def ShaKeepsSaid : Prop := shaKeepsRow.holds Tryd.pinned (OpenSpec.ofChange shaKeepsSpec)

/-- ITS FALSE NEIGHBOUR: 'it returns false'. Refute it at one input. -/
def shaKeepsWrong : ChangeSpec := { name := "shaKeeps", fn := fun _ => fun
  | [d1, d2] => { results := [.lit (.bool false)], args := [d1, d2] }
  | _ => none }
def ShaKeepsWrongFalsely : Prop := shaKeepsRow.holds Tryd.pinned (OpenSpec.ofChange shaKeepsWrong)

/-- 'depotlaw01.ShaPlays': WHATEVER THE INPUT: true; the input reads as it did. -/
def shaPlaysSpec : ChangeSpec := { name := "shaPlays", fn := fun _ => fun
  | [d] => { results := [.lit (.bool true)], args := [d] }
  | _ => none }
def shaPlaysRow : OpenClaim := { program := "ytemioilfedpohaadoor", sum := "ab302ce9789434b18e670e0418c6a347c9421ea6a9f5ef723ab3d58299f1cc8f", func := "depot/depotlaw01.ShaPlays", spec := "shaPlays", named := ["depot/sha.start", "depot/sha.rounds"], apart := false, laid := [("depot/sha.rounds", laid_depot_sha_rounds), ("depot/sha.start", laid_depot_sha_start)] }
def ShaPlaysSaid : Prop := shaPlaysRow.holds Tryd.pinned (OpenSpec.ofChange shaPlaysSpec)

/-- ITS FALSE NEIGHBOUR: 'it returns false'. Refute it at one input. -/
def shaPlaysWrong : ChangeSpec := { name := "shaPlays", fn := fun _ => fun
  | [d] => { results := [.lit (.bool false)], args := [d] }
  | _ => none }
def ShaPlaysWrongFalsely : Prop := shaPlaysRow.holds Tryd.pinned (OpenSpec.ofChange shaPlaysWrong)

/-- 'depotlaw01.ShaCuts': WHATEVER THE INPUT: true; the input reads as it did. -/
def shaCutsSpec : ChangeSpec := { name := "shaCuts", fn := fun _ => fun
  | [d1, d2] => { results := [.lit (.bool true)], args := [d1, d2] }
  | _ => none }
def shaCutsRow : OpenClaim := { program := "ytemioilfedpohaadoor", sum := "ab302ce9789434b18e670e0418c6a347c9421ea6a9f5ef723ab3d58299f1cc8f", func := "depot/depotlaw01.ShaCuts", spec := "shaCuts", named := ["depot/sha.start", "depot/sha.rounds"], apart := false, laid := [("depot/sha.rounds", laid_depot_sha_rounds), ("depot/sha.start", laid_depot_sha_start)] }
def ShaCutsSaid : Prop := shaCutsRow.holds Tryd.pinned (OpenSpec.ofChange shaCutsSpec)

/-- ITS FALSE NEIGHBOUR: 'it returns false'. Refute it at one input. -/
def shaCutsWrong : ChangeSpec := { name := "shaCuts", fn := fun _ => fun
  | [d1, d2] => { results := [.lit (.bool false)], args := [d1, d2] }
  | _ => none }
def ShaCutsWrongFalsely : Prop := shaCutsRow.holds Tryd.pinned (OpenSpec.ofChange shaCutsWrong)

/- THE SECOND FORM. 'bulk': how many values and letters a reading holds, each counted each time it is reached (what is shared counts as often as it is met; a slice's spare places count too). A statement '..UptoSaid' is the law's where the arguments, and the package variables that the reading takes, are together of bulk at most 1048576: NARROWER than '..Said'. Prove '..Said' where nothing that the law and all that it calls make is longer than what came in: it says more and counts as full. Else prove '..UptoSaid'. A law counts once. -/
mutual
def uptoBulk {H : Type} : DataW H → Nat
  | .lit (.string bytes) => bytes.length + 1
  | .lit _ => 1
  | .nil => 1
  | .ptr d => uptoBulk d + 1
  | .slice elems spare => uptoBulkAll elems + uptoBulkAll spare + 1
  | .agg parts => uptoBulkAll parts + 1
  | .iface _ d => uptoBulk d + 1
  | .map entries => uptoBulkEntries entries + 1
  | .held _ => 1
def uptoBulkAll {H : Type} : List (DataW H) → Nat
  | [] => 0
  | d :: r => uptoBulk d + uptoBulkAll r
def uptoBulkEntries {H : Type} : List (Lit × DataW H) → Nat
  | [] => 0
  | x :: r => uptoBulkEntry x + uptoBulkEntries r
def uptoBulkEntry {H : Type} : Lit × DataW H → Nat
  | (.string bytes, d) => bytes.length + uptoBulk d + 1
  | (_, d) => uptoBulk d + 1
 end
def uptoSmall : (H : Type) → List (DataW H) → Bool := fun _ ds => decide (uptoBulkAll ds ≤ 1048576)
def OpenSpec.upto (s : _root_.Go.ChangeSpec) : _root_.Go.OpenSpec := { _root_.Go.OpenSpec.ofChange s with cond := some uptoSmall }

/-- 'depotlaw01.ShaBlocks', WHERE WHAT IT READS IS OF BULK AT MOST 1048576: true; the input reads as it did. -/
def shaBlocksUptoRow : OpenClaim := { program := "ytemioilfedpohaadoor", sum := "ab302ce9789434b18e670e0418c6a347c9421ea6a9f5ef723ab3d58299f1cc8f", func := "depot/depotlaw01.ShaBlocks", spec := "shaBlocks", named := ["depot/sha.rounds"], apart := false, laid := [("depot/sha.rounds", laid_depot_sha_rounds)], narrowed := true }
def ShaBlocksUptoSaid : Prop := shaBlocksUptoRow.holds Tryd.pinned (OpenSpec.upto shaBlocksSpec)

/-- 'depotlaw01.ShaRoots', WHERE WHAT IT READS IS OF BULK AT MOST 1048576: true; the input reads as it did. -/
def shaRootsUptoRow : OpenClaim := { program := "ytemioilfedpohaadoor", sum := "ab302ce9789434b18e670e0418c6a347c9421ea6a9f5ef723ab3d58299f1cc8f", func := "depot/depotlaw01.ShaRoots", spec := "shaRoots", named := ["depot/sha.rounds"], apart := false, laid := [("depot/sha.rounds", laid_depot_sha_rounds)], narrowed := true }
def ShaRootsUptoSaid : Prop := shaRootsUptoRow.holds Tryd.pinned (OpenSpec.upto shaRootsSpec)

/-- 'depotlaw01.ShaOf', WHERE WHAT IT READS IS OF BULK AT MOST 1048576: true; the input reads as it did. -/
def shaOfUptoRow : OpenClaim := { program := "ytemioilfedpohaadoor", sum := "ab302ce9789434b18e670e0418c6a347c9421ea6a9f5ef723ab3d58299f1cc8f", func := "depot/depotlaw01.ShaOf", spec := "shaOf", named := ["depot/sha.start", "depot/sha.rounds"], apart := false, laid := [("depot/sha.rounds", laid_depot_sha_rounds), ("depot/sha.start", laid_depot_sha_start)], narrowed := true }
def ShaOfUptoSaid : Prop := shaOfUptoRow.holds Tryd.pinned (OpenSpec.upto shaOfSpec)

/-- 'depotlaw01.ShaFolds', WHERE WHAT IT READS IS OF BULK AT MOST 1048576: true; the input reads as it did. -/
def shaFoldsUptoRow : OpenClaim := { program := "ytemioilfedpohaadoor", sum := "ab302ce9789434b18e670e0418c6a347c9421ea6a9f5ef723ab3d58299f1cc8f", func := "depot/depotlaw01.ShaFolds", spec := "shaFolds", named := ["depot/sha.start", "depot/sha.rounds"], apart := false, laid := [("depot/sha.rounds", laid_depot_sha_rounds), ("depot/sha.start", laid_depot_sha_start)], narrowed := true }
def ShaFoldsUptoSaid : Prop := shaFoldsUptoRow.holds Tryd.pinned (OpenSpec.upto shaFoldsSpec)

/-- 'depotlaw01.ShaForks', WHERE WHAT IT READS IS OF BULK AT MOST 1048576: true; the input reads as it did. -/
def shaForksUptoRow : OpenClaim := { program := "ytemioilfedpohaadoor", sum := "ab302ce9789434b18e670e0418c6a347c9421ea6a9f5ef723ab3d58299f1cc8f", func := "depot/depotlaw01.ShaForks", spec := "shaForks", named := ["depot/sha.start", "depot/sha.rounds"], apart := false, laid := [("depot/sha.rounds", laid_depot_sha_rounds), ("depot/sha.start", laid_depot_sha_start)], narrowed := true }
def ShaForksUptoSaid : Prop := shaForksUptoRow.holds Tryd.pinned (OpenSpec.upto shaForksSpec)

/-- 'depotlaw01.ShaKeeps', WHERE WHAT IT READS IS OF BULK AT MOST 1048576: true; the input reads as it did. -/
def shaKeepsUptoRow : OpenClaim := { program := "ytemioilfedpohaadoor", sum := "ab302ce9789434b18e670e0418c6a347c9421ea6a9f5ef723ab3d58299f1cc8f", func := "depot/depotlaw01.ShaKeeps", spec := "shaKeeps", named := ["depot/sha.start", "depot/sha.rounds"], apart := false, laid := [("depot/sha.rounds", laid_depot_sha_rounds), ("depot/sha.start", laid_depot_sha_start)], narrowed := true }
def ShaKeepsUptoSaid : Prop := shaKeepsUptoRow.holds Tryd.pinned (OpenSpec.upto shaKeepsSpec)

/-- 'depotlaw01.ShaPlays', WHERE WHAT IT READS IS OF BULK AT MOST 1048576: true; the input reads as it did. -/
def shaPlaysUptoRow : OpenClaim := { program := "ytemioilfedpohaadoor", sum := "ab302ce9789434b18e670e0418c6a347c9421ea6a9f5ef723ab3d58299f1cc8f", func := "depot/depotlaw01.ShaPlays", spec := "shaPlays", named := ["depot/sha.start", "depot/sha.rounds"], apart := false, laid := [("depot/sha.rounds", laid_depot_sha_rounds), ("depot/sha.start", laid_depot_sha_start)], narrowed := true }
def ShaPlaysUptoSaid : Prop := shaPlaysUptoRow.holds Tryd.pinned (OpenSpec.upto shaPlaysSpec)

/-- 'depotlaw01.ShaCuts', WHERE WHAT IT READS IS OF BULK AT MOST 1048576: true; the input reads as it did. -/
def shaCutsUptoRow : OpenClaim := { program := "ytemioilfedpohaadoor", sum := "ab302ce9789434b18e670e0418c6a347c9421ea6a9f5ef723ab3d58299f1cc8f", func := "depot/depotlaw01.ShaCuts", spec := "shaCuts", named := ["depot/sha.start", "depot/sha.rounds"], apart := false, laid := [("depot/sha.rounds", laid_depot_sha_rounds), ("depot/sha.start", laid_depot_sha_start)], narrowed := true }
def ShaCutsUptoSaid : Prop := shaCutsUptoRow.holds Tryd.pinned (OpenSpec.upto shaCutsSpec)

end Rows
end Go.Proofs.YtemioilfedpohaaDoor
