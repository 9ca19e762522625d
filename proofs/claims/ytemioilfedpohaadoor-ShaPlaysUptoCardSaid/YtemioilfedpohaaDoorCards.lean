/-
  DERIVED. GIVEN WITH THE SEED: THE CARDS: each row of YtemioilfedpohaaDoorRows.lean that lists a variable, with what it lists TIED to the program's text (the seventh form; the later family's looks); each row that meets fmt, with fmt's text TOLD by the authors' own Lean function (tested against real Go, not proved from fmt's source: count such statements apart). THE CARD IS WHAT COUNTS. Prove the row's statement (the work); the ties are given (YtemioilfedpohaaDoorTie.lean); close each card by the builder's one call (the guide's Derived/Test/ToyasCard.lean, 'card_holds'). Laid BY PROGRAM, IN A SANDBOX (cutbox-door.mjs). By AI agents, Wed Nov 11 2026. No macro, syntax, notation, axiom, sorry.
-/
import Derived.Test.YtemioilfedpohaaDoorRows
import GoSem.ClaimSeven
namespace Go.Proofs.YtemioilfedpohaaDoor
namespace Rows

/-- THE TIED CARD OF 'depotlaw01.ShaBlocks'. -/
def shaBlocksCard : Claim7 := { stood := { row := shaBlocksRow, standIns := [], harness := (true, "f4920ecfd9cb2a07056ef2e3a7d8d3f36369c826dde1db64f24f921180b101d3"), looks := false }, kinds := [], alts := [], laidByText := true, laidKinds := [.data], laidTests := true, laidLooks := .later }
def ShaBlocksCardSaid : Prop := Claim7.holds Tryd.pinned (.plain (OpenSpec.ofChange shaBlocksSpec)) shaBlocksCard

/-- THE TIED CARD OF 'depotlaw01.ShaRoots'. -/
def shaRootsCard : Claim7 := { stood := { row := shaRootsRow, standIns := [], harness := (true, "f4920ecfd9cb2a07056ef2e3a7d8d3f36369c826dde1db64f24f921180b101d3"), looks := false }, kinds := [], alts := [], laidByText := true, laidKinds := [.data], laidTests := true, laidLooks := .later }
def ShaRootsCardSaid : Prop := Claim7.holds Tryd.pinned (.plain (OpenSpec.ofChange shaRootsSpec)) shaRootsCard

/-- THE TIED CARD OF 'depotlaw01.ShaOf'. -/
def shaOfCard : Claim7 := { stood := { row := shaOfRow, standIns := [], harness := (true, "f4920ecfd9cb2a07056ef2e3a7d8d3f36369c826dde1db64f24f921180b101d3"), looks := false }, kinds := [], alts := [], laidByText := true, laidKinds := [.data, .data], laidTests := true, laidLooks := .later }
def ShaOfCardSaid : Prop := Claim7.holds Tryd.pinned (.plain (OpenSpec.ofChange shaOfSpec)) shaOfCard

/-- THE TIED CARD OF 'depotlaw01.ShaFolds'. -/
def shaFoldsCard : Claim7 := { stood := { row := shaFoldsRow, standIns := [], harness := (true, "f4920ecfd9cb2a07056ef2e3a7d8d3f36369c826dde1db64f24f921180b101d3"), looks := false }, kinds := [], alts := [], laidByText := true, laidKinds := [.data, .data], laidTests := true, laidLooks := .later }
def ShaFoldsCardSaid : Prop := Claim7.holds Tryd.pinned (.plain (OpenSpec.ofChange shaFoldsSpec)) shaFoldsCard

/-- THE TIED CARD OF 'depotlaw01.ShaForks'. -/
def shaForksCard : Claim7 := { stood := { row := shaForksRow, standIns := [], harness := (true, "f4920ecfd9cb2a07056ef2e3a7d8d3f36369c826dde1db64f24f921180b101d3"), looks := false }, kinds := [], alts := [], laidByText := true, laidKinds := [.data, .data], laidTests := true, laidLooks := .later }
def ShaForksCardSaid : Prop := Claim7.holds Tryd.pinned (.plain (OpenSpec.ofChange shaForksSpec)) shaForksCard

/-- THE TIED CARD OF 'depotlaw01.ShaKeeps'. -/
def shaKeepsCard : Claim7 := { stood := { row := shaKeepsRow, standIns := [], harness := (true, "f4920ecfd9cb2a07056ef2e3a7d8d3f36369c826dde1db64f24f921180b101d3"), looks := false }, kinds := [], alts := [], laidByText := true, laidKinds := [.data, .data], laidTests := true, laidLooks := .later }
def ShaKeepsCardSaid : Prop := Claim7.holds Tryd.pinned (.plain (OpenSpec.ofChange shaKeepsSpec)) shaKeepsCard

/-- THE TIED CARD OF 'depotlaw01.ShaPlays'. -/
def shaPlaysCard : Claim7 := { stood := { row := shaPlaysRow, standIns := [], harness := (true, "f4920ecfd9cb2a07056ef2e3a7d8d3f36369c826dde1db64f24f921180b101d3"), looks := false }, kinds := [], alts := [], laidByText := true, laidKinds := [.data, .data], laidTests := true, laidLooks := .later }
def ShaPlaysCardSaid : Prop := Claim7.holds Tryd.pinned (.plain (OpenSpec.ofChange shaPlaysSpec)) shaPlaysCard

/-- THE TIED CARD OF 'depotlaw01.ShaCuts'. -/
def shaCutsCard : Claim7 := { stood := { row := shaCutsRow, standIns := [], harness := (true, "f4920ecfd9cb2a07056ef2e3a7d8d3f36369c826dde1db64f24f921180b101d3"), looks := false }, kinds := [], alts := [], laidByText := true, laidKinds := [.data, .data], laidTests := true, laidLooks := .later }
def ShaCutsCardSaid : Prop := Claim7.holds Tryd.pinned (.plain (OpenSpec.ofChange shaCutsSpec)) shaCutsCard

/-- THE SECOND FORM's CARD OF 'depotlaw01.ShaBlocks'. -/
def shaBlocksUptoCard : Claim7 := { stood := { row := shaBlocksUptoRow, standIns := [], harness := (true, "f4920ecfd9cb2a07056ef2e3a7d8d3f36369c826dde1db64f24f921180b101d3"), looks := false }, kinds := [], alts := [], laidByText := true, laidKinds := [.data], laidTests := true, laidLooks := .later }
def ShaBlocksUptoCardSaid : Prop := Claim7.holds Tryd.pinned (.plain (OpenSpec.upto shaBlocksSpec)) shaBlocksUptoCard

/-- THE SECOND FORM's CARD OF 'depotlaw01.ShaRoots'. -/
def shaRootsUptoCard : Claim7 := { stood := { row := shaRootsUptoRow, standIns := [], harness := (true, "f4920ecfd9cb2a07056ef2e3a7d8d3f36369c826dde1db64f24f921180b101d3"), looks := false }, kinds := [], alts := [], laidByText := true, laidKinds := [.data], laidTests := true, laidLooks := .later }
def ShaRootsUptoCardSaid : Prop := Claim7.holds Tryd.pinned (.plain (OpenSpec.upto shaRootsSpec)) shaRootsUptoCard

/-- THE SECOND FORM's CARD OF 'depotlaw01.ShaOf'. -/
def shaOfUptoCard : Claim7 := { stood := { row := shaOfUptoRow, standIns := [], harness := (true, "f4920ecfd9cb2a07056ef2e3a7d8d3f36369c826dde1db64f24f921180b101d3"), looks := false }, kinds := [], alts := [], laidByText := true, laidKinds := [.data, .data], laidTests := true, laidLooks := .later }
def ShaOfUptoCardSaid : Prop := Claim7.holds Tryd.pinned (.plain (OpenSpec.upto shaOfSpec)) shaOfUptoCard

/-- THE SECOND FORM's CARD OF 'depotlaw01.ShaFolds'. -/
def shaFoldsUptoCard : Claim7 := { stood := { row := shaFoldsUptoRow, standIns := [], harness := (true, "f4920ecfd9cb2a07056ef2e3a7d8d3f36369c826dde1db64f24f921180b101d3"), looks := false }, kinds := [], alts := [], laidByText := true, laidKinds := [.data, .data], laidTests := true, laidLooks := .later }
def ShaFoldsUptoCardSaid : Prop := Claim7.holds Tryd.pinned (.plain (OpenSpec.upto shaFoldsSpec)) shaFoldsUptoCard

/-- THE SECOND FORM's CARD OF 'depotlaw01.ShaForks'. -/
def shaForksUptoCard : Claim7 := { stood := { row := shaForksUptoRow, standIns := [], harness := (true, "f4920ecfd9cb2a07056ef2e3a7d8d3f36369c826dde1db64f24f921180b101d3"), looks := false }, kinds := [], alts := [], laidByText := true, laidKinds := [.data, .data], laidTests := true, laidLooks := .later }
def ShaForksUptoCardSaid : Prop := Claim7.holds Tryd.pinned (.plain (OpenSpec.upto shaForksSpec)) shaForksUptoCard

/-- THE SECOND FORM's CARD OF 'depotlaw01.ShaKeeps'. -/
def shaKeepsUptoCard : Claim7 := { stood := { row := shaKeepsUptoRow, standIns := [], harness := (true, "f4920ecfd9cb2a07056ef2e3a7d8d3f36369c826dde1db64f24f921180b101d3"), looks := false }, kinds := [], alts := [], laidByText := true, laidKinds := [.data, .data], laidTests := true, laidLooks := .later }
def ShaKeepsUptoCardSaid : Prop := Claim7.holds Tryd.pinned (.plain (OpenSpec.upto shaKeepsSpec)) shaKeepsUptoCard

/-- THE SECOND FORM's CARD OF 'depotlaw01.ShaPlays'. -/
def shaPlaysUptoCard : Claim7 := { stood := { row := shaPlaysUptoRow, standIns := [], harness := (true, "f4920ecfd9cb2a07056ef2e3a7d8d3f36369c826dde1db64f24f921180b101d3"), looks := false }, kinds := [], alts := [], laidByText := true, laidKinds := [.data, .data], laidTests := true, laidLooks := .later }
def ShaPlaysUptoCardSaid : Prop := Claim7.holds Tryd.pinned (.plain (OpenSpec.upto shaPlaysSpec)) shaPlaysUptoCard

/-- THE SECOND FORM's CARD OF 'depotlaw01.ShaCuts'. -/
def shaCutsUptoCard : Claim7 := { stood := { row := shaCutsUptoRow, standIns := [], harness := (true, "f4920ecfd9cb2a07056ef2e3a7d8d3f36369c826dde1db64f24f921180b101d3"), looks := false }, kinds := [], alts := [], laidByText := true, laidKinds := [.data, .data], laidTests := true, laidLooks := .later }
def ShaCutsUptoCardSaid : Prop := Claim7.holds Tryd.pinned (.plain (OpenSpec.upto shaCutsSpec)) shaCutsUptoCard
end Rows
end Go.Proofs.YtemioilfedpohaaDoor
