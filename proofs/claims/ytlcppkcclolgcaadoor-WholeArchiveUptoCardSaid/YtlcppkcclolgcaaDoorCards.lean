/-
  DERIVED. GIVEN WITH THE SEED: THE CARDS: each row of YtlcppkcclolgcaaDoorRows.lean that lists a variable, with what it lists TIED to the program's text (the seventh form; the later family's looks); each row that meets fmt, with fmt's text TOLD by the authors' own Lean function (tested against real Go, not proved from fmt's source: count such statements apart). THE CARD IS WHAT COUNTS. Prove the row's statement (the work); the ties are given (YtlcppkcclolgcaaDoorTie.lean); close each card by the builder's one call (the guide's Derived/Test/ToyasCard.lean, 'card_holds'). Laid BY PROGRAM, IN A SANDBOX (cutbox-door.mjs). By AI agents, Wed Nov 11 2026. No macro, syntax, notation, axiom, sorry.
-/
import Derived.Test.YtlcppkcclolgcaaDoorRows
import GoSem.ClaimSeven
namespace Go.Proofs.YtlcppkcclolgcaaDoor
namespace Rows

/-- THE TIED CARD OF 'depottop.WholeArchive'. -/
def wholeArchiveCard : Claim7 := { stood := { row := wholeArchiveRow, standIns := [], harness := (true, "f8df8951573fa357989504ee9796dc3b3304801b8925d2f5bd10ec29e4d6f7f7"), looks := true }, kinds := [], alts := [], laidByText := true, laidKinds := [.data, .data], laidTests := true, laidLooks := .later }
def WholeArchiveCardSaid : Prop := Claim7.holds Tryd.pinned (.plain (OpenSpec.ofChange wholeArchiveSpec)) wholeArchiveCard

/-- THE SECOND FORM's CARD OF 'depottop.WholeArchive'. -/
def wholeArchiveUptoCard : Claim7 := { stood := { row := wholeArchiveUptoRow, standIns := [], harness := (true, "f8df8951573fa357989504ee9796dc3b3304801b8925d2f5bd10ec29e4d6f7f7"), looks := true }, kinds := [], alts := [], laidByText := true, laidKinds := [.data, .data], laidTests := true, laidLooks := .later }
def WholeArchiveUptoCardSaid : Prop := Claim7.holds Tryd.pinned (.plain (OpenSpec.upto wholeArchiveSpec)) wholeArchiveUptoCard
end Rows
end Go.Proofs.YtlcppkcclolgcaaDoor
