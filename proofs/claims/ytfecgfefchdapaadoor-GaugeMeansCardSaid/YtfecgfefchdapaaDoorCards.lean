/-
  DERIVED. GIVEN WITH THE SEED: THE CARDS: each row of YtfecgfefchdapaaDoorRows.lean that lists a variable, with what it lists TIED to the program's text (the seventh form; the later family's looks); each row that meets fmt, with fmt's text TOLD by the authors' own Lean function (tested against real Go, not proved from fmt's source: count such statements apart). THE CARD IS WHAT COUNTS. Prove the row's statement (the work); the ties are given (YtfecgfefchdapaaDoorTie.lean); close each card by the builder's one call (the guide's Derived/Test/ToyasCard.lean, 'card_holds'). Laid BY PROGRAM, IN A SANDBOX (cutbox-door.mjs). By AI agents, Wed Nov 11 2026. No macro, syntax, notation, axiom, sorry.
-/
import Derived.Test.YtfecgfefchdapaaDoorRows
import GoSem.ClaimSeven
namespace Go.Proofs.YtfecgfefchdapaaDoor
namespace Rows

/-- THE TIED CARD OF 'depotlaw04.GaugeParts'. -/
def gaugePartsCard : Claim7 := { stood := { row := gaugePartsRow, standIns := [], harness := (true, "6c892782ac2c3669e027251efc40ad97936259a7d222e09d3fc6a7ab6e0cb8ea"), looks := false }, kinds := [], alts := [], laidByText := true, laidKinds := [.data], laidTests := true, laidLooks := .later }
def GaugePartsCardSaid : Prop := Claim7.holds Tryd.pinned (.plain (OpenSpec.ofChange gaugePartsSpec)) gaugePartsCard

/-- THE TIED CARD OF 'depotlaw04.GaugeMakes'. -/
def gaugeMakesCard : Claim7 := { stood := { row := gaugeMakesRow, standIns := [], harness := (true, "6c892782ac2c3669e027251efc40ad97936259a7d222e09d3fc6a7ab6e0cb8ea"), looks := false }, kinds := [], alts := [], laidByText := true, laidKinds := [.data], laidTests := true, laidLooks := .later }
def GaugeMakesCardSaid : Prop := Claim7.holds Tryd.pinned (.plain (OpenSpec.ofChange gaugeMakesSpec)) gaugeMakesCard

/-- THE TIED CARD OF 'depotlaw04.GaugeBack'. -/
def gaugeBackCard : Claim7 := { stood := { row := gaugeBackRow, standIns := [], harness := (true, "6c892782ac2c3669e027251efc40ad97936259a7d222e09d3fc6a7ab6e0cb8ea"), looks := false }, kinds := [], alts := [], laidByText := true, laidKinds := [.data], laidTests := true, laidLooks := .later }
def GaugeBackCardSaid : Prop := Claim7.holds Tryd.pinned (.plain (OpenSpec.ofChange gaugeBackSpec)) gaugeBackCard

/-- THE TIED CARD OF 'depotlaw04.GaugeTurns'. -/
def gaugeTurnsCard : Claim7 := { stood := { row := gaugeTurnsRow, standIns := [], harness := (true, "6c892782ac2c3669e027251efc40ad97936259a7d222e09d3fc6a7ab6e0cb8ea"), looks := false }, kinds := [], alts := [], laidByText := true, laidKinds := [.data], laidTests := true, laidLooks := .later }
def GaugeTurnsCardSaid : Prop := Claim7.holds Tryd.pinned (.plain (OpenSpec.ofChange gaugeTurnsSpec)) gaugeTurnsCard

/-- THE TIED CARD OF 'depotlaw04.GaugeNear'. -/
def gaugeNearCard : Claim7 := { stood := { row := gaugeNearRow, standIns := [], harness := (true, "6c892782ac2c3669e027251efc40ad97936259a7d222e09d3fc6a7ab6e0cb8ea"), looks := false }, kinds := [], alts := [], laidByText := true, laidKinds := [.data], laidTests := true, laidLooks := .later }
def GaugeNearCardSaid : Prop := Claim7.holds Tryd.pinned (.plain (OpenSpec.ofChange gaugeNearSpec)) gaugeNearCard

/-- THE TIED CARD OF 'depotlaw04.GaugeMeans'. -/
def gaugeMeansCard : Claim7 := { stood := { row := gaugeMeansRow, standIns := [], harness := (true, "6c892782ac2c3669e027251efc40ad97936259a7d222e09d3fc6a7ab6e0cb8ea"), looks := false }, kinds := [], alts := [], laidByText := true, laidKinds := [.data], laidTests := true, laidLooks := .later }
def GaugeMeansCardSaid : Prop := Claim7.holds Tryd.pinned (.plain (OpenSpec.ofChange gaugeMeansSpec)) gaugeMeansCard

/-- THE SECOND FORM's CARD OF 'depotlaw04.GaugeParts'. -/
def gaugePartsUptoCard : Claim7 := { stood := { row := gaugePartsUptoRow, standIns := [], harness := (true, "6c892782ac2c3669e027251efc40ad97936259a7d222e09d3fc6a7ab6e0cb8ea"), looks := false }, kinds := [], alts := [], laidByText := true, laidKinds := [.data], laidTests := true, laidLooks := .later }
def GaugePartsUptoCardSaid : Prop := Claim7.holds Tryd.pinned (.plain (OpenSpec.upto gaugePartsSpec)) gaugePartsUptoCard

/-- THE SECOND FORM's CARD OF 'depotlaw04.GaugeMakes'. -/
def gaugeMakesUptoCard : Claim7 := { stood := { row := gaugeMakesUptoRow, standIns := [], harness := (true, "6c892782ac2c3669e027251efc40ad97936259a7d222e09d3fc6a7ab6e0cb8ea"), looks := false }, kinds := [], alts := [], laidByText := true, laidKinds := [.data], laidTests := true, laidLooks := .later }
def GaugeMakesUptoCardSaid : Prop := Claim7.holds Tryd.pinned (.plain (OpenSpec.upto gaugeMakesSpec)) gaugeMakesUptoCard

/-- THE SECOND FORM's CARD OF 'depotlaw04.GaugeBack'. -/
def gaugeBackUptoCard : Claim7 := { stood := { row := gaugeBackUptoRow, standIns := [], harness := (true, "6c892782ac2c3669e027251efc40ad97936259a7d222e09d3fc6a7ab6e0cb8ea"), looks := false }, kinds := [], alts := [], laidByText := true, laidKinds := [.data], laidTests := true, laidLooks := .later }
def GaugeBackUptoCardSaid : Prop := Claim7.holds Tryd.pinned (.plain (OpenSpec.upto gaugeBackSpec)) gaugeBackUptoCard

/-- THE SECOND FORM's CARD OF 'depotlaw04.GaugeTurns'. -/
def gaugeTurnsUptoCard : Claim7 := { stood := { row := gaugeTurnsUptoRow, standIns := [], harness := (true, "6c892782ac2c3669e027251efc40ad97936259a7d222e09d3fc6a7ab6e0cb8ea"), looks := false }, kinds := [], alts := [], laidByText := true, laidKinds := [.data], laidTests := true, laidLooks := .later }
def GaugeTurnsUptoCardSaid : Prop := Claim7.holds Tryd.pinned (.plain (OpenSpec.upto gaugeTurnsSpec)) gaugeTurnsUptoCard

/-- THE SECOND FORM's CARD OF 'depotlaw04.GaugeNear'. -/
def gaugeNearUptoCard : Claim7 := { stood := { row := gaugeNearUptoRow, standIns := [], harness := (true, "6c892782ac2c3669e027251efc40ad97936259a7d222e09d3fc6a7ab6e0cb8ea"), looks := false }, kinds := [], alts := [], laidByText := true, laidKinds := [.data], laidTests := true, laidLooks := .later }
def GaugeNearUptoCardSaid : Prop := Claim7.holds Tryd.pinned (.plain (OpenSpec.upto gaugeNearSpec)) gaugeNearUptoCard

/-- THE SECOND FORM's CARD OF 'depotlaw04.GaugeMeans'. -/
def gaugeMeansUptoCard : Claim7 := { stood := { row := gaugeMeansUptoRow, standIns := [], harness := (true, "6c892782ac2c3669e027251efc40ad97936259a7d222e09d3fc6a7ab6e0cb8ea"), looks := false }, kinds := [], alts := [], laidByText := true, laidKinds := [.data], laidTests := true, laidLooks := .later }
def GaugeMeansUptoCardSaid : Prop := Claim7.holds Tryd.pinned (.plain (OpenSpec.upto gaugeMeansSpec)) gaugeMeansUptoCard
end Rows
end Go.Proofs.YtfecgfefchdapaaDoor
