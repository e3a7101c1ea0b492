/-
  DERIVED. GIVEN WITH THE SEED: THE CARDS: each row of YtkhjenddapaejaaGreatDoorRows.lean that lists a variable, with what it lists TIED to the program's text (the seventh form; the later family's looks); each row that meets fmt, with fmt's text TOLD by the authors' own Lean function (tested against real Go, not proved from fmt's source: count such statements apart). THE CARD IS WHAT COUNTS. Prove the row's statement (the work); the ties are given (YtkhjenddapaejaaGreatDoorTie.lean); close each card by the builder's one call (the guide's Derived/Test/ToyasCard.lean, 'card_holds'). Laid BY PROGRAM, IN A SANDBOX (cutbox-door.mjs). By AI agents, Wed Nov 11 2026. No macro, syntax, notation, axiom, sorry.
-/
import Derived.Test.YtkhjenddapaejaaGreatDoorRows
import GoSem.ClaimSeven
namespace Go.Proofs.YtkhjenddapaejaaGreatDoor
namespace Rows

/-- THE TIED CARD OF 'baggagelaw11.PlantSteps'. -/
def plantStepsCard : Claim7 := { stood := { row := plantStepsRow, standIns := [], harness := (true, "261926b1cc7e105bd5f690b8e52d7453fbbe05af0b5f8aad728093eb60b1c156"), looks := false }, kinds := [], alts := [], laidByText := true, laidKinds := [.data, .data, .data], laidTests := true, laidLooks := .later }
def PlantStepsCardSaid : Prop := Claim7.holds Tryz.pinned (.plain (OpenSpec.ofChange plantStepsSpec)) plantStepsCard

/-- THE TIED CARD OF 'baggagelaw11.PlantConserves'. -/
def plantConservesCard : Claim7 := { stood := { row := plantConservesRow, standIns := [], harness := (true, "261926b1cc7e105bd5f690b8e52d7453fbbe05af0b5f8aad728093eb60b1c156"), looks := false }, kinds := [], alts := [], laidByText := true, laidKinds := [.data, .data, .data], laidTests := true, laidLooks := .later }
def PlantConservesCardSaid : Prop := Claim7.holds Tryz.pinned (.plain (OpenSpec.ofChange plantConservesSpec)) plantConservesCard

/-- THE TIED CARD OF 'baggagelaw11.PlantLoops'. -/
def plantLoopsCard : Claim7 := { stood := { row := plantLoopsRow, standIns := [], harness := (true, "261926b1cc7e105bd5f690b8e52d7453fbbe05af0b5f8aad728093eb60b1c156"), looks := false }, kinds := [], alts := [], laidByText := true, laidKinds := [.data, .data, .data], laidTests := true, laidLooks := .later }
def PlantLoopsCardSaid : Prop := Claim7.holds Tryz.pinned (.plain (OpenSpec.ofChange plantLoopsSpec)) plantLoopsCard

/-- THE TIED CARD OF 'baggagelaw11.PlantDrains'. -/
def plantDrainsCard : Claim7 := { stood := { row := plantDrainsRow, standIns := [], harness := (true, "261926b1cc7e105bd5f690b8e52d7453fbbe05af0b5f8aad728093eb60b1c156"), looks := false }, kinds := [], alts := [], laidByText := true, laidKinds := [.data, .data, .data], laidTests := true, laidLooks := .later }
def PlantDrainsCardSaid : Prop := Claim7.holds Tryz.pinned (.plain (OpenSpec.ofChange plantDrainsSpec)) plantDrainsCard

/-- THE TIED CARD OF 'baggagelaw11.PlantFIFO'. -/
def plantFIFOCard : Claim7 := { stood := { row := plantFIFORow, standIns := [], harness := (true, "261926b1cc7e105bd5f690b8e52d7453fbbe05af0b5f8aad728093eb60b1c156"), looks := false }, kinds := [], alts := [], laidByText := true, laidKinds := [.data, .data, .data], laidTests := true, laidLooks := .later }
def PlantFIFOCardSaid : Prop := Claim7.holds Tryz.pinned (.plain (OpenSpec.ofChange plantFIFOSpec)) plantFIFOCard

/-- THE TIED CARD OF 'baggagelaw11.PlantCommutes'. -/
def plantCommutesCard : Claim7 := { stood := { row := plantCommutesRow, standIns := [], harness := (true, "261926b1cc7e105bd5f690b8e52d7453fbbe05af0b5f8aad728093eb60b1c156"), looks := false }, kinds := [], alts := [], laidByText := true, laidKinds := [.data, .data, .data], laidTests := true, laidLooks := .later }
def PlantCommutesCardSaid : Prop := Claim7.holds Tryz.pinned (.plain (OpenSpec.ofChange plantCommutesSpec)) plantCommutesCard

/-- THE TIED CARD OF 'baggagelaw11.PlantEnters'. -/
def plantEntersCard : Claim7 := { stood := { row := plantEntersRow, standIns := [], harness := (true, "261926b1cc7e105bd5f690b8e52d7453fbbe05af0b5f8aad728093eb60b1c156"), looks := false }, kinds := [], alts := [], laidByText := true, laidKinds := [.data, .data, .data], laidTests := true, laidLooks := .later }
def PlantEntersCardSaid : Prop := Claim7.holds Tryz.pinned (.plain (OpenSpec.ofChange plantEntersSpec)) plantEntersCard

/-- THE SECOND FORM's CARD OF 'baggagelaw11.PlantSteps'. -/
def plantStepsUptoCard : Claim7 := { stood := { row := plantStepsUptoRow, standIns := [], harness := (true, "261926b1cc7e105bd5f690b8e52d7453fbbe05af0b5f8aad728093eb60b1c156"), looks := false }, kinds := [], alts := [], laidByText := true, laidKinds := [.data, .data, .data], laidTests := true, laidLooks := .later }
def PlantStepsUptoCardSaid : Prop := Claim7.holds Tryz.pinned (.plain (OpenSpec.upto plantStepsSpec)) plantStepsUptoCard

/-- THE SECOND FORM's CARD OF 'baggagelaw11.PlantConserves'. -/
def plantConservesUptoCard : Claim7 := { stood := { row := plantConservesUptoRow, standIns := [], harness := (true, "261926b1cc7e105bd5f690b8e52d7453fbbe05af0b5f8aad728093eb60b1c156"), looks := false }, kinds := [], alts := [], laidByText := true, laidKinds := [.data, .data, .data], laidTests := true, laidLooks := .later }
def PlantConservesUptoCardSaid : Prop := Claim7.holds Tryz.pinned (.plain (OpenSpec.upto plantConservesSpec)) plantConservesUptoCard

/-- THE SECOND FORM's CARD OF 'baggagelaw11.PlantLoops'. -/
def plantLoopsUptoCard : Claim7 := { stood := { row := plantLoopsUptoRow, standIns := [], harness := (true, "261926b1cc7e105bd5f690b8e52d7453fbbe05af0b5f8aad728093eb60b1c156"), looks := false }, kinds := [], alts := [], laidByText := true, laidKinds := [.data, .data, .data], laidTests := true, laidLooks := .later }
def PlantLoopsUptoCardSaid : Prop := Claim7.holds Tryz.pinned (.plain (OpenSpec.upto plantLoopsSpec)) plantLoopsUptoCard

/-- THE SECOND FORM's CARD OF 'baggagelaw11.PlantDrains'. -/
def plantDrainsUptoCard : Claim7 := { stood := { row := plantDrainsUptoRow, standIns := [], harness := (true, "261926b1cc7e105bd5f690b8e52d7453fbbe05af0b5f8aad728093eb60b1c156"), looks := false }, kinds := [], alts := [], laidByText := true, laidKinds := [.data, .data, .data], laidTests := true, laidLooks := .later }
def PlantDrainsUptoCardSaid : Prop := Claim7.holds Tryz.pinned (.plain (OpenSpec.upto plantDrainsSpec)) plantDrainsUptoCard

/-- THE SECOND FORM's CARD OF 'baggagelaw11.PlantFIFO'. -/
def plantFIFOUptoCard : Claim7 := { stood := { row := plantFIFOUptoRow, standIns := [], harness := (true, "261926b1cc7e105bd5f690b8e52d7453fbbe05af0b5f8aad728093eb60b1c156"), looks := false }, kinds := [], alts := [], laidByText := true, laidKinds := [.data, .data, .data], laidTests := true, laidLooks := .later }
def PlantFIFOUptoCardSaid : Prop := Claim7.holds Tryz.pinned (.plain (OpenSpec.upto plantFIFOSpec)) plantFIFOUptoCard

/-- THE SECOND FORM's CARD OF 'baggagelaw11.PlantCommutes'. -/
def plantCommutesUptoCard : Claim7 := { stood := { row := plantCommutesUptoRow, standIns := [], harness := (true, "261926b1cc7e105bd5f690b8e52d7453fbbe05af0b5f8aad728093eb60b1c156"), looks := false }, kinds := [], alts := [], laidByText := true, laidKinds := [.data, .data, .data], laidTests := true, laidLooks := .later }
def PlantCommutesUptoCardSaid : Prop := Claim7.holds Tryz.pinned (.plain (OpenSpec.upto plantCommutesSpec)) plantCommutesUptoCard

/-- THE SECOND FORM's CARD OF 'baggagelaw11.PlantEnters'. -/
def plantEntersUptoCard : Claim7 := { stood := { row := plantEntersUptoRow, standIns := [], harness := (true, "261926b1cc7e105bd5f690b8e52d7453fbbe05af0b5f8aad728093eb60b1c156"), looks := false }, kinds := [], alts := [], laidByText := true, laidKinds := [.data, .data, .data], laidTests := true, laidLooks := .later }
def PlantEntersUptoCardSaid : Prop := Claim7.holds Tryz.pinned (.plain (OpenSpec.upto plantEntersSpec)) plantEntersUptoCard
end Rows
end Go.Proofs.YtkhjenddapaejaaGreatDoor
