/-
  DERIVED. GIVEN WITH THE SEED: THE CARDS: each row of YtfcgkbinohibcaaGreatDoorRows.lean that lists a variable, with what it lists TIED to the program's text (the seventh form; the later family's looks); each row that meets fmt, with fmt's text TOLD by the authors' own Lean function (tested against real Go, not proved from fmt's source: count such statements apart). THE CARD IS WHAT COUNTS. Prove the row's statement (the work); the ties are given (YtfcgkbinohibcaaGreatDoorTie.lean); close each card by the builder's one call (the guide's Derived/Test/ToyasCard.lean, 'card_holds'). Laid BY PROGRAM, IN A SANDBOX (cutbox-door.mjs). By AI agents, Wed Nov 11 2026. No macro, syntax, notation, axiom, sorry.
-/
import Derived.Test.YtfcgkbinohibcaaGreatDoorRows
import GoSem.ClaimSeven
namespace Go.Proofs.YtfcgkbinohibcaaGreatDoor
namespace Rows

/-- THE TIED CARD OF 'baggagelaw13.InferContains'. -/
def inferContainsCard : Claim7 := { stood := { row := inferContainsRow, standIns := [], harness := (true, "20a3c9eb21a4d2202e488ac2df84fe5eeb0f908646fbc97f7975e23e6a7c9db0"), looks := false }, kinds := [], alts := [], laidByText := true, laidKinds := [.data, .data, .data, .data], laidTests := true, laidLooks := .later }
def InferContainsCardSaid : Prop := Claim7.holds Tryz.pinned (.plain (OpenSpec.ofChange inferContainsSpec)) inferContainsCard

/-- THE TIED CARD OF 'baggagelaw13.InferBudgets'. -/
def inferBudgetsCard : Claim7 := { stood := { row := inferBudgetsRow, standIns := [], harness := (true, "20a3c9eb21a4d2202e488ac2df84fe5eeb0f908646fbc97f7975e23e6a7c9db0"), looks := false }, kinds := [], alts := [], laidByText := true, laidKinds := [.data, .data, .data, .data], laidTests := true, laidLooks := .later }
def InferBudgetsCardSaid : Prop := Claim7.holds Tryz.pinned (.plain (OpenSpec.ofChange inferBudgetsSpec)) inferBudgetsCard

/-- THE TIED CARD OF 'baggagelaw13.InferSteps'. -/
def inferStepsCard : Claim7 := { stood := { row := inferStepsRow, standIns := [], harness := (true, "20a3c9eb21a4d2202e488ac2df84fe5eeb0f908646fbc97f7975e23e6a7c9db0"), looks := false }, kinds := [], alts := [], laidByText := true, laidKinds := [.data, .data, .data, .data], laidTests := true, laidLooks := .later }
def InferStepsCardSaid : Prop := Claim7.holds Tryz.pinned (.plain (OpenSpec.ofChange inferStepsSpec)) inferStepsCard

/-- THE TIED CARD OF 'baggagelaw13.InferReports'. -/
def inferReportsCard : Claim7 := { stood := { row := inferReportsRow, standIns := [], harness := (true, "20a3c9eb21a4d2202e488ac2df84fe5eeb0f908646fbc97f7975e23e6a7c9db0"), looks := false }, kinds := [], alts := [], laidByText := true, laidKinds := [.data, .data, .data, .data], laidTests := true, laidLooks := .later }
def InferReportsCardSaid : Prop := Claim7.holds Tryz.pinned (.plain (OpenSpec.ofChange inferReportsSpec)) inferReportsCard

/-- THE TIED CARD OF 'baggagelaw13.InferAsks'. -/
def inferAsksCard : Claim7 := { stood := { row := inferAsksRow, standIns := [], harness := (true, "20a3c9eb21a4d2202e488ac2df84fe5eeb0f908646fbc97f7975e23e6a7c9db0"), looks := false }, kinds := [], alts := [], laidByText := true, laidKinds := [.data, .data, .data, .data], laidTests := true, laidLooks := .later }
def InferAsksCardSaid : Prop := Claim7.holds Tryz.pinned (.plain (OpenSpec.ofChange inferAsksSpec)) inferAsksCard

/-- THE SECOND FORM's CARD OF 'baggagelaw13.InferContains'. -/
def inferContainsUptoCard : Claim7 := { stood := { row := inferContainsUptoRow, standIns := [], harness := (true, "20a3c9eb21a4d2202e488ac2df84fe5eeb0f908646fbc97f7975e23e6a7c9db0"), looks := false }, kinds := [], alts := [], laidByText := true, laidKinds := [.data, .data, .data, .data], laidTests := true, laidLooks := .later }
def InferContainsUptoCardSaid : Prop := Claim7.holds Tryz.pinned (.plain (OpenSpec.upto inferContainsSpec)) inferContainsUptoCard

/-- THE SECOND FORM's CARD OF 'baggagelaw13.InferBudgets'. -/
def inferBudgetsUptoCard : Claim7 := { stood := { row := inferBudgetsUptoRow, standIns := [], harness := (true, "20a3c9eb21a4d2202e488ac2df84fe5eeb0f908646fbc97f7975e23e6a7c9db0"), looks := false }, kinds := [], alts := [], laidByText := true, laidKinds := [.data, .data, .data, .data], laidTests := true, laidLooks := .later }
def InferBudgetsUptoCardSaid : Prop := Claim7.holds Tryz.pinned (.plain (OpenSpec.upto inferBudgetsSpec)) inferBudgetsUptoCard

/-- THE SECOND FORM's CARD OF 'baggagelaw13.InferSteps'. -/
def inferStepsUptoCard : Claim7 := { stood := { row := inferStepsUptoRow, standIns := [], harness := (true, "20a3c9eb21a4d2202e488ac2df84fe5eeb0f908646fbc97f7975e23e6a7c9db0"), looks := false }, kinds := [], alts := [], laidByText := true, laidKinds := [.data, .data, .data, .data], laidTests := true, laidLooks := .later }
def InferStepsUptoCardSaid : Prop := Claim7.holds Tryz.pinned (.plain (OpenSpec.upto inferStepsSpec)) inferStepsUptoCard

/-- THE SECOND FORM's CARD OF 'baggagelaw13.InferReports'. -/
def inferReportsUptoCard : Claim7 := { stood := { row := inferReportsUptoRow, standIns := [], harness := (true, "20a3c9eb21a4d2202e488ac2df84fe5eeb0f908646fbc97f7975e23e6a7c9db0"), looks := false }, kinds := [], alts := [], laidByText := true, laidKinds := [.data, .data, .data, .data], laidTests := true, laidLooks := .later }
def InferReportsUptoCardSaid : Prop := Claim7.holds Tryz.pinned (.plain (OpenSpec.upto inferReportsSpec)) inferReportsUptoCard

/-- THE SECOND FORM's CARD OF 'baggagelaw13.InferAsks'. -/
def inferAsksUptoCard : Claim7 := { stood := { row := inferAsksUptoRow, standIns := [], harness := (true, "20a3c9eb21a4d2202e488ac2df84fe5eeb0f908646fbc97f7975e23e6a7c9db0"), looks := false }, kinds := [], alts := [], laidByText := true, laidKinds := [.data, .data, .data, .data], laidTests := true, laidLooks := .later }
def InferAsksUptoCardSaid : Prop := Claim7.holds Tryz.pinned (.plain (OpenSpec.upto inferAsksSpec)) inferAsksUptoCard
end Rows
end Go.Proofs.YtfcgkbinohibcaaGreatDoor
