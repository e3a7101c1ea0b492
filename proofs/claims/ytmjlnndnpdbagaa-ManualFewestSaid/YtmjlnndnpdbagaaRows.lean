/-
  No cell of these rows narrows 'for every input' (looked for: loops, veiled, ifaces, maps, wideKeys, modest, calm, conditions, laid).
  DERIVED. THE GIVEN ROWS OF THIS SEAT. 6 by the template 'for every input the law returns true; each argument reads behind the call as it read before'; 0 by the template 'total and deterministic' (their statements: YtmjlnndnpdbagaaTotals.lean).
  GIVEN WITH THE SEED: the statements are not yours to turn. If you find one false, say at which input.
  Laid BY PROGRAM, IN A SANDBOX (cutbox-rows.mjs): the forced cells as the released guide's own fill.sh prints them over the translation 0e6f5329a1616c44… (all of the seat's roots in one cut). By AI agents, Wed Nov 11 2026. No macro, syntax, notation, axiom, sorry.
-/
import Derived.Test.YtmjlnndnpdbagaaChecked
import GoSem.Claim
import GoSem.ClaimJoined
import GoSem.ClaimMapViews
import Derived.JoinedTies
import Derived.KernelRfl
namespace Go.Proofs.Ytmjlnndnpdbagaa
/- THE CELL 'sum', in the pinned program and in every row, IS THE sha256 OF THE DUMP (.gsa) THAT YtmjlnndnpdbagaaProg.lean LOADS. Nothing in Lean hashes anything: it is a label: what it is worth is what the hold of that sum in a sandbox is worth. -/
noncomputable def Try.pinned : Pinned := { name := "ytmjlnndnpdbagaa", sum := "0e6f5329a1616c442c29fa1311b25f48268ee32eccefdd6636c52322d379b5ac", checked := Try.checked }
namespace Rows
def none {H : Type} : Left H := { results := [], args := [] }

/-- 'baggagelaw36.ManualPlans': WHATEVER THE INPUT: true; the input reads as it did. -/
def manualPlansSpec : ChangeSpec := { name := "manualPlans", fn := fun _ => fun
  | [d1, d2] => { results := [.lit (.bool true)], args := [d1, d2] }
  | _ => none }
def manualPlansRow : OpenClaim := { program := "ytmjlnndnpdbagaa", sum := "0e6f5329a1616c442c29fa1311b25f48268ee32eccefdd6636c52322d379b5ac", func := "baggage/baggagelaw36.ManualPlans", spec := "manualPlans", apart := false }
def ManualPlansSaid : Prop := manualPlansRow.holds Try.pinned (OpenSpec.ofChange manualPlansSpec)

/-- ITS FALSE NEIGHBOUR: 'it returns false'. Refute it at one input. -/
def manualPlansWrong : ChangeSpec := { name := "manualPlans", fn := fun _ => fun
  | [d1, d2] => { results := [.lit (.bool false)], args := [d1, d2] }
  | _ => none }
def ManualPlansWrongFalsely : Prop := manualPlansRow.holds Try.pinned (OpenSpec.ofChange manualPlansWrong)

/-- 'baggagelaw36.ManualPerforms': WHATEVER THE INPUT: true; the input reads as it did. -/
def manualPerformsSpec : ChangeSpec := { name := "manualPerforms", fn := fun _ => fun
  | [d1, d2, d3, d4, d5] => { results := [.lit (.bool true)], args := [d1, d2, d3, d4, d5] }
  | _ => none }
def manualPerformsRow : OpenClaim := { program := "ytmjlnndnpdbagaa", sum := "0e6f5329a1616c442c29fa1311b25f48268ee32eccefdd6636c52322d379b5ac", func := "baggage/baggagelaw36.ManualPerforms", spec := "manualPerforms", apart := false }
def ManualPerformsSaid : Prop := manualPerformsRow.holds Try.pinned (OpenSpec.ofChange manualPerformsSpec)

/-- ITS FALSE NEIGHBOUR: 'it returns false'. Refute it at one input. -/
def manualPerformsWrong : ChangeSpec := { name := "manualPerforms", fn := fun _ => fun
  | [d1, d2, d3, d4, d5] => { results := [.lit (.bool false)], args := [d1, d2, d3, d4, d5] }
  | _ => none }
def ManualPerformsWrongFalsely : Prop := manualPerformsRow.holds Try.pinned (OpenSpec.ofChange manualPerformsWrong)

/-- 'baggagelaw36.ManualSorts': WHATEVER THE INPUT: true; the input reads as it did. -/
def manualSortsSpec : ChangeSpec := { name := "manualSorts", fn := fun _ => fun
  | [d1, d2, d3] => { results := [.lit (.bool true)], args := [d1, d2, d3] }
  | _ => none }
def manualSortsRow : OpenClaim := { program := "ytmjlnndnpdbagaa", sum := "0e6f5329a1616c442c29fa1311b25f48268ee32eccefdd6636c52322d379b5ac", func := "baggage/baggagelaw36.ManualSorts", spec := "manualSorts", apart := false }
def ManualSortsSaid : Prop := manualSortsRow.holds Try.pinned (OpenSpec.ofChange manualSortsSpec)

/-- ITS FALSE NEIGHBOUR: 'it returns false'. Refute it at one input. -/
def manualSortsWrong : ChangeSpec := { name := "manualSorts", fn := fun _ => fun
  | [d1, d2, d3] => { results := [.lit (.bool false)], args := [d1, d2, d3] }
  | _ => none }
def ManualSortsWrongFalsely : Prop := manualSortsRow.holds Try.pinned (OpenSpec.ofChange manualSortsWrong)

/-- 'baggagelaw36.ManualMeans': WHATEVER THE INPUT: true; the input reads as it did. -/
def manualMeansSpec : ChangeSpec := { name := "manualMeans", fn := fun _ => fun
  | [d] => { results := [.lit (.bool true)], args := [d] }
  | _ => none }
def manualMeansRow : OpenClaim := { program := "ytmjlnndnpdbagaa", sum := "0e6f5329a1616c442c29fa1311b25f48268ee32eccefdd6636c52322d379b5ac", func := "baggage/baggagelaw36.ManualMeans", spec := "manualMeans", apart := false }
def ManualMeansSaid : Prop := manualMeansRow.holds Try.pinned (OpenSpec.ofChange manualMeansSpec)

/-- ITS FALSE NEIGHBOUR: 'it returns false'. Refute it at one input. -/
def manualMeansWrong : ChangeSpec := { name := "manualMeans", fn := fun _ => fun
  | [d] => { results := [.lit (.bool false)], args := [d] }
  | _ => none }
def ManualMeansWrongFalsely : Prop := manualMeansRow.holds Try.pinned (OpenSpec.ofChange manualMeansWrong)

/-- 'baggagelaw36.ManualFewest': WHATEVER THE INPUT: true; the input reads as it did. -/
def manualFewestSpec : ChangeSpec := { name := "manualFewest", fn := fun _ => fun
  | [d1, d2, d3] => { results := [.lit (.bool true)], args := [d1, d2, d3] }
  | _ => none }
def manualFewestRow : OpenClaim := { program := "ytmjlnndnpdbagaa", sum := "0e6f5329a1616c442c29fa1311b25f48268ee32eccefdd6636c52322d379b5ac", func := "baggage/baggagelaw36.ManualFewest", spec := "manualFewest", apart := false }
def ManualFewestSaid : Prop := manualFewestRow.holds Try.pinned (OpenSpec.ofChange manualFewestSpec)

/-- ITS FALSE NEIGHBOUR: 'it returns false'. Refute it at one input. -/
def manualFewestWrong : ChangeSpec := { name := "manualFewest", fn := fun _ => fun
  | [d1, d2, d3] => { results := [.lit (.bool false)], args := [d1, d2, d3] }
  | _ => none }
def ManualFewestWrongFalsely : Prop := manualFewestRow.holds Try.pinned (OpenSpec.ofChange manualFewestWrong)

/-- 'baggagelaw36.ManualSteps': WHATEVER THE INPUT: true; the input reads as it did. -/
def manualStepsSpec : ChangeSpec := { name := "manualSteps", fn := fun _ => fun
  | [d1, d2] => { results := [.lit (.bool true)], args := [d1, d2] }
  | _ => none }
def manualStepsRow : OpenClaim := { program := "ytmjlnndnpdbagaa", sum := "0e6f5329a1616c442c29fa1311b25f48268ee32eccefdd6636c52322d379b5ac", func := "baggage/baggagelaw36.ManualSteps", spec := "manualSteps", apart := false }
def ManualStepsSaid : Prop := manualStepsRow.holds Try.pinned (OpenSpec.ofChange manualStepsSpec)

/-- ITS FALSE NEIGHBOUR: 'it returns false'. Refute it at one input. -/
def manualStepsWrong : ChangeSpec := { name := "manualSteps", fn := fun _ => fun
  | [d1, d2] => { results := [.lit (.bool false)], args := [d1, d2] }
  | _ => none }
def ManualStepsWrongFalsely : Prop := manualStepsRow.holds Try.pinned (OpenSpec.ofChange manualStepsWrong)

/- THE SECOND FORM. 'bulk': how many values and letters a reading holds, each counted each time it is reached (what is shared counts as often as it is met; a slice's spare places count too). A statement '..UptoSaid' is the law's where the arguments, and the package variables that the reading takes, are together of bulk at most 1048576: NARROWER than '..Said'. Prove '..Said' where nothing that the law and all that it calls make is longer than what came in: it says more and counts as full. Else prove '..UptoSaid'. A law counts once. -/
mutual
def uptoBulk {H : Type} : DataW H → Nat
  | .lit (.string bytes) => bytes.length + 1
  | .lit _ => 1
  | .nil => 1
  | .ptr d => uptoBulk d + 1
  | .slice elems spare => uptoBulkAll elems + uptoBulkAll spare + 1
  | .agg parts => uptoBulkAll parts + 1
  | .iface _ d => uptoBulk d + 1
  | .map entries => uptoBulkEntries entries + 1
  | .held _ => 1
def uptoBulkAll {H : Type} : List (DataW H) → Nat
  | [] => 0
  | d :: r => uptoBulk d + uptoBulkAll r
def uptoBulkEntries {H : Type} : List (Lit × DataW H) → Nat
  | [] => 0
  | x :: r => uptoBulkEntry x + uptoBulkEntries r
def uptoBulkEntry {H : Type} : Lit × DataW H → Nat
  | (.string bytes, d) => bytes.length + uptoBulk d + 1
  | (_, d) => uptoBulk d + 1
 end
def uptoSmall : (H : Type) → List (DataW H) → Bool := fun _ ds => decide (uptoBulkAll ds ≤ 1048576)
def OpenSpec.upto (s : _root_.Go.ChangeSpec) : _root_.Go.OpenSpec := { _root_.Go.OpenSpec.ofChange s with cond := some uptoSmall }

/-- 'baggagelaw36.ManualPlans', WHERE WHAT IT READS IS OF BULK AT MOST 1048576: true; the input reads as it did. -/
def manualPlansUptoRow : OpenClaim := { program := "ytmjlnndnpdbagaa", sum := "0e6f5329a1616c442c29fa1311b25f48268ee32eccefdd6636c52322d379b5ac", func := "baggage/baggagelaw36.ManualPlans", spec := "manualPlans", apart := false, narrowed := true }
def ManualPlansUptoSaid : Prop := manualPlansUptoRow.holds Try.pinned (OpenSpec.upto manualPlansSpec)

/-- 'baggagelaw36.ManualPerforms', WHERE WHAT IT READS IS OF BULK AT MOST 1048576: true; the input reads as it did. -/
def manualPerformsUptoRow : OpenClaim := { program := "ytmjlnndnpdbagaa", sum := "0e6f5329a1616c442c29fa1311b25f48268ee32eccefdd6636c52322d379b5ac", func := "baggage/baggagelaw36.ManualPerforms", spec := "manualPerforms", apart := false, narrowed := true }
def ManualPerformsUptoSaid : Prop := manualPerformsUptoRow.holds Try.pinned (OpenSpec.upto manualPerformsSpec)

/-- 'baggagelaw36.ManualSorts', WHERE WHAT IT READS IS OF BULK AT MOST 1048576: true; the input reads as it did. -/
def manualSortsUptoRow : OpenClaim := { program := "ytmjlnndnpdbagaa", sum := "0e6f5329a1616c442c29fa1311b25f48268ee32eccefdd6636c52322d379b5ac", func := "baggage/baggagelaw36.ManualSorts", spec := "manualSorts", apart := false, narrowed := true }
def ManualSortsUptoSaid : Prop := manualSortsUptoRow.holds Try.pinned (OpenSpec.upto manualSortsSpec)

/-- 'baggagelaw36.ManualMeans', WHERE WHAT IT READS IS OF BULK AT MOST 1048576: true; the input reads as it did. -/
def manualMeansUptoRow : OpenClaim := { program := "ytmjlnndnpdbagaa", sum := "0e6f5329a1616c442c29fa1311b25f48268ee32eccefdd6636c52322d379b5ac", func := "baggage/baggagelaw36.ManualMeans", spec := "manualMeans", apart := false, narrowed := true }
def ManualMeansUptoSaid : Prop := manualMeansUptoRow.holds Try.pinned (OpenSpec.upto manualMeansSpec)

/-- 'baggagelaw36.ManualFewest', WHERE WHAT IT READS IS OF BULK AT MOST 1048576: true; the input reads as it did. -/
def manualFewestUptoRow : OpenClaim := { program := "ytmjlnndnpdbagaa", sum := "0e6f5329a1616c442c29fa1311b25f48268ee32eccefdd6636c52322d379b5ac", func := "baggage/baggagelaw36.ManualFewest", spec := "manualFewest", apart := false, narrowed := true }
def ManualFewestUptoSaid : Prop := manualFewestUptoRow.holds Try.pinned (OpenSpec.upto manualFewestSpec)

/-- 'baggagelaw36.ManualSteps', WHERE WHAT IT READS IS OF BULK AT MOST 1048576: true; the input reads as it did. -/
def manualStepsUptoRow : OpenClaim := { program := "ytmjlnndnpdbagaa", sum := "0e6f5329a1616c442c29fa1311b25f48268ee32eccefdd6636c52322d379b5ac", func := "baggage/baggagelaw36.ManualSteps", spec := "manualSteps", apart := false, narrowed := true }
def ManualStepsUptoSaid : Prop := manualStepsUptoRow.holds Try.pinned (OpenSpec.upto manualStepsSpec)

end Rows
end Go.Proofs.Ytmjlnndnpdbagaa
