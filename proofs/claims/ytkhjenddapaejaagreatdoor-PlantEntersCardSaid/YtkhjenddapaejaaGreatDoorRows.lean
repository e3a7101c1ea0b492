/-
  NARROWER THAN 'FOR EVERY INPUT', by the rows' own cells (each row's printed sentence says how): PlantSteps: laid · PlantConserves: laid · PlantLoops: laid · PlantDrains: laid · PlantFIFO: laid · PlantCommutes: laid · PlantEnters: laid.
  DERIVED. THE GIVEN ROWS OF THIS SEAT. 7 by the template 'for every input the law returns true; each argument reads behind the call as it read before'; 0 by the template 'total and deterministic' (their statements: YtkhjenddapaejaaGreatDoorTotals.lean).
  GIVEN WITH THE SEED: the statements are not yours to turn. If you find one false, say at which input.
  Laid BY PROGRAM, IN A SANDBOX (cutbox-rows.mjs): the forced cells as the released guide's own fill.sh prints them over the translation 4a00ec79db886cae… (all of the seat's roots in one cut). By AI agents, Wed Nov 11 2026. No macro, syntax, notation, axiom, sorry.
-/
import Derived.Test.YtkhjenddapaejaaGreatDoorChecked
import GoSem.Claim
import GoSem.ClaimJoined
import GoSem.ClaimMapViews
import Derived.JoinedTies
import Derived.KernelRfl
namespace Go.Proofs.YtkhjenddapaejaaGreatDoor
/- THE CELL 'sum', in the pinned program and in every row, IS THE sha256 OF THE DUMP (.gsa) THAT YtkhjenddapaejaaGreatDoorProg.lean LOADS. Nothing in Lean hashes anything: it is a label: what it is worth is what the hold of that sum in a sandbox is worth. -/
noncomputable def Tryz.pinned : Pinned := { name := "ytkhjenddapaejaagreatdoor", sum := "4a00ec79db886caec2dbce8385b1ce4d26568bb081474f2b5d14ff00921e0885", checked := Tryz.checked }
namespace Rows
def none {H : Type} : Left H := { results := [], args := [] }

/- WHAT THE LISTED PACKAGE-LEVEL VARIABLES READ AS WHEN THE CALL BEGINS. Each datum BY PROGRAM (the guide's laid-datum.mjs) off the statement by which the dump's own 'gosem.cut.vars' lays the variable. In a bare row this is a premise. The card (YtkhjenddapaejaaGreatDoorCards.lean) ties it to the program's text. -/
def laid_baggage_baggageref07_words {H : Type} : DataW H := .slice [.lit (.string []), .lit (.string [101, 110, 116, 114, 121]), .lit (.string [98, 101, 108, 116]), .lit (.string [115, 99, 114, 101, 101, 110]), .lit (.string [100, 105, 118, 101, 114, 116, 101, 114]), .lit (.string [108, 111, 111, 112]), .lit (.string [103, 97, 116, 101]), .lit (.string [115, 116, 111, 114, 101]), .lit (.string [99, 104, 117, 116, 101]), .lit (.string [109, 97, 110, 117, 97, 108])] []
def laid_math_bits_deBruijn32tab {H : Type} : DataW H := .agg [.lit (.int .u8 0), .lit (.int .u8 1), .lit (.int .u8 28), .lit (.int .u8 2), .lit (.int .u8 29), .lit (.int .u8 14), .lit (.int .u8 24), .lit (.int .u8 3), .lit (.int .u8 30), .lit (.int .u8 22), .lit (.int .u8 20), .lit (.int .u8 15), .lit (.int .u8 25), .lit (.int .u8 17), .lit (.int .u8 4), .lit (.int .u8 8), .lit (.int .u8 31), .lit (.int .u8 27), .lit (.int .u8 13), .lit (.int .u8 23), .lit (.int .u8 21), .lit (.int .u8 19), .lit (.int .u8 16), .lit (.int .u8 7), .lit (.int .u8 26), .lit (.int .u8 12), .lit (.int .u8 18), .lit (.int .u8 6), .lit (.int .u8 11), .lit (.int .u8 5), .lit (.int .u8 10), .lit (.int .u8 9)]
def laid_math_bits_deBruijn64tab {H : Type} : DataW H := .agg [.lit (.int .u8 0), .lit (.int .u8 1), .lit (.int .u8 56), .lit (.int .u8 2), .lit (.int .u8 57), .lit (.int .u8 49), .lit (.int .u8 28), .lit (.int .u8 3), .lit (.int .u8 61), .lit (.int .u8 58), .lit (.int .u8 42), .lit (.int .u8 50), .lit (.int .u8 38), .lit (.int .u8 29), .lit (.int .u8 17), .lit (.int .u8 4), .lit (.int .u8 62), .lit (.int .u8 47), .lit (.int .u8 59), .lit (.int .u8 36), .lit (.int .u8 45), .lit (.int .u8 43), .lit (.int .u8 51), .lit (.int .u8 22), .lit (.int .u8 53), .lit (.int .u8 39), .lit (.int .u8 33), .lit (.int .u8 30), .lit (.int .u8 24), .lit (.int .u8 18), .lit (.int .u8 12), .lit (.int .u8 5), .lit (.int .u8 63), .lit (.int .u8 55), .lit (.int .u8 48), .lit (.int .u8 27), .lit (.int .u8 60), .lit (.int .u8 41), .lit (.int .u8 37), .lit (.int .u8 16), .lit (.int .u8 46), .lit (.int .u8 35), .lit (.int .u8 44), .lit (.int .u8 21), .lit (.int .u8 52), .lit (.int .u8 32), .lit (.int .u8 23), .lit (.int .u8 11), .lit (.int .u8 54), .lit (.int .u8 26), .lit (.int .u8 40), .lit (.int .u8 15), .lit (.int .u8 34), .lit (.int .u8 20), .lit (.int .u8 31), .lit (.int .u8 10), .lit (.int .u8 25), .lit (.int .u8 14), .lit (.int .u8 19), .lit (.int .u8 9), .lit (.int .u8 13), .lit (.int .u8 8), .lit (.int .u8 7), .lit (.int .u8 6)]

/-- 'baggagelaw11.PlantSteps': WHATEVER THE INPUT: true; the input reads as it did. -/
def plantStepsSpec : ChangeSpec := { name := "plantSteps", fn := fun _ => fun
  | [d1, d2, d3] => { results := [.lit (.bool true)], args := [d1, d2, d3] }
  | _ => none }
def plantStepsRow : OpenClaim := { program := "ytkhjenddapaejaagreatdoor", sum := "4a00ec79db886caec2dbce8385b1ce4d26568bb081474f2b5d14ff00921e0885", func := "baggage/baggagelaw11.PlantSteps", spec := "plantSteps", inPlace := ["slices.overlaps[int]"], unfollowed := true, recurses := true, named := ["baggage/baggageref07.words", "math/bits.deBruijn32tab", "math/bits.deBruijn64tab"], apart := false, laid := [("baggage/baggageref07.words", laid_baggage_baggageref07_words), ("math/bits.deBruijn32tab", laid_math_bits_deBruijn32tab), ("math/bits.deBruijn64tab", laid_math_bits_deBruijn64tab)] }
def PlantStepsSaid : Prop := plantStepsRow.holds Tryz.pinned (OpenSpec.ofChange plantStepsSpec)

/-- ITS FALSE NEIGHBOUR: 'it returns false'. Refute it at one input. -/
def plantStepsWrong : ChangeSpec := { name := "plantSteps", fn := fun _ => fun
  | [d1, d2, d3] => { results := [.lit (.bool false)], args := [d1, d2, d3] }
  | _ => none }
def PlantStepsWrongFalsely : Prop := plantStepsRow.holds Tryz.pinned (OpenSpec.ofChange plantStepsWrong)

/-- 'baggagelaw11.PlantConserves': WHATEVER THE INPUT: true; the input reads as it did. -/
def plantConservesSpec : ChangeSpec := { name := "plantConserves", fn := fun _ => fun
  | [d] => { results := [.lit (.bool true)], args := [d] }
  | _ => none }
def plantConservesRow : OpenClaim := { program := "ytkhjenddapaejaagreatdoor", sum := "4a00ec79db886caec2dbce8385b1ce4d26568bb081474f2b5d14ff00921e0885", func := "baggage/baggagelaw11.PlantConserves", spec := "plantConserves", inPlace := ["slices.overlaps[int]"], unfollowed := true, recurses := true, named := ["math/bits.deBruijn32tab", "math/bits.deBruijn64tab", "baggage/baggageref07.words"], apart := false, laid := [("baggage/baggageref07.words", laid_baggage_baggageref07_words), ("math/bits.deBruijn32tab", laid_math_bits_deBruijn32tab), ("math/bits.deBruijn64tab", laid_math_bits_deBruijn64tab)] }
def PlantConservesSaid : Prop := plantConservesRow.holds Tryz.pinned (OpenSpec.ofChange plantConservesSpec)

/-- ITS FALSE NEIGHBOUR: 'it returns false'. Refute it at one input. -/
def plantConservesWrong : ChangeSpec := { name := "plantConserves", fn := fun _ => fun
  | [d] => { results := [.lit (.bool false)], args := [d] }
  | _ => none }
def PlantConservesWrongFalsely : Prop := plantConservesRow.holds Tryz.pinned (OpenSpec.ofChange plantConservesWrong)

/-- 'baggagelaw11.PlantLoops': WHATEVER THE INPUT: true; the input reads as it did. -/
def plantLoopsSpec : ChangeSpec := { name := "plantLoops", fn := fun _ => fun
  | [d] => { results := [.lit (.bool true)], args := [d] }
  | _ => none }
def plantLoopsRow : OpenClaim := { program := "ytkhjenddapaejaagreatdoor", sum := "4a00ec79db886caec2dbce8385b1ce4d26568bb081474f2b5d14ff00921e0885", func := "baggage/baggagelaw11.PlantLoops", spec := "plantLoops", inPlace := ["slices.overlaps[int]"], unfollowed := true, recurses := true, named := ["math/bits.deBruijn32tab", "math/bits.deBruijn64tab", "baggage/baggageref07.words"], apart := false, laid := [("baggage/baggageref07.words", laid_baggage_baggageref07_words), ("math/bits.deBruijn32tab", laid_math_bits_deBruijn32tab), ("math/bits.deBruijn64tab", laid_math_bits_deBruijn64tab)] }
def PlantLoopsSaid : Prop := plantLoopsRow.holds Tryz.pinned (OpenSpec.ofChange plantLoopsSpec)

/-- ITS FALSE NEIGHBOUR: 'it returns false'. Refute it at one input. -/
def plantLoopsWrong : ChangeSpec := { name := "plantLoops", fn := fun _ => fun
  | [d] => { results := [.lit (.bool false)], args := [d] }
  | _ => none }
def PlantLoopsWrongFalsely : Prop := plantLoopsRow.holds Tryz.pinned (OpenSpec.ofChange plantLoopsWrong)

/-- 'baggagelaw11.PlantDrains': WHATEVER THE INPUT: true; the input reads as it did. -/
def plantDrainsSpec : ChangeSpec := { name := "plantDrains", fn := fun _ => fun
  | [d] => { results := [.lit (.bool true)], args := [d] }
  | _ => none }
def plantDrainsRow : OpenClaim := { program := "ytkhjenddapaejaagreatdoor", sum := "4a00ec79db886caec2dbce8385b1ce4d26568bb081474f2b5d14ff00921e0885", func := "baggage/baggagelaw11.PlantDrains", spec := "plantDrains", inPlace := ["slices.overlaps[int]"], unfollowed := true, recurses := true, named := ["math/bits.deBruijn32tab", "math/bits.deBruijn64tab", "baggage/baggageref07.words"], apart := false, laid := [("baggage/baggageref07.words", laid_baggage_baggageref07_words), ("math/bits.deBruijn32tab", laid_math_bits_deBruijn32tab), ("math/bits.deBruijn64tab", laid_math_bits_deBruijn64tab)] }
def PlantDrainsSaid : Prop := plantDrainsRow.holds Tryz.pinned (OpenSpec.ofChange plantDrainsSpec)

/-- ITS FALSE NEIGHBOUR: 'it returns false'. Refute it at one input. -/
def plantDrainsWrong : ChangeSpec := { name := "plantDrains", fn := fun _ => fun
  | [d] => { results := [.lit (.bool false)], args := [d] }
  | _ => none }
def PlantDrainsWrongFalsely : Prop := plantDrainsRow.holds Tryz.pinned (OpenSpec.ofChange plantDrainsWrong)

/-- 'baggagelaw11.PlantFIFO': WHATEVER THE INPUT: true; the input reads as it did. -/
def plantFIFOSpec : ChangeSpec := { name := "plantFIFO", fn := fun _ => fun
  | [d] => { results := [.lit (.bool true)], args := [d] }
  | _ => none }
def plantFIFORow : OpenClaim := { program := "ytkhjenddapaejaagreatdoor", sum := "4a00ec79db886caec2dbce8385b1ce4d26568bb081474f2b5d14ff00921e0885", func := "baggage/baggagelaw11.PlantFIFO", spec := "plantFIFO", inPlace := ["slices.overlaps[int]"], unfollowed := true, recurses := true, named := ["math/bits.deBruijn32tab", "math/bits.deBruijn64tab", "baggage/baggageref07.words"], apart := false, laid := [("baggage/baggageref07.words", laid_baggage_baggageref07_words), ("math/bits.deBruijn32tab", laid_math_bits_deBruijn32tab), ("math/bits.deBruijn64tab", laid_math_bits_deBruijn64tab)] }
def PlantFIFOSaid : Prop := plantFIFORow.holds Tryz.pinned (OpenSpec.ofChange plantFIFOSpec)

/-- ITS FALSE NEIGHBOUR: 'it returns false'. Refute it at one input. -/
def plantFIFOWrong : ChangeSpec := { name := "plantFIFO", fn := fun _ => fun
  | [d] => { results := [.lit (.bool false)], args := [d] }
  | _ => none }
def PlantFIFOWrongFalsely : Prop := plantFIFORow.holds Tryz.pinned (OpenSpec.ofChange plantFIFOWrong)

/-- 'baggagelaw11.PlantCommutes': WHATEVER THE INPUT: true; the input reads as it did. -/
def plantCommutesSpec : ChangeSpec := { name := "plantCommutes", fn := fun _ => fun
  | [d] => { results := [.lit (.bool true)], args := [d] }
  | _ => none }
def plantCommutesRow : OpenClaim := { program := "ytkhjenddapaejaagreatdoor", sum := "4a00ec79db886caec2dbce8385b1ce4d26568bb081474f2b5d14ff00921e0885", func := "baggage/baggagelaw11.PlantCommutes", spec := "plantCommutes", inPlace := ["slices.overlaps[int]"], unfollowed := true, recurses := true, named := ["math/bits.deBruijn32tab", "math/bits.deBruijn64tab", "baggage/baggageref07.words"], apart := false, laid := [("baggage/baggageref07.words", laid_baggage_baggageref07_words), ("math/bits.deBruijn32tab", laid_math_bits_deBruijn32tab), ("math/bits.deBruijn64tab", laid_math_bits_deBruijn64tab)] }
def PlantCommutesSaid : Prop := plantCommutesRow.holds Tryz.pinned (OpenSpec.ofChange plantCommutesSpec)

/-- ITS FALSE NEIGHBOUR: 'it returns false'. Refute it at one input. -/
def plantCommutesWrong : ChangeSpec := { name := "plantCommutes", fn := fun _ => fun
  | [d] => { results := [.lit (.bool false)], args := [d] }
  | _ => none }
def PlantCommutesWrongFalsely : Prop := plantCommutesRow.holds Tryz.pinned (OpenSpec.ofChange plantCommutesWrong)

/-- 'baggagelaw11.PlantEnters': WHATEVER THE INPUT: true; the input reads as it did. -/
def plantEntersSpec : ChangeSpec := { name := "plantEnters", fn := fun _ => fun
  | [d1, d2, d3, d4, d5] => { results := [.lit (.bool true)], args := [d1, d2, d3, d4, d5] }
  | _ => none }
def plantEntersRow : OpenClaim := { program := "ytkhjenddapaejaagreatdoor", sum := "4a00ec79db886caec2dbce8385b1ce4d26568bb081474f2b5d14ff00921e0885", func := "baggage/baggagelaw11.PlantEnters", spec := "plantEnters", inPlace := ["slices.overlaps[int]"], unfollowed := true, recurses := true, named := ["baggage/baggageref07.words", "math/bits.deBruijn32tab", "math/bits.deBruijn64tab"], apart := false, laid := [("baggage/baggageref07.words", laid_baggage_baggageref07_words), ("math/bits.deBruijn32tab", laid_math_bits_deBruijn32tab), ("math/bits.deBruijn64tab", laid_math_bits_deBruijn64tab)] }
def PlantEntersSaid : Prop := plantEntersRow.holds Tryz.pinned (OpenSpec.ofChange plantEntersSpec)

/-- ITS FALSE NEIGHBOUR: 'it returns false'. Refute it at one input. -/
def plantEntersWrong : ChangeSpec := { name := "plantEnters", fn := fun _ => fun
  | [d1, d2, d3, d4, d5] => { results := [.lit (.bool false)], args := [d1, d2, d3, d4, d5] }
  | _ => none }
def PlantEntersWrongFalsely : Prop := plantEntersRow.holds Tryz.pinned (OpenSpec.ofChange plantEntersWrong)

/- THE SECOND FORM. 'bulk': how many values and letters a reading holds, each counted each time it is reached (what is shared counts as often as it is met; a slice's spare places count too). A statement '..UptoSaid' is the law's where the arguments, and the package variables that the reading takes, are together of bulk at most 1048576: NARROWER than '..Said'. Prove '..Said' where nothing that the law and all that it calls make is longer than what came in: it says more and counts as full. Else prove '..UptoSaid'. A law counts once. -/
mutual
def uptoBulk {H : Type} : DataW H → Nat
  | .lit (.string bytes) => bytes.length + 1
  | .lit _ => 1
  | .nil => 1
  | .ptr d => uptoBulk d + 1
  | .slice elems spare => uptoBulkAll elems + uptoBulkAll spare + 1
  | .agg parts => uptoBulkAll parts + 1
  | .iface _ d => uptoBulk d + 1
  | .map entries => uptoBulkEntries entries + 1
  | .held _ => 1
def uptoBulkAll {H : Type} : List (DataW H) → Nat
  | [] => 0
  | d :: r => uptoBulk d + uptoBulkAll r
def uptoBulkEntries {H : Type} : List (Lit × DataW H) → Nat
  | [] => 0
  | x :: r => uptoBulkEntry x + uptoBulkEntries r
def uptoBulkEntry {H : Type} : Lit × DataW H → Nat
  | (.string bytes, d) => bytes.length + uptoBulk d + 1
  | (_, d) => uptoBulk d + 1
 end
def uptoSmall : (H : Type) → List (DataW H) → Bool := fun _ ds => decide (uptoBulkAll ds ≤ 1048576)
def OpenSpec.upto (s : _root_.Go.ChangeSpec) : _root_.Go.OpenSpec := { _root_.Go.OpenSpec.ofChange s with cond := some uptoSmall }

/-- 'baggagelaw11.PlantSteps', WHERE WHAT IT READS IS OF BULK AT MOST 1048576: true; the input reads as it did. -/
def plantStepsUptoRow : OpenClaim := { program := "ytkhjenddapaejaagreatdoor", sum := "4a00ec79db886caec2dbce8385b1ce4d26568bb081474f2b5d14ff00921e0885", func := "baggage/baggagelaw11.PlantSteps", spec := "plantSteps", inPlace := ["slices.overlaps[int]"], unfollowed := true, recurses := true, named := ["baggage/baggageref07.words", "math/bits.deBruijn32tab", "math/bits.deBruijn64tab"], apart := false, laid := [("baggage/baggageref07.words", laid_baggage_baggageref07_words), ("math/bits.deBruijn32tab", laid_math_bits_deBruijn32tab), ("math/bits.deBruijn64tab", laid_math_bits_deBruijn64tab)], narrowed := true }
def PlantStepsUptoSaid : Prop := plantStepsUptoRow.holds Tryz.pinned (OpenSpec.upto plantStepsSpec)

/-- 'baggagelaw11.PlantConserves', WHERE WHAT IT READS IS OF BULK AT MOST 1048576: true; the input reads as it did. -/
def plantConservesUptoRow : OpenClaim := { program := "ytkhjenddapaejaagreatdoor", sum := "4a00ec79db886caec2dbce8385b1ce4d26568bb081474f2b5d14ff00921e0885", func := "baggage/baggagelaw11.PlantConserves", spec := "plantConserves", inPlace := ["slices.overlaps[int]"], unfollowed := true, recurses := true, named := ["math/bits.deBruijn32tab", "math/bits.deBruijn64tab", "baggage/baggageref07.words"], apart := false, laid := [("baggage/baggageref07.words", laid_baggage_baggageref07_words), ("math/bits.deBruijn32tab", laid_math_bits_deBruijn32tab), ("math/bits.deBruijn64tab", laid_math_bits_deBruijn64tab)], narrowed := true }
def PlantConservesUptoSaid : Prop := plantConservesUptoRow.holds Tryz.pinned (OpenSpec.upto plantConservesSpec)

/-- 'baggagelaw11.PlantLoops', WHERE WHAT IT READS IS OF BULK AT MOST 1048576: true; the input reads as it did. -/
def plantLoopsUptoRow : OpenClaim := { program := "ytkhjenddapaejaagreatdoor", sum := "4a00ec79db886caec2dbce8385b1ce4d26568bb081474f2b5d14ff00921e0885", func := "baggage/baggagelaw11.PlantLoops", spec := "plantLoops", inPlace := ["slices.overlaps[int]"], unfollowed := true, recurses := true, named := ["math/bits.deBruijn32tab", "math/bits.deBruijn64tab", "baggage/baggageref07.words"], apart := false, laid := [("baggage/baggageref07.words", laid_baggage_baggageref07_words), ("math/bits.deBruijn32tab", laid_math_bits_deBruijn32tab), ("math/bits.deBruijn64tab", laid_math_bits_deBruijn64tab)], narrowed := true }
def PlantLoopsUptoSaid : Prop := plantLoopsUptoRow.holds Tryz.pinned (OpenSpec.upto plantLoopsSpec)

/-- 'baggagelaw11.PlantDrains', WHERE WHAT IT READS IS OF BULK AT MOST 1048576: true; the input reads as it did. -/
def plantDrainsUptoRow : OpenClaim := { program := "ytkhjenddapaejaagreatdoor", sum := "4a00ec79db886caec2dbce8385b1ce4d26568bb081474f2b5d14ff00921e0885", func := "baggage/baggagelaw11.PlantDrains", spec := "plantDrains", inPlace := ["slices.overlaps[int]"], unfollowed := true, recurses := true, named := ["math/bits.deBruijn32tab", "math/bits.deBruijn64tab", "baggage/baggageref07.words"], apart := false, laid := [("baggage/baggageref07.words", laid_baggage_baggageref07_words), ("math/bits.deBruijn32tab", laid_math_bits_deBruijn32tab), ("math/bits.deBruijn64tab", laid_math_bits_deBruijn64tab)], narrowed := true }
def PlantDrainsUptoSaid : Prop := plantDrainsUptoRow.holds Tryz.pinned (OpenSpec.upto plantDrainsSpec)

/-- 'baggagelaw11.PlantFIFO', WHERE WHAT IT READS IS OF BULK AT MOST 1048576: true; the input reads as it did. -/
def plantFIFOUptoRow : OpenClaim := { program := "ytkhjenddapaejaagreatdoor", sum := "4a00ec79db886caec2dbce8385b1ce4d26568bb081474f2b5d14ff00921e0885", func := "baggage/baggagelaw11.PlantFIFO", spec := "plantFIFO", inPlace := ["slices.overlaps[int]"], unfollowed := true, recurses := true, named := ["math/bits.deBruijn32tab", "math/bits.deBruijn64tab", "baggage/baggageref07.words"], apart := false, laid := [("baggage/baggageref07.words", laid_baggage_baggageref07_words), ("math/bits.deBruijn32tab", laid_math_bits_deBruijn32tab), ("math/bits.deBruijn64tab", laid_math_bits_deBruijn64tab)], narrowed := true }
def PlantFIFOUptoSaid : Prop := plantFIFOUptoRow.holds Tryz.pinned (OpenSpec.upto plantFIFOSpec)

/-- 'baggagelaw11.PlantCommutes', WHERE WHAT IT READS IS OF BULK AT MOST 1048576: true; the input reads as it did. -/
def plantCommutesUptoRow : OpenClaim := { program := "ytkhjenddapaejaagreatdoor", sum := "4a00ec79db886caec2dbce8385b1ce4d26568bb081474f2b5d14ff00921e0885", func := "baggage/baggagelaw11.PlantCommutes", spec := "plantCommutes", inPlace := ["slices.overlaps[int]"], unfollowed := true, recurses := true, named := ["math/bits.deBruijn32tab", "math/bits.deBruijn64tab", "baggage/baggageref07.words"], apart := false, laid := [("baggage/baggageref07.words", laid_baggage_baggageref07_words), ("math/bits.deBruijn32tab", laid_math_bits_deBruijn32tab), ("math/bits.deBruijn64tab", laid_math_bits_deBruijn64tab)], narrowed := true }
def PlantCommutesUptoSaid : Prop := plantCommutesUptoRow.holds Tryz.pinned (OpenSpec.upto plantCommutesSpec)

/-- 'baggagelaw11.PlantEnters', WHERE WHAT IT READS IS OF BULK AT MOST 1048576: true; the input reads as it did. -/
def plantEntersUptoRow : OpenClaim := { program := "ytkhjenddapaejaagreatdoor", sum := "4a00ec79db886caec2dbce8385b1ce4d26568bb081474f2b5d14ff00921e0885", func := "baggage/baggagelaw11.PlantEnters", spec := "plantEnters", inPlace := ["slices.overlaps[int]"], unfollowed := true, recurses := true, named := ["baggage/baggageref07.words", "math/bits.deBruijn32tab", "math/bits.deBruijn64tab"], apart := false, laid := [("baggage/baggageref07.words", laid_baggage_baggageref07_words), ("math/bits.deBruijn32tab", laid_math_bits_deBruijn32tab), ("math/bits.deBruijn64tab", laid_math_bits_deBruijn64tab)], narrowed := true }
def PlantEntersUptoSaid : Prop := plantEntersUptoRow.holds Tryz.pinned (OpenSpec.upto plantEntersSpec)

end Rows
end Go.Proofs.YtkhjenddapaejaaGreatDoor
