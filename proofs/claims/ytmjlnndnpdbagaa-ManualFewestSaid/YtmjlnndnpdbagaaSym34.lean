/-
  SYM, part 34: where the ways of a condition meet again.
-/
import Derived.Test.YtmjlnndnpdbagaaSym32
set_option linter.all false
set_option linter.unusedSimpArgs false
set_option linter.unusedVariables false
set_option linter.deprecated false
namespace Go.Sym
open Go

theorem awp_merge {C : Cx} {ι : Type} {c d : Code} {Q : Exit → St → Prop} {s : St} (inv : ι → St) (ok : ι → Prop)
    (h1 : awp C c (QThen (fun s' => ∃ i, ok i ∧ Weak s' (inv i)) Q) s) (h2 : ∀ i, ok i → awp C d Q (inv i)) : awp C c (QThen (awp C d Q) Q) s := by
  refine awp_mono h1 fun e s' h => ?_
  cases e with
  | normal => obtain ⟨i, hi, hw⟩ := h; exact awp_weak hw (h2 i hi)
  | _ => exact h
end Go.Sym
