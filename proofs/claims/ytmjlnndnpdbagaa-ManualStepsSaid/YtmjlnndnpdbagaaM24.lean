/- Proved: for every input (l, at) baggagelaw36.ManualSteps returns true, does not panic, and its arguments read afterwards as before. No conditions. -/
import Derived.Test.YtmjlnndnpdbagaaM23
import Derived.Test.YtmjlnndnpdbagaaSym32
set_option linter.all false
set_option linter.unusedSimpArgs false
set_option linter.unusedVariables false
set_option linter.deprecated false
namespace Go.Proofs.Ytmjlnndnpdbagaa
open Go Go.Sym Go.Deep Go.ChangeShapes Go.WideShapes Go.ChangeAt Go.RowKit

theorem Try.own : ownKnob Try.prog.godebug = none := by kernel_rfl
theorem Try.laidOut : laidOutB Try.prog = true := by kernel_rfl

set_option maxRecDepth 100000 in
theorem law8_lifted (os : Os) (started : os.Started) (H : Type) (enc : TypeId × Value → H) :
    ReturnsInHanded {} Try.checked os 8 .any (Rows.manualStepsSpec.pre6 enc Try.prog Try.f8 Rows.manualStepsRow.domain false) (Rows.manualStepsSpec.post enc Try.prog Try.f8 false true false false) := by
  refine returnsInHanded_of_change (C := Try.checked) Try.own started (by kernel_rfl) Try.func8
    (ChangeSpec.witness6 (enc := enc) (C := Try.checked) false ⟨#[], #[.slice none 0 0, .int .i64 0], []⟩ 8 (by kernel_rfl) (by kernel_rfl) (by kernel_rfl) (by kernel_rfl)) ?_
  intro W base args ds gs before hval0 hW hcnd _
  have hval : ∀ (j : Nat) t v, Try.f8.params[j]? = some t → args[j]? = some v → Value.okWide Try.prog W .any base t v := hval0
  have hW' := hW
  obtain ⟨p, q, hA0, hV, rfl, hfz, hnd⟩ := hW
  have hA : DataW.TrodAll enc Try.prog W 0 (fun _ => true) true Try.f8.params.toList args.toList ds p := hA0
  have hlt : ∀ x ∈ p, x.block < W.heap.size := fun x hx => by simpa using hW'.lt x (by simp [hx])
  rw [Try.params8] at hA hval
  have hk := hA
  obtain ⟨v0, vs0, d0, ds0, p0, q0, ha0, hd0, hp0, h0, hA⟩ := trodAll_cons hA
  obtain ⟨v1, vs1, d1, ds1, p1, q1, ha1, hd1, hp1, h1, hA⟩ := trodAll_cons hA
  obtain ⟨hv2, hd2, _⟩ := trodAll_nil hA
  subst hv2 hd2
  subst ha1 hd1 hd0
  obtain rfl : args = #[v0, v1] := by cases args; simp_all
  obtain ⟨rfl, rfl⟩ := trodVars_none hV
  obtain ⟨n0, f0, g0, r0⟩ := arg_ints UE_all Try.underlying23 Try.underlying3 (by kernel_rfl) (hval 0 23 v0 rfl rfl) h0
  obtain ⟨n1, f1, r1⟩ := arg_int (U := UE (benv [] fun _ => False)) Try.underlying3 (hval 1 3 v1 rfl rfl) h1
  simp only [List.append_nil] at hW'
  refine (law_any (W := W) (vals := #[v0, v1]) (law8 n0 n1 f0 g0 f1) rfl ?_).mono fun e W' ⟨he, hbelow⟩ => ?_
  · intro i hi
    match i, hi with
    | 0, _ => exact r0
    | 1, _ => exact r1
  subst he
  have hargs := trodAll_below Try.laidOut hbelow (by
    intro t ht
    simp only [Array.toList, List.mem_cons, List.not_mem_nil, or_false] at ht
    rcases ht with rfl | rfl <;> exact ⟨by kernel_rfl, of_decide_eq_true (by kernel_rfl)⟩) hk hlt
  exact ⟨_, rfl, _, _, _, [], _, [], hW', trodAll_mk1 (shut_bool Try.underlying4 true), hargs, rfl, hbelow.frame _, fun h => by cases h⟩

theorem manualSteps_holds : Rows.ManualStepsSaid :=
  OpenClaim.holds_of_wide 8 Try.f8 rfl rfl rfl rfl rfl rfl rfl ⟨rfl, rfl, rfl, rfl, rfl⟩ rfl rfl rfl rfl rfl (by kernel_rfl) Try.func8 (by kernel_rfl)
    (of_decide_eq_true (by kernel_rfl)) (by unfold Func.isWrapper; first | (rw [if_pos (by decide +kernel)]; kernel_rfl) | (rw [if_neg (by decide +kernel)]; exact ⟨rfl, rfl⟩))
    (fun os started H enc _ => law8_lifted os started H enc)
end Go.Proofs.Ytmjlnndnpdbagaa
