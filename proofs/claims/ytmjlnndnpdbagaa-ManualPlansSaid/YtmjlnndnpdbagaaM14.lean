/- Proved: for every two integers flights and piles, baggagelaw36.ManualPlans returns true, does not panic, and its arguments read afterwards as before. No conditions. -/
import Derived.Test.YtmjlnndnpdbagaaM13
import Derived.ProofKit
set_option linter.all false
set_option linter.unusedSimpArgs false
set_option linter.unusedVariables false
set_option linter.deprecated false
namespace Go.Proofs.Ytmjlnndnpdbagaa
open Go.ChangeShapes Go.WideShapes Go.ChangeAt Go.RowKit

theorem Try.own : ownKnob Try.prog.godebug = none := by kernel_rfl
theorem Try.laidOut : laidOutB Try.prog = true := by kernel_rfl

theorem wf_i64 {a : Int} (h : (Lit.int .i64 a).wf = true) : -9223372036854775808 ≤ a ∧ a ≤ 9223372036854775807 := by
  have h1 : (decide (IntKind.min .i64 ≤ a) && decide (a ≤ IntKind.max .i64)) = true := h
  have e1 : IntKind.min .i64 = -9223372036854775808 := by decide
  have e2 : IntKind.max .i64 = 9223372036854775807 := by decide
  rw [e1, e2] at h1
  simpa using h1

theorem law3_any (a b : Int) (W : World) (ha : -9223372036854775808 ≤ a) (ha' : a ≤ 9223372036854775807) (hb : -9223372036854775808 ≤ b) (hb' : b ≤ 9223372036854775807) :
    Calls Try.prog 3 #[.int .i64 a, .int .i64 b] W fun e W' => e = .returned (.bool true) ∧ Below W.heap.size W W' := by
  have h := (law3 a b ha ha' hb hb').2 W (fun _ => False) [] #[.int .i64 a, .int .i64 b] rfl List.nodup_nil (by simp) (by simp) (by simp) rfl (by
    intro i hi
    match i, hi with
    | 0, _ => exact .dat _ _ (.lit _ rfl)
    | 1, _ => exact .dat _ _ (.lit _ rfl))
  refine h.mono ?_
  rintro e W' ⟨v, rfl, hf, _, _, hv⟩
  cases hv with
  | lit _ _ => exact ⟨rfl, hf.os, hf.tape, hf.output, hf.size, fun k hk => hf.same k hk (by simp)⟩

set_option maxRecDepth 100000 in
theorem law3_lifted (os : Os) (started : os.Started) (H : Type) (enc : TypeId × Value → H) :
    ReturnsInHanded {} Try.checked os 3 .any (Rows.manualPlansSpec.pre6 enc Try.prog Try.f3 Rows.manualPlansRow.domain false) (Rows.manualPlansSpec.post enc Try.prog Try.f3 false true false false) := by
  refine returnsInHanded_of_change (C := Try.checked) Try.own started (by kernel_rfl) Try.func3
    (ChangeSpec.witness6 (enc := enc) (C := Try.checked) false ⟨#[], #[.int .i64 0, .int .i64 0], []⟩ 8 (by kernel_rfl) (by kernel_rfl) (by kernel_rfl) (by kernel_rfl)) ?_
  intro W base args ds gs before hval0 hW hcnd _
  have hval : ∀ (j : Nat) t v, Try.f3.params[j]? = some t → args[j]? = some v → Value.okWide Try.prog W .any base t v := hval0
  have hW' := hW
  obtain ⟨p, q, hA0, hV, rfl, hfz, hnd⟩ := hW
  have hA : DataW.TrodAll enc Try.prog W 0 (fun _ => true) true Try.f3.params.toList args.toList ds p := hA0
  rw [Try.params3] at hA hval
  obtain ⟨v0, v1, d0, d1, p0, p1, rfl, rfl, rfl, h0, h1⟩ := trodAll_two hA
  obtain ⟨rfl, rfl⟩ := trodVars_none hV
  obtain ⟨a, rfl, rfl, rfl, wa⟩ := open_int Try.underlying3 (hval 0 3 v0 rfl rfl) h0
  obtain ⟨b, rfl, rfl, rfl, wb⟩ := open_int Try.underlying3 (hval 1 3 v1 rfl rfl) h1
  clear hA0 hval0
  simp only [List.append_nil] at hW'
  have wa' := wf_i64 wa
  have wb' := wf_i64 wb
  refine (law3_any a b W wa'.1 wa'.2 wb'.1 wb'.2).mono fun e W' ⟨he, hbelow⟩ => ?_
  subst he
  exact ⟨_, rfl, _, _, _, [], _, [], hW', trodAll_mk1 (shut_bool Try.underlying4 true), trodAll_mk2 (shut_int Try.underlying3 wa) (shut_int Try.underlying3 wb), rfl, hbelow.frame _, fun h => by cases h⟩

theorem manualPlans_holds : Rows.ManualPlansSaid :=
  OpenClaim.holds_of_wide 3 Try.f3 rfl rfl rfl rfl rfl rfl rfl ⟨rfl, rfl, rfl, rfl, rfl⟩ rfl rfl rfl rfl rfl (by kernel_rfl) Try.func3 (by kernel_rfl)
    (of_decide_eq_true (by kernel_rfl)) (by unfold Func.isWrapper; first | (rw [if_pos (by decide +kernel)]; kernel_rfl) | (rw [if_neg (by decide +kernel)]; exact ⟨rfl, rfl⟩))
    (fun os started H enc _ => law3_lifted os started H enc)
end Go.Proofs.Ytmjlnndnpdbagaa
