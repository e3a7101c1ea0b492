import Derived.Test.YtmjlnndnpdbagaaMTab
set_option linter.all false
set_option linter.unusedSimpArgs false
set_option linter.unusedVariables false
set_option linter.deprecated false
namespace Go.Proofs.Ytmjlnndnpdbagaa
open Go Go.Sym

theorem list_ext {a b : List Int} (h : a.length = b.length) (h' : ∀ j, j < a.length → a.getD j 0 = b.getD j 0) : a = b := by
  refine List.ext_getElem h fun j h1 h2 => ?_
  have := h' j h1
  simpa [h1, h2] using this

theorem ints_sat (a b : List Int) (ha : a.length ≤ 9223372036854775807) : Sat Try.prog 24 [IS a, IS b] [] (B (decide (a = b))) [] := by
  refine Sat_of_awp (T := tab) tab_ok Try.func24 rfl (by rfl) (by simp [Try.ntmps24]) ?_
  intro w Z blks hb
  have hl : blks.length ≤ 100 := by rw [hb]; simp
  rw [Try.ntmps24]
  simp only [tm0, hp0, List.zipIdx, List.map]
  (repeat first | refine awp_seq ?_ | refine awp_skip ?_ | refine awp_block ?_); refine awp_region tab_ok hl rfl fun K hK => ?_; simp only [go_sem, ne_eq, Nat.reduceAdd, Nat.reduceSub, Nat.reduceMul, Nat.reduceLT, Nat.reduceEqDiff, Nat.reduceBEq, Nat.reduceLeDiff, Int.reduceToNat, ↓reduceIte, Int.reduceEq, Int.reduceLT, Int.reduceLE, Int.reduceAdd, Int.reduceSub, Int.reduceNeg, reduceCtorEq]
  refine hK _ ?_; clear hK K
  (repeat first | refine awp_seq ?_ | refine awp_skip ?_ | refine awp_block ?_); refine awp_region tab_ok hl rfl fun K hK => ?_; simp only [go_sem, ne_eq, Nat.reduceAdd, Nat.reduceSub, Nat.reduceMul, Nat.reduceLT, Nat.reduceEqDiff, Nat.reduceBEq, Nat.reduceLeDiff, Int.reduceToNat, ↓reduceIte, Int.reduceEq, Int.reduceLT, Int.reduceLE, Int.reduceAdd, Int.reduceSub, Int.reduceNeg, reduceCtorEq]
  refine hK _ ?_; clear hK K
  (repeat first | refine awp_seq ?_ | refine awp_skip ?_ | refine awp_block ?_); refine condP _ rfl (fun h => ?_) (fun h => ?_)
  · (repeat first | refine awp_seq ?_ | refine awp_skip ?_ | refine awp_block ?_); refine awp_region tab_ok hl rfl fun K hK => ?_; simp only [go_sem, ne_eq, Nat.reduceAdd, Nat.reduceSub, Nat.reduceMul, Nat.reduceLT, Nat.reduceEqDiff, Nat.reduceBEq, Nat.reduceLeDiff, Int.reduceToNat, ↓reduceIte, Int.reduceEq, Int.reduceLT, Int.reduceLE, Int.reduceAdd, Int.reduceSub, Int.reduceNeg, reduceCtorEq]
    refine hK _ (awp_ret ⟨trivial, trivial, ?_, rfl, fun j hj => by cases hj⟩)
    have : a ≠ b := fun e => h (by rw [e])
    simp only [this, decide_false]; rfl
  · (repeat first | refine awp_seq ?_ | refine awp_skip ?_ | refine awp_block ?_); refine awp_region tab_ok hl rfl fun K hK => ?_; simp only [go_sem, ne_eq, Nat.reduceAdd, Nat.reduceSub, Nat.reduceMul, Nat.reduceLT, Nat.reduceEqDiff, Nat.reduceBEq, Nat.reduceLeDiff, Int.reduceToNat, ↓reduceIte, Int.reduceEq, Int.reduceLT, Int.reduceLE, Int.reduceAdd, Int.reduceSub, Int.reduceNeg, reduceCtorEq]
    refine hK _ ?_; clear hK K
    have hab : a.length = b.length := by omega
    (repeat first | refine awp_seq ?_ | refine awp_skip ?_ | refine awp_block ?_)
    refine awp_loopW (fun i : Nat × Nat => ⟨[(0, IS a), (1, IS b), (5, I i.2)], [], i.1⟩) (fun i => i.2 ≤ a.length ∧ ∀ j, j < i.2 → a.getD j 0 = b.getD j 0) (fun i => a.length - i.2) (_, 0) ⟨Nat.zero_le _, fun j hj => absurd hj (Nat.not_lt_zero _)⟩ (.of (Nat.le_refl _) .nil (.cons rfl (.cons rfl (.cons rfl .nil)))) ?_
    rintro ⟨ck, i⟩ ⟨hi, hj⟩
    simp only at hi hj
    (repeat first | refine awp_seq ?_ | refine awp_skip ?_ | refine awp_block ?_); refine awp_region tab_ok hl rfl fun K hK => ?_; simp only [go_sem, ne_eq, Nat.reduceAdd, Nat.reduceSub, Nat.reduceMul, Nat.reduceLT, Nat.reduceEqDiff, Nat.reduceBEq, Nat.reduceLeDiff, Int.reduceToNat, ↓reduceIte, Int.reduceEq, Int.reduceLT, Int.reduceLE, Int.reduceAdd, Int.reduceSub, Int.reduceNeg, reduceCtorEq]
    refine hK _ ?_; clear hK K
    (repeat first | refine awp_seq ?_ | refine awp_skip ?_ | refine awp_block ?_); refine condP _ rfl (fun h' => ?_) (fun h' => ?_)
    · have hlt : i < a.length := by omega
      have hlt' : i < b.length := by omega
      (repeat first | refine awp_seq ?_ | refine awp_skip ?_ | refine awp_block ?_); refine awp_region_drawR tab_ok hl (by kernel_rfl) (by kernel_rfl) rfl fun K hK => ?_; simp only [go_sem, ne_eq, Nat.reduceAdd, Nat.reduceSub, Nat.reduceMul, Nat.reduceLT, Nat.reduceEqDiff, Nat.reduceBEq, Nat.reduceLeDiff, Int.reduceToNat, ↓reduceIte, Int.reduceEq, Int.reduceLT, Int.reduceLE, Int.reduceAdd, Int.reduceSub, Int.reduceNeg, reduceCtorEq, ints_getD hlt, ints_getD hlt']
      refine ⟨by omega, by omega, rfl, ?_⟩
      refine hK _ ?_; clear hK K
      (repeat first | refine awp_seq ?_ | refine awp_skip ?_ | refine awp_block ?_); refine condP _ rfl (fun e => ?_) (fun e => ?_)
      · (repeat first | refine awp_seq ?_ | refine awp_skip ?_ | refine awp_block ?_); refine awp_region tab_ok hl rfl fun K hK => ?_; simp only [go_sem, ne_eq, Nat.reduceAdd, Nat.reduceSub, Nat.reduceMul, Nat.reduceLT, Nat.reduceEqDiff, Nat.reduceBEq, Nat.reduceLeDiff, Int.reduceToNat, ↓reduceIte, Int.reduceEq, Int.reduceLT, Int.reduceLE, Int.reduceAdd, Int.reduceSub, Int.reduceNeg, reduceCtorEq]
        refine hK _ (awp_ret ⟨trivial, trivial, ?_, rfl, fun j hj => by cases hj⟩)
        have : a ≠ b := fun e' => e (by rw [e'])
        simp only [this, decide_false]; rfl
      · (repeat first | refine awp_seq ?_ | refine awp_skip ?_ | refine awp_block ?_); refine awp_region tab_ok hl rfl fun K hK => ?_; simp only [go_sem, ne_eq, Nat.reduceAdd, Nat.reduceSub, Nat.reduceMul, Nat.reduceLT, Nat.reduceEqDiff, Nat.reduceBEq, Nat.reduceLeDiff, Int.reduceToNat, ↓reduceIte, Int.reduceEq, Int.reduceLT, Int.reduceLE, Int.reduceAdd, Int.reduceSub, Int.reduceNeg, reduceCtorEq]
        refine ⟨by omega, ?_⟩
        refine hK _ ?_; clear hK K
        refine ⟨(_, i + 1), ⟨by omega, fun j hj' => ?_⟩, by simp only; omega, .of (Nat.le_refl _) .nil (.cons rfl (.cons rfl (.cons rfl .nil)))⟩
        by_cases hji : j = i
        · subst hji; exact Classical.not_not.1 e
        · exact hj j (by omega)
    · refine awp_exit ?_
      (repeat first | refine awp_seq ?_ | refine awp_skip ?_ | refine awp_block ?_); refine awp_region tab_ok hl rfl fun K hK => ?_; simp only [go_sem, ne_eq, Nat.reduceAdd, Nat.reduceSub, Nat.reduceMul, Nat.reduceLT, Nat.reduceEqDiff, Nat.reduceBEq, Nat.reduceLeDiff, Int.reduceToNat, ↓reduceIte, Int.reduceEq, Int.reduceLT, Int.reduceLE, Int.reduceAdd, Int.reduceSub, Int.reduceNeg, reduceCtorEq]
      refine hK _ (awp_ret ⟨trivial, trivial, ?_, rfl, fun j hj => by cases hj⟩)
      have : a = b := list_ext hab fun j h1 => hj j (by omega)
      simp only [this, decide_true]; rfl
end Go.Proofs.Ytmjlnndnpdbagaa
