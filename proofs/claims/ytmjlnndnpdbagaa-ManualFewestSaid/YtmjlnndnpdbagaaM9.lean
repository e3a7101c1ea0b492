import Derived.Test.YtmjlnndnpdbagaaM8
set_option linter.all false
set_option linter.unusedSimpArgs false
set_option linter.unusedVariables false
set_option linter.deprecated false
namespace Go.Proofs.Ytmjlnndnpdbagaa
open Go Go.Sym

theorem rsorts_sat (ps : List (List Int)) (n : Int) (hs : Short ps) : Sat Try.prog 28 [RS ps, I n] [] (B (decide (SortsP ps n))) [] := by
  have hs' := hs.1
  refine Sat_of_awp (T := tab) tab_ok Try.func28 rfl (by rfl) (by simp [Try.ntmps28]) ?_
  intro w Z blks hb
  have hl : blks.length ≤ 100 := by rw [hb]; simp
  rw [Try.ntmps28]
  simp only [tm0, hp0, List.zipIdx, List.map]
  by_cases h0 : n < 1
  · (repeat first | refine awp_seq ?_ | refine awp_skip ?_ | refine awp_block ?_); refine awp_region tab_ok hl rfl fun K hK => ?_; simp only [go_sem, ne_eq, Nat.reduceAdd, Nat.reduceSub, Nat.reduceMul, Nat.reduceLT, Nat.reduceEqDiff, Nat.reduceBEq, Nat.reduceLeDiff, Int.reduceToNat, ↓reduceIte, Int.reduceEq, Int.reduceLT, Int.reduceLE, Int.reduceAdd, Int.reduceSub, Int.reduceNeg, reduceCtorEq]
    refine hK _ ?_; clear hK K
    (repeat first | refine awp_seq ?_ | refine awp_skip ?_ | refine awp_block ?_); refine awp_region tab_ok hl rfl fun K hK => ?_; simp only [go_sem, ne_eq, Nat.reduceAdd, Nat.reduceSub, Nat.reduceMul, Nat.reduceLT, Nat.reduceEqDiff, Nat.reduceBEq, Nat.reduceLeDiff, Int.reduceToNat, ↓reduceIte, Int.reduceEq, Int.reduceLT, Int.reduceLE, Int.reduceAdd, Int.reduceSub, Int.reduceNeg, reduceCtorEq, h0]
    refine hK _ ?_; clear hK K
    (repeat first | refine awp_seq ?_ | refine awp_skip ?_ | refine awp_block ?_); refine condT rfl ?_
    (repeat first | refine awp_seq ?_ | refine awp_skip ?_ | refine awp_block ?_); refine awp_region tab_ok hl rfl fun K hK => ?_; simp only [go_sem, ne_eq, Nat.reduceAdd, Nat.reduceSub, Nat.reduceMul, Nat.reduceLT, Nat.reduceEqDiff, Nat.reduceBEq, Nat.reduceLeDiff, Int.reduceToNat, ↓reduceIte, Int.reduceEq, Int.reduceLT, Int.reduceLE, Int.reduceAdd, Int.reduceSub, Int.reduceNeg, reduceCtorEq]
    refine hK _ (awp_ret ⟨trivial, trivial, ?_, rfl, fun j hj => by cases hj⟩)
    have : ¬ SortsP ps n := fun h => by have := h.1; omega
    simp only [this, decide_false]; rfl
  by_cases h40 : 40 < n
  · (repeat first | refine awp_seq ?_ | refine awp_skip ?_ | refine awp_block ?_); refine awp_region tab_ok hl rfl fun K hK => ?_; simp only [go_sem, ne_eq, Nat.reduceAdd, Nat.reduceSub, Nat.reduceMul, Nat.reduceLT, Nat.reduceEqDiff, Nat.reduceBEq, Nat.reduceLeDiff, Int.reduceToNat, ↓reduceIte, Int.reduceEq, Int.reduceLT, Int.reduceLE, Int.reduceAdd, Int.reduceSub, Int.reduceNeg, reduceCtorEq]
    refine hK _ ?_; clear hK K
    (repeat first | refine awp_seq ?_ | refine awp_skip ?_ | refine awp_block ?_); refine awp_region tab_ok hl rfl fun K hK => ?_; simp only [go_sem, ne_eq, Nat.reduceAdd, Nat.reduceSub, Nat.reduceMul, Nat.reduceLT, Nat.reduceEqDiff, Nat.reduceBEq, Nat.reduceLeDiff, Int.reduceToNat, ↓reduceIte, Int.reduceEq, Int.reduceLT, Int.reduceLE, Int.reduceAdd, Int.reduceSub, Int.reduceNeg, reduceCtorEq, h0, h40]
    refine hK _ ?_; clear hK K
    (repeat first | refine awp_seq ?_ | refine awp_skip ?_ | refine awp_block ?_); refine condT rfl ?_
    (repeat first | refine awp_seq ?_ | refine awp_skip ?_ | refine awp_block ?_); refine awp_region tab_ok hl rfl fun K hK => ?_; simp only [go_sem, ne_eq, Nat.reduceAdd, Nat.reduceSub, Nat.reduceMul, Nat.reduceLT, Nat.reduceEqDiff, Nat.reduceBEq, Nat.reduceLeDiff, Int.reduceToNat, ↓reduceIte, Int.reduceEq, Int.reduceLT, Int.reduceLE, Int.reduceAdd, Int.reduceSub, Int.reduceNeg, reduceCtorEq]
    refine hK _ (awp_ret ⟨trivial, trivial, ?_, rfl, fun j hj => by cases hj⟩)
    have : ¬ SortsP ps n := fun h => by have := h.1; omega
    simp only [this, decide_false]; rfl
  have h1 : 1 ≤ n ∧ n ≤ 40 := by omega
  · (repeat first | refine awp_seq ?_ | refine awp_skip ?_ | refine awp_block ?_); refine awp_region tab_ok hl rfl fun K hK => ?_; simp only [go_sem, ne_eq, Nat.reduceAdd, Nat.reduceSub, Nat.reduceMul, Nat.reduceLT, Nat.reduceEqDiff, Nat.reduceBEq, Nat.reduceLeDiff, Int.reduceToNat, ↓reduceIte, Int.reduceEq, Int.reduceLT, Int.reduceLE, Int.reduceAdd, Int.reduceSub, Int.reduceNeg, reduceCtorEq]
    refine hK _ ?_; clear hK K
    (repeat first | refine awp_seq ?_ | refine awp_skip ?_ | refine awp_block ?_); refine awp_region tab_ok hl rfl fun K hK => ?_; simp only [go_sem, ne_eq, Nat.reduceAdd, Nat.reduceSub, Nat.reduceMul, Nat.reduceLT, Nat.reduceEqDiff, Nat.reduceBEq, Nat.reduceLeDiff, Int.reduceToNat, ↓reduceIte, Int.reduceEq, Int.reduceLT, Int.reduceLE, Int.reduceAdd, Int.reduceSub, Int.reduceNeg, reduceCtorEq, h0, h40]
    refine hK _ ?_; clear hK K
    (repeat first | refine awp_seq ?_ | refine awp_skip ?_ | refine awp_block ?_); refine condF rfl ?_
    (repeat first | refine awp_seq ?_ | refine awp_skip ?_ | refine awp_block ?_); refine awp_region tab_ok hl rfl fun K hK => ?_; simp only [go_sem, ne_eq, Nat.reduceAdd, Nat.reduceSub, Nat.reduceMul, Nat.reduceLT, Nat.reduceEqDiff, Nat.reduceBEq, Nat.reduceLeDiff, Int.reduceToNat, ↓reduceIte, Int.reduceEq, Int.reduceLT, Int.reduceLE, Int.reduceAdd, Int.reduceSub, Int.reduceNeg, reduceCtorEq]
    refine hK _ ?_; clear hK K
    (repeat first | refine awp_seq ?_ | refine awp_skip ?_ | refine awp_block ?_)
    refine awp_loopW (fun i : Nat × Nat => ⟨[(0, RS ps), (1, I n), (5, I i.2)], [], i.1⟩) (fun i => i.2 ≤ ps.length ∧ ∀ j, j < i.2 → n ≤ (ps.getD j []).length) (fun i => ps.length - i.2) (_, 0) ⟨Nat.zero_le _, fun j hj => absurd hj (Nat.not_lt_zero _)⟩ (.of (Nat.le_refl _) .nil (.cons rfl (.cons rfl (.cons rfl .nil)))) ?_
    rintro ⟨ck, i⟩ ⟨hi, hj⟩
    simp only at hi hj
    (repeat first | refine awp_seq ?_ | refine awp_skip ?_ | refine awp_block ?_); refine awp_region tab_ok hl rfl fun K hK => ?_; simp only [go_sem, ne_eq, Nat.reduceAdd, Nat.reduceSub, Nat.reduceMul, Nat.reduceLT, Nat.reduceEqDiff, Nat.reduceBEq, Nat.reduceLeDiff, Int.reduceToNat, ↓reduceIte, Int.reduceEq, Int.reduceLT, Int.reduceLE, Int.reduceAdd, Int.reduceSub, Int.reduceNeg, reduceCtorEq]
    refine hK _ ?_; clear hK K
    (repeat first | refine awp_seq ?_ | refine awp_skip ?_ | refine awp_block ?_); refine condP _ rfl (fun e => ?_) (fun e => ?_)
    · have hlt : i < ps.length := by omega
      (repeat first | refine awp_seq ?_ | refine awp_skip ?_ | refine awp_block ?_); refine awp_region tab_ok hl rfl fun K hK => ?_; simp only [go_sem, ne_eq, Nat.reduceAdd, Nat.reduceSub, Nat.reduceMul, Nat.reduceLT, Nat.reduceEqDiff, Nat.reduceBEq, Nat.reduceLeDiff, Int.reduceToNat, ↓reduceIte, Int.reduceEq, Int.reduceLT, Int.reduceLE, Int.reduceAdd, Int.reduceSub, Int.reduceNeg, reduceCtorEq, rows_getD hlt]
      refine ⟨by omega, ?_⟩
      refine hK _ ?_; clear hK K
      (repeat first | refine awp_seq ?_ | refine awp_skip ?_ | refine awp_block ?_); refine condP _ rfl (fun e' => ?_) (fun e' => ?_)
      · (repeat first | refine awp_seq ?_ | refine awp_skip ?_ | refine awp_block ?_); refine awp_region tab_ok hl rfl fun K hK => ?_; simp only [go_sem, ne_eq, Nat.reduceAdd, Nat.reduceSub, Nat.reduceMul, Nat.reduceLT, Nat.reduceEqDiff, Nat.reduceBEq, Nat.reduceLeDiff, Int.reduceToNat, ↓reduceIte, Int.reduceEq, Int.reduceLT, Int.reduceLE, Int.reduceAdd, Int.reduceSub, Int.reduceNeg, reduceCtorEq]
        refine hK _ (awp_ret ⟨trivial, trivial, ?_, rfl, fun j hj => by cases hj⟩)
        have : ¬ SortsP ps n := fun h => by have := h.2.1 _ (getD_mem hlt); omega
        simp only [this, decide_false]; rfl
      · (repeat first | refine awp_seq ?_ | refine awp_skip ?_ | refine awp_block ?_); refine awp_region tab_ok hl rfl fun K hK => ?_; simp only [go_sem, ne_eq, Nat.reduceAdd, Nat.reduceSub, Nat.reduceMul, Nat.reduceLT, Nat.reduceEqDiff, Nat.reduceBEq, Nat.reduceLeDiff, Int.reduceToNat, ↓reduceIte, Int.reduceEq, Int.reduceLT, Int.reduceLE, Int.reduceAdd, Int.reduceSub, Int.reduceNeg, reduceCtorEq]
        refine ⟨by omega, ?_⟩
        refine hK _ ?_; clear hK K
        refine ⟨(_, i + 1), ⟨by omega, fun j hj' => ?_⟩, by simp only; omega, .of (Nat.le_refl _) .nil (.cons rfl (.cons rfl (.cons rfl .nil)))⟩
        by_cases hji : j = i
        · subst hji; omega
        · exact hj j (by omega)
    · refine awp_exit ?_
      obtain rfl : i = ps.length := by omega
      have hall : ∀ p ∈ ps, n ≤ p.length := fun p hp => by
        obtain ⟨j, h2, rfl⟩ := mem_getD hp
        exact hj j h2
      obtain ⟨N, rfl⟩ := Int.eq_ofNat_of_zero_le (show 0 ≤ n by omega)
      (repeat first | refine awp_seq ?_ | refine awp_skip ?_ | refine awp_block ?_); refine awp_region tab_ok hl rfl fun K hK => ?_; simp only [go_sem, ne_eq, Nat.reduceAdd, Nat.reduceSub, Nat.reduceMul, Nat.reduceLT, Nat.reduceEqDiff, Nat.reduceBEq, Nat.reduceLeDiff, Int.reduceToNat, ↓reduceIte, Int.reduceEq, Int.reduceLT, Int.reduceLE, Int.reduceAdd, Int.reduceSub, Int.reduceNeg, reduceCtorEq]
      refine hK _ ?_; clear hK K
      (repeat first | refine awp_seq ?_ | refine awp_skip ?_ | refine awp_block ?_)
      refine awp_loopW (fun i : Nat × Nat => ⟨[(0, RS ps), (1, I N), (6, I i.2)], [], i.1⟩) (fun i => i.2 ≤ N ∧ ∀ g, g < i.2 → ∀ f, f < g → bef ps f g = true) (fun i => N - i.2) (_, 0) ⟨Nat.zero_le _, fun j hj => absurd hj (Nat.not_lt_zero _)⟩ (.of (Nat.le_refl _) .nil (.cons rfl (.cons rfl (.cons rfl .nil)))) ?_
      rintro ⟨ck, g⟩ ⟨hg, hg'⟩
      simp only at hg hg'
      (repeat first | refine awp_seq ?_ | refine awp_skip ?_ | refine awp_block ?_); refine awp_region tab_ok hl rfl fun K hK => ?_; simp only [go_sem, ne_eq, Nat.reduceAdd, Nat.reduceSub, Nat.reduceMul, Nat.reduceLT, Nat.reduceEqDiff, Nat.reduceBEq, Nat.reduceLeDiff, Int.reduceToNat, ↓reduceIte, Int.reduceEq, Int.reduceLT, Int.reduceLE, Int.reduceAdd, Int.reduceSub, Int.reduceNeg, reduceCtorEq]
      refine hK _ ?_; clear hK K
      (repeat first | refine awp_seq ?_ | refine awp_skip ?_ | refine awp_block ?_); refine condP _ rfl (fun e1 => ?_) (fun e1 => ?_)
      · (repeat first | refine awp_seq ?_ | refine awp_skip ?_ | refine awp_block ?_); refine awp_region tab_ok hl rfl fun K hK => ?_; simp only [go_sem, ne_eq, Nat.reduceAdd, Nat.reduceSub, Nat.reduceMul, Nat.reduceLT, Nat.reduceEqDiff, Nat.reduceBEq, Nat.reduceLeDiff, Int.reduceToNat, ↓reduceIte, Int.reduceEq, Int.reduceLT, Int.reduceLE, Int.reduceAdd, Int.reduceSub, Int.reduceNeg, reduceCtorEq]
        refine hK _ ?_; clear hK K
        (repeat first | refine awp_seq ?_ | refine awp_skip ?_ | refine awp_block ?_)
        refine awp_loopW (fun i : Nat × Nat => ⟨[(0, RS ps), (1, I N), (6, I g), (7, I i.2)], [], i.1⟩) (fun i => i.2 ≤ g ∧ ∀ f, f < i.2 → bef ps f g = true) (fun i => g - i.2) (_, 0) ⟨Nat.zero_le _, fun j hj => absurd hj (Nat.not_lt_zero _)⟩ (.of (Nat.le_refl _) .nil (.cons rfl (.cons rfl (.cons rfl (.cons rfl .nil))))) ?_
        rintro ⟨ck, f⟩ ⟨hf, hf'⟩
        simp only at hf hf'
        (repeat first | refine awp_seq ?_ | refine awp_skip ?_ | refine awp_block ?_); refine awp_region tab_ok hl rfl fun K hK => ?_; simp only [go_sem, ne_eq, Nat.reduceAdd, Nat.reduceSub, Nat.reduceMul, Nat.reduceLT, Nat.reduceEqDiff, Nat.reduceBEq, Nat.reduceLeDiff, Int.reduceToNat, ↓reduceIte, Int.reduceEq, Int.reduceLT, Int.reduceLE, Int.reduceAdd, Int.reduceSub, Int.reduceNeg, reduceCtorEq]
        refine hK _ ?_; clear hK K
        (repeat first | refine awp_seq ?_ | refine awp_skip ?_ | refine awp_block ?_); refine condP _ rfl (fun e2 => ?_) (fun e2 => ?_)
        · (repeat first | refine awp_seq ?_ | refine awp_skip ?_ | refine awp_block ?_); refine awp_region tab_ok hl rfl fun K hK => ?_; simp only [go_sem, ne_eq, Nat.reduceAdd, Nat.reduceSub, Nat.reduceMul, Nat.reduceLT, Nat.reduceEqDiff, Nat.reduceBEq, Nat.reduceLeDiff, Int.reduceToNat, ↓reduceIte, Int.reduceEq, Int.reduceLT, Int.reduceLE, Int.reduceAdd, Int.reduceSub, Int.reduceNeg, reduceCtorEq]
          refine hK _ ?_; clear hK K
          (repeat first | refine awp_seq ?_ | refine awp_skip ?_ | refine awp_block ?_); refine awp_region tab_ok hl rfl fun K hK => ?_; simp only [go_sem, ne_eq, Nat.reduceAdd, Nat.reduceSub, Nat.reduceMul, Nat.reduceLT, Nat.reduceEqDiff, Nat.reduceBEq, Nat.reduceLeDiff, Int.reduceToNat, ↓reduceIte, Int.reduceEq, Int.reduceLT, Int.reduceLE, Int.reduceAdd, Int.reduceSub, Int.reduceNeg, reduceCtorEq]
          refine hK _ ?_; clear hK K
          (repeat first | refine awp_seq ?_ | refine awp_skip ?_ | refine awp_block ?_)
          refine awp_loopW (fun i : Nat × Nat => ⟨[(0, RS ps), (1, I N), (6, I g), (7, I f), (8, B (bef (ps.take i.2) f g)), (9, I i.2)], [], i.1⟩) (fun i => i.2 ≤ ps.length) (fun i => ps.length - i.2) (_, 0) (Nat.zero_le _) (.of (Nat.le_refl _) .nil (.cons rfl (.cons rfl (.cons rfl (.cons rfl (.cons rfl (.cons rfl .nil))))))) ?_
          rintro ⟨ck, k⟩ hk
          simp only at hk
          (repeat first | refine awp_seq ?_ | refine awp_skip ?_ | refine awp_block ?_); refine awp_region tab_ok hl rfl fun K hK => ?_; simp only [go_sem, ne_eq, Nat.reduceAdd, Nat.reduceSub, Nat.reduceMul, Nat.reduceLT, Nat.reduceEqDiff, Nat.reduceBEq, Nat.reduceLeDiff, Int.reduceToNat, ↓reduceIte, Int.reduceEq, Int.reduceLT, Int.reduceLE, Int.reduceAdd, Int.reduceSub, Int.reduceNeg, reduceCtorEq]
          refine hK _ ?_; clear hK K
          (repeat first | refine awp_seq ?_ | refine awp_skip ?_ | refine awp_block ?_); refine condP _ rfl (fun e3 => ?_) (fun e3 => ?_)
          · have hlt : k < ps.length := by omega
            have hx := getD_mem hlt
            have hf1 : f < (ps.getD k []).length := by have := hall _ hx; omega
            have hg1 : g < (ps.getD k []).length := by have := hall _ hx; omega
            have hbe : bef (ps.take (k + 1)) f g = bstep f g (bef (ps.take k) f g) (ps.getD k []) := foldl_take _ _ _ _ hlt
            (repeat first | refine awp_seq ?_ | refine awp_skip ?_ | refine awp_block ?_); refine awp_region_drawR tab_ok hl (by kernel_rfl) (by kernel_rfl) rfl fun K hK => ?_; simp only [go_sem, ne_eq, Nat.reduceAdd, Nat.reduceSub, Nat.reduceMul, Nat.reduceLT, Nat.reduceEqDiff, Nat.reduceBEq, Nat.reduceLeDiff, Int.reduceToNat, ↓reduceIte, Int.reduceEq, Int.reduceLT, Int.reduceLE, Int.reduceAdd, Int.reduceSub, Int.reduceNeg, reduceCtorEq, rows_getD hlt, ints_getD hf1, ints_getD hg1]
            refine ⟨by omega, by omega, by omega, by omega, rfl, ?_⟩
            refine hK _ ?_; clear hK K
            (repeat first | refine awp_seq ?_ | refine awp_skip ?_ | refine awp_block ?_); refine condP _ rfl (fun e4 => ?_) (fun e4 => ?_)
            · (repeat first | refine awp_seq ?_ | refine awp_skip ?_ | refine awp_block ?_); refine awp_region_drawR tab_ok hl (by kernel_rfl) (by kernel_rfl) rfl fun K hK => ?_; simp only [go_sem, ne_eq, Nat.reduceAdd, Nat.reduceSub, Nat.reduceMul, Nat.reduceLT, Nat.reduceEqDiff, Nat.reduceBEq, Nat.reduceLeDiff, Int.reduceToNat, ↓reduceIte, Int.reduceEq, Int.reduceLT, Int.reduceLE, Int.reduceAdd, Int.reduceSub, Int.reduceNeg, reduceCtorEq, rows_getD hlt, ints_getD hf1, ints_getD hg1]
              refine ⟨by omega, by omega, by omega, by omega, rfl, ?_⟩
              refine hK _ ?_; clear hK K
              (repeat first | refine awp_seq ?_ | refine awp_skip ?_ | refine awp_block ?_); refine awp_region tab_ok hl rfl fun K hK => ?_; simp only [go_sem, ne_eq, Nat.reduceAdd, Nat.reduceSub, Nat.reduceMul, Nat.reduceLT, Nat.reduceEqDiff, Nat.reduceBEq, Nat.reduceLeDiff, Int.reduceToNat, ↓reduceIte, Int.reduceEq, Int.reduceLT, Int.reduceLE, Int.reduceAdd, Int.reduceSub, Int.reduceNeg, reduceCtorEq]
              refine ⟨by omega, ?_⟩
              refine hK _ ?_; clear hK K
              refine ⟨(_, k + 1), by simp only; omega, by simp only; omega, .of (Nat.le_refl _) .nil (.cons rfl (.cons rfl (.cons rfl (.cons rfl (.cons ?_ (.cons rfl .nil))))))⟩
              rw [hbe, bstep, if_neg e4]; rfl
            · (repeat first | refine awp_seq ?_ | refine awp_skip ?_ | refine awp_block ?_); refine awp_region tab_ok hl rfl fun K hK => ?_; simp only [go_sem, ne_eq, Nat.reduceAdd, Nat.reduceSub, Nat.reduceMul, Nat.reduceLT, Nat.reduceEqDiff, Nat.reduceBEq, Nat.reduceLeDiff, Int.reduceToNat, ↓reduceIte, Int.reduceEq, Int.reduceLT, Int.reduceLE, Int.reduceAdd, Int.reduceSub, Int.reduceNeg, reduceCtorEq]
              refine ⟨by omega, ?_⟩
              refine hK _ ?_; clear hK K
              refine ⟨(_, k + 1), by simp only; omega, by simp only; omega, .of (Nat.le_refl _) .nil (.cons rfl (.cons rfl (.cons rfl (.cons rfl (.cons ?_ (.cons rfl .nil))))))⟩
              rw [hbe, bstep, if_pos (Classical.not_not.1 e4)]; rfl
          · refine awp_exit ?_
            obtain rfl : k = ps.length := by omega
            rw [List.take_length]
            cases hbf : bef ps f g
            · (repeat first | refine awp_seq ?_ | refine awp_skip ?_ | refine awp_block ?_); refine awp_region tab_ok hl rfl fun K hK => ?_; simp only [go_sem, ne_eq, Nat.reduceAdd, Nat.reduceSub, Nat.reduceMul, Nat.reduceLT, Nat.reduceEqDiff, Nat.reduceBEq, Nat.reduceLeDiff, Int.reduceToNat, ↓reduceIte, Int.reduceEq, Int.reduceLT, Int.reduceLE, Int.reduceAdd, Int.reduceSub, Int.reduceNeg, reduceCtorEq]
              refine hK _ ?_; clear hK K
              (repeat first | refine awp_seq ?_ | refine awp_skip ?_ | refine awp_block ?_); refine condT rfl ?_
              (repeat first | refine awp_seq ?_ | refine awp_skip ?_ | refine awp_block ?_); refine awp_region tab_ok hl rfl fun K hK => ?_; simp only [go_sem, ne_eq, Nat.reduceAdd, Nat.reduceSub, Nat.reduceMul, Nat.reduceLT, Nat.reduceEqDiff, Nat.reduceBEq, Nat.reduceLeDiff, Int.reduceToNat, ↓reduceIte, Int.reduceEq, Int.reduceLT, Int.reduceLE, Int.reduceAdd, Int.reduceSub, Int.reduceNeg, reduceCtorEq]
              refine hK _ (awp_ret ⟨trivial, trivial, ?_, rfl, fun j hj => by cases hj⟩)
              have : ¬ SortsP ps N := fun h => by
                have := h.2.2 g (by omega) f (by omega)
                rw [hbf] at this; cases this
              simp only [this, decide_false]; rfl
            · (repeat first | refine awp_seq ?_ | refine awp_skip ?_ | refine awp_block ?_); refine awp_region tab_ok hl rfl fun K hK => ?_; simp only [go_sem, ne_eq, Nat.reduceAdd, Nat.reduceSub, Nat.reduceMul, Nat.reduceLT, Nat.reduceEqDiff, Nat.reduceBEq, Nat.reduceLeDiff, Int.reduceToNat, ↓reduceIte, Int.reduceEq, Int.reduceLT, Int.reduceLE, Int.reduceAdd, Int.reduceSub, Int.reduceNeg, reduceCtorEq]
              refine hK _ ?_; clear hK K
              (repeat first | refine awp_seq ?_ | refine awp_skip ?_ | refine awp_block ?_); refine condF rfl ?_
              (repeat first | refine awp_seq ?_ | refine awp_skip ?_ | refine awp_block ?_); refine awp_region tab_ok hl rfl fun K hK => ?_; simp only [go_sem, ne_eq, Nat.reduceAdd, Nat.reduceSub, Nat.reduceMul, Nat.reduceLT, Nat.reduceEqDiff, Nat.reduceBEq, Nat.reduceLeDiff, Int.reduceToNat, ↓reduceIte, Int.reduceEq, Int.reduceLT, Int.reduceLE, Int.reduceAdd, Int.reduceSub, Int.reduceNeg, reduceCtorEq]
              refine ⟨by omega, ?_⟩
              refine hK _ ?_; clear hK K
              refine ⟨(_, f + 1), ⟨by omega, fun j hj' => ?_⟩, by simp only; omega, .of (Nat.le_refl _) .nil (.cons rfl (.cons rfl (.cons rfl (.cons rfl .nil))))⟩
              by_cases hji : j = f
              · subst hji; exact hbf
              · exact hf' j (by omega)
        · refine awp_exit ?_
          obtain rfl : f = g := by omega
          (repeat first | refine awp_seq ?_ | refine awp_skip ?_ | refine awp_block ?_); refine awp_region tab_ok hl rfl fun K hK => ?_; simp only [go_sem, ne_eq, Nat.reduceAdd, Nat.reduceSub, Nat.reduceMul, Nat.reduceLT, Nat.reduceEqDiff, Nat.reduceBEq, Nat.reduceLeDiff, Int.reduceToNat, ↓reduceIte, Int.reduceEq, Int.reduceLT, Int.reduceLE, Int.reduceAdd, Int.reduceSub, Int.reduceNeg, reduceCtorEq]
          refine ⟨by omega, ?_⟩
          refine hK _ ?_; clear hK K
          refine ⟨(_, f + 1), ⟨by omega, fun j hj' => ?_⟩, by simp only; omega, .of (Nat.le_refl _) .nil (.cons rfl (.cons rfl (.cons rfl .nil)))⟩
          by_cases hji : j = f
          · subst hji; exact hf'
          · exact hg' j (by omega)
      · refine awp_exit ?_
        obtain rfl : g = N := by omega
        (repeat first | refine awp_seq ?_ | refine awp_skip ?_ | refine awp_block ?_); refine awp_region tab_ok hl rfl fun K hK => ?_; simp only [go_sem, ne_eq, Nat.reduceAdd, Nat.reduceSub, Nat.reduceMul, Nat.reduceLT, Nat.reduceEqDiff, Nat.reduceBEq, Nat.reduceLeDiff, Int.reduceToNat, ↓reduceIte, Int.reduceEq, Int.reduceLT, Int.reduceLE, Int.reduceAdd, Int.reduceSub, Int.reduceNeg, reduceCtorEq]
        refine hK _ (awp_ret ⟨trivial, trivial, ?_, rfl, fun j hj => by cases hj⟩)
        have : SortsP ps g := ⟨h1, hall, fun g' h => hg' g' (by omega)⟩
        simp only [this, decide_true]; rfl
end Go.Proofs.Ytmjlnndnpdbagaa
