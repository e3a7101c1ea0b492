import Derived.Test.YtmjlnndnpdbagaaMP1
set_option linter.all false
set_option linter.unusedSimpArgs false
set_option linter.unusedVariables false
set_option linter.deprecated false
namespace Go.Proofs.Ytmjlnndnpdbagaa
open Go Go.Sym

theorem perform_satF (bags pass : List Int) (piles : Int) (hb1 : bags.length ≤ 9223372036854775807) (hp1 : pass.length ≤ 9223372036854775807) :
    SatF Try.prog 25 [IS bags, IS pass, I piles] (performR bags pass piles) := by
  refine SatF_of_awp (T := tab) tab_ok Try.func25 rfl (by rfl) (by simp [Try.ntmps25]) ?_
  intro w Z blks hb
  have hl : blks.length ≤ 100 := by rw [hb]; simp
  rw [Try.ntmps25]
  simp only [tm0, hp0, List.zipIdx, List.map]
  by_cases c1 : 40 < bags.length
  · have c1' : (40 : Int) < bags.length := by omega
    (repeat first | refine awp_seq ?_ | refine awp_skip ?_ | refine awp_block ?_); refine awp_region tab_ok hl rfl fun K hK => ?_; simp only [go_sem, ne_eq, Nat.reduceAdd, Nat.reduceSub, Nat.reduceMul, Nat.reduceLT, Nat.reduceEqDiff, Nat.reduceBEq, Nat.reduceLeDiff, Int.reduceToNat, ↓reduceIte, Int.reduceEq, Int.reduceLT, Int.reduceLE, Int.reduceAdd, Int.reduceSub, Int.reduceNeg, reduceCtorEq]
    refine hK _ ?_; clear hK K
    (repeat first | refine awp_seq ?_ | refine awp_skip ?_ | refine awp_block ?_); refine awp_region tab_ok hl rfl fun K hK => ?_; simp only [go_sem, ne_eq, Nat.reduceAdd, Nat.reduceSub, Nat.reduceMul, Nat.reduceLT, Nat.reduceEqDiff, Nat.reduceBEq, Nat.reduceLeDiff, Int.reduceToNat, ↓reduceIte, Int.reduceEq, Int.reduceLT, Int.reduceLE, Int.reduceAdd, Int.reduceSub, Int.reduceNeg, reduceCtorEq, c1']
    refine hK _ ?_; clear hK K
    (repeat first | refine awp_seq ?_ | refine awp_skip ?_ | refine awp_block ?_); refine condT rfl ?_
    (repeat first | refine awp_seq ?_ | refine awp_skip ?_ | refine awp_block ?_); refine awp_region tab_ok hl rfl fun K hK => ?_; simp only [go_sem, ne_eq, Nat.reduceAdd, Nat.reduceSub, Nat.reduceMul, Nat.reduceLT, Nat.reduceEqDiff, Nat.reduceBEq, Nat.reduceLeDiff, Int.reduceToNat, ↓reduceIte, Int.reduceEq, Int.reduceLT, Int.reduceLE, Int.reduceAdd, Int.reduceSub, Int.reduceNeg, reduceCtorEq]
    refine hK _ (awp_ret (retF2 ?_ ?_ ?_))
    · exact ⟨rfl, rfl, fun e he => by cases he⟩
    · trivial
    · rw [performR, show errOf bags pass piles = 2 by rw [errOf, if_pos (.inl c1)]]; rfl
  by_cases c2 : 40 < pass.length
  · have c1' : ¬ (40 : Int) < bags.length := by omega
    have c2' : (40 : Int) < pass.length := by omega
    (repeat first | refine awp_seq ?_ | refine awp_skip ?_ | refine awp_block ?_); refine awp_region tab_ok hl rfl fun K hK => ?_; simp only [go_sem, ne_eq, Nat.reduceAdd, Nat.reduceSub, Nat.reduceMul, Nat.reduceLT, Nat.reduceEqDiff, Nat.reduceBEq, Nat.reduceLeDiff, Int.reduceToNat, ↓reduceIte, Int.reduceEq, Int.reduceLT, Int.reduceLE, Int.reduceAdd, Int.reduceSub, Int.reduceNeg, reduceCtorEq]
    refine hK _ ?_; clear hK K
    (repeat first | refine awp_seq ?_ | refine awp_skip ?_ | refine awp_block ?_); refine awp_region tab_ok hl rfl fun K hK => ?_; simp only [go_sem, ne_eq, Nat.reduceAdd, Nat.reduceSub, Nat.reduceMul, Nat.reduceLT, Nat.reduceEqDiff, Nat.reduceBEq, Nat.reduceLeDiff, Int.reduceToNat, ↓reduceIte, Int.reduceEq, Int.reduceLT, Int.reduceLE, Int.reduceAdd, Int.reduceSub, Int.reduceNeg, reduceCtorEq, c1', c2']
    refine hK _ ?_; clear hK K
    (repeat first | refine awp_seq ?_ | refine awp_skip ?_ | refine awp_block ?_); refine condT rfl ?_
    (repeat first | refine awp_seq ?_ | refine awp_skip ?_ | refine awp_block ?_); refine awp_region tab_ok hl rfl fun K hK => ?_; simp only [go_sem, ne_eq, Nat.reduceAdd, Nat.reduceSub, Nat.reduceMul, Nat.reduceLT, Nat.reduceEqDiff, Nat.reduceBEq, Nat.reduceLeDiff, Int.reduceToNat, ↓reduceIte, Int.reduceEq, Int.reduceLT, Int.reduceLE, Int.reduceAdd, Int.reduceSub, Int.reduceNeg, reduceCtorEq]
    refine hK _ (awp_ret (retF2 ?_ ?_ ?_))
    · exact ⟨rfl, rfl, fun e he => by cases he⟩
    · trivial
    · rw [performR, show errOf bags pass piles = 2 by rw [errOf, if_pos (.inr c2)]]; rfl
  have c1' : ¬ (40 : Int) < bags.length := by omega
  have c2' : ¬ (40 : Int) < pass.length := by omega
  have e0 : errOf bags pass piles = if ¬ (2 ≤ piles ∧ piles ≤ 9) then 1 else if BadP pass piles then 1 else if BadB bags pass then 1 else 0 := by
    rw [errOf, if_neg (by omega)]
  (repeat first | refine awp_seq ?_ | refine awp_skip ?_ | refine awp_block ?_); refine awp_region tab_ok hl rfl fun K hK => ?_; simp only [go_sem, ne_eq, Nat.reduceAdd, Nat.reduceSub, Nat.reduceMul, Nat.reduceLT, Nat.reduceEqDiff, Nat.reduceBEq, Nat.reduceLeDiff, Int.reduceToNat, ↓reduceIte, Int.reduceEq, Int.reduceLT, Int.reduceLE, Int.reduceAdd, Int.reduceSub, Int.reduceNeg, reduceCtorEq]
  refine hK _ ?_; clear hK K
  (repeat first | refine awp_seq ?_ | refine awp_skip ?_ | refine awp_block ?_); refine awp_region tab_ok hl rfl fun K hK => ?_; simp only [go_sem, ne_eq, Nat.reduceAdd, Nat.reduceSub, Nat.reduceMul, Nat.reduceLT, Nat.reduceEqDiff, Nat.reduceBEq, Nat.reduceLeDiff, Int.reduceToNat, ↓reduceIte, Int.reduceEq, Int.reduceLT, Int.reduceLE, Int.reduceAdd, Int.reduceSub, Int.reduceNeg, reduceCtorEq, c1', c2']
  refine hK _ ?_; clear hK K
  (repeat first | refine awp_seq ?_ | refine awp_skip ?_ | refine awp_block ?_); refine condF rfl ?_
  (repeat first | refine awp_seq ?_ | refine awp_skip ?_ | refine awp_block ?_); refine awp_region tab_ok hl rfl fun K hK => ?_; simp only [go_sem, ne_eq, Nat.reduceAdd, Nat.reduceSub, Nat.reduceMul, Nat.reduceLT, Nat.reduceEqDiff, Nat.reduceBEq, Nat.reduceLeDiff, Int.reduceToNat, ↓reduceIte, Int.reduceEq, Int.reduceLT, Int.reduceLE, Int.reduceAdd, Int.reduceSub, Int.reduceNeg, reduceCtorEq]
  refine callF ⟨trivial, trivial, trivial, trivial⟩ (in_sat piles 2 9) rfl ?_
  by_cases c3 : 2 ≤ piles ∧ piles ≤ 9
  case neg =>
    simp only [go_sem, ne_eq, Nat.reduceAdd, Nat.reduceSub, Nat.reduceMul, Nat.reduceLT, Nat.reduceEqDiff, Nat.reduceBEq, Nat.reduceLeDiff, Int.reduceToNat, ↓reduceIte, Int.reduceEq, Int.reduceLT, Int.reduceLE, Int.reduceAdd, Int.reduceSub, Int.reduceNeg, reduceCtorEq, c3]
    refine hK _ ?_; clear hK K
    (repeat first | refine awp_seq ?_ | refine awp_skip ?_ | refine awp_block ?_); refine condT rfl ?_
    (repeat first | refine awp_seq ?_ | refine awp_skip ?_ | refine awp_block ?_); refine awp_region tab_ok hl rfl fun K hK => ?_; simp only [go_sem, ne_eq, Nat.reduceAdd, Nat.reduceSub, Nat.reduceMul, Nat.reduceLT, Nat.reduceEqDiff, Nat.reduceBEq, Nat.reduceLeDiff, Int.reduceToNat, ↓reduceIte, Int.reduceEq, Int.reduceLT, Int.reduceLE, Int.reduceAdd, Int.reduceSub, Int.reduceNeg, reduceCtorEq]
    refine hK _ (awp_ret (retF2 ?_ ?_ ?_))
    · exact ⟨rfl, rfl, fun e he => by cases he⟩
    · trivial
    · rw [performR, show errOf bags pass piles = 1 by rw [e0, if_pos c3]]; rfl
  simp only [go_sem, ne_eq, Nat.reduceAdd, Nat.reduceSub, Nat.reduceMul, Nat.reduceLT, Nat.reduceEqDiff, Nat.reduceBEq, Nat.reduceLeDiff, Int.reduceToNat, ↓reduceIte, Int.reduceEq, Int.reduceLT, Int.reduceLE, Int.reduceAdd, Int.reduceSub, Int.reduceNeg, reduceCtorEq, c3]
  refine hK _ ?_; clear hK K
  (repeat first | refine awp_seq ?_ | refine awp_skip ?_ | refine awp_block ?_); refine condF rfl ?_
  rw [if_neg (fun h => h c3)] at e0
  (repeat first | refine awp_seq ?_ | refine awp_skip ?_ | refine awp_block ?_); refine awp_region tab_ok hl rfl fun K hK => ?_; simp only [go_sem, ne_eq, Nat.reduceAdd, Nat.reduceSub, Nat.reduceMul, Nat.reduceLT, Nat.reduceEqDiff, Nat.reduceBEq, Nat.reduceLeDiff, Int.reduceToNat, ↓reduceIte, Int.reduceEq, Int.reduceLT, Int.reduceLE, Int.reduceAdd, Int.reduceSub, Int.reduceNeg, reduceCtorEq]
  refine hK _ ?_; clear hK K
  (repeat first | refine awp_seq ?_ | refine awp_skip ?_ | refine awp_block ?_)
  refine awp_loopW (fun i : Nat × Nat => ⟨[(0, IS bags), (1, IS pass), (2, I piles), (27, IS pass), (28, I pass.length), (29, I i.2)], [], i.1⟩) (fun i => i.2 ≤ pass.length ∧ ∀ j, j < i.2 → 0 ≤ pass.getD j 0 ∧ pass.getD j 0 ≤ piles - 1) (fun i => pass.length - i.2) (_, 0) ⟨Nat.zero_le _, fun j hj => absurd hj (Nat.not_lt_zero _)⟩ (.of (Nat.le_refl _) .nil (.cons rfl (.cons rfl (.cons rfl (.cons rfl (.cons rfl (.cons rfl .nil))))))) ?_
  rintro ⟨ck, i⟩ ⟨hi, hj⟩
  simp only at hi hj
  (repeat first | refine awp_seq ?_ | refine awp_skip ?_ | refine awp_block ?_); refine awp_region tab_ok hl rfl fun K hK => ?_; simp only [go_sem, ne_eq, Nat.reduceAdd, Nat.reduceSub, Nat.reduceMul, Nat.reduceLT, Nat.reduceEqDiff, Nat.reduceBEq, Nat.reduceLeDiff, Int.reduceToNat, ↓reduceIte, Int.reduceEq, Int.reduceLT, Int.reduceLE, Int.reduceAdd, Int.reduceSub, Int.reduceNeg, reduceCtorEq]
  refine hK _ ?_; clear hK K
  (repeat first | refine awp_seq ?_ | refine awp_skip ?_ | refine awp_block ?_); refine condP _ rfl (fun e => ?_) (fun e => ?_)
  · have hlt : i < pass.length := by omega
    (repeat first | refine awp_seq ?_ | refine awp_skip ?_ | refine awp_block ?_); refine awp_region tab_ok hl rfl fun K hK => ?_; simp only [go_sem, ne_eq, Nat.reduceAdd, Nat.reduceSub, Nat.reduceMul, Nat.reduceLT, Nat.reduceEqDiff, Nat.reduceBEq, Nat.reduceLeDiff, Int.reduceToNat, ↓reduceIte, Int.reduceEq, Int.reduceLT, Int.reduceLE, Int.reduceAdd, Int.reduceSub, Int.reduceNeg, reduceCtorEq, ints_getD hlt]
    refine ⟨by omega, ?_⟩
    refine hK _ ?_; clear hK K
    (repeat first | refine awp_seq ?_ | refine awp_skip ?_ | refine awp_block ?_); refine awp_region tab_ok hl rfl fun K hK => ?_; simp only [go_sem, ne_eq, Nat.reduceAdd, Nat.reduceSub, Nat.reduceMul, Nat.reduceLT, Nat.reduceEqDiff, Nat.reduceBEq, Nat.reduceLeDiff, Int.reduceToNat, ↓reduceIte, Int.reduceEq, Int.reduceLT, Int.reduceLE, Int.reduceAdd, Int.reduceSub, Int.reduceNeg, reduceCtorEq]
    refine ⟨by omega, ?_⟩
    refine callF ⟨trivial, trivial, trivial, trivial⟩ (in_sat (pass.getD i 0) 0 (piles - 1)) rfl ?_
    by_cases c4 : 0 ≤ pass.getD i 0 ∧ pass.getD i 0 ≤ piles - 1
    · simp only [go_sem, ne_eq, Nat.reduceAdd, Nat.reduceSub, Nat.reduceMul, Nat.reduceLT, Nat.reduceEqDiff, Nat.reduceBEq, Nat.reduceLeDiff, Int.reduceToNat, ↓reduceIte, Int.reduceEq, Int.reduceLT, Int.reduceLE, Int.reduceAdd, Int.reduceSub, Int.reduceNeg, reduceCtorEq, c4]
      refine hK _ ?_; clear hK K
      (repeat first | refine awp_seq ?_ | refine awp_skip ?_ | refine awp_block ?_); refine condF rfl ?_
      (repeat first | refine awp_seq ?_ | refine awp_skip ?_ | refine awp_block ?_); refine awp_region tab_ok hl rfl fun K hK => ?_; simp only [go_sem, ne_eq, Nat.reduceAdd, Nat.reduceSub, Nat.reduceMul, Nat.reduceLT, Nat.reduceEqDiff, Nat.reduceBEq, Nat.reduceLeDiff, Int.reduceToNat, ↓reduceIte, Int.reduceEq, Int.reduceLT, Int.reduceLE, Int.reduceAdd, Int.reduceSub, Int.reduceNeg, reduceCtorEq]
      refine ⟨by omega, ?_⟩
      refine hK _ ?_; clear hK K
      refine ⟨(_, i + 1), ⟨by omega, fun j hj' => ?_⟩, by simp only; omega, .of (Nat.le_refl _) .nil (.cons rfl (.cons rfl (.cons rfl (.cons rfl (.cons rfl (.cons rfl .nil))))))⟩
      by_cases hji : j = i
      · subst hji; exact c4
      · exact hj j (by omega)
    · simp only [go_sem, ne_eq, Nat.reduceAdd, Nat.reduceSub, Nat.reduceMul, Nat.reduceLT, Nat.reduceEqDiff, Nat.reduceBEq, Nat.reduceLeDiff, Int.reduceToNat, ↓reduceIte, Int.reduceEq, Int.reduceLT, Int.reduceLE, Int.reduceAdd, Int.reduceSub, Int.reduceNeg, reduceCtorEq, c4]
      refine hK _ ?_; clear hK K
      (repeat first | refine awp_seq ?_ | refine awp_skip ?_ | refine awp_block ?_); refine condT rfl ?_
      (repeat first | refine awp_seq ?_ | refine awp_skip ?_ | refine awp_block ?_); refine awp_region tab_ok hl rfl fun K hK => ?_; simp only [go_sem, ne_eq, Nat.reduceAdd, Nat.reduceSub, Nat.reduceMul, Nat.reduceLT, Nat.reduceEqDiff, Nat.reduceBEq, Nat.reduceLeDiff, Int.reduceToNat, ↓reduceIte, Int.reduceEq, Int.reduceLT, Int.reduceLE, Int.reduceAdd, Int.reduceSub, Int.reduceNeg, reduceCtorEq]
      refine hK _ (awp_ret (retF2 ?_ ?_ ?_))
      · exact ⟨rfl, rfl, fun e he => by cases he⟩
      · trivial
      · rw [performR, show errOf bags pass piles = 1 by rw [e0, if_pos ⟨_, getD_memI hlt, c4⟩]]; rfl
  · refine awp_exit ?_
    obtain rfl : i = pass.length := by omega
    have hgood : ∀ p ∈ pass, 0 ≤ p ∧ p ≤ piles - 1 := fun p hp => by
      obtain ⟨j, h2, rfl⟩ := mem_getDI hp
      exact hj j h2
    rw [if_neg (fun ⟨p, hp, h⟩ => h (hgood p hp))] at e0
    (repeat first | refine awp_seq ?_ | refine awp_skip ?_ | refine awp_block ?_); refine awp_region tab_ok hl rfl fun K hK => ?_; simp only [go_sem, ne_eq, Nat.reduceAdd, Nat.reduceSub, Nat.reduceMul, Nat.reduceLT, Nat.reduceEqDiff, Nat.reduceBEq, Nat.reduceLeDiff, Int.reduceToNat, ↓reduceIte, Int.reduceEq, Int.reduceLT, Int.reduceLE, Int.reduceAdd, Int.reduceSub, Int.reduceNeg, reduceCtorEq]
    refine hK _ ?_; clear hK K
    (repeat first | refine awp_seq ?_ | refine awp_skip ?_ | refine awp_block ?_); refine awp_region tab_ok hl rfl fun K hK => ?_; simp only [go_sem, ne_eq, Nat.reduceAdd, Nat.reduceSub, Nat.reduceMul, Nat.reduceLT, Nat.reduceEqDiff, Nat.reduceBEq, Nat.reduceLeDiff, Int.reduceToNat, ↓reduceIte, Int.reduceEq, Int.reduceLT, Int.reduceLE, Int.reduceAdd, Int.reduceSub, Int.reduceNeg, reduceCtorEq]
    refine hK _ ?_; clear hK K
    (repeat first | refine awp_seq ?_ | refine awp_skip ?_ | refine awp_block ?_)
    have hG : ∃ g0, g0 = ck + 1 := ⟨_, rfl⟩
    obtain ⟨g0, hg0⟩ := hG
    rw [← hg0]
    refine awp_weak (s' := ⟨[(0, IS bags), (1, IS pass), (39, IS bags), (40, I bags.length), (41, I ((0 : Nat) : Int)), (10, .ptO 110 g0 0 0 0)], (110, some (g0, .box (cellsP (pile bags pass 0) fun _ => 0))) :: hpP (pile bags pass 0) fun _ => 0, g0 + 1 + 1 + 1 + 1⟩)
      ⟨Nat.le_refl _, ?_, WOk.get (.cons rfl (.cons rfl (.cons rfl (.cons rfl (.cons rfl (.cons rfl .nil))))))⟩ ?_
    · intro id
      by_cases h : 110 = id
      · subst h; right; rfl
      · left
        simp only [Hp.get, if_neg h, hpP_get, objP]
        split
        · rfl
        · rfl
    refine awp_loop (fun j : Nat × Nat × (Nat → Nat) => (⟨[(0, IS bags), (1, IS pass), (39, IS bags), (40, I bags.length), (41, I j.2.1), (10, .ptO 110 g0 0 0 0)], (110, some (g0, .box (cellsP (pile bags pass j.2.1) j.2.2))) :: hpP (pile bags pass j.2.1) j.2.2, j.1⟩ : St))
      (fun j => j.2.1 ≤ bags.length ∧ ∀ k, k < j.2.1 → 0 ≤ bags.getD k 0 ∧ bags.getD k 0 ≤ (pass.length : Int) - 1) (fun j => bags.length - j.2.1) (_, 0, fun _ => 0) ⟨Nat.zero_le _, fun j hj => absurd hj (Nat.not_lt_zero _)⟩ ?_
    rintro ⟨ck, i, gp⟩ ⟨hi, hj⟩
    simp only at hi hj ⊢
    (repeat first | refine awp_seq ?_ | refine awp_skip ?_ | refine awp_block ?_); refine awp_region tab_ok hl rfl fun K hK => ?_; simp only [go_sem, ne_eq, Nat.reduceAdd, Nat.reduceSub, Nat.reduceMul, Nat.reduceLT, Nat.reduceEqDiff, Nat.reduceBEq, Nat.reduceLeDiff, Int.reduceToNat, ↓reduceIte, Int.reduceEq, Int.reduceLT, Int.reduceLE, Int.reduceAdd, Int.reduceSub, Int.reduceNeg, reduceCtorEq]
    refine hK _ ?_; clear hK K
    (repeat first | refine awp_seq ?_ | refine awp_skip ?_ | refine awp_block ?_); refine condP _ rfl (fun e => ?_) (fun e => ?_)
    · have hlt : i < bags.length := by omega
      (repeat first | refine awp_seq ?_ | refine awp_skip ?_ | refine awp_block ?_); refine awp_region tab_ok hl rfl fun K hK => ?_; simp only [go_sem, ne_eq, Nat.reduceAdd, Nat.reduceSub, Nat.reduceMul, Nat.reduceLT, Nat.reduceEqDiff, Nat.reduceBEq, Nat.reduceLeDiff, Int.reduceToNat, ↓reduceIte, Int.reduceEq, Int.reduceLT, Int.reduceLE, Int.reduceAdd, Int.reduceSub, Int.reduceNeg, reduceCtorEq, ints_getD hlt]
      refine ⟨by omega, ?_⟩
      refine hK _ ?_; clear hK K
      (repeat first | refine awp_seq ?_ | refine awp_skip ?_ | refine awp_block ?_); refine awp_region tab_ok hl rfl fun K hK => ?_; simp only [go_sem, ne_eq, Nat.reduceAdd, Nat.reduceSub, Nat.reduceMul, Nat.reduceLT, Nat.reduceEqDiff, Nat.reduceBEq, Nat.reduceLeDiff, Int.reduceToNat, ↓reduceIte, Int.reduceEq, Int.reduceLT, Int.reduceLE, Int.reduceAdd, Int.reduceSub, Int.reduceNeg, reduceCtorEq]
      refine ⟨by omega, ?_⟩
      refine callF ⟨trivial, trivial, trivial, trivial⟩ (in_sat (bags.getD i 0) 0 ((pass.length : Int) - 1)) rfl ?_
      by_cases c5 : 0 ≤ bags.getD i 0 ∧ bags.getD i 0 ≤ (pass.length : Int) - 1
      case neg =>
        simp only [go_sem, ne_eq, Nat.reduceAdd, Nat.reduceSub, Nat.reduceMul, Nat.reduceLT, Nat.reduceEqDiff, Nat.reduceBEq, Nat.reduceLeDiff, Int.reduceToNat, ↓reduceIte, Int.reduceEq, Int.reduceLT, Int.reduceLE, Int.reduceAdd, Int.reduceSub, Int.reduceNeg, reduceCtorEq, c5]
        refine hK _ ?_; clear hK K
        (repeat first | refine awp_seq ?_ | refine awp_skip ?_ | refine awp_block ?_); refine condT rfl ?_
        (repeat first | refine awp_seq ?_ | refine awp_skip ?_ | refine awp_block ?_); refine awp_region tab_ok hl rfl fun K hK => ?_; simp only [go_sem, ne_eq, Nat.reduceAdd, Nat.reduceSub, Nat.reduceMul, Nat.reduceLT, Nat.reduceEqDiff, Nat.reduceBEq, Nat.reduceLeDiff, Int.reduceToNat, ↓reduceIte, Int.reduceEq, Int.reduceLT, Int.reduceLE, Int.reduceAdd, Int.reduceSub, Int.reduceNeg, reduceCtorEq]
        refine hK _ (awp_ret (retF2 ?_ ?_ ?_))
        · exact ⟨rfl, rfl, fun e he => by cases he⟩
        · trivial
        · rw [performR, show errOf bags pass piles = 1 by rw [e0, if_pos ⟨_, getD_memI hlt, c5⟩]]; rfl
      simp only [go_sem, ne_eq, Nat.reduceAdd, Nat.reduceSub, Nat.reduceMul, Nat.reduceLT, Nat.reduceEqDiff, Nat.reduceBEq, Nat.reduceLeDiff, Int.reduceToNat, ↓reduceIte, Int.reduceEq, Int.reduceLT, Int.reduceLE, Int.reduceAdd, Int.reduceSub, Int.reduceNeg, reduceCtorEq, c5]
      refine hK _ ?_; clear hK K
      (repeat first | refine awp_seq ?_ | refine awp_skip ?_ | refine awp_block ?_); refine condF rfl ?_
      have hbn : (bags.getD i 0).toNat < pass.length := by omega
      have hpq := hgood _ (getD_memI hbn)
      obtain ⟨q, hq⟩ := Int.eq_ofNat_of_zero_le hpq.1
      have hq9 : q < 9 := by omega
      have hx110 : ¬ (110 = 1000 + q) := by omega
      have hx110' : ¬ (1000 + q = 110) := by omega
      have hget : (hpP (pile bags pass i) gp).get (1000 + q) = objP (pile bags pass i) gp q := by
        rw [hpP_get, if_pos ⟨by omega, by omega⟩, Nat.add_sub_cancel_left]
      have hlenq : (pile bags pass i q).length ≤ i := by
        simp only [pile, List.length_map]
        have := List.length_filter_le (fun (j : Nat) => decide (pass.getD (bags.getD j 0).toNat 0 = (q : Int))) (List.range i)
        simpa using this
      have hne : ∀ k, k ≠ q → pile bags pass (i + 1) k = pile bags pass i k := fun k hk => by
        rw [pile_succ, if_neg (by rw [hq]; omega)]
      have heq : pile bags pass (i + 1) q = pile bags pass i q ++ [(i : Int)] := by rw [pile_succ, if_pos (by rw [hq])]
      by_cases hemp : pile bags pass i q = []
      · have hcell : cellP (pile bags pass i) gp q = .sl [] true := by rw [cellP, if_pos hemp]
        (repeat first | refine awp_seq ?_ | refine awp_skip ?_ | refine awp_block ?_); refine awp_region_drawR tab_ok hl (by kernel_rfl) (by kernel_rfl) rfl fun K hK => ?_; simp only [go_sem, ne_eq, Nat.reduceAdd, Nat.reduceSub, Nat.reduceMul, Nat.reduceLT, Nat.reduceEqDiff, Nat.reduceBEq, Nat.reduceLeDiff, Int.reduceToNat, ↓reduceIte, Int.reduceEq, Int.reduceLT, Int.reduceLE, Int.reduceAdd, Int.reduceSub, Int.reduceNeg, reduceCtorEq, ints_getD hbn, hq, cellsP_drop hq9, hcell, cellsP_length, List.length_drop, Nat.mul_one]
        refine ⟨by omega, by omega, by omega, by omega, by omega, by omega, by kernel_rfl, ?_⟩
        rw [splice_cells hq9]
        refine hK _ ?_; clear hK K
        (repeat first | refine awp_seq ?_ | refine awp_skip ?_ | refine awp_block ?_); refine awp_region tab_ok hl rfl fun K hK => ?_; simp only [go_sem, ne_eq, Nat.reduceAdd, Nat.reduceSub, Nat.reduceMul, Nat.reduceLT, Nat.reduceEqDiff, Nat.reduceBEq, Nat.reduceLeDiff, Int.reduceToNat, ↓reduceIte, Int.reduceEq, Int.reduceLT, Int.reduceLE, Int.reduceAdd, Int.reduceSub, Int.reduceNeg, reduceCtorEq]
        refine ⟨by omega, ?_⟩
        refine hK _ ?_; clear hK K
        refine ⟨(_, i + 1, fun k => if k = q then ck + 24 else gp k), ⟨by simp only; omega, fun k hk => ?_⟩, by simp only; omega, fun a w hr => (new_pile (gn := ck + 24) hl hq9 hemp (by rw [heq, hemp]; rfl) hne (Nat.le_refl _) ?_ : Ren 164 (1000 + q) _ _ _).rel hr⟩
        · by_cases hki : k = i
          · subst hki; exact c5
          · exact hj k (by simp only at hk; omega)
        · exact ⟨.inl ⟨rfl, trivial⟩, .inl ⟨rfl, trivial⟩, .inl ⟨rfl, trivial⟩, .inl ⟨rfl, trivial⟩, .inl ⟨rfl, trivial⟩, .inl ⟨rfl, hx110⟩, trivial⟩
      · have hcell : cellP (pile bags pass i) gp q = .slO (1000 + q) (gp q) 0 (pile bags pass i q).length := by rw [cellP, if_neg hemp]
        have hobj : objP (pile bags pass i) gp q = some (gp q, Ob.own 3 1 (ints (pile bags pass i q))) := by rw [objP, if_neg hemp]
        (repeat first | refine awp_seq ?_ | refine awp_skip ?_ | refine awp_block ?_); refine awp_region_drawR tab_ok hl (by kernel_rfl) (by kernel_rfl) rfl fun K hK => ?_; simp only [go_sem, ne_eq, Nat.reduceAdd, Nat.reduceSub, Nat.reduceMul, Nat.reduceLT, Nat.reduceEqDiff, Nat.reduceBEq, Nat.reduceLeDiff, Int.reduceToNat, ↓reduceIte, Int.reduceEq, Int.reduceLT, Int.reduceLE, Int.reduceAdd, Int.reduceSub, Int.reduceNeg, reduceCtorEq, ints_getD hbn, hq, cellsP_drop hq9, hcell, cellsP_length, List.length_drop, Nat.mul_one, hx110, hx110', hget, hobj]
        refine ⟨by omega, by omega, by omega, by omega, ?_⟩
        refine ⟨⟨by omega, by omega, by omega⟩, by omega, by omega, by kernel_rfl, ?_⟩
        rw [splice_cells hq9]
        refine hK _ ?_; clear hK K
        (repeat first | refine awp_seq ?_ | refine awp_skip ?_ | refine awp_block ?_); refine awp_region tab_ok hl rfl fun K hK => ?_; simp only [go_sem, ne_eq, Nat.reduceAdd, Nat.reduceSub, Nat.reduceMul, Nat.reduceLT, Nat.reduceEqDiff, Nat.reduceBEq, Nat.reduceLeDiff, Int.reduceToNat, ↓reduceIte, Int.reduceEq, Int.reduceLT, Int.reduceLE, Int.reduceAdd, Int.reduceSub, Int.reduceNeg, reduceCtorEq]
        refine ⟨by omega, ?_⟩
        refine hK _ ?_; clear hK K
        refine ⟨(_, i + 1, gp), ⟨by simp only; omega, fun k hk => ?_⟩, by simp only; omega, fun a w hr => (more_pile hq9 hemp heq hne (Nat.le_refl _) ?_ : Weak _ _).rel hr⟩
        · by_cases hki : k = i
          · subst hki; exact c5
          · exact hj k (by simp only at hk; omega)
        · exact ⟨rfl, rfl, rfl, rfl, rfl, rfl, trivial⟩
    · refine awp_exit ?_
      obtain rfl : i = bags.length := by omega
      have hgb : ∀ b ∈ bags, 0 ≤ b ∧ b ≤ (pass.length : Int) - 1 := fun p hp => by
        obtain ⟨j, h2, rfl⟩ := mem_getDI hp
        exact hj j h2
      rw [if_neg (fun ⟨p, hp, h⟩ => h (hgb p hp))] at e0
      have hplen : ∀ q, (pile bags pass bags.length q).length ≤ 40 := fun q => by
        simp only [pile, List.length_map]
        have := List.length_filter_le (fun (j : Nat) => decide (pass.getD (bags.getD j 0).toNat 0 = (q : Int))) (List.range bags.length)
        simp only [List.length_range] at this
        omega
      have hout := outL_length hplen
      rw [performR, if_pos e0, performL, ← outL]
      generalize pile bags pass bags.length = pl at *
      (repeat first | refine awp_seq ?_ | refine awp_skip ?_ | refine awp_block ?_); refine awp_region tab_ok hl rfl fun K hK => ?_; simp only [go_sem, ne_eq, Nat.reduceAdd, Nat.reduceSub, Nat.reduceMul, Nat.reduceLT, Nat.reduceEqDiff, Nat.reduceBEq, Nat.reduceLeDiff, Int.reduceToNat, ↓reduceIte, Int.reduceEq, Int.reduceLT, Int.reduceLE, Int.reduceAdd, Int.reduceSub, Int.reduceNeg, reduceCtorEq]
      refine hK _ ?_; clear hK K
      (repeat first | refine awp_seq ?_ | refine awp_skip ?_ | refine awp_block ?_); refine awp_region tab_ok hl rfl fun K hK => ?_; simp only [go_sem, ne_eq, Nat.reduceAdd, Nat.reduceSub, Nat.reduceMul, Nat.reduceLT, Nat.reduceEqDiff, Nat.reduceBEq, Nat.reduceLeDiff, Int.reduceToNat, ↓reduceIte, Int.reduceEq, Int.reduceLT, Int.reduceLE, Int.reduceAdd, Int.reduceSub, Int.reduceNeg, reduceCtorEq, cellsP_length, cellsP_take]
      refine hK _ ?_; clear hK K
      (repeat first | refine awp_seq ?_ | refine awp_skip ?_ | refine awp_block ?_)
      refine awp_weak (s' := ⟨[(67, .agg (cellsP pl gp)), (68, I ((0 : Nat) : Int)), (13, .slO 113 (ck + 1) 0 (outL pl 0).length)], (113, some (ck + 1, .own 3 1 (ints (outL pl 0)))) :: hpP pl gp, ck + 1 + 1 + 1 + 1⟩)
        ⟨Nat.le_refl _, fun id => ?_, WOk.get (.cons rfl (.cons rfl (.cons rfl .nil)))⟩ ?_
      · by_cases h : 113 = id
        · subst h; right; rfl
        · by_cases h2 : 110 = id
          · subst h2; left; rfl
          · right
            simp only [Hp.get, if_neg h, if_neg h2]
      refine awp_loop (fun j : Nat × Nat => (⟨[(67, .agg (cellsP pl gp)), (68, I j.2), (13, .slO 113 (ck + 1) 0 (outL pl j.2).length)], (113, some (ck + 1, .own 3 1 (ints (outL pl j.2)))) :: hpP pl gp, j.1⟩ : St)) (fun j => j.2 ≤ 9) (fun j => 9 - j.2) (_, 0) (Nat.zero_le _) ?_
      rintro ⟨ck', q⟩ hq9
      simp only at hq9 ⊢
      have hoq := hout q
      have hpq := hplen q
      have hmul : q * 40 ≤ 9 * 40 := Nat.mul_le_mul_right _ hq9
      (repeat first | refine awp_seq ?_ | refine awp_skip ?_ | refine awp_block ?_); refine awp_region tab_ok hl rfl fun K hK => ?_; simp only [go_sem, ne_eq, Nat.reduceAdd, Nat.reduceSub, Nat.reduceMul, Nat.reduceLT, Nat.reduceEqDiff, Nat.reduceBEq, Nat.reduceLeDiff, Int.reduceToNat, ↓reduceIte, Int.reduceEq, Int.reduceLT, Int.reduceLE, Int.reduceAdd, Int.reduceSub, Int.reduceNeg, reduceCtorEq]
      refine hK _ ?_; clear hK K
      (repeat first | refine awp_seq ?_ | refine awp_skip ?_ | refine awp_block ?_); refine condP _ rfl (fun e => ?_) (fun e => ?_)
      · have hq : q < 9 := by omega
        have hx : ¬ (113 = 1000 + q) := by omega
        have hget : (hpP pl gp).get (1000 + q) = objP pl gp q := by
          rw [hpP_get, if_pos ⟨by omega, by omega⟩, Nat.add_sub_cancel_left]
        by_cases hemp : pl q = []
        · have hcell : cellP pl gp q = .sl [] true := by rw [cellP, if_pos hemp]
          (repeat first | refine awp_seq ?_ | refine awp_skip ?_ | refine awp_block ?_); refine awp_region tab_ok hl rfl fun K hK => ?_; simp only [go_sem, ne_eq, Nat.reduceAdd, Nat.reduceSub, Nat.reduceMul, Nat.reduceLT, Nat.reduceEqDiff, Nat.reduceBEq, Nat.reduceLeDiff, Int.reduceToNat, ↓reduceIte, Int.reduceEq, Int.reduceLT, Int.reduceLE, Int.reduceAdd, Int.reduceSub, Int.reduceNeg, reduceCtorEq, cellsP_length, cellsP_drop hq, hcell, List.length_drop, Nat.mul_one]
          refine ⟨by omega, ?_⟩
          refine hK _ ?_; clear hK K
          (repeat first | refine awp_seq ?_ | refine awp_skip ?_ | refine awp_block ?_); refine awp_region tab_ok hl rfl fun K hK => ?_; simp only [go_sem, ne_eq, Nat.reduceAdd, Nat.reduceSub, Nat.reduceMul, Nat.reduceLT, Nat.reduceEqDiff, Nat.reduceBEq, Nat.reduceLeDiff, Int.reduceToNat, ↓reduceIte, Int.reduceEq, Int.reduceLT, Int.reduceLE, Int.reduceAdd, Int.reduceSub, Int.reduceNeg, reduceCtorEq]
          refine ⟨⟨by omega, by omega⟩, ?_⟩
          refine hK _ ?_; clear hK K
          (repeat first | refine awp_seq ?_ | refine awp_skip ?_ | refine awp_block ?_); refine awp_region tab_ok hl rfl fun K hK => ?_; simp only [go_sem, ne_eq, Nat.reduceAdd, Nat.reduceSub, Nat.reduceMul, Nat.reduceLT, Nat.reduceEqDiff, Nat.reduceBEq, Nat.reduceLeDiff, Int.reduceToNat, ↓reduceIte, Int.reduceEq, Int.reduceLT, Int.reduceLE, Int.reduceAdd, Int.reduceSub, Int.reduceNeg, reduceCtorEq]
          refine ⟨by omega, ?_⟩
          refine hK _ ?_; clear hK K
          refine ⟨(ck' + 20, q + 1), by simp only; omega, by simp only; omega, fun a w hr => Weak.rel ?_ hr⟩
          refine ⟨by simp only; omega, fun id => .inr ?_, WOk.get (.cons rfl (.cons rfl (.cons ?_ .nil)))⟩
          · by_cases h : 113 = id
            · subst h; simp only [Hp.get, if_true]; rw [outL_succ]; simp [hemp, ints]
            · simp only [Hp.get, if_neg h]
          · simp only [tget, Nat.reduceEqDiff, if_false, if_true]
            rw [outL_succ]; simp [hemp]
        · have hcell : cellP pl gp q = .slO (1000 + q) (gp q) 0 (pl q).length := by rw [cellP, if_neg hemp]
          have hobj : objP pl gp q = some (gp q, Ob.own 3 1 (ints (pl q))) := by rw [objP, if_neg hemp]
          (repeat first | refine awp_seq ?_ | refine awp_skip ?_ | refine awp_block ?_); refine awp_region tab_ok hl rfl fun K hK => ?_; simp only [go_sem, ne_eq, Nat.reduceAdd, Nat.reduceSub, Nat.reduceMul, Nat.reduceLT, Nat.reduceEqDiff, Nat.reduceBEq, Nat.reduceLeDiff, Int.reduceToNat, ↓reduceIte, Int.reduceEq, Int.reduceLT, Int.reduceLE, Int.reduceAdd, Int.reduceSub, Int.reduceNeg, reduceCtorEq, cellsP_length, cellsP_drop hq, hcell, List.length_drop, Nat.mul_one]
          refine ⟨by omega, ?_⟩
          refine hK _ ?_; clear hK K
          (repeat first | refine awp_seq ?_ | refine awp_skip ?_ | refine awp_block ?_); refine awp_region tab_ok hl rfl fun K hK => ?_; simp only [go_sem, ne_eq, Nat.reduceAdd, Nat.reduceSub, Nat.reduceMul, Nat.reduceLT, Nat.reduceEqDiff, Nat.reduceBEq, Nat.reduceLeDiff, Int.reduceToNat, ↓reduceIte, Int.reduceEq, Int.reduceLT, Int.reduceLE, Int.reduceAdd, Int.reduceSub, Int.reduceNeg, reduceCtorEq, hx, hget, hobj]
          refine ⟨⟨by omega, by omega⟩, ?_⟩
          refine hK _ ?_; clear hK K
          (repeat first | refine awp_seq ?_ | refine awp_skip ?_ | refine awp_block ?_); refine awp_region tab_ok hl rfl fun K hK => ?_; simp only [go_sem, ne_eq, Nat.reduceAdd, Nat.reduceSub, Nat.reduceMul, Nat.reduceLT, Nat.reduceEqDiff, Nat.reduceBEq, Nat.reduceLeDiff, Int.reduceToNat, ↓reduceIte, Int.reduceEq, Int.reduceLT, Int.reduceLE, Int.reduceAdd, Int.reduceSub, Int.reduceNeg, reduceCtorEq]
          refine ⟨by omega, ?_⟩
          refine hK _ ?_; clear hK K
          refine ⟨(ck' + 20, q + 1), by simp only; omega, by simp only; omega, fun a w hr => Weak.rel ?_ hr⟩
          refine ⟨by simp only; omega, fun id => .inr ?_, WOk.get (.cons rfl (.cons rfl (.cons ?_ .nil)))⟩
          · by_cases h : 113 = id
            · subst h; simp only [Hp.get, if_true]; rw [outL_succ]; simp [ints]
            · simp only [Hp.get, if_neg h]
          · simp only [tget, Nat.reduceEqDiff, if_false, if_true]
            rw [outL_succ]; simp
      · refine awp_exit ?_
        obtain rfl : q = 9 := by omega
        (repeat first | refine awp_seq ?_ | refine awp_skip ?_ | refine awp_block ?_); refine awp_region tab_ok hl rfl fun K hK => ?_; simp only [go_sem, ne_eq, Nat.reduceAdd, Nat.reduceSub, Nat.reduceMul, Nat.reduceLT, Nat.reduceEqDiff, Nat.reduceBEq, Nat.reduceLeDiff, Int.reduceToNat, ↓reduceIte, Int.reduceEq, Int.reduceLT, Int.reduceLE, Int.reduceAdd, Int.reduceSub, Int.reduceNeg, reduceCtorEq]
        refine hK _ (awp_ret (retF2 ?_ ?_ ?_))
        · exact ⟨rfl, by simp [ints_length], flat_int⟩
        · trivial
        · rfl
end Go.Proofs.Ytmjlnndnpdbagaa
