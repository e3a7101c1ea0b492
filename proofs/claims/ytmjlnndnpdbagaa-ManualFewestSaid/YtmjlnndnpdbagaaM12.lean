import Derived.Test.YtmjlnndnpdbagaaM11
set_option linter.all false
set_option linter.unusedSimpArgs false
set_option linter.unusedVariables false
set_option linter.deprecated false
namespace Go.Proofs.Ytmjlnndnpdbagaa
open Go Go.Sym

def aP : List (List Int) := [[0, 1, 2, 0, 1, 2], [0, 0, 0, 1, 1, 1]]
theorem aw1 : passesR 10 3 = .tup [I 3, I 0] := by
  rw [passesR, if_pos (by decide)]
  have : kOf 10 3 = 3 := by decide
  show AV.tup [I ((kOf 10 3 : Nat) : Int), I 0] = _
  rw [this]; rfl
theorem aw2 : planR 6 3 = .tup [RS aP, I 0] := by
  rw [planR, if_pos (by decide)]
  have : planL 6 3 (kOf 6 3) = aP := by decide
  show AV.tup [RS (planL 6 3 (kOf 6 3)), I 0] = _
  rw [this]
theorem aw3 : sortR [5, 0, 3] aP 3 = .tup [IS [1, 2, 0], I 0] := by
  rw [sortR, if_neg (by decide)]
  have : sortGo [5, 0, 3] 3 aP (iota [(5 : Int), 0, 3].length) = (0, [1, 2, 0]) := by decide
  rw [this]
theorem aw4 : SortsP aP 6 := by decide
theorem aP_short : Short aP := by
  refine ⟨by decide, fun x hx => ?_⟩
  simp only [aP, List.mem_cons, List.not_mem_nil, or_false] at hx
  rcases hx with rfl | rfl <;> decide

theorem awake_sat : Sat Try.prog 15 [] [] (B true) [] := by
  refine Sat_of_awp (T := tab) tab_ok Try.func15 rfl (by rfl) (by simp [Try.ntmps15]) ?_
  intro w Z blks hb
  have hl : blks.length ≤ 100 := by rw [hb]; simp
  rw [Try.ntmps15]
  simp only [tm0, hp0, List.zipIdx, List.map]
  (repeat first | refine awp_seq ?_ | refine awp_skip ?_ | refine awp_block ?_); refine awp_region tab_ok hl rfl fun K hK => ?_; simp only [go_sem, ne_eq, Nat.reduceAdd, Nat.reduceSub, Nat.reduceMul, Nat.reduceLT, Nat.reduceEqDiff, Nat.reduceBEq, Nat.reduceLeDiff, Int.reduceToNat, ↓reduceIte, Int.reduceEq, Int.reduceLT, Int.reduceLE, Int.reduceAdd, Int.reduceSub, Int.reduceNeg, reduceCtorEq]
  refine hK _ ?_; clear hK K
  (repeat first | refine awp_seq ?_ | refine awp_skip ?_ | refine awp_block ?_); refine awp_region tab_ok hl rfl fun K hK => ?_; simp only [go_sem, ne_eq, Nat.reduceAdd, Nat.reduceSub, Nat.reduceMul, Nat.reduceLT, Nat.reduceEqDiff, Nat.reduceBEq, Nat.reduceLeDiff, Int.reduceToNat, ↓reduceIte, Int.reduceEq, Int.reduceLT, Int.reduceLE, Int.reduceAdd, Int.reduceSub, Int.reduceNeg, reduceCtorEq]
  refine callF ⟨trivial, trivial, trivial⟩ (aw1 ▸ passes_sat 10 3) rfl ?_
  simp only [go_sem, ne_eq, Nat.reduceAdd, Nat.reduceSub, Nat.reduceMul, Nat.reduceLT, Nat.reduceEqDiff, Nat.reduceBEq, Nat.reduceLeDiff, Int.reduceToNat, ↓reduceIte, Int.reduceEq, Int.reduceLT, Int.reduceLE, Int.reduceAdd, Int.reduceSub, Int.reduceNeg, reduceCtorEq]
  refine hK _ ?_; clear hK K
  (repeat first | refine awp_seq ?_ | refine awp_skip ?_ | refine awp_block ?_); refine awp_region tab_ok hl rfl fun K hK => ?_; simp only [go_sem, ne_eq, Nat.reduceAdd, Nat.reduceSub, Nat.reduceMul, Nat.reduceLT, Nat.reduceEqDiff, Nat.reduceBEq, Nat.reduceLeDiff, Int.reduceToNat, ↓reduceIte, Int.reduceEq, Int.reduceLT, Int.reduceLE, Int.reduceAdd, Int.reduceSub, Int.reduceNeg, reduceCtorEq]
  refine callP ⟨trivial, trivial, trivial⟩ (aw2 ▸ plan_sat 6 3) ?_
  simp only [go_sem, ne_eq, Nat.reduceAdd, Nat.reduceSub, Nat.reduceMul, Nat.reduceLT, Nat.reduceEqDiff, Nat.reduceBEq, Nat.reduceLeDiff, Int.reduceToNat, ↓reduceIte, Int.reduceEq, Int.reduceLT, Int.reduceLE, Int.reduceAdd, Int.reduceSub, Int.reduceNeg, reduceCtorEq]
  refine hK _ ?_; clear hK K
  (repeat first | refine awp_seq ?_ | refine awp_skip ?_ | refine awp_block ?_); refine awp_region tab_ok hl rfl fun K hK => ?_; simp only [go_sem, ne_eq, Nat.reduceAdd, Nat.reduceSub, Nat.reduceMul, Nat.reduceLT, Nat.reduceEqDiff, Nat.reduceBEq, Nat.reduceLeDiff, Int.reduceToNat, ↓reduceIte, Int.reduceEq, Int.reduceLT, Int.reduceLE, Int.reduceAdd, Int.reduceSub, Int.reduceNeg, reduceCtorEq]
  refine callP ⟨trivial, trivial, trivial, trivial⟩ (aw3 ▸ sort_sat [5, 0, 3] aP 3 (by decide) aP_short) ?_
  simp only [go_sem, ne_eq, Nat.reduceAdd, Nat.reduceSub, Nat.reduceMul, Nat.reduceLT, Nat.reduceEqDiff, Nat.reduceBEq, Nat.reduceLeDiff, Int.reduceToNat, ↓reduceIte, Int.reduceEq, Int.reduceLT, Int.reduceLE, Int.reduceAdd, Int.reduceSub, Int.reduceNeg, reduceCtorEq]
  refine hK _ ?_; clear hK K
  have hl2 : (aP.length : Int) = 2 := rfl
  (repeat first | refine awp_seq ?_ | refine awp_skip ?_ | refine awp_block ?_); refine awp_region tab_ok hl rfl fun K hK => ?_; simp only [go_sem, ne_eq, Nat.reduceAdd, Nat.reduceSub, Nat.reduceMul, Nat.reduceLT, Nat.reduceEqDiff, Nat.reduceBEq, Nat.reduceLeDiff, Int.reduceToNat, ↓reduceIte, Int.reduceEq, Int.reduceLT, Int.reduceLE, Int.reduceAdd, Int.reduceSub, Int.reduceNeg, reduceCtorEq, hl2]
  refine callF ⟨trivial, trivial, trivial⟩ (ints_sat [1, 2, 0] [1, 2, 0] (by decide)) rfl ?_
  simp only [go_sem, ne_eq, Nat.reduceAdd, Nat.reduceSub, Nat.reduceMul, Nat.reduceLT, Nat.reduceEqDiff, Nat.reduceBEq, Nat.reduceLeDiff, Int.reduceToNat, ↓reduceIte, Int.reduceEq, Int.reduceLT, Int.reduceLE, Int.reduceAdd, Int.reduceSub, Int.reduceNeg, reduceCtorEq]
  refine callF ⟨trivial, trivial, trivial⟩ (sorts_sat aP 6 aP_short) rfl ?_
  simp only [go_sem, ne_eq, Nat.reduceAdd, Nat.reduceSub, Nat.reduceMul, Nat.reduceLT, Nat.reduceEqDiff, Nat.reduceBEq, Nat.reduceLeDiff, Int.reduceToNat, ↓reduceIte, Int.reduceEq, Int.reduceLT, Int.reduceLE, Int.reduceAdd, Int.reduceSub, Int.reduceNeg, reduceCtorEq, aw4]
  refine hK _ ?_
  refine awp_ret ⟨trivial, trivial, ?_, rfl, fun j hj => by cases hj⟩
  rfl
end Go.Proofs.Ytmjlnndnpdbagaa
