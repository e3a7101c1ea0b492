import Derived.Test.YtmjlnndnpdbagaaM6
set_option linter.all false
set_option linter.unusedSimpArgs false
set_option linter.unusedVariables false
set_option linter.deprecated false
namespace Go.Proofs.Ytmjlnndnpdbagaa
open Go Go.Sym

def bstep (f g : Nat) (less : Bool) (p : List Int) : Bool := if p.getD f 0 = p.getD g 0 then less else decide (p.getD f 0 < p.getD g 0)
def bef (ps : List (List Int)) (f g : Nat) : Bool := ps.foldl (bstep f g) false

theorem foldl_take {α β : Type} (s : β → α → β) (z : β) (l : List α) (d : α) {m : Nat} (h : m < l.length) : (l.take (m + 1)).foldl s z = s ((l.take m).foldl s z) (l.getD m d) := by
  have : l.take (m + 1) = l.take m ++ [l.getD m d] := by
    rw [List.take_add_one]; simp [h]
  rw [this, List.foldl_append]; rfl

theorem before_sat (ps : List (List Int)) (f g : Nat) (hs : Short ps) (hf : ∀ p ∈ ps, f < p.length) (hg : ∀ p ∈ ps, g < p.length) :
    Sat Try.prog 34 [RS ps, I f, I g] [] (B (bef ps f g)) [] := by
  have hs' := hs.1
  refine Sat_of_awp (T := tab) tab_ok Try.func34 rfl (by rfl) (by simp [Try.ntmps34]) ?_
  intro w Z blks hb
  have hl : blks.length ≤ 100 := by rw [hb]; simp
  rw [Try.ntmps34]
  simp only [tm0, hp0, List.zipIdx, List.map]
  (repeat first | refine awp_seq ?_ | refine awp_skip ?_ | refine awp_block ?_); refine awp_region tab_ok hl rfl fun K hK => ?_; simp only [go_sem, ne_eq, Nat.reduceAdd, Nat.reduceSub, Nat.reduceMul, Nat.reduceLT, Nat.reduceEqDiff, Nat.reduceBEq, Nat.reduceLeDiff, Int.reduceToNat, ↓reduceIte, Int.reduceEq, Int.reduceLT, Int.reduceLE, Int.reduceAdd, Int.reduceSub, Int.reduceNeg, reduceCtorEq]
  refine hK _ ?_; clear hK K
  (repeat first | refine awp_seq ?_ | refine awp_skip ?_ | refine awp_block ?_); refine awp_region tab_ok hl rfl fun K hK => ?_; simp only [go_sem, ne_eq, Nat.reduceAdd, Nat.reduceSub, Nat.reduceMul, Nat.reduceLT, Nat.reduceEqDiff, Nat.reduceBEq, Nat.reduceLeDiff, Int.reduceToNat, ↓reduceIte, Int.reduceEq, Int.reduceLT, Int.reduceLE, Int.reduceAdd, Int.reduceSub, Int.reduceNeg, reduceCtorEq]
  refine ⟨by omega, ?_⟩
  refine hK _ ?_; clear hK K
  (repeat first | refine awp_seq ?_ | refine awp_skip ?_ | refine awp_block ?_)
  refine awp_loopW (fun i : Nat × Nat => ⟨[(0, RS ps), (1, I f), (2, I g), (7, I ((i.2 : Int) - 1))], [], i.1⟩) (fun i => i.2 ≤ ps.length ∧ bef ps f g = bef (ps.take i.2) f g) (fun i => i.2) (_, ps.length) ⟨Nat.le_refl _, by rw [List.take_length]⟩ (.of (Nat.le_refl _) .nil (.cons rfl (.cons rfl (.cons rfl (.cons rfl .nil))))) ?_
  rintro ⟨ck, m⟩ ⟨hm, hb⟩
  simp only at hm hb
  (repeat first | refine awp_seq ?_ | refine awp_skip ?_ | refine awp_block ?_); refine awp_region tab_ok hl rfl fun K hK => ?_; simp only [go_sem, ne_eq, Nat.reduceAdd, Nat.reduceSub, Nat.reduceMul, Nat.reduceLT, Nat.reduceEqDiff, Nat.reduceBEq, Nat.reduceLeDiff, Int.reduceToNat, ↓reduceIte, Int.reduceEq, Int.reduceLT, Int.reduceLE, Int.reduceAdd, Int.reduceSub, Int.reduceNeg, reduceCtorEq]
  refine hK _ ?_; clear hK K
  (repeat first | refine awp_seq ?_ | refine awp_skip ?_ | refine awp_block ?_); refine condP _ rfl (fun e => ?_) (fun e => ?_)
  · obtain ⟨i, rfl⟩ : ∃ i, m = i + 1 := ⟨m - 1, by omega⟩
    have hlt : i < ps.length := by omega
    have hx : ps.getD i [] ∈ ps := by
      have : ps.getD i [] = ps[i] := by simp [hlt]
      rw [this]; exact List.getElem_mem hlt
    have hf' := hf _ hx
    have hg' := hg _ hx
    have hbe : bef (ps.take (i + 1)) f g = bstep f g (bef (ps.take i) f g) (ps.getD i []) := foldl_take _ _ _ _ hlt
    have hi1 : ((i + 1 : Nat) : Int) - 1 = (i : Nat) := by omega
    simp only [hi1]
    (repeat first | refine awp_seq ?_ | refine awp_skip ?_ | refine awp_block ?_); refine awp_region_drawR tab_ok hl (by kernel_rfl) (by kernel_rfl) rfl fun K hK => ?_; simp only [go_sem, ne_eq, Nat.reduceAdd, Nat.reduceSub, Nat.reduceMul, Nat.reduceLT, Nat.reduceEqDiff, Nat.reduceBEq, Nat.reduceLeDiff, Int.reduceToNat, ↓reduceIte, Int.reduceEq, Int.reduceLT, Int.reduceLE, Int.reduceAdd, Int.reduceSub, Int.reduceNeg, reduceCtorEq, rows_getD hlt, ints_getD hf', ints_getD hg']
    refine ⟨by omega, by omega, by omega, by omega, rfl, ?_⟩
    refine hK _ ?_; clear hK K
    (repeat first | refine awp_seq ?_ | refine awp_skip ?_ | refine awp_block ?_); refine awp_region tab_ok hl rfl fun K hK => ?_; simp only [go_sem, ne_eq, Nat.reduceAdd, Nat.reduceSub, Nat.reduceMul, Nat.reduceLT, Nat.reduceEqDiff, Nat.reduceBEq, Nat.reduceLeDiff, Int.reduceToNat, ↓reduceIte, Int.reduceEq, Int.reduceLT, Int.reduceLE, Int.reduceAdd, Int.reduceSub, Int.reduceNeg, reduceCtorEq]
    refine hK _ ?_; clear hK K
    (repeat first | refine awp_seq ?_ | refine awp_skip ?_ | refine awp_block ?_); refine condP _ rfl (fun e' => ?_) (fun e' => ?_)
    · (repeat first | refine awp_seq ?_ | refine awp_skip ?_ | refine awp_block ?_); refine awp_region tab_ok hl rfl fun K hK => ?_; simp only [go_sem, ne_eq, Nat.reduceAdd, Nat.reduceSub, Nat.reduceMul, Nat.reduceLT, Nat.reduceEqDiff, Nat.reduceBEq, Nat.reduceLeDiff, Int.reduceToNat, ↓reduceIte, Int.reduceEq, Int.reduceLT, Int.reduceLE, Int.reduceAdd, Int.reduceSub, Int.reduceNeg, reduceCtorEq]
      refine hK _ (awp_ret ⟨trivial, trivial, ?_, rfl, fun j hj => by cases hj⟩)
      rw [hb, hbe, bstep, if_neg e']; rfl
    · (repeat first | refine awp_seq ?_ | refine awp_skip ?_ | refine awp_block ?_); refine awp_region tab_ok hl rfl fun K hK => ?_; simp only [go_sem, ne_eq, Nat.reduceAdd, Nat.reduceSub, Nat.reduceMul, Nat.reduceLT, Nat.reduceEqDiff, Nat.reduceBEq, Nat.reduceLeDiff, Int.reduceToNat, ↓reduceIte, Int.reduceEq, Int.reduceLT, Int.reduceLE, Int.reduceAdd, Int.reduceSub, Int.reduceNeg, reduceCtorEq]
      refine ⟨by omega, ?_⟩
      refine hK _ ?_; clear hK K
      refine ⟨(_, i), ⟨by omega, ?_⟩, by simp only; omega, .of (Nat.le_refl _) .nil (.cons rfl (.cons rfl (.cons rfl (.cons rfl .nil))))⟩
      rw [hb, hbe, bstep, if_pos (Classical.not_not.1 e')]
  · refine awp_exit ?_
    obtain rfl : m = 0 := by omega
    (repeat first | refine awp_seq ?_ | refine awp_skip ?_ | refine awp_block ?_); refine awp_region tab_ok hl rfl fun K hK => ?_; simp only [go_sem, ne_eq, Nat.reduceAdd, Nat.reduceSub, Nat.reduceMul, Nat.reduceLT, Nat.reduceEqDiff, Nat.reduceBEq, Nat.reduceLeDiff, Int.reduceToNat, ↓reduceIte, Int.reduceEq, Int.reduceLT, Int.reduceLE, Int.reduceAdd, Int.reduceSub, Int.reduceNeg, reduceCtorEq]
    refine hK _ (awp_ret ⟨trivial, trivial, ?_, rfl, fun j hj => by cases hj⟩)
    rw [hb]; rfl
end Go.Proofs.Ytmjlnndnpdbagaa
