import Derived.Test.YtmjlnndnpdbagaaMP2
set_option linter.all false
set_option linter.unusedSimpArgs false
set_option linter.unusedVariables false
set_option linter.deprecated false
namespace Go.Proofs.Ytmjlnndnpdbagaa
open Go Go.Sym

theorem awp_loopV {C : Cx} {ι : Type} {c : Code} {Q : Exit → St → Prop} {s : St} (inv : ι → St) (ok : ι → Prop) (m : ι → Nat) (i0 : ι) (h0 : ok i0) (hw : Weak s (inv i0))
    (round : ∀ i, ok i → awp C c (QThen (fun s' => ∃ j, ok j ∧ m j < m i ∧ ∀ a w, RelS C s' a w → RelS C (inv j) a w) Q) (inv i)) : awp C (.loop c) Q s :=
  awp_weak hw (awp_loop inv ok m i0 h0 round)

theorem sort_sat (bags : List Int) (passes : List (List Int)) (piles : Int) (hb1 : bags.length ≤ 9223372036854775807) (hp1 : Short passes) :
    Sat Try.prog 22 [IS bags, RS passes, I piles] [] (sortR bags passes piles) [] := by
  have hp2 := hp1.1
  refine Sat_of_awp (T := tab) tab_ok Try.func22 rfl (by rfl) (by simp [Try.ntmps22]) ?_
  intro w Z blks hb
  have hl : blks.length ≤ 100 := by rw [hb]; simp
  rw [Try.ntmps22]
  simp only [tm0, hp0, List.zipIdx, List.map]
  by_cases c1 : 40 < bags.length
  · have c1' : (40 : Int) < bags.length := by omega
    (repeat first | refine awp_seq ?_ | refine awp_skip ?_ | refine awp_block ?_); refine awp_region tab_ok hl rfl fun K hK => ?_; simp only [go_sem, ne_eq, Nat.reduceAdd, Nat.reduceSub, Nat.reduceMul, Nat.reduceLT, Nat.reduceEqDiff, Nat.reduceBEq, Nat.reduceLeDiff, Int.reduceToNat, ↓reduceIte, Int.reduceEq, Int.reduceLT, Int.reduceLE, Int.reduceAdd, Int.reduceSub, Int.reduceNeg, reduceCtorEq]
    refine hK _ ?_; clear hK K
    (repeat first | refine awp_seq ?_ | refine awp_skip ?_ | refine awp_block ?_); refine awp_region tab_ok hl rfl fun K hK => ?_; simp only [go_sem, ne_eq, Nat.reduceAdd, Nat.reduceSub, Nat.reduceMul, Nat.reduceLT, Nat.reduceEqDiff, Nat.reduceBEq, Nat.reduceLeDiff, Int.reduceToNat, ↓reduceIte, Int.reduceEq, Int.reduceLT, Int.reduceLE, Int.reduceAdd, Int.reduceSub, Int.reduceNeg, reduceCtorEq, c1']
    refine hK _ ?_; clear hK K
    (repeat first | refine awp_seq ?_ | refine awp_skip ?_ | refine awp_block ?_); refine condT rfl ?_
    (repeat first | refine awp_seq ?_ | refine awp_skip ?_ | refine awp_block ?_); refine awp_region tab_ok hl rfl fun K hK => ?_; simp only [go_sem, ne_eq, Nat.reduceAdd, Nat.reduceSub, Nat.reduceMul, Nat.reduceLT, Nat.reduceEqDiff, Nat.reduceBEq, Nat.reduceLeDiff, Int.reduceToNat, ↓reduceIte, Int.reduceEq, Int.reduceLT, Int.reduceLE, Int.reduceAdd, Int.reduceSub, Int.reduceNeg, reduceCtorEq]
    refine hK _ (awp_ret (ret2 ?_ ?_ ?_ rfl box0))
    · exact ⟨rfl, rfl⟩
    · trivial
    · rw [sortR, if_pos (.inl c1)]; rfl
  by_cases c2 : 40 < passes.length
  · have c1' : ¬ (40 : Int) < bags.length := by omega
    have c2' : (40 : Int) < passes.length := by omega
    (repeat first | refine awp_seq ?_ | refine awp_skip ?_ | refine awp_block ?_); refine awp_region tab_ok hl rfl fun K hK => ?_; simp only [go_sem, ne_eq, Nat.reduceAdd, Nat.reduceSub, Nat.reduceMul, Nat.reduceLT, Nat.reduceEqDiff, Nat.reduceBEq, Nat.reduceLeDiff, Int.reduceToNat, ↓reduceIte, Int.reduceEq, Int.reduceLT, Int.reduceLE, Int.reduceAdd, Int.reduceSub, Int.reduceNeg, reduceCtorEq]
    refine hK _ ?_; clear hK K
    (repeat first | refine awp_seq ?_ | refine awp_skip ?_ | refine awp_block ?_); refine awp_region tab_ok hl rfl fun K hK => ?_; simp only [go_sem, ne_eq, Nat.reduceAdd, Nat.reduceSub, Nat.reduceMul, Nat.reduceLT, Nat.reduceEqDiff, Nat.reduceBEq, Nat.reduceLeDiff, Int.reduceToNat, ↓reduceIte, Int.reduceEq, Int.reduceLT, Int.reduceLE, Int.reduceAdd, Int.reduceSub, Int.reduceNeg, reduceCtorEq, c1', c2']
    refine hK _ ?_; clear hK K
    (repeat first | refine awp_seq ?_ | refine awp_skip ?_ | refine awp_block ?_); refine condT rfl ?_
    (repeat first | refine awp_seq ?_ | refine awp_skip ?_ | refine awp_block ?_); refine awp_region tab_ok hl rfl fun K hK => ?_; simp only [go_sem, ne_eq, Nat.reduceAdd, Nat.reduceSub, Nat.reduceMul, Nat.reduceLT, Nat.reduceEqDiff, Nat.reduceBEq, Nat.reduceLeDiff, Int.reduceToNat, ↓reduceIte, Int.reduceEq, Int.reduceLT, Int.reduceLE, Int.reduceAdd, Int.reduceSub, Int.reduceNeg, reduceCtorEq]
    refine hK _ (awp_ret (ret2 ?_ ?_ ?_ rfl box0))
    · exact ⟨rfl, rfl⟩
    · trivial
    · rw [sortR, if_pos (.inr c2)]; rfl
  have c1' : ¬ (40 : Int) < bags.length := by omega
  have c2' : ¬ (40 : Int) < passes.length := by omega
  rw [sortR, if_neg (by omega)]
  (repeat first | refine awp_seq ?_ | refine awp_skip ?_ | refine awp_block ?_); refine awp_region tab_ok hl rfl fun K hK => ?_; simp only [go_sem, ne_eq, Nat.reduceAdd, Nat.reduceSub, Nat.reduceMul, Nat.reduceLT, Nat.reduceEqDiff, Nat.reduceBEq, Nat.reduceLeDiff, Int.reduceToNat, ↓reduceIte, Int.reduceEq, Int.reduceLT, Int.reduceLE, Int.reduceAdd, Int.reduceSub, Int.reduceNeg, reduceCtorEq]
  refine hK _ ?_; clear hK K
  (repeat first | refine awp_seq ?_ | refine awp_skip ?_ | refine awp_block ?_); refine awp_region tab_ok hl rfl fun K hK => ?_; simp only [go_sem, ne_eq, Nat.reduceAdd, Nat.reduceSub, Nat.reduceMul, Nat.reduceLT, Nat.reduceEqDiff, Nat.reduceBEq, Nat.reduceLeDiff, Int.reduceToNat, ↓reduceIte, Int.reduceEq, Int.reduceLT, Int.reduceLE, Int.reduceAdd, Int.reduceSub, Int.reduceNeg, reduceCtorEq, c1', c2']
  refine hK _ ?_; clear hK K
  (repeat first | refine awp_seq ?_ | refine awp_skip ?_ | refine awp_block ?_); refine condF rfl ?_
  (repeat first | refine awp_seq ?_ | refine awp_skip ?_ | refine awp_block ?_); refine awp_region_drawR tab_ok hl (by kernel_rfl) (by kernel_rfl) rfl fun K hK => ?_; simp only [go_sem, ne_eq, Nat.reduceAdd, Nat.reduceSub, Nat.reduceMul, Nat.reduceLT, Nat.reduceEqDiff, Nat.reduceBEq, Nat.reduceLeDiff, Int.reduceToNat, ↓reduceIte, Int.reduceEq, Int.reduceLT, Int.reduceLE, Int.reduceAdd, Int.reduceSub, Int.reduceNeg, reduceCtorEq]
  refine ⟨⟨by omega, by omega, by omega, by omega⟩, ⟨by omega, by omega⟩, by kernel_rfl, ?_⟩
  refine hK _ ?_; clear hK K
  have hn40 : bags.length ≤ 40 := by omega
  generalize hnn : bags.length = n at *
  (repeat first | refine awp_seq ?_ | refine awp_skip ?_ | refine awp_block ?_); refine awp_region tab_ok hl rfl fun K hK => ?_; simp only [go_sem, ne_eq, Nat.reduceAdd, Nat.reduceSub, Nat.reduceMul, Nat.reduceLT, Nat.reduceEqDiff, Nat.reduceBEq, Nat.reduceLeDiff, Int.reduceToNat, ↓reduceIte, Int.reduceEq, Int.reduceLT, Int.reduceLE, Int.reduceAdd, Int.reduceSub, Int.reduceNeg, reduceCtorEq]
  refine hK _ ?_; clear hK K
  (repeat first | refine awp_seq ?_ | refine awp_skip ?_ | refine awp_block ?_)
  refine awp_loopW (fun i : Nat × Nat => ⟨[(0, IS bags), (1, RS passes), (2, I piles), (8, .slO 130 13 0 n), (9, .slO 132 15 0 n), (34, I n), (35, I i.2)], [(130, some (13, .own 3 1 (ints (half n i.2 (fun x => (x : Int)) (fun _ => 0))))), (132, some (15, .own 3 1 (ints bags)))], i.1⟩) (fun i => i.2 ≤ n) (fun i => n - i.2) (_, 0) (Nat.zero_le _) (.of (Nat.le_refl _) (.cons ?_ (.cons rfl .nil)) (.cons rfl (.cons rfl (.cons rfl (.cons rfl (.cons rfl (.cons rfl (.cons rfl .nil)))))))) ?_
  · show some (_, Ob.own 3 1 (List.replicate n (I 0))) = _
    rw [half_zero (l := List.replicate n 0) (by simp) (fun x hx => by simp [hx]), ints, List.map_replicate]
  rintro ⟨ck, i⟩ hi
  simp only at hi
  have hlen := half_length n i (fun x => (x : Int)) (fun _ => 0)
  (repeat first | refine awp_seq ?_ | refine awp_skip ?_ | refine awp_block ?_); refine awp_region tab_ok hl rfl fun K hK => ?_; simp only [go_sem, ne_eq, Nat.reduceAdd, Nat.reduceSub, Nat.reduceMul, Nat.reduceLT, Nat.reduceEqDiff, Nat.reduceBEq, Nat.reduceLeDiff, Int.reduceToNat, ↓reduceIte, Int.reduceEq, Int.reduceLT, Int.reduceLE, Int.reduceAdd, Int.reduceSub, Int.reduceNeg, reduceCtorEq]
  refine hK _ ?_; clear hK K
  (repeat first | refine awp_seq ?_ | refine awp_skip ?_ | refine awp_block ?_); refine condP _ rfl (fun e => ?_) (fun e => ?_)
  · (repeat first | refine awp_seq ?_ | refine awp_skip ?_ | refine awp_block ?_); refine awp_region tab_ok hl rfl fun K hK => ?_; simp only [go_sem, ne_eq, Nat.reduceAdd, Nat.reduceSub, Nat.reduceMul, Nat.reduceLT, Nat.reduceEqDiff, Nat.reduceBEq, Nat.reduceLeDiff, Int.reduceToNat, ↓reduceIte, Int.reduceEq, Int.reduceLT, Int.reduceLE, Int.reduceAdd, Int.reduceSub, Int.reduceNeg, reduceCtorEq]
    refine hK _ ?_; clear hK K
    (repeat first | refine awp_seq ?_ | refine awp_skip ?_ | refine awp_block ?_); refine awp_region tab_ok hl rfl fun K hK => ?_; simp only [go_sem, ne_eq, Nat.reduceAdd, Nat.reduceSub, Nat.reduceMul, Nat.reduceLT, Nat.reduceEqDiff, Nat.reduceBEq, Nat.reduceLeDiff, Int.reduceToNat, ↓reduceIte, Int.reduceEq, Int.reduceLT, Int.reduceLE, Int.reduceAdd, Int.reduceSub, Int.reduceNeg, reduceCtorEq, hlen]
    refine ⟨⟨by omega, by omega⟩, ⟨by omega, by simp⟩, ?_⟩
    refine hK _ ?_; clear hK K
    (repeat first | refine awp_seq ?_ | refine awp_skip ?_ | refine awp_block ?_); refine awp_region tab_ok hl rfl fun K hK => ?_; simp only [go_sem, ne_eq, Nat.reduceAdd, Nat.reduceSub, Nat.reduceMul, Nat.reduceLT, Nat.reduceEqDiff, Nat.reduceBEq, Nat.reduceLeDiff, Int.reduceToNat, ↓reduceIte, Int.reduceEq, Int.reduceLT, Int.reduceLE, Int.reduceAdd, Int.reduceSub, Int.reduceNeg, reduceCtorEq]
    refine ⟨by omega, ?_⟩
    refine hK _ ?_; clear hK K
    refine ⟨(_, i + 1), by simp only; omega, by simp only; omega, .of (Nat.le_refl _) (.cons ?_ (.cons rfl .nil)) (.cons rfl (.cons rfl (.cons rfl (.cons rfl (.cons rfl (.cons rfl (.cons rfl .nil)))))))⟩
    rw [← half_succ (by omega)]; rfl
  refine awp_exit ?_
  obtain rfl : i = n := by omega
  (repeat first | refine awp_seq ?_ | refine awp_skip ?_ | refine awp_block ?_); refine awp_region tab_ok hl rfl fun K hK => ?_; simp only [go_sem, ne_eq, Nat.reduceAdd, Nat.reduceSub, Nat.reduceMul, Nat.reduceLT, Nat.reduceEqDiff, Nat.reduceBEq, Nat.reduceLeDiff, Int.reduceToNat, ↓reduceIte, Int.reduceEq, Int.reduceLT, Int.reduceLE, Int.reduceAdd, Int.reduceSub, Int.reduceNeg, reduceCtorEq]
  refine hK _ ?_; clear hK K
  (repeat first | refine awp_seq ?_ | refine awp_skip ?_ | refine awp_block ?_)
  refine awp_loopV (fun j : Nat × Nat × Nat × List Int => ⟨[(0, IS bags), (2, I piles), (43, RS passes), (44, I passes.length), (45, I j.2.1), (8, .slO 130 j.2.2.1 0 i), (9, .slO 132 15 0 i)], [(130, some (j.2.2.1, .own 3 1 (ints j.2.2.2))), (132, some (15, .own 3 1 (ints (rowOf bags j.2.2.2))))], j.1⟩)
    (fun j => j.2.1 ≤ passes.length ∧ j.2.2.2.length = i ∧ (∀ k ∈ j.2.2.2, 0 ≤ k ∧ k < i) ∧ sortGo bags piles passes (iota i) = sortGo bags piles (passes.drop j.2.1) j.2.2.2) (fun j => passes.length - j.2.1) (_, 0, 13, iota i)
    ⟨Nat.zero_le _, iota_length i, fun k hk => iota_mem hk, rfl⟩ (.of (Nat.le_refl _) (.cons ?_ (.cons ?_ .nil)) (.cons rfl (.cons rfl (.cons rfl (.cons rfl (.cons rfl (.cons rfl (.cons rfl .nil)))))))) ?_
  · rw [← half_full (f := fun x => (x : Int)) (g := fun _ => 0) (iota_length i) (fun x hx => iota_getD hx)]; rfl
  · have := rowOf_iota bags
    rw [hnn] at this
    rw [this]; rfl
  rintro ⟨ck, k, g, out⟩ ⟨hk, ho1, ho2, ho3⟩
  simp only at hk ho1 ho2 ho3
  (repeat first | refine awp_seq ?_ | refine awp_skip ?_ | refine awp_block ?_); refine awp_region tab_ok hl rfl fun K hK => ?_; simp only [go_sem, ne_eq, Nat.reduceAdd, Nat.reduceSub, Nat.reduceMul, Nat.reduceLT, Nat.reduceEqDiff, Nat.reduceBEq, Nat.reduceLeDiff, Int.reduceToNat, ↓reduceIte, Int.reduceEq, Int.reduceLT, Int.reduceLE, Int.reduceAdd, Int.reduceSub, Int.reduceNeg, reduceCtorEq]
  refine hK _ ?_; clear hK K
  (repeat first | refine awp_seq ?_ | refine awp_skip ?_ | refine awp_block ?_); refine condP _ rfl (fun e => ?_) (fun e => ?_)
  · have hlt : k < passes.length := by omega
    have hdrop : passes.drop k = passes.getD k [] :: passes.drop (k + 1) := by
      rw [List.drop_eq_getElem_cons hlt]; simp [hlt]
    have hrow : (rowOf bags out).length = i := by simp [rowOf, ho1]
    have hpl := hp1.getD k
    rw [hdrop, sortGo] at ho3
    (repeat first | refine awp_seq ?_ | refine awp_skip ?_ | refine awp_block ?_); refine awp_region tab_ok hl rfl fun K hK => ?_; simp only [go_sem, ne_eq, Nat.reduceAdd, Nat.reduceSub, Nat.reduceMul, Nat.reduceLT, Nat.reduceEqDiff, Nat.reduceBEq, Nat.reduceLeDiff, Int.reduceToNat, ↓reduceIte, Int.reduceEq, Int.reduceLT, Int.reduceLE, Int.reduceAdd, Int.reduceSub, Int.reduceNeg, reduceCtorEq, rows_getD hlt]
    refine ⟨by omega, ?_⟩
    refine hK _ ?_; clear hK K
    generalize passes.getD k [] = pass at *
    have hperf := perform_satF (rowOf bags out) pass piles (by omega) hpl
    (repeat first | refine awp_seq ?_ | refine awp_skip ?_ | refine awp_block ?_); refine awp_region tab_ok hl rfl fun K hK => ?_; simp only [go_sem, ne_eq, Nat.reduceAdd, Nat.reduceSub, Nat.reduceMul, Nat.reduceLT, Nat.reduceEqDiff, Nat.reduceBEq, Nat.reduceLeDiff, Int.reduceToNat, ↓reduceIte, Int.reduceEq, Int.reduceLT, Int.reduceLE, Int.reduceAdd, Int.reduceSub, Int.reduceNeg, reduceCtorEq]
    by_cases he : errOf (rowOf bags out) pass piles = 0
    case neg =>
      rw [performR, if_neg he] at hperf
      rw [if_neg he] at ho3
      refine callN ⟨⟨rfl, by rw [ints_length, hrow, Nat.zero_add]⟩, trivial, trivial, trivial⟩ hperf ?_
      simp only [go_sem, ne_eq, Nat.reduceAdd, Nat.reduceSub, Nat.reduceMul, Nat.reduceLT, Nat.reduceEqDiff, Nat.reduceBEq, Nat.reduceLeDiff, Int.reduceToNat, ↓reduceIte, Int.reduceEq, Int.reduceLT, Int.reduceLE, Int.reduceAdd, Int.reduceSub, Int.reduceNeg, reduceCtorEq]
      refine hK _ ?_; clear hK K
      (repeat first | refine awp_seq ?_ | refine awp_skip ?_ | refine awp_block ?_); refine awp_region tab_ok hl rfl fun K hK => ?_; simp only [go_sem, ne_eq, Nat.reduceAdd, Nat.reduceSub, Nat.reduceMul, Nat.reduceLT, Nat.reduceEqDiff, Nat.reduceBEq, Nat.reduceLeDiff, Int.reduceToNat, ↓reduceIte, Int.reduceEq, Int.reduceLT, Int.reduceLE, Int.reduceAdd, Int.reduceSub, Int.reduceNeg, reduceCtorEq, he]
      refine hK _ ?_; clear hK K
      (repeat first | refine awp_seq ?_ | refine awp_skip ?_ | refine awp_block ?_); refine condT rfl ?_
      (repeat first | refine awp_seq ?_ | refine awp_skip ?_ | refine awp_block ?_); refine awp_region tab_ok hl rfl fun K hK => ?_; simp only [go_sem, ne_eq, Nat.reduceAdd, Nat.reduceSub, Nat.reduceMul, Nat.reduceLT, Nat.reduceEqDiff, Nat.reduceBEq, Nat.reduceLeDiff, Int.reduceToNat, ↓reduceIte, Int.reduceEq, Int.reduceLT, Int.reduceLE, Int.reduceAdd, Int.reduceSub, Int.reduceNeg, reduceCtorEq]
      refine hK _ (awp_ret (ret2 ?_ ?_ ?_ rfl box0))
      · exact ⟨rfl, rfl⟩
      · trivial
      · rw [ho3]; rfl
    rw [performR, if_pos he] at hperf
    rw [if_pos he] at ho3
    have hmv := performL_length he
    have hmm : ∀ x, x < i → 0 ≤ (performL (rowOf bags out) pass).getD x 0 ∧ (performL (rowOf bags out) pass).getD x 0 < i := fun x hx => by
      have := performL_mem (getD_memI (ps := performL (rowOf bags out) pass) (i := x) (by omega))
      omega
    refine callN ⟨⟨rfl, by rw [ints_length, hrow, Nat.zero_add]⟩, trivial, trivial, trivial⟩ hperf ?_
    generalize performL (rowOf bags out) pass = mv at *
    rw [hrow] at hmv
    simp only [go_sem, ne_eq, Nat.reduceAdd, Nat.reduceSub, Nat.reduceMul, Nat.reduceLT, Nat.reduceEqDiff, Nat.reduceBEq, Nat.reduceLeDiff, Int.reduceToNat, ↓reduceIte, Int.reduceEq, Int.reduceLT, Int.reduceLE, Int.reduceAdd, Int.reduceSub, Int.reduceNeg, reduceCtorEq]
    refine hK _ ?_; clear hK K
    (repeat first | refine awp_seq ?_ | refine awp_skip ?_ | refine awp_block ?_); refine awp_region tab_ok hl rfl fun K hK => ?_; simp only [go_sem, ne_eq, Nat.reduceAdd, Nat.reduceSub, Nat.reduceMul, Nat.reduceLT, Nat.reduceEqDiff, Nat.reduceBEq, Nat.reduceLeDiff, Int.reduceToNat, ↓reduceIte, Int.reduceEq, Int.reduceLT, Int.reduceLE, Int.reduceAdd, Int.reduceSub, Int.reduceNeg, reduceCtorEq]
    refine hK _ ?_; clear hK K
    (repeat first | refine awp_seq ?_ | refine awp_skip ?_ | refine awp_block ?_); refine condF rfl ?_
    (repeat first | refine awp_seq ?_ | refine awp_skip ?_ | refine awp_block ?_); refine awp_region tab_ok hl rfl fun K hK => ?_; simp only [go_sem, ne_eq, Nat.reduceAdd, Nat.reduceSub, Nat.reduceMul, Nat.reduceLT, Nat.reduceEqDiff, Nat.reduceBEq, Nat.reduceLeDiff, Int.reduceToNat, ↓reduceIte, Int.reduceEq, Int.reduceLT, Int.reduceLE, Int.reduceAdd, Int.reduceSub, Int.reduceNeg, reduceCtorEq, ho1]
    refine ⟨by omega, ?_⟩
    refine hK _ ?_; clear hK K
    (repeat first | refine awp_seq ?_ | refine awp_skip ?_ | refine awp_block ?_); refine awp_region tab_ok hl rfl fun K hK => ?_; simp only [go_sem, ne_eq, Nat.reduceAdd, Nat.reduceSub, Nat.reduceMul, Nat.reduceLT, Nat.reduceEqDiff, Nat.reduceBEq, Nat.reduceLeDiff, Int.reduceToNat, ↓reduceIte, Int.reduceEq, Int.reduceLT, Int.reduceLE, Int.reduceAdd, Int.reduceSub, Int.reduceNeg, reduceCtorEq, hmv]
    refine hK _ ?_; clear hK K
    (repeat first | refine awp_seq ?_ | refine awp_skip ?_ | refine awp_block ?_)
    have hmm' : ∀ x, x < i → (mv.getD x 0).toNat < out.length := fun x hx => by have := hmm x hx; omega
    refine awp_loopW (fun j : Nat × Nat => ⟨[(0, IS bags), (2, I piles), (43, RS passes), (44, I passes.length), (45, I k), (8, .slO 130 g 0 i), (9, .slO 132 15 0 i), (15, .slO 161 (ck + 17) 0 i), (62, IS mv), (63, I i), (64, I j.2)], [(161, some (ck + 17, .own 3 1 (ints (half i j.2 (fun x => out.getD (mv.getD x 0).toNat 0) (fun _ => 0))))), (130, some (g, .own 3 1 (ints out))), (132, some (15, .own 3 1 (ints (rowOf bags out))))], j.1⟩) (fun j => j.2 ≤ i) (fun j => i - j.2) (_, 0) (Nat.zero_le _) (.of (Nat.le_refl _) (.cons ?_ (.cons rfl (.cons rfl .nil))) (.cons rfl (.cons rfl (.cons rfl (.cons rfl (.cons rfl (.cons rfl (.cons rfl (.cons rfl (.cons rfl (.cons rfl (.cons rfl .nil)))))))))))) ?_
    · show some (_, Ob.own 3 1 (List.replicate i (I 0))) = _
      rw [half_zero (l := List.replicate i 0) (by simp) (fun x hx => by simp [hx]), ints, List.map_replicate]
    rintro ⟨ck1, x⟩ hx
    simp only at hx
    have hlen := half_length i x (fun x => out.getD (mv.getD x 0).toNat 0) (fun _ => 0)
    (repeat first | refine awp_seq ?_ | refine awp_skip ?_ | refine awp_block ?_); refine awp_region tab_ok hl rfl fun K hK => ?_; simp only [go_sem, ne_eq, Nat.reduceAdd, Nat.reduceSub, Nat.reduceMul, Nat.reduceLT, Nat.reduceEqDiff, Nat.reduceBEq, Nat.reduceLeDiff, Int.reduceToNat, ↓reduceIte, Int.reduceEq, Int.reduceLT, Int.reduceLE, Int.reduceAdd, Int.reduceSub, Int.reduceNeg, reduceCtorEq]
    refine hK _ ?_; clear hK K
    (repeat first | refine awp_seq ?_ | refine awp_skip ?_ | refine awp_block ?_); refine condP _ rfl (fun e1 => ?_) (fun e1 => ?_)
    · have hxi : x < i := by omega
      have hxm : x < mv.length := by omega
      have hb1 := hmm x hxi
      (repeat first | refine awp_seq ?_ | refine awp_skip ?_ | refine awp_block ?_); refine awp_region tab_ok hl rfl fun K hK => ?_; simp only [go_sem, ne_eq, Nat.reduceAdd, Nat.reduceSub, Nat.reduceMul, Nat.reduceLT, Nat.reduceEqDiff, Nat.reduceBEq, Nat.reduceLeDiff, Int.reduceToNat, ↓reduceIte, Int.reduceEq, Int.reduceLT, Int.reduceLE, Int.reduceAdd, Int.reduceSub, Int.reduceNeg, reduceCtorEq, ints_getD hxm]
      refine ⟨by omega, ?_⟩
      refine hK _ ?_; clear hK K
      (repeat first | refine awp_seq ?_ | refine awp_skip ?_ | refine awp_block ?_); refine awp_region tab_ok hl rfl fun K hK => ?_; simp only [go_sem, ne_eq, Nat.reduceAdd, Nat.reduceSub, Nat.reduceMul, Nat.reduceLT, Nat.reduceEqDiff, Nat.reduceBEq, Nat.reduceLeDiff, Int.reduceToNat, ↓reduceIte, Int.reduceEq, Int.reduceLT, Int.reduceLE, Int.reduceAdd, Int.reduceSub, Int.reduceNeg, reduceCtorEq, ints_getD (hmm' x hxi), hlen, ho1]
      refine ⟨(by (repeat' apply And.intro) <;> first | omega | simp), (by (repeat' apply And.intro) <;> first | omega | simp), (by (repeat' apply And.intro) <;> first | omega | simp), (by (repeat' apply And.intro) <;> first | omega | simp), ?_⟩
      refine hK _ ?_; clear hK K
      (repeat first | refine awp_seq ?_ | refine awp_skip ?_ | refine awp_block ?_); refine awp_region tab_ok hl rfl fun K hK => ?_; simp only [go_sem, ne_eq, Nat.reduceAdd, Nat.reduceSub, Nat.reduceMul, Nat.reduceLT, Nat.reduceEqDiff, Nat.reduceBEq, Nat.reduceLeDiff, Int.reduceToNat, ↓reduceIte, Int.reduceEq, Int.reduceLT, Int.reduceLE, Int.reduceAdd, Int.reduceSub, Int.reduceNeg, reduceCtorEq]
      refine ⟨by omega, ?_⟩
      refine hK _ ?_; clear hK K
      refine ⟨(_, x + 1), by simp only; omega, by simp only; omega, .of (Nat.le_refl _) (.cons ?_ (.cons rfl (.cons rfl .nil))) (.cons rfl (.cons rfl (.cons rfl (.cons rfl (.cons rfl (.cons rfl (.cons rfl (.cons rfl (.cons rfl (.cons rfl (.cons rfl .nil)))))))))))⟩
      rw [← half_succ (by omega)]; rfl
    refine awp_exit ?_
    obtain rfl : x = i := by omega
    have hnx : (nextOf out mv).length = x := by simp [nextOf, hmv]
    have hnm : ∀ k ∈ nextOf out mv, 0 ≤ k ∧ k < x := fun k hk => by
      simp only [nextOf, List.mem_map] at hk
      obtain ⟨y, hy, rfl⟩ := hk
      obtain ⟨z, hz, rfl⟩ := mem_getDI hy
      exact ho2 _ (getD_memI (hmm' z (by omega)))
    have hfull : half x x (fun x => out.getD (mv.getD x 0).toNat 0) (fun _ => 0) = nextOf out mv := half_full hnx (fun y hy => by rw [nextOf, getD_map (by omega)])
    rw [hfull]
    generalize nextOf out mv = nx at *
    (repeat first | refine awp_seq ?_ | refine awp_skip ?_ | refine awp_block ?_); refine awp_region tab_ok hl rfl fun K hK => ?_; simp only [go_sem, ne_eq, Nat.reduceAdd, Nat.reduceSub, Nat.reduceMul, Nat.reduceLT, Nat.reduceEqDiff, Nat.reduceBEq, Nat.reduceLeDiff, Int.reduceToNat, ↓reduceIte, Int.reduceEq, Int.reduceLT, Int.reduceLE, Int.reduceAdd, Int.reduceSub, Int.reduceNeg, reduceCtorEq]
    refine hK _ ?_; clear hK K
    (repeat first | refine awp_seq ?_ | refine awp_skip ?_ | refine awp_block ?_); refine awp_region tab_ok hl rfl fun K hK => ?_; simp only [go_sem, ne_eq, Nat.reduceAdd, Nat.reduceSub, Nat.reduceMul, Nat.reduceLT, Nat.reduceEqDiff, Nat.reduceBEq, Nat.reduceLeDiff, Int.reduceToNat, ↓reduceIte, Int.reduceEq, Int.reduceLT, Int.reduceLE, Int.reduceAdd, Int.reduceSub, Int.reduceNeg, reduceCtorEq, hnx]
    refine hK _ ?_; clear hK K
    (repeat first | refine awp_seq ?_ | refine awp_skip ?_ | refine awp_block ?_)
    have hrx : (rowOf bags nx).length = x := by simp [rowOf, hnx]
    refine awp_loopV (fun j : Nat × Nat => ⟨[(0, IS bags), (2, I piles), (43, RS passes), (44, I passes.length), (45, I k), (8, .slO 161 (ck + 17) 0 x), (9, .slO 132 15 0 x), (78, .slO 161 (ck + 17) 0 x), (79, I x), (80, I j.2)], [(161, some (ck + 17, .own 3 1 (ints nx))), (132, some (15, .own 3 1 (ints (half x j.2 (fun y => bags.getD (nx.getD y 0).toNat 0) (fun y => (rowOf bags out).getD y 0)))))], j.1⟩) (fun j => j.2 ≤ x) (fun j => x - j.2) (_, 0) (Nat.zero_le _) (.of (Nat.le_refl _) (.cons rfl (.cons ?_ .nil)) (.cons rfl (.cons rfl (.cons rfl (.cons rfl (.cons rfl (.cons rfl (.cons rfl (.cons rfl (.cons rfl (.cons rfl .nil))))))))))) ?_
    · rw [half_zero hrow (fun y _ => rfl)]; rfl
    rintro ⟨ck2, y⟩ hy
    simp only at hy
    have hlen2 := half_length x y (fun y => bags.getD (nx.getD y 0).toNat 0) (fun y => (rowOf bags out).getD y 0)
    (repeat first | refine awp_seq ?_ | refine awp_skip ?_ | refine awp_block ?_); refine awp_region tab_ok hl rfl fun K hK => ?_; simp only [go_sem, ne_eq, Nat.reduceAdd, Nat.reduceSub, Nat.reduceMul, Nat.reduceLT, Nat.reduceEqDiff, Nat.reduceBEq, Nat.reduceLeDiff, Int.reduceToNat, ↓reduceIte, Int.reduceEq, Int.reduceLT, Int.reduceLE, Int.reduceAdd, Int.reduceSub, Int.reduceNeg, reduceCtorEq]
    refine hK _ ?_; clear hK K
    (repeat first | refine awp_seq ?_ | refine awp_skip ?_ | refine awp_block ?_); refine condP _ rfl (fun e2 => ?_) (fun e2 => ?_)
    · have hyx : y < nx.length := by omega
      have hyb : (nx.getD y 0).toNat < bags.length := by have := hnm _ (getD_memI hyx); omega
      have hyn := hnm _ (getD_memI hyx)
      (repeat first | refine awp_seq ?_ | refine awp_skip ?_ | refine awp_block ?_); refine awp_region tab_ok hl rfl fun K hK => ?_; simp only [go_sem, ne_eq, Nat.reduceAdd, Nat.reduceSub, Nat.reduceMul, Nat.reduceLT, Nat.reduceEqDiff, Nat.reduceBEq, Nat.reduceLeDiff, Int.reduceToNat, ↓reduceIte, Int.reduceEq, Int.reduceLT, Int.reduceLE, Int.reduceAdd, Int.reduceSub, Int.reduceNeg, reduceCtorEq, ints_getD hyx, hnx]
      refine ⟨(by (repeat' apply And.intro) <;> first | omega | simp), (by (repeat' apply And.intro) <;> first | omega | simp), ?_⟩
      refine hK _ ?_; clear hK K
      (repeat first | refine awp_seq ?_ | refine awp_skip ?_ | refine awp_block ?_); refine awp_region tab_ok hl rfl fun K hK => ?_; simp only [go_sem, ne_eq, Nat.reduceAdd, Nat.reduceSub, Nat.reduceMul, Nat.reduceLT, Nat.reduceEqDiff, Nat.reduceBEq, Nat.reduceLeDiff, Int.reduceToNat, ↓reduceIte, Int.reduceEq, Int.reduceLT, Int.reduceLE, Int.reduceAdd, Int.reduceSub, Int.reduceNeg, reduceCtorEq, ints_getD hyb, hlen2, hnn]
      refine ⟨(by (repeat' apply And.intro) <;> first | omega | simp), (by (repeat' apply And.intro) <;> first | omega | simp), (by (repeat' apply And.intro) <;> first | omega | simp), ?_⟩
      refine hK _ ?_; clear hK K
      (repeat first | refine awp_seq ?_ | refine awp_skip ?_ | refine awp_block ?_); refine awp_region tab_ok hl rfl fun K hK => ?_; simp only [go_sem, ne_eq, Nat.reduceAdd, Nat.reduceSub, Nat.reduceMul, Nat.reduceLT, Nat.reduceEqDiff, Nat.reduceBEq, Nat.reduceLeDiff, Int.reduceToNat, ↓reduceIte, Int.reduceEq, Int.reduceLT, Int.reduceLE, Int.reduceAdd, Int.reduceSub, Int.reduceNeg, reduceCtorEq]
      refine ⟨by omega, ?_⟩
      refine hK _ ?_; clear hK K
      refine ⟨(ck2 + 30, y + 1), by simp only; omega, by simp only; omega, fun a w hr => Weak.rel ?_ hr⟩
      refine .of (by simp only; omega) (.cons rfl (.cons ?_ .nil)) (.cons rfl (.cons rfl (.cons rfl (.cons rfl (.cons rfl (.cons rfl (.cons rfl (.cons rfl (.cons rfl (.cons rfl .nil))))))))))
      rw [← half_succ (by omega)]; rfl
    refine awp_exit ?_
    obtain rfl : y = x := by omega
    have hfull2 : half y y (fun y => bags.getD (nx.getD y 0).toNat 0) (fun y => (rowOf bags out).getD y 0) = rowOf bags nx := half_full hrx (fun z hz => by rw [rowOf, getD_map (by omega)])
    rw [hfull2]
    (repeat first | refine awp_seq ?_ | refine awp_skip ?_ | refine awp_block ?_); refine awp_region tab_ok hl rfl fun K hK => ?_; simp only [go_sem, ne_eq, Nat.reduceAdd, Nat.reduceSub, Nat.reduceMul, Nat.reduceLT, Nat.reduceEqDiff, Nat.reduceBEq, Nat.reduceLeDiff, Int.reduceToNat, ↓reduceIte, Int.reduceEq, Int.reduceLT, Int.reduceLE, Int.reduceAdd, Int.reduceSub, Int.reduceNeg, reduceCtorEq]
    refine ⟨by omega, ?_⟩
    refine hK _ ?_; clear hK K
    refine ⟨(ck2 + 30, k + 1, ck + 17, nx), ⟨by simp only; omega, hnx, hnm, ho3⟩, by simp only; omega, fun a w hr => Ren.rel (x := 161) (y := 130) ?_ hr⟩
    constructor
    · simp only; omega
    · exact Nat.le_trans hl (by decide)
    · exact Nat.le_trans hl (by decide)
    · exact ⟨_, _, _, _, rfl, rfl⟩
    · rfl
    · rfl
    · intro id h1 h2
      by_cases h : 132 = id
      · subst h; exact .inr (.inl ⟨_, _, _, _, rfl, rfl⟩)
      · left; simp only [Hp.get, if_neg h, if_neg (Ne.symm h2)]
    · exact ROk.get ⟨.inl ⟨rfl, trivial⟩, .inl ⟨rfl, trivial⟩, .inl ⟨rfl, trivial⟩, .inl ⟨rfl, trivial⟩, .inl ⟨rfl, trivial⟩, .inr ⟨_, _, _, rfl, rfl⟩, .inl ⟨rfl, show (132 : Nat) ≠ 130 by decide⟩, trivial⟩
  · refine awp_exit ?_
    obtain rfl : k = passes.length := by omega
    rw [List.drop_length, sortGo] at ho3
    (repeat first | refine awp_seq ?_ | refine awp_skip ?_ | refine awp_block ?_); refine awp_region tab_ok hl rfl fun K hK => ?_; simp only [go_sem, ne_eq, Nat.reduceAdd, Nat.reduceSub, Nat.reduceMul, Nat.reduceLT, Nat.reduceEqDiff, Nat.reduceBEq, Nat.reduceLeDiff, Int.reduceToNat, ↓reduceIte, Int.reduceEq, Int.reduceLT, Int.reduceLE, Int.reduceAdd, Int.reduceSub, Int.reduceNeg, reduceCtorEq]
    refine hK _ (awp_ret (ret2 ?_ ?_ ?_ rfl box0))
    · exact ⟨rfl, by rw [ints_length, ho1, Nat.zero_add]⟩
    · trivial
    · rw [ho3]; rfl
end Go.Proofs.Ytmjlnndnpdbagaa
