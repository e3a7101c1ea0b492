import Derived.Test.YtmjlnndnpdbagaaM18
set_option linter.all false
set_option linter.unusedSimpArgs false
set_option linter.unusedVariables false
set_option linter.deprecated false
namespace Go.Proofs.Ytmjlnndnpdbagaa
open Go Go.Sym

def rrows (l : List (List (List Int))) : List AV := l.map RS
theorem rrows_getD {l : List (List (List Int))} {n : Nat} (h : n < l.length) : (rrows l).getD n .bad = RS (l.getD n []) := by simp [rrows, h]
theorem rrows_length (l : List (List (List Int))) : (rrows l).length = l.length := by simp [rrows]

attribute [go_sem] rrows_length

theorem performR_tup (b p : List Int) (k : Int) : ∃ v e, performR b p k = .tup [IS v, I e] ∧ v.length ≤ 9 * 40 := by
  unfold performR
  split
  · rename_i h
    obtain ⟨h1, _⟩ := err_good h
    exact ⟨_, _, rfl, by rw [performL_length h]; omega⟩
  · exact ⟨_, _, rfl, by simp⟩

theorem sortGo_len (b : List Int) (k : Int) : ∀ (ps : List (List Int)) (out : List Int), out.length ≤ 40 → (sortGo b k ps out).2.length ≤ 40
  | [], out, h => h
  | p :: ps, out, h => by
    rw [sortGo]
    split
    · rename_i h1
      exact sortGo_len b k ps _ (by rw [nextOf, List.length_map, performL_length h1, rowOf, List.length_map]; exact h)
    · simp

theorem sortR_tup (b : List Int) (ps : List (List Int)) (k : Int) : ∃ v e, sortR b ps k = .tup [IS v, I e] ∧ v.length ≤ 9 * 40 := by
  unfold sortR
  split
  · exact ⟨_, _, rfl, by simp⟩
  · exact ⟨_, _, rfl, by have := sortGo_len b k ps (iota b.length) (by rw [iota_length]; omega); omega⟩

theorem draws_short {l : List Int} {a : Nat} {n : Int} {k : Nat} (hk : k ≤ 1000) : (draws l a n k).length ≤ 9223372036854775807 := by rw [draws_length]; omega

theorem law4 (bags : List Int) (raw : List (List Int)) (piles flights : Int) (l : List Int) (hb : bags.length ≤ 9223372036854775807) (hr : Short raw) (hl1 : l.length ≤ 9223372036854775807)
    (hl2 : ∀ x ∈ l, -9223372036854775808 ≤ x ∧ x ≤ 9223372036854775807) : Sat Try.prog 4 [IS bags, RS raw, I piles, I flights, IS l] [] (B true) [] := by
  refine Sat_of_awp (T := tab) tab_ok Try.func4 rfl (by rfl) (by simp [Try.ntmps4]) ?_
  intro w Z blks hb
  have hl : blks.length ≤ 100 := by rw [hb]; simp
  rw [Try.ntmps4]
  simp only [tm0, hp0, List.zipIdx, List.map]
  by_cases c1 : (50 : Int) < bags.length
  · repeat ((repeat first | refine awp_seq ?_ | refine awp_skip ?_ | refine awp_block ?_); refine awp_region tab_ok hl rfl fun K hK => ?_; simp only [go_sem, ne_eq, Nat.reduceAdd, Nat.reduceSub, Nat.reduceMul, Nat.reduceLT, Nat.reduceEqDiff, Nat.reduceBEq, Nat.reduceLeDiff, Int.reduceToNat, ↓reduceIte, Int.reduceEq, Int.reduceLT, Int.reduceLE, Int.reduceAdd, Int.reduceSub, Int.reduceNeg, reduceCtorEq, c1]; (repeat ((with_reducible refine And.intro ?_ ?_); focus ((repeat' apply And.intro) <;> first | omega | simp))); refine hK _ ?_; clear hK K)
    (repeat first | refine awp_seq ?_ | refine awp_skip ?_ | refine awp_block ?_); refine condT rfl ?_
    repeat ((repeat first | refine awp_seq ?_ | refine awp_skip ?_ | refine awp_block ?_); refine awp_region tab_ok hl rfl fun K hK => ?_; simp only [go_sem, ne_eq, Nat.reduceAdd, Nat.reduceSub, Nat.reduceMul, Nat.reduceLT, Nat.reduceEqDiff, Nat.reduceBEq, Nat.reduceLeDiff, Int.reduceToNat, ↓reduceIte, Int.reduceEq, Int.reduceLT, Int.reduceLE, Int.reduceAdd, Int.reduceSub, Int.reduceNeg, reduceCtorEq]; (repeat ((with_reducible refine And.intro ?_ ?_); focus ((repeat' apply And.intro) <;> first | omega | simp))); refine hK _ ?_; clear hK K)
    refine awp_ret ⟨trivial, trivial, ?_, rfl, fun j hj => by cases hj⟩
    rfl
  by_cases c2 : (∀ x ∈ raw, x.length ≤ 50) ∧ raw.length ≤ 50
  case neg =>
    have hsm := small_sat raw hr
    rw [decide_eq_false c2] at hsm
    repeat ((repeat first | refine awp_seq ?_ | refine awp_skip ?_ | refine awp_block ?_); refine awp_region tab_ok hl rfl fun K hK => ?_; simp only [go_sem, ne_eq, Nat.reduceAdd, Nat.reduceSub, Nat.reduceMul, Nat.reduceLT, Nat.reduceEqDiff, Nat.reduceBEq, Nat.reduceLeDiff, Int.reduceToNat, ↓reduceIte, Int.reduceEq, Int.reduceLT, Int.reduceLE, Int.reduceAdd, Int.reduceSub, Int.reduceNeg, reduceCtorEq, c1]; (repeat ((with_reducible refine And.intro ?_ ?_); focus ((repeat' apply And.intro) <;> first | omega | simp))); refine hK _ ?_; clear hK K)
    (repeat first | refine awp_seq ?_ | refine awp_skip ?_ | refine awp_block ?_); refine awp_region tab_ok hl rfl fun K hK => ?_; simp only [go_sem, ne_eq, Nat.reduceAdd, Nat.reduceSub, Nat.reduceMul, Nat.reduceLT, Nat.reduceEqDiff, Nat.reduceBEq, Nat.reduceLeDiff, Int.reduceToNat, ↓reduceIte, Int.reduceEq, Int.reduceLT, Int.reduceLE, Int.reduceAdd, Int.reduceSub, Int.reduceNeg, reduceCtorEq, c1]
    refine callF ⟨trivial, trivial⟩ hsm rfl ?_
    simp only [go_sem, ne_eq, Nat.reduceAdd, Nat.reduceSub, Nat.reduceMul, Nat.reduceLT, Nat.reduceEqDiff, Nat.reduceBEq, Nat.reduceLeDiff, Int.reduceToNat, ↓reduceIte, Int.reduceEq, Int.reduceLT, Int.reduceLE, Int.reduceAdd, Int.reduceSub, Int.reduceNeg, reduceCtorEq]
    (repeat ((with_reducible refine And.intro ?_ ?_); focus ((repeat' apply And.intro) <;> first | omega | simp))); refine hK _ ?_; clear hK K
    (repeat first | refine awp_seq ?_ | refine awp_skip ?_ | refine awp_block ?_); refine condT rfl ?_
    repeat ((repeat first | refine awp_seq ?_ | refine awp_skip ?_ | refine awp_block ?_); refine awp_region tab_ok hl rfl fun K hK => ?_; simp only [go_sem, ne_eq, Nat.reduceAdd, Nat.reduceSub, Nat.reduceMul, Nat.reduceLT, Nat.reduceEqDiff, Nat.reduceBEq, Nat.reduceLeDiff, Int.reduceToNat, ↓reduceIte, Int.reduceEq, Int.reduceLT, Int.reduceLE, Int.reduceAdd, Int.reduceSub, Int.reduceNeg, reduceCtorEq]; (repeat ((with_reducible refine And.intro ?_ ?_); focus ((repeat' apply And.intro) <;> first | omega | simp))); refine hK _ ?_; clear hK K)
    refine awp_ret ⟨trivial, trivial, ?_, rfl, fun j hj => by cases hj⟩
    rfl
  have hsm := small_sat raw hr
  rw [decide_eq_true c2] at hsm
  repeat ((repeat first | refine awp_seq ?_ | refine awp_skip ?_ | refine awp_block ?_); refine awp_region tab_ok hl rfl fun K hK => ?_; simp only [go_sem, ne_eq, Nat.reduceAdd, Nat.reduceSub, Nat.reduceMul, Nat.reduceLT, Nat.reduceEqDiff, Nat.reduceBEq, Nat.reduceLeDiff, Int.reduceToNat, ↓reduceIte, Int.reduceEq, Int.reduceLT, Int.reduceLE, Int.reduceAdd, Int.reduceSub, Int.reduceNeg, reduceCtorEq, c1]; (repeat ((with_reducible refine And.intro ?_ ?_); focus ((repeat' apply And.intro) <;> first | omega | simp))); refine hK _ ?_; clear hK K)
  (repeat first | refine awp_seq ?_ | refine awp_skip ?_ | refine awp_block ?_); refine awp_region tab_ok hl rfl fun K hK => ?_; simp only [go_sem, ne_eq, Nat.reduceAdd, Nat.reduceSub, Nat.reduceMul, Nat.reduceLT, Nat.reduceEqDiff, Nat.reduceBEq, Nat.reduceLeDiff, Int.reduceToNat, ↓reduceIte, Int.reduceEq, Int.reduceLT, Int.reduceLE, Int.reduceAdd, Int.reduceSub, Int.reduceNeg, reduceCtorEq, c1]
  refine callF ⟨trivial, trivial⟩ hsm rfl ?_
  simp only [go_sem, ne_eq, Nat.reduceAdd, Nat.reduceSub, Nat.reduceMul, Nat.reduceLT, Nat.reduceEqDiff, Nat.reduceBEq, Nat.reduceLeDiff, Int.reduceToNat, ↓reduceIte, Int.reduceEq, Int.reduceLT, Int.reduceLE, Int.reduceAdd, Int.reduceSub, Int.reduceNeg, reduceCtorEq]
  (repeat ((with_reducible refine And.intro ?_ ?_); focus ((repeat' apply And.intro) <;> first | omega | simp))); refine hK _ ?_; clear hK K
  (repeat first | refine awp_seq ?_ | refine awp_skip ?_ | refine awp_block ?_); refine condF rfl ?_
  have hf : Fits (l.take 2000) := ⟨by simp [List.length_take]; omega, fun x hx => hl2 x (List.mem_of_mem_take hx)⟩
  (repeat first | refine awp_seq ?_ | refine awp_skip ?_ | refine awp_block ?_); refine awp_region tab_ok hl rfl fun K hK => ?_; simp only [go_sem, ne_eq, Nat.reduceAdd, Nat.reduceSub, Nat.reduceMul, Nat.reduceLT, Nat.reduceEqDiff, Nat.reduceBEq, Nat.reduceLeDiff, Int.reduceToNat, ↓reduceIte, Int.reduceEq, Int.reduceLT, Int.reduceLE, Int.reduceAdd, Int.reduceSub, Int.reduceNeg, reduceCtorEq]
  refine callB ⟨trivial, trivial⟩ (new_sat l hl1) ?_
  generalize l.take 2000 = s at *
  simp only [go_sem, ne_eq, Nat.reduceAdd, Nat.reduceSub, Nat.reduceMul, Nat.reduceLT, Nat.reduceEqDiff, Nat.reduceBEq, Nat.reduceLeDiff, Int.reduceToNat, ↓reduceIte, Int.reduceEq, Int.reduceLT, Int.reduceLE, Int.reduceAdd, Int.reduceSub, Int.reduceNeg, reduceCtorEq]
  (repeat ((with_reducible refine And.intro ?_ ?_); focus ((repeat' apply And.intro) <;> first | omega | simp))); refine hK _ ?_; clear hK K
  (repeat first | refine awp_seq ?_ | refine awp_skip ?_ | refine awp_block ?_); refine awp_region tab_ok hl rfl fun K hK => ?_; simp only [go_sem, ne_eq, Nat.reduceAdd, Nat.reduceSub, Nat.reduceMul, Nat.reduceLT, Nat.reduceEqDiff, Nat.reduceBEq, Nat.reduceLeDiff, Int.reduceToNat, ↓reduceIte, Int.reduceEq, Int.reduceLT, Int.reduceLE, Int.reduceAdd, Int.reduceSub, Int.reduceNeg, reduceCtorEq]
  refine callL rfl ⟨trivial, trivial⟩ ⟨trivial, trivial, trivial⟩ (by simp [refs1, refs2]) (n_sat s 0 12 hf (Nat.zero_le _) (by omega)) ?_
  have hn := modI_lt (x := s.getD 0 0) (n := 12) (by omega)
  simp only [go_sem, ne_eq, Nat.reduceAdd, Nat.reduceSub, Nat.reduceMul, Nat.reduceLT, Nat.reduceEqDiff, Nat.reduceBEq, Nat.reduceLeDiff, Int.reduceToNat, ↓reduceIte, Int.reduceEq, Int.reduceLT, Int.reduceLE, Int.reduceAdd, Int.reduceSub, Int.reduceNeg, reduceCtorEq]
  (repeat ((with_reducible refine And.intro ?_ ?_); focus ((repeat' apply And.intro) <;> first | omega | simp)))
  refine callL rfl ⟨trivial, trivial⟩ ⟨trivial, trivial, trivial⟩ (by simp [refs1, refs2]) (n_sat s (nxs s 0 1) 8 hf (nxs_le _ _ _) (by omega)) ?_
  have hq := modI_lt (x := s.getD (nxs s 0 1) 0) (n := 8) (by omega)
  simp only [go_sem, ne_eq, Nat.reduceAdd, Nat.reduceSub, Nat.reduceMul, Nat.reduceLT, Nat.reduceEqDiff, Nat.reduceBEq, Nat.reduceLeDiff, Int.reduceToNat, ↓reduceIte, Int.reduceEq, Int.reduceLT, Int.reduceLE, Int.reduceAdd, Int.reduceSub, Int.reduceNeg, reduceCtorEq]
  (repeat ((with_reducible refine And.intro ?_ ?_); focus ((repeat' apply And.intro) <;> first | omega | simp))); refine hK _ ?_; clear hK K
  generalize hN : 1 + modI (s.getD 0 0) 12 = n at *
  generalize hQ : 2 + modI (s.getD (nxs s 0 1) 0) 8 = q at *
  generalize hA : nxs s (nxs s 0 1) 1 = a at *
  have ha : a ≤ s.length := by rw [← hA]; exact nxs_le _ _ _
  obtain ⟨m, hm⟩ := Int.eq_ofNat_of_zero_le (show 0 ≤ n by omega)
  subst hm
  (repeat first | refine awp_seq ?_ | refine awp_skip ?_ | refine awp_block ?_); refine awp_region tab_ok hl rfl fun K hK => ?_; simp only [go_sem, ne_eq, Nat.reduceAdd, Nat.reduceSub, Nat.reduceMul, Nat.reduceLT, Nat.reduceEqDiff, Nat.reduceBEq, Nat.reduceLeDiff, Int.reduceToNat, ↓reduceIte, Int.reduceEq, Int.reduceLT, Int.reduceLE, Int.reduceAdd, Int.reduceSub, Int.reduceNeg, reduceCtorEq]
  refine callL rfl ⟨trivial, trivial, trivial⟩ ⟨trivial, trivial, trivial⟩ (by simp [refs1, refs2]) (row_sat s a m 20 hf ha (by omega) (by omega)) ?_
  have hrk : rowK s a 20 ≤ 20 := by
    have := modI_lt (x := s.getD a 0) (n := (20 : Int) + 1) (by omega)
    unfold rowK; omega
  simp only [go_sem, ne_eq, Nat.reduceAdd, Nat.reduceSub, Nat.reduceMul, Nat.reduceLT, Nat.reduceEqDiff, Nat.reduceBEq, Nat.reduceLeDiff, Int.reduceToNat, ↓reduceIte, Int.reduceEq, Int.reduceLT, Int.reduceLE, Int.reduceAdd, Int.reduceSub, Int.reduceNeg, reduceCtorEq]
  refine callL rfl ⟨trivial, trivial⟩ ⟨trivial, trivial, trivial⟩ (by simp [refs1, refs2]) (n_sat s (nxs s a (1 + rowK s a 20)) 5 hf (nxs_le _ _ _) (by omega)) ?_
  have hk := modI_lt (x := s.getD (nxs s a (1 + rowK s a 20)) 0) (n := 5) (by omega)
  simp only [go_sem, ne_eq, Nat.reduceAdd, Nat.reduceSub, Nat.reduceMul, Nat.reduceLT, Nat.reduceEqDiff, Nat.reduceBEq, Nat.reduceLeDiff, Int.reduceToNat, ↓reduceIte, Int.reduceEq, Int.reduceLT, Int.reduceLE, Int.reduceAdd, Int.reduceSub, Int.reduceNeg, reduceCtorEq]
  obtain ⟨k, hk'⟩ := Int.eq_ofNat_of_zero_le hk.1
  rw [hk'] at hk ⊢
  refine callL rfl ⟨trivial, trivial, trivial, trivial⟩ ⟨trivial, trivial, trivial⟩ (by simp [refs1, refs2]) (passes_sat' s (nxs s (nxs s a (1 + rowK s a 20)) 1) k m q hf (nxs_le _ _ _) (by omega) (by omega) (by omega)) ?_
  simp only [go_sem, ne_eq, Nat.reduceAdd, Nat.reduceSub, Nat.reduceMul, Nat.reduceLT, Nat.reduceEqDiff, Nat.reduceBEq, Nat.reduceLeDiff, Int.reduceToNat, ↓reduceIte, Int.reduceEq, Int.reduceLT, Int.reduceLE, Int.reduceAdd, Int.reduceSub, Int.reduceNeg, reduceCtorEq]
  (repeat ((with_reducible refine And.intro ?_ ?_); focus ((repeat' apply And.intro) <;> first | omega | simp))); refine hK _ ?_; clear hK K
  have hxl := draws_length s (a + 1) m (rowK s a 20)
  generalize draws s (a + 1) m (rowK s a 20) = x at *
  generalize hA2 : nxs s (nxs s (nxs s a (1 + rowK s a 20)) 1) (k * m) = a2 at *
  have ha2 : a2 ≤ s.length := by rw [← hA2]; exact nxs_le _ _ _
  have hgs : ∀ y ∈ passL s (nxs s (nxs s a (1 + rowK s a 20)) 1) m q m k, y.length ≤ 50 := fun y hy => by
    obtain ⟨b, rfl⟩ := passL_mem hy
    rw [draws_length]; omega
  have hgl := passL_length s (nxs s (nxs s a (1 + rowK s a 20)) 1) m q m k
  generalize passL s (nxs s (nxs s a (1 + rowK s a 20)) 1) m q m k = good at *
  have hxl2 : (x.length : Int) ≤ 20 := by omega
  have hpk := pick_sat s a2 [-1, (m : Int), (m : Int) + 1] hf ha2 (by simp) (by simp)
  generalize hv : ([-1, (m : Int), m + 1] : List Int).getD (modI (s.getD a2 0) ([-1, (m : Int), m + 1] : List Int).length).toNat 0 = v at *
  (repeat first | refine awp_seq ?_ | refine awp_skip ?_ | refine awp_block ?_); refine awp_region_draw tab_ok hl (by kernel_rfl) (by kernel_rfl) rfl fun K hK => ?_; simp only [go_sem, ne_eq, Nat.reduceAdd, Nat.reduceSub, Nat.reduceMul, Nat.reduceLT, Nat.reduceEqDiff, Nat.reduceBEq, Nat.reduceLeDiff, Int.reduceToNat, ↓reduceIte, Int.reduceEq, Int.reduceLT, Int.reduceLE, Int.reduceAdd, Int.reduceSub, Int.reduceNeg, reduceCtorEq]
  suffices main : ∀ (s' : St) (b3 : List Int) (c : Nat), b3.length ≤ 100 → Weak s' ⟨[(1, RS raw), (2, I piles), (3, I flights), (12, I m), (13, I q), (15, RS good), (70, .sl (rows [bags, x, b3]) true), (71, I 3), (72, I ((0 : Nat) : Int))], [], c⟩ → K s' by
    (repeat ((with_reducible refine And.intro ?_ ?_); focus ((repeat' apply And.intro) <;> first | omega | simp)))
    refine callL rfl ⟨trivial, trivial⟩ ⟨trivial, trivial, trivial⟩ (by simp [refs1, refs2]) hpk ?_
    cases x with
    | nil =>
      simp only [go_sem, ne_eq, Nat.reduceAdd, Nat.reduceSub, Nat.reduceMul, Nat.reduceLT, Nat.reduceEqDiff, Nat.reduceBEq, Nat.reduceLeDiff, Int.reduceToNat, ↓reduceIte, Int.reduceEq, Int.reduceLT, Int.reduceLE, Int.reduceAdd, Int.reduceSub, Int.reduceNeg, reduceCtorEq]
      refine ⟨by kernel_rfl, main _ [v] 1000 (by simp) ?_⟩
      exact .of (by simp only; omega) .nil (by repeat (first | exact WOk.nil | refine WOk.cons rfl ?_))
    | cons y ys =>
      have ht : (ints (y :: ys)).take (ys.length + 1) = I y :: ints ys := by rw [List.take_of_length_le (by simp [ints])]; rfl
      have ha : ∀ z ∈ (I y :: ints ys), z.cells.length = 1 := ints_cells (l := y :: ys)
      simp only [List.length_cons] at hxl2
      simp only [go_sem, ne_eq, Nat.reduceAdd, Nat.reduceSub, Nat.reduceMul, Nat.reduceLT, Nat.reduceEqDiff, Nat.reduceBEq, Nat.reduceLeDiff, Int.reduceToNat, ↓reduceIte, Int.reduceEq, Int.reduceLT, Int.reduceLE, Int.reduceAdd, Int.reduceSub, Int.reduceNeg, reduceCtorEq, ht]
      refine ⟨⟨by omega, by omega⟩, by kernel_rfl, main _ ((y :: ys) ++ [v]) 1000 (by simp; omega) ?_⟩
      exact .of (by simp only; omega) .nil (by repeat (first | exact WOk.nil | refine WOk.cons rfl ?_))
  intro s' b3 c hb3 hw
  refine hK _ ?_; clear hK K
  have hbs : ∀ b ∈ [bags, x, b3], b.length ≤ 100 := fun b hb => by
    simp only [List.mem_cons, List.not_mem_nil, or_false] at hb
    rcases hb with rfl | rfl | rfl <;> omega
  have hbl : [bags, x, b3].length = 3 := rfl
  generalize [bags, x, b3] = bs at *
  have hgood : Short good := ⟨by omega, fun y hy => by have := hgs y hy; omega⟩
  have hqb : 2 ≤ q ∧ q ≤ 9 := by omega
  have hmb : m ≤ 12 := by omega
  clear hpk hv hA2 hA hN hQ hsm hk'
  (repeat first | refine awp_seq ?_ | refine awp_skip ?_ | refine awp_block ?_)
  refine awp_loopW (fun i : Nat × Nat => ⟨[(1, RS raw), (2, I piles), (3, I flights), (12, I m), (13, I q), (15, RS good), (70, .sl (rows bs) true), (71, I 3), (72, I i.2)], [], i.1⟩) (fun i => i.2 ≤ 3) (fun i => 3 - i.2) (_, 0) (Nat.zero_le _) hw ?_
  rintro ⟨ck, i⟩ hi
  simp only at hi
  repeat ((repeat first | refine awp_seq ?_ | refine awp_skip ?_ | refine awp_block ?_); refine awp_region tab_ok hl rfl fun K hK => ?_; simp only [go_sem, ne_eq, Nat.reduceAdd, Nat.reduceSub, Nat.reduceMul, Nat.reduceLT, Nat.reduceEqDiff, Nat.reduceBEq, Nat.reduceLeDiff, Int.reduceToNat, ↓reduceIte, Int.reduceEq, Int.reduceLT, Int.reduceLE, Int.reduceAdd, Int.reduceSub, Int.reduceNeg, reduceCtorEq]; (repeat ((with_reducible refine And.intro ?_ ?_); focus ((repeat' apply And.intro) <;> first | omega | simp))); refine hK _ ?_; clear hK K)
  (repeat first | refine awp_seq ?_ | refine awp_skip ?_ | refine awp_block ?_); refine condP _ rfl (fun e => ?_) (fun e => ?_)
  case refine_2 =>
    refine awp_exit ?_
    repeat ((repeat first | refine awp_seq ?_ | refine awp_skip ?_ | refine awp_block ?_); refine awp_region tab_ok hl rfl fun K hK => ?_; simp only [go_sem, ne_eq, Nat.reduceAdd, Nat.reduceSub, Nat.reduceMul, Nat.reduceLT, Nat.reduceEqDiff, Nat.reduceBEq, Nat.reduceLeDiff, Int.reduceToNat, ↓reduceIte, Int.reduceEq, Int.reduceLT, Int.reduceLE, Int.reduceAdd, Int.reduceSub, Int.reduceNeg, reduceCtorEq]; (repeat ((with_reducible refine And.intro ?_ ?_); focus ((repeat' apply And.intro) <;> first | omega | simp))); refine hK _ ?_; clear hK K)
    (repeat first | refine awp_seq ?_ | refine awp_skip ?_ | refine awp_block ?_); refine awp_region tab_ok hl rfl fun K hK => ?_; simp only [go_sem, ne_eq, Nat.reduceAdd, Nat.reduceSub, Nat.reduceMul, Nat.reduceLT, Nat.reduceEqDiff, Nat.reduceBEq, Nat.reduceLeDiff, Int.reduceToNat, ↓reduceIte, Int.reduceEq, Int.reduceLT, Int.reduceLE, Int.reduceAdd, Int.reduceSub, Int.reduceNeg, reduceCtorEq]
    refine callF trivial awake_sat rfl ?_
    refine hK _ (awp_ret ⟨trivial, trivial, ?_, rfl, fun j hj => by cases hj⟩)
    rfl
  have hlt : i < bs.length := by omega
  have hbi := hbs _ (getD_mem hlt)
  repeat ((repeat first | refine awp_seq ?_ | refine awp_skip ?_ | refine awp_block ?_); refine awp_region tab_ok hl rfl fun K hK => ?_; simp only [go_sem, ne_eq, Nat.reduceAdd, Nat.reduceSub, Nat.reduceMul, Nat.reduceLT, Nat.reduceEqDiff, Nat.reduceBEq, Nat.reduceLeDiff, Int.reduceToNat, ↓reduceIte, Int.reduceEq, Int.reduceLT, Int.reduceLE, Int.reduceAdd, Int.reduceSub, Int.reduceNeg, reduceCtorEq, rows_getD hlt]; (repeat ((with_reducible refine And.intro ?_ ?_); focus ((repeat' apply And.intro) <;> first | omega | simp))); refine hK _ ?_; clear hK K)
  generalize bs.getD i [] = b at *
  (repeat first | refine awp_seq ?_ | refine awp_skip ?_ | refine awp_block ?_); refine awp_region tab_ok hl rfl fun K hK => ?_; simp only [go_sem, ne_eq, Nat.reduceAdd, Nat.reduceSub, Nat.reduceMul, Nat.reduceLT, Nat.reduceEqDiff, Nat.reduceBEq, Nat.reduceLeDiff, Int.reduceToNat, ↓reduceIte, Int.reduceEq, Int.reduceLT, Int.reduceLE, Int.reduceAdd, Int.reduceSub, Int.reduceNeg, reduceCtorEq]
  suffices main : ∀ (s' : St) (p3 : List (List Int)), Short p3 → Weak s' ⟨[(1, RS raw), (2, I piles), (3, I flights), (12, I m), (13, I q), (15, RS good), (70, .sl (rows bs) true), (71, I 3), (72, I i), (17, IS b), (86, .sl (rrows [raw, good, p3]) true), (87, I 3), (88, I ((0 : Nat) : Int))], [], ck + 100⟩ → K s' by
    have hrw := rows_length raw
    have hra : ∀ z ∈ rows raw, z.cells.length = 1 := rows_cells
    cases good with
    | nil =>
      simp only [go_sem, ne_eq, Nat.reduceAdd, Nat.reduceSub, Nat.reduceMul, Nat.reduceLT, Nat.reduceEqDiff, Nat.reduceBEq, Nat.reduceLeDiff, Int.reduceToNat, ↓reduceIte, Int.reduceEq, Int.reduceLT, Int.reduceLE, Int.reduceAdd, Int.reduceSub, Int.reduceNeg, reduceCtorEq, hrw]
      refine ⟨(by (repeat' apply And.intro) <;> first | omega | simp), ⟨by omega, by omega⟩, main _ raw hr ?_⟩
      exact .of (by simp only; omega) .nil (by repeat (first | exact WOk.nil | refine WOk.cons rfl ?_))
    | cons y ys =>
      have ht : (rows (y :: ys)).take (ys.length + 1) = IS y :: rows ys := by rw [List.take_of_length_le (by simp [rows])]; rfl
      have ha : ∀ z ∈ (IS y :: rows ys), z.cells.length = 1 := rows_cells (l := y :: ys)
      simp only [List.length_cons] at hgl
      simp only [go_sem, ne_eq, Nat.reduceAdd, Nat.reduceSub, Nat.reduceMul, Nat.reduceLT, Nat.reduceEqDiff, Nat.reduceBEq, Nat.reduceLeDiff, Int.reduceToNat, ↓reduceIte, Int.reduceEq, Int.reduceLT, Int.reduceLE, Int.reduceAdd, Int.reduceSub, Int.reduceNeg, reduceCtorEq, ht, hrw]
      refine ⟨(by (repeat' apply And.intro) <;> first | omega | simp), ⟨by omega, by omega⟩, main _ (y :: ys ++ raw) ⟨by simp; omega, fun z hz => ?_⟩ ?_⟩
      · rcases List.mem_append.1 hz with h | h
        · have := hgs _ h; omega
        · have := c2.1 _ h; omega
      have hap : IS y :: (rows ys ++ rows raw) = rows (y :: ys ++ raw) := by simp [rows]
      rw [hap]
      exact .of (by simp only; omega) .nil (by repeat (first | exact WOk.nil | refine WOk.cons rfl ?_))
  intro s' p3 hp3 hw
  refine hK _ ?_; clear hK K
  have hps : ∀ p ∈ [raw, good, p3], Short p := fun b hb => by
    simp only [List.mem_cons, List.not_mem_nil, or_false] at hb
    rcases hb with rfl | rfl | rfl <;> assumption
  have hpl : [raw, good, p3].length = 3 := rfl
  generalize [raw, good, p3] = ps at *
  (repeat first | refine awp_seq ?_ | refine awp_skip ?_ | refine awp_block ?_)
  refine awp_loopW (fun j : Nat × Nat => ⟨[(1, RS raw), (2, I piles), (3, I flights), (12, I m), (13, I q), (15, RS good), (70, .sl (rows bs) true), (71, I 3), (72, I i), (17, IS b), (86, .sl (rrows ps) true), (87, I 3), (88, I j.2)], [], j.1⟩) (fun j => j.2 ≤ 3) (fun j => 3 - j.2) (_, 0) (Nat.zero_le _) hw ?_
  rintro ⟨ck1, j⟩ hj
  simp only at hj
  repeat ((repeat first | refine awp_seq ?_ | refine awp_skip ?_ | refine awp_block ?_); refine awp_region tab_ok hl rfl fun K hK => ?_; simp only [go_sem, ne_eq, Nat.reduceAdd, Nat.reduceSub, Nat.reduceMul, Nat.reduceLT, Nat.reduceEqDiff, Nat.reduceBEq, Nat.reduceLeDiff, Int.reduceToNat, ↓reduceIte, Int.reduceEq, Int.reduceLT, Int.reduceLE, Int.reduceAdd, Int.reduceSub, Int.reduceNeg, reduceCtorEq]; (repeat ((with_reducible refine And.intro ?_ ?_); focus ((repeat' apply And.intro) <;> first | omega | simp))); refine hK _ ?_; clear hK K)
  (repeat first | refine awp_seq ?_ | refine awp_skip ?_ | refine awp_block ?_); refine condP _ rfl (fun e1 => ?_) (fun e1 => ?_)
  case refine_2 =>
    refine awp_exit ?_
    repeat ((repeat first | refine awp_seq ?_ | refine awp_skip ?_ | refine awp_block ?_); refine awp_region tab_ok hl rfl fun K hK => ?_; simp only [go_sem, ne_eq, Nat.reduceAdd, Nat.reduceSub, Nat.reduceMul, Nat.reduceLT, Nat.reduceEqDiff, Nat.reduceBEq, Nat.reduceLeDiff, Int.reduceToNat, ↓reduceIte, Int.reduceEq, Int.reduceLT, Int.reduceLE, Int.reduceAdd, Int.reduceSub, Int.reduceNeg, reduceCtorEq]; (repeat ((with_reducible refine And.intro ?_ ?_); focus ((repeat' apply And.intro) <;> first | omega | simp))); refine hK _ ?_; clear hK K)
    refine ⟨(_, i + 1), by simp only; omega, by simp only; omega, .of (Nat.le_refl _) .nil (by repeat (first | exact WOk.nil | refine WOk.cons rfl ?_))⟩
  have hltj : j < ps.length := by omega
  have hpj : Short (ps.getD j []) := by
    have : ps.getD j [] ∈ ps := by
      have : ps.getD j [] = ps[j] := by simp [hltj]
      rw [this]; exact List.getElem_mem _
    exact hps _ this
  repeat ((repeat first | refine awp_seq ?_ | refine awp_skip ?_ | refine awp_block ?_); refine awp_region tab_ok hl rfl fun K hK => ?_; simp only [go_sem, ne_eq, Nat.reduceAdd, Nat.reduceSub, Nat.reduceMul, Nat.reduceLT, Nat.reduceEqDiff, Nat.reduceBEq, Nat.reduceLeDiff, Int.reduceToNat, ↓reduceIte, Int.reduceEq, Int.reduceLT, Int.reduceLE, Int.reduceAdd, Int.reduceSub, Int.reduceNeg, reduceCtorEq, rrows_getD hltj]; (repeat ((with_reducible refine And.intro ?_ ?_); focus ((repeat' apply And.intro) <;> first | omega | simp))); refine hK _ ?_; clear hK K)
  generalize ps.getD j [] = p at *
  have hpp := hpj.1
  have hks : [piles, q, q - 1].length = 3 := rfl
  have hkk : ∃ ks : List Int, ks = [piles, q, q - 1] ∧ ks.length = 3 := ⟨_, rfl, rfl⟩
  obtain ⟨ks, hks1, hks2⟩ := hkk
  (repeat first | refine awp_seq ?_ | refine awp_skip ?_ | refine awp_block ?_)
  refine awp_loopW (fun h : Nat × Nat => ⟨[(1, RS raw), (2, I piles), (3, I flights), (12, I m), (13, I q), (15, RS good), (70, .sl (rows bs) true), (71, I 3), (72, I i), (17, IS b), (86, .sl (rrows ps) true), (87, I 3), (88, I j), (19, RS p), (96, .sl (ints ks) true), (97, I 3), (98, I h.2)], [], h.1⟩) (fun h => h.2 ≤ 3) (fun h => 3 - h.2) (ck1 + 50, 0) (Nat.zero_le _) ?_ ?_
  · rw [hks1]; exact .of (by simp only; omega) .nil (by repeat (first | exact WOk.nil | refine WOk.cons rfl ?_))
  clear hks hks1
  rintro ⟨ck2, h⟩ hh
  simp only at hh
  repeat ((repeat first | refine awp_seq ?_ | refine awp_skip ?_ | refine awp_block ?_); refine awp_region tab_ok hl rfl fun K hK => ?_; simp only [go_sem, ne_eq, Nat.reduceAdd, Nat.reduceSub, Nat.reduceMul, Nat.reduceLT, Nat.reduceEqDiff, Nat.reduceBEq, Nat.reduceLeDiff, Int.reduceToNat, ↓reduceIte, Int.reduceEq, Int.reduceLT, Int.reduceLE, Int.reduceAdd, Int.reduceSub, Int.reduceNeg, reduceCtorEq]; (repeat ((with_reducible refine And.intro ?_ ?_); focus ((repeat' apply And.intro) <;> first | omega | simp))); refine hK _ ?_; clear hK K)
  (repeat first | refine awp_seq ?_ | refine awp_skip ?_ | refine awp_block ?_); refine condP _ rfl (fun e2 => ?_) (fun e2 => ?_)
  case refine_2 =>
    refine awp_exit ?_
    repeat ((repeat first | refine awp_seq ?_ | refine awp_skip ?_ | refine awp_block ?_); refine awp_region tab_ok hl rfl fun K hK => ?_; simp only [go_sem, ne_eq, Nat.reduceAdd, Nat.reduceSub, Nat.reduceMul, Nat.reduceLT, Nat.reduceEqDiff, Nat.reduceBEq, Nat.reduceLeDiff, Int.reduceToNat, ↓reduceIte, Int.reduceEq, Int.reduceLT, Int.reduceLE, Int.reduceAdd, Int.reduceSub, Int.reduceNeg, reduceCtorEq]; (repeat ((with_reducible refine And.intro ?_ ?_); focus ((repeat' apply And.intro) <;> first | omega | simp))); refine hK _ ?_; clear hK K)
    have hkk : ∃ fs : List Int, fs = [flights, (m : Int), m + 1, 0] ∧ fs.length = 4 := ⟨_, rfl, rfl⟩
    obtain ⟨fs, hfs1, hfs2⟩ := hkk
    (repeat first | refine awp_seq ?_ | refine awp_skip ?_ | refine awp_block ?_)
    refine awp_loopW (fun h : Nat × Nat => ⟨[(1, RS raw), (2, I piles), (3, I flights), (12, I m), (13, I q), (15, RS good), (70, .sl (rows bs) true), (71, I 3), (72, I i), (17, IS b), (86, .sl (rrows ps) true), (87, I 3), (88, I j), (19, RS p), (169, .sl (ints fs) true), (170, I 4), (171, I h.2)], [], h.1⟩) (fun h => h.2 ≤ 4) (fun h => 4 - h.2) (ck2 + 50, 0) (Nat.zero_le _) ?_ ?_
    · rw [hfs1]; exact .of (by simp only; omega) .nil (by repeat (first | exact WOk.nil | refine WOk.cons rfl ?_))
    clear hfs1
    rintro ⟨ck3, h⟩ hh
    simp only at hh
    repeat ((repeat first | refine awp_seq ?_ | refine awp_skip ?_ | refine awp_block ?_); refine awp_region tab_ok hl rfl fun K hK => ?_; simp only [go_sem, ne_eq, Nat.reduceAdd, Nat.reduceSub, Nat.reduceMul, Nat.reduceLT, Nat.reduceEqDiff, Nat.reduceBEq, Nat.reduceLeDiff, Int.reduceToNat, ↓reduceIte, Int.reduceEq, Int.reduceLT, Int.reduceLE, Int.reduceAdd, Int.reduceSub, Int.reduceNeg, reduceCtorEq]; (repeat ((with_reducible refine And.intro ?_ ?_); focus ((repeat' apply And.intro) <;> first | omega | simp))); refine hK _ ?_; clear hK K)
    (repeat first | refine awp_seq ?_ | refine awp_skip ?_ | refine awp_block ?_); refine condP _ rfl (fun e3 => ?_) (fun e3 => ?_)
    · have hlth : h < fs.length := by omega
      repeat ((repeat first | refine awp_seq ?_ | refine awp_skip ?_ | refine awp_block ?_); refine awp_region tab_ok hl rfl fun K hK => ?_; simp only [go_sem, ne_eq, Nat.reduceAdd, Nat.reduceSub, Nat.reduceMul, Nat.reduceLT, Nat.reduceEqDiff, Nat.reduceBEq, Nat.reduceLeDiff, Int.reduceToNat, ↓reduceIte, Int.reduceEq, Int.reduceLT, Int.reduceLE, Int.reduceAdd, Int.reduceSub, Int.reduceNeg, reduceCtorEq, ints_getD hlth]; (repeat ((with_reducible refine And.intro ?_ ?_); focus ((repeat' apply And.intro) <;> first | omega | simp))); refine hK _ ?_; clear hK K)
      (repeat first | refine awp_seq ?_ | refine awp_skip ?_ | refine awp_block ?_); refine awp_region tab_ok hl rfl fun K hK => ?_; simp only [go_sem, ne_eq, Nat.reduceAdd, Nat.reduceSub, Nat.reduceMul, Nat.reduceLT, Nat.reduceEqDiff, Nat.reduceBEq, Nat.reduceLeDiff, Int.reduceToNat, ↓reduceIte, Int.reduceEq, Int.reduceLT, Int.reduceLE, Int.reduceAdd, Int.reduceSub, Int.reduceNeg, reduceCtorEq]
      refine callF ⟨trivial, trivial, trivial⟩ (sorts_sat p (fs.getD h 0) hpj) rfl ?_
      simp only [go_sem, ne_eq, Nat.reduceAdd, Nat.reduceSub, Nat.reduceMul, Nat.reduceLT, Nat.reduceEqDiff, Nat.reduceBEq, Nat.reduceLeDiff, Int.reduceToNat, ↓reduceIte, Int.reduceEq, Int.reduceLT, Int.reduceLE, Int.reduceAdd, Int.reduceSub, Int.reduceNeg, reduceCtorEq]
      refine callF ⟨trivial, trivial, trivial⟩ (rsorts_sat p (fs.getD h 0) hpj) rfl ?_
      generalize decide (SortsP p (fs.getD h 0)) = sb
      have hbb : (sb == sb) = true := by simp
      simp only [go_sem, ne_eq, Nat.reduceAdd, Nat.reduceSub, Nat.reduceMul, Nat.reduceLT, Nat.reduceEqDiff, Nat.reduceBEq, Nat.reduceLeDiff, Int.reduceToNat, ↓reduceIte, Int.reduceEq, Int.reduceLT, Int.reduceLE, Int.reduceAdd, Int.reduceSub, Int.reduceNeg, reduceCtorEq, hbb]
      (repeat ((with_reducible refine And.intro ?_ ?_); focus ((repeat' apply And.intro) <;> first | omega | simp))); refine hK _ ?_; clear hK K
      (repeat first | refine awp_seq ?_ | refine awp_skip ?_ | refine awp_block ?_); refine condF rfl ?_
      repeat ((repeat first | refine awp_seq ?_ | refine awp_skip ?_ | refine awp_block ?_); refine awp_region tab_ok hl rfl fun K hK => ?_; simp only [go_sem, ne_eq, Nat.reduceAdd, Nat.reduceSub, Nat.reduceMul, Nat.reduceLT, Nat.reduceEqDiff, Nat.reduceBEq, Nat.reduceLeDiff, Int.reduceToNat, ↓reduceIte, Int.reduceEq, Int.reduceLT, Int.reduceLE, Int.reduceAdd, Int.reduceSub, Int.reduceNeg, reduceCtorEq]; (repeat ((with_reducible refine And.intro ?_ ?_); focus ((repeat' apply And.intro) <;> first | omega | simp))); refine hK _ ?_; clear hK K)
      refine ⟨(_, h + 1), by simp only; omega, by simp only; omega, .of (Nat.le_refl _) .nil (by repeat (first | exact WOk.nil | refine WOk.cons rfl ?_))⟩
    · refine awp_exit ?_
      repeat ((repeat first | refine awp_seq ?_ | refine awp_skip ?_ | refine awp_block ?_); refine awp_region tab_ok hl rfl fun K hK => ?_; simp only [go_sem, ne_eq, Nat.reduceAdd, Nat.reduceSub, Nat.reduceMul, Nat.reduceLT, Nat.reduceEqDiff, Nat.reduceBEq, Nat.reduceLeDiff, Int.reduceToNat, ↓reduceIte, Int.reduceEq, Int.reduceLT, Int.reduceLE, Int.reduceAdd, Int.reduceSub, Int.reduceNeg, reduceCtorEq]; (repeat ((with_reducible refine And.intro ?_ ?_); focus ((repeat' apply And.intro) <;> first | omega | simp))); refine hK _ ?_; clear hK K)
      refine ⟨(_, j + 1), by simp only; omega, by simp only; omega, .of (Nat.le_refl _) .nil (by repeat (first | exact WOk.nil | refine WOk.cons rfl ?_))⟩
  have hlth : h < ks.length := by omega
  repeat ((repeat first | refine awp_seq ?_ | refine awp_skip ?_ | refine awp_block ?_); refine awp_region tab_ok hl rfl fun K hK => ?_; simp only [go_sem, ne_eq, Nat.reduceAdd, Nat.reduceSub, Nat.reduceMul, Nat.reduceLT, Nat.reduceEqDiff, Nat.reduceBEq, Nat.reduceLeDiff, Int.reduceToNat, ↓reduceIte, Int.reduceEq, Int.reduceLT, Int.reduceLE, Int.reduceAdd, Int.reduceSub, Int.reduceNeg, reduceCtorEq, ints_getD hlth]; (repeat ((with_reducible refine And.intro ?_ ?_); focus ((repeat' apply And.intro) <;> first | omega | simp))); refine hK _ ?_; clear hK K)
  generalize ks.getD h 0 = k0 at *
  obtain ⟨v1, w1, hs1, hv1⟩ := sortR_tup b p k0
  (repeat first | refine awp_seq ?_ | refine awp_skip ?_ | refine awp_block ?_); refine awp_region tab_ok hl rfl fun K hK => ?_; simp only [go_sem, ne_eq, Nat.reduceAdd, Nat.reduceSub, Nat.reduceMul, Nat.reduceLT, Nat.reduceEqDiff, Nat.reduceBEq, Nat.reduceLeDiff, Int.reduceToNat, ↓reduceIte, Int.reduceEq, Int.reduceLT, Int.reduceLE, Int.reduceAdd, Int.reduceSub, Int.reduceNeg, reduceCtorEq]
  refine callP ⟨trivial, trivial, trivial, trivial⟩ (hs1 ▸ sort_sat b p k0 (by omega) hpj) ?_
  simp only [go_sem, ne_eq, Nat.reduceAdd, Nat.reduceSub, Nat.reduceMul, Nat.reduceLT, Nat.reduceEqDiff, Nat.reduceBEq, Nat.reduceLeDiff, Int.reduceToNat, ↓reduceIte, Int.reduceEq, Int.reduceLT, Int.reduceLE, Int.reduceAdd, Int.reduceSub, Int.reduceNeg, reduceCtorEq]
  (repeat ((with_reducible refine And.intro ?_ ?_); focus ((repeat' apply And.intro) <;> first | omega | simp))); refine hK _ ?_; clear hK K
  (repeat first | refine awp_seq ?_ | refine awp_skip ?_ | refine awp_block ?_); refine awp_region tab_ok hl rfl fun K hK => ?_; simp only [go_sem, ne_eq, Nat.reduceAdd, Nat.reduceSub, Nat.reduceMul, Nat.reduceLT, Nat.reduceEqDiff, Nat.reduceBEq, Nat.reduceLeDiff, Int.reduceToNat, ↓reduceIte, Int.reduceEq, Int.reduceLT, Int.reduceLE, Int.reduceAdd, Int.reduceSub, Int.reduceNeg, reduceCtorEq]
  refine callP ⟨trivial, trivial, trivial, trivial⟩ (hs1 ▸ rsort_sat b p k0 (by omega) hpj) ?_
  simp only [go_sem, ne_eq, Nat.reduceAdd, Nat.reduceSub, Nat.reduceMul, Nat.reduceLT, Nat.reduceEqDiff, Nat.reduceBEq, Nat.reduceLeDiff, Int.reduceToNat, ↓reduceIte, Int.reduceEq, Int.reduceLT, Int.reduceLE, Int.reduceAdd, Int.reduceSub, Int.reduceNeg, reduceCtorEq]
  (repeat ((with_reducible refine And.intro ?_ ?_); focus ((repeat' apply And.intro) <;> first | omega | simp))); refine hK _ ?_; clear hK K
  (repeat first | refine awp_seq ?_ | refine awp_skip ?_ | refine awp_block ?_); refine awp_region tab_ok hl rfl fun K hK => ?_; simp only [go_sem, ne_eq, Nat.reduceAdd, Nat.reduceSub, Nat.reduceMul, Nat.reduceLT, Nat.reduceEqDiff, Nat.reduceBEq, Nat.reduceLeDiff, Int.reduceToNat, ↓reduceIte, Int.reduceEq, Int.reduceLT, Int.reduceLE, Int.reduceAdd, Int.reduceSub, Int.reduceNeg, reduceCtorEq]
  refine callF ⟨trivial, trivial, trivial⟩ (ints_sat v1 v1 (by omega)) rfl ?_
  simp only [go_sem, ne_eq, Nat.reduceAdd, Nat.reduceSub, Nat.reduceMul, Nat.reduceLT, Nat.reduceEqDiff, Nat.reduceBEq, Nat.reduceLeDiff, Int.reduceToNat, ↓reduceIte, Int.reduceEq, Int.reduceLT, Int.reduceLE, Int.reduceAdd, Int.reduceSub, Int.reduceNeg, reduceCtorEq]
  (repeat ((with_reducible refine And.intro ?_ ?_); focus ((repeat' apply And.intro) <;> first | omega | simp))); refine hK _ ?_; clear hK K
  (repeat first | refine awp_seq ?_ | refine awp_skip ?_ | refine awp_block ?_); refine condF rfl ?_
  repeat ((repeat first | refine awp_seq ?_ | refine awp_skip ?_ | refine awp_block ?_); refine awp_region tab_ok hl rfl fun K hK => ?_; simp only [go_sem, ne_eq, Nat.reduceAdd, Nat.reduceSub, Nat.reduceMul, Nat.reduceLT, Nat.reduceEqDiff, Nat.reduceBEq, Nat.reduceLeDiff, Int.reduceToNat, ↓reduceIte, Int.reduceEq, Int.reduceLT, Int.reduceLE, Int.reduceAdd, Int.reduceSub, Int.reduceNeg, reduceCtorEq]; (repeat ((with_reducible refine And.intro ?_ ?_); focus ((repeat' apply And.intro) <;> first | omega | simp))); refine hK _ ?_; clear hK K)
  (repeat first | refine awp_seq ?_ | refine awp_skip ?_ | refine awp_block ?_)
  refine awp_loopW (fun f : Nat × Nat => ⟨[(1, RS raw), (2, I piles), (3, I flights), (12, I m), (13, I q), (15, RS good), (70, .sl (rows bs) true), (71, I 3), (72, I i), (17, IS b), (86, .sl (rrows ps) true), (87, I 3), (88, I j), (19, RS p), (96, .sl (ints ks) true), (97, I 3), (98, I h), (21, I k0), (26, I f.2)], [], f.1⟩) (fun f => f.2 ≤ p.length) (fun f => p.length - f.2) (_, 0) (Nat.zero_le _) (.of (Nat.le_refl _) .nil (by repeat (first | exact WOk.nil | refine WOk.cons rfl ?_))) ?_
  rintro ⟨ck3, f⟩ hf1
  simp only at hf1
  by_cases hfp : (f : Int) < p.length
  · by_cases hf4 : (f : Int) < 4
    · repeat ((repeat first | refine awp_seq ?_ | refine awp_skip ?_ | refine awp_block ?_); refine awp_region tab_ok hl rfl fun K hK => ?_; simp only [go_sem, ne_eq, Nat.reduceAdd, Nat.reduceSub, Nat.reduceMul, Nat.reduceLT, Nat.reduceEqDiff, Nat.reduceBEq, Nat.reduceLeDiff, Int.reduceToNat, ↓reduceIte, Int.reduceEq, Int.reduceLT, Int.reduceLE, Int.reduceAdd, Int.reduceSub, Int.reduceNeg, reduceCtorEq, hfp, hf4]; (repeat ((with_reducible refine And.intro ?_ ?_); focus ((repeat' apply And.intro) <;> first | omega | simp))); refine hK _ ?_; clear hK K)
      (repeat first | refine awp_seq ?_ | refine awp_skip ?_ | refine awp_block ?_); refine condT rfl ?_
      have hltf : f < p.length := by omega
      have hpf := hpj.getD f
      obtain ⟨v2, w2, hs2, hv2⟩ := performR_tup b (p.getD f []) k0
      (repeat first | refine awp_seq ?_ | refine awp_skip ?_ | refine awp_block ?_); refine awp_region tab_ok hl rfl fun K hK => ?_; simp only [go_sem, ne_eq, Nat.reduceAdd, Nat.reduceSub, Nat.reduceMul, Nat.reduceLT, Nat.reduceEqDiff, Nat.reduceBEq, Nat.reduceLeDiff, Int.reduceToNat, ↓reduceIte, Int.reduceEq, Int.reduceLT, Int.reduceLE, Int.reduceAdd, Int.reduceSub, Int.reduceNeg, reduceCtorEq, rows_getD hltf]
      (repeat ((with_reducible refine And.intro ?_ ?_); focus ((repeat' apply And.intro) <;> first | omega | simp)))
      refine callN ⟨trivial, trivial, trivial, trivial⟩ (hs2 ▸ perform_satF b (p.getD f []) k0 (by omega) hpf) ?_
      simp only [go_sem, ne_eq, Nat.reduceAdd, Nat.reduceSub, Nat.reduceMul, Nat.reduceLT, Nat.reduceEqDiff, Nat.reduceBEq, Nat.reduceLeDiff, Int.reduceToNat, ↓reduceIte, Int.reduceEq, Int.reduceLT, Int.reduceLE, Int.reduceAdd, Int.reduceSub, Int.reduceNeg, reduceCtorEq]
      (repeat ((with_reducible refine And.intro ?_ ?_); focus ((repeat' apply And.intro) <;> first | omega | simp))); refine hK _ ?_; clear hK K
      (repeat first | refine awp_seq ?_ | refine awp_skip ?_ | refine awp_block ?_); refine awp_region tab_ok hl rfl fun K hK => ?_; simp only [go_sem, ne_eq, Nat.reduceAdd, Nat.reduceSub, Nat.reduceMul, Nat.reduceLT, Nat.reduceEqDiff, Nat.reduceBEq, Nat.reduceLeDiff, Int.reduceToNat, ↓reduceIte, Int.reduceEq, Int.reduceLT, Int.reduceLE, Int.reduceAdd, Int.reduceSub, Int.reduceNeg, reduceCtorEq, rows_getD hltf]
      (repeat ((with_reducible refine And.intro ?_ ?_); focus ((repeat' apply And.intro) <;> first | omega | simp)))
      refine callP ⟨trivial, trivial, trivial, trivial⟩ (hs2 ▸ rperform_sat b (p.getD f []) k0 (by omega) hpf) ?_
      simp only [go_sem, ne_eq, Nat.reduceAdd, Nat.reduceSub, Nat.reduceMul, Nat.reduceLT, Nat.reduceEqDiff, Nat.reduceBEq, Nat.reduceLeDiff, Int.reduceToNat, ↓reduceIte, Int.reduceEq, Int.reduceLT, Int.reduceLE, Int.reduceAdd, Int.reduceSub, Int.reduceNeg, reduceCtorEq]
      (repeat ((with_reducible refine And.intro ?_ ?_); focus ((repeat' apply And.intro) <;> first | omega | simp))); refine hK _ ?_; clear hK K
      (repeat first | refine awp_seq ?_ | refine awp_skip ?_ | refine awp_block ?_); refine awp_region tab_ok hl rfl fun K hK => ?_; simp only [go_sem, ne_eq, Nat.reduceAdd, Nat.reduceSub, Nat.reduceMul, Nat.reduceLT, Nat.reduceEqDiff, Nat.reduceBEq, Nat.reduceLeDiff, Int.reduceToNat, ↓reduceIte, Int.reduceEq, Int.reduceLT, Int.reduceLE, Int.reduceAdd, Int.reduceSub, Int.reduceNeg, reduceCtorEq]
      refine callF ⟨trivial, trivial, trivial⟩ (ints_sat v2 v2 (by omega)) rfl ?_
      simp only [go_sem, ne_eq, Nat.reduceAdd, Nat.reduceSub, Nat.reduceMul, Nat.reduceLT, Nat.reduceEqDiff, Nat.reduceBEq, Nat.reduceLeDiff, Int.reduceToNat, ↓reduceIte, Int.reduceEq, Int.reduceLT, Int.reduceLE, Int.reduceAdd, Int.reduceSub, Int.reduceNeg, reduceCtorEq]
      (repeat ((with_reducible refine And.intro ?_ ?_); focus ((repeat' apply And.intro) <;> first | omega | simp))); refine hK _ ?_; clear hK K
      (repeat first | refine awp_seq ?_ | refine awp_skip ?_ | refine awp_block ?_); refine condF rfl ?_
      repeat ((repeat first | refine awp_seq ?_ | refine awp_skip ?_ | refine awp_block ?_); refine awp_region tab_ok hl rfl fun K hK => ?_; simp only [go_sem, ne_eq, Nat.reduceAdd, Nat.reduceSub, Nat.reduceMul, Nat.reduceLT, Nat.reduceEqDiff, Nat.reduceBEq, Nat.reduceLeDiff, Int.reduceToNat, ↓reduceIte, Int.reduceEq, Int.reduceLT, Int.reduceLE, Int.reduceAdd, Int.reduceSub, Int.reduceNeg, reduceCtorEq]; (repeat ((with_reducible refine And.intro ?_ ?_); focus ((repeat' apply And.intro) <;> first | omega | simp))); refine hK _ ?_; clear hK K)
      refine ⟨(_, f + 1), by simp only; omega, by simp only; omega, .of (Nat.le_refl _) .nil (by repeat (first | exact WOk.nil | refine WOk.cons rfl ?_))⟩
    · repeat ((repeat first | refine awp_seq ?_ | refine awp_skip ?_ | refine awp_block ?_); refine awp_region tab_ok hl rfl fun K hK => ?_; simp only [go_sem, ne_eq, Nat.reduceAdd, Nat.reduceSub, Nat.reduceMul, Nat.reduceLT, Nat.reduceEqDiff, Nat.reduceBEq, Nat.reduceLeDiff, Int.reduceToNat, ↓reduceIte, Int.reduceEq, Int.reduceLT, Int.reduceLE, Int.reduceAdd, Int.reduceSub, Int.reduceNeg, reduceCtorEq, hfp, hf4]; (repeat ((with_reducible refine And.intro ?_ ?_); focus ((repeat' apply And.intro) <;> first | omega | simp))); refine hK _ ?_; clear hK K)
      (repeat first | refine awp_seq ?_ | refine awp_skip ?_ | refine awp_block ?_); refine condF rfl ?_
      refine awp_exit ?_
      repeat ((repeat first | refine awp_seq ?_ | refine awp_skip ?_ | refine awp_block ?_); refine awp_region tab_ok hl rfl fun K hK => ?_; simp only [go_sem, ne_eq, Nat.reduceAdd, Nat.reduceSub, Nat.reduceMul, Nat.reduceLT, Nat.reduceEqDiff, Nat.reduceBEq, Nat.reduceLeDiff, Int.reduceToNat, ↓reduceIte, Int.reduceEq, Int.reduceLT, Int.reduceLE, Int.reduceAdd, Int.reduceSub, Int.reduceNeg, reduceCtorEq]; (repeat ((with_reducible refine And.intro ?_ ?_); focus ((repeat' apply And.intro) <;> first | omega | simp))); refine hK _ ?_; clear hK K)
      refine ⟨(_, h + 1), by simp only; omega, by simp only; omega, .of (Nat.le_refl _) .nil (by repeat (first | exact WOk.nil | refine WOk.cons rfl ?_))⟩
  · repeat ((repeat first | refine awp_seq ?_ | refine awp_skip ?_ | refine awp_block ?_); refine awp_region tab_ok hl rfl fun K hK => ?_; simp only [go_sem, ne_eq, Nat.reduceAdd, Nat.reduceSub, Nat.reduceMul, Nat.reduceLT, Nat.reduceEqDiff, Nat.reduceBEq, Nat.reduceLeDiff, Int.reduceToNat, ↓reduceIte, Int.reduceEq, Int.reduceLT, Int.reduceLE, Int.reduceAdd, Int.reduceSub, Int.reduceNeg, reduceCtorEq, hfp]; (repeat ((with_reducible refine And.intro ?_ ?_); focus ((repeat' apply And.intro) <;> first | omega | simp))); refine hK _ ?_; clear hK K)
    (repeat first | refine awp_seq ?_ | refine awp_skip ?_ | refine awp_block ?_); refine condF rfl ?_
    refine awp_exit ?_
    repeat ((repeat first | refine awp_seq ?_ | refine awp_skip ?_ | refine awp_block ?_); refine awp_region tab_ok hl rfl fun K hK => ?_; simp only [go_sem, ne_eq, Nat.reduceAdd, Nat.reduceSub, Nat.reduceMul, Nat.reduceLT, Nat.reduceEqDiff, Nat.reduceBEq, Nat.reduceLeDiff, Int.reduceToNat, ↓reduceIte, Int.reduceEq, Int.reduceLT, Int.reduceLE, Int.reduceAdd, Int.reduceSub, Int.reduceNeg, reduceCtorEq]; (repeat ((with_reducible refine And.intro ?_ ?_); focus ((repeat' apply And.intro) <;> first | omega | simp))); refine hK _ ?_; clear hK K)
    refine ⟨(_, h + 1), by simp only; omega, by simp only; omega, .of (Nat.le_refl _) .nil (by repeat (first | exact WOk.nil | refine WOk.cons rfl ?_))⟩
end Go.Proofs.Ytmjlnndnpdbagaa
