import Derived.Test.YtmjlnndnpdbagaaM15
set_option linter.all false
set_option linter.unusedSimpArgs false
set_option linter.unusedVariables false
set_option linter.deprecated false
namespace Go.Proofs.Ytmjlnndnpdbagaa
open Go Go.Sym

/-- so many numbers of an input, each below n -/
def draws (l : List Int) (a : Nat) (n : Int) (k : Nat) : List Int := (List.range k).map fun i => modI (l.getD (a + i) 0) n
theorem draws_succ (l : List Int) (a : Nat) (n : Int) (k : Nat) : draws l a n k ++ [modI (l.getD (a + k) 0) n] = draws l a n (k + 1) := by simp [draws, List.range_succ]
theorem draws_length (l : List Int) (a : Nat) (n : Int) (k : Nat) : (draws l a n k).length = k := by simp [draws]
theorem draws_mem {l : List Int} {a : Nat} {n : Int} {k : Nat} (hn : 1 ≤ n) : ∀ x ∈ draws l a n k, 0 ≤ x ∧ x < n := by
  intro x hx
  simp only [draws, List.mem_map] at hx
  obtain ⟨i, _, rfl⟩ := hx
  exact modI_lt hn

/-- the length of a row -/
def rowK (l : List Int) (a : Nat) (most : Int) : Nat := (modI (l.getD a 0) (most + 1)).toNat

theorem row_sat (l : List Int) (a : Nat) (n most : Int) (hf : Fits l) (ha : a ≤ l.length) (hn : n ≤ 1000000) (hm : 0 ≤ most ∧ most ≤ 1000000) :
    Sat Try.prog 19 [.ptO 0 0 0 0 0, I n, I most] [[IS l, I a]] (IS (draws l (a + 1) n (rowK l a most))) [[IS l, I (nxs l a (1 + rowK l a most))]] := by
  have hk : modI (l.getD a 0) (most + 1) = ((rowK l a most : Nat) : Int) := by
    have := modI_lt (x := l.getD a 0) (n := most + 1) (by omega)
    unfold rowK; omega
  have hkb : rowK l a most ≤ 1000000 := by
    have := modI_lt (x := l.getD a 0) (n := most + 1) (by omega)
    unfold rowK; omega
  generalize rowK l a most = k at *
  refine Sat_of_awp (T := tab) tab_ok Try.func19 rfl (by rfl) (by simp [Try.ntmps19]) ?_
  intro w Z blks hb
  have hl : blks.length ≤ 100 := by rw [hb]; simp
  rw [Try.ntmps19]
  simp only [tm0, hp0, List.zipIdx, List.map]
  repeat ((repeat first | refine awp_seq ?_ | refine awp_skip ?_ | refine awp_block ?_); refine awp_region tab_ok hl rfl fun K hK => ?_; simp only [go_sem, ne_eq, Nat.reduceAdd, Nat.reduceSub, Nat.reduceMul, Nat.reduceLT, Nat.reduceEqDiff, Nat.reduceBEq, Nat.reduceLeDiff, Int.reduceToNat, ↓reduceIte, Int.reduceEq, Int.reduceLT, Int.reduceLE, Int.reduceAdd, Int.reduceSub, Int.reduceNeg, reduceCtorEq]; (repeat ((with_reducible refine And.intro ?_ ?_); focus ((repeat' apply And.intro) <;> first | omega | simp))); refine hK _ ?_; clear hK K)
  (repeat first | refine awp_seq ?_ | refine awp_skip ?_ | refine awp_block ?_); refine awp_region tab_ok hl rfl fun K hK => ?_; simp only [go_sem, ne_eq, Nat.reduceAdd, Nat.reduceSub, Nat.reduceMul, Nat.reduceLT, Nat.reduceEqDiff, Nat.reduceBEq, Nat.reduceLeDiff, Int.reduceToNat, ↓reduceIte, Int.reduceEq, Int.reduceLT, Int.reduceLE, Int.reduceAdd, Int.reduceSub, Int.reduceNeg, reduceCtorEq]
  refine ⟨(by (repeat' apply And.intro) <;> first | omega | simp), ?_⟩
  refine callL rfl ⟨trivial, trivial⟩ ⟨trivial, trivial, trivial⟩ (by simp [refs1, refs2]) (n_sat l a (most + 1) hf ha (by omega)) ?_
  simp only [go_sem, ne_eq, Nat.reduceAdd, Nat.reduceSub, Nat.reduceMul, Nat.reduceLT, Nat.reduceEqDiff, Nat.reduceBEq, Nat.reduceLeDiff, Int.reduceToNat, ↓reduceIte, Int.reduceEq, Int.reduceLT, Int.reduceLE, Int.reduceAdd, Int.reduceSub, Int.reduceNeg, reduceCtorEq, hk]
  (repeat ((with_reducible refine And.intro ?_ ?_); focus ((repeat' apply And.intro) <;> first | omega | simp))); refine hK _ ?_; clear hK K
  (repeat first | refine awp_seq ?_ | refine awp_skip ?_ | refine awp_block ?_)
  refine awp_loopW (fun i : Nat × Nat => ⟨[(0, .ptO 0 0 0 0 0), (1, I n), (7, .slO 107 2 0 i.2), (8, I ((k : Int) - (i.2 : Int)))], [(107, some (2, .own 3 1 (ints (draws l (a + 1) n i.2)))), (0, some (0, .box [IS l, I (nxs l a (1 + i.2))]))], i.1⟩) (fun i => i.2 ≤ k) (fun i => k - i.2) (_, 0) (Nat.zero_le _) (.of (Nat.le_refl _) (.cons rfl (.cons rfl .nil)) (.cons rfl (.cons rfl (.cons rfl (.cons ?_ .nil))))) ?_
  · simp [tget]
  rintro ⟨ck, i⟩ hi
  simp only at hi
  have hdl := draws_length l (a + 1) n i
  repeat ((repeat first | refine awp_seq ?_ | refine awp_skip ?_ | refine awp_block ?_); refine awp_region tab_ok hl rfl fun K hK => ?_; simp only [go_sem, ne_eq, Nat.reduceAdd, Nat.reduceSub, Nat.reduceMul, Nat.reduceLT, Nat.reduceEqDiff, Nat.reduceBEq, Nat.reduceLeDiff, Int.reduceToNat, ↓reduceIte, Int.reduceEq, Int.reduceLT, Int.reduceLE, Int.reduceAdd, Int.reduceSub, Int.reduceNeg, reduceCtorEq]; (repeat ((with_reducible refine And.intro ?_ ?_); focus ((repeat' apply And.intro) <;> first | omega | simp))); refine hK _ ?_; clear hK K)
  (repeat first | refine awp_seq ?_ | refine awp_skip ?_ | refine awp_block ?_); refine condP _ rfl (fun e => ?_) (fun e => ?_)
  · have hik : i < k := by omega
    (repeat first | refine awp_seq ?_ | refine awp_skip ?_ | refine awp_block ?_); refine awp_region tab_ok hl rfl fun K hK => ?_; simp only [go_sem, ne_eq, Nat.reduceAdd, Nat.reduceSub, Nat.reduceMul, Nat.reduceLT, Nat.reduceEqDiff, Nat.reduceBEq, Nat.reduceLeDiff, Int.reduceToNat, ↓reduceIte, Int.reduceEq, Int.reduceLT, Int.reduceLE, Int.reduceAdd, Int.reduceSub, Int.reduceNeg, reduceCtorEq]
    refine callL rfl ⟨trivial, trivial⟩ ⟨trivial, trivial, trivial⟩ (by simp [refs1, refs2]) (n_sat l (nxs l a (1 + i)) n hf (nxs_le _ _ _) (by omega)) ?_
    simp only [go_sem, ne_eq, Nat.reduceAdd, Nat.reduceSub, Nat.reduceMul, Nat.reduceLT, Nat.reduceEqDiff, Nat.reduceBEq, Nat.reduceLeDiff, Int.reduceToNat, ↓reduceIte, Int.reduceEq, Int.reduceLT, Int.reduceLE, Int.reduceAdd, Int.reduceSub, Int.reduceNeg, reduceCtorEq, hdl]
    (repeat ((with_reducible refine And.intro ?_ ?_); focus ((repeat' apply And.intro) <;> first | omega | simp))); refine hK _ ?_; clear hK K
    repeat ((repeat first | refine awp_seq ?_ | refine awp_skip ?_ | refine awp_block ?_); refine awp_region tab_ok hl rfl fun K hK => ?_; simp only [go_sem, ne_eq, Nat.reduceAdd, Nat.reduceSub, Nat.reduceMul, Nat.reduceLT, Nat.reduceEqDiff, Nat.reduceBEq, Nat.reduceLeDiff, Int.reduceToNat, ↓reduceIte, Int.reduceEq, Int.reduceLT, Int.reduceLE, Int.reduceAdd, Int.reduceSub, Int.reduceNeg, reduceCtorEq]; (repeat ((with_reducible refine And.intro ?_ ?_); focus ((repeat' apply And.intro) <;> first | omega | simp))); refine hK _ ?_; clear hK K)
    refine ⟨(_, i + 1), by simp only; omega, by simp only; omega, .of (Nat.le_refl _) (.cons ?_ (.cons ?_ .nil)) (.cons rfl (.cons rfl (.cons rfl (.cons ?_ .nil))))⟩
    · rw [← draws_succ, nxs_get, show a + (1 + i) = a + 1 + i by omega]; rfl
    · rw [nxs_nxs, show 1 + i + 1 = 1 + (i + 1) by omega]; rfl
    · simp [tget]; omega
  · refine awp_exit ?_
    obtain rfl : i = k := by omega
    repeat ((repeat first | refine awp_seq ?_ | refine awp_skip ?_ | refine awp_block ?_); refine awp_region tab_ok hl rfl fun K hK => ?_; simp only [go_sem, ne_eq, Nat.reduceAdd, Nat.reduceSub, Nat.reduceMul, Nat.reduceLT, Nat.reduceEqDiff, Nat.reduceBEq, Nat.reduceLeDiff, Int.reduceToNat, ↓reduceIte, Int.reduceEq, Int.reduceLT, Int.reduceLE, Int.reduceAdd, Int.reduceSub, Int.reduceNeg, reduceCtorEq]; (repeat ((with_reducible refine And.intro ?_ ?_); focus ((repeat' apply And.intro) <;> first | omega | simp))); refine hK _ ?_; clear hK K)
    refine awp_ret (ret1 ⟨rfl, by rw [ints_length, hdl, Nat.zero_add]⟩ rfl rfl (box1 rfl ⟨trivial, trivial, trivial⟩ rfl) nofun)

/-- passes: so many rows -/
def passL (l : List Int) (a : Nat) (n q : Int) (m k : Nat) : List (List Int) := (List.range k).map fun i => draws l (a + i * m) q m
theorem passL_succ (l : List Int) (a : Nat) (n q : Int) (m k : Nat) : passL l a n q m k ++ [draws l (a + k * m) q m] = passL l a n q m (k + 1) := by simp [passL, List.range_succ]
theorem passL_length (l : List Int) (a : Nat) (n q : Int) (m k : Nat) : (passL l a n q m k).length = k := by simp [passL]
theorem passL_mem {l : List Int} {a : Nat} {n q : Int} {m k : Nat} {x : List Int} (h : x ∈ passL l a n q m k) : ∃ b, x = draws l b q m := by
  simp only [passL, List.mem_map] at h
  obtain ⟨i, _, rfl⟩ := h
  exact ⟨_, rfl⟩

theorem passes_sat' (l : List Int) (a k m : Nat) (q : Int) (hf : Fits l) (ha : a ≤ l.length) (hk : k ≤ 1000) (hm : m ≤ 1000) (hq : q ≤ 1000) :
    Sat Try.prog 20 [.ptO 0 0 0 0 0, I k, I m, I q] [[IS l, I a]] (RS (passL l a m q m k)) [[IS l, I (nxs l a (k * m))]] := by
  refine Sat_of_awp (T := tab) tab_ok Try.func20 rfl (by rfl) (by simp [Try.ntmps20]) ?_
  intro w Z blks hb
  have hl : blks.length ≤ 100 := by rw [hb]; simp
  rw [Try.ntmps20]
  simp only [tm0, hp0, List.zipIdx, List.map]
  repeat ((repeat first | refine awp_seq ?_ | refine awp_skip ?_ | refine awp_block ?_); refine awp_region tab_ok hl rfl fun K hK => ?_; simp only [go_sem, ne_eq, Nat.reduceAdd, Nat.reduceSub, Nat.reduceMul, Nat.reduceLT, Nat.reduceEqDiff, Nat.reduceBEq, Nat.reduceLeDiff, Int.reduceToNat, ↓reduceIte, Int.reduceEq, Int.reduceLT, Int.reduceLE, Int.reduceAdd, Int.reduceSub, Int.reduceNeg, reduceCtorEq]; (repeat ((with_reducible refine And.intro ?_ ?_); focus ((repeat' apply And.intro) <;> first | omega | simp))); refine hK _ ?_; clear hK K)
  (repeat first | refine awp_seq ?_ | refine awp_skip ?_ | refine awp_block ?_)
  refine awp_loopW (fun i : Nat × Nat => ⟨[(0, .ptO 0 0 0 0 0), (1, I k), (2, I m), (3, I q), (9, .slO 109 2 0 i.2), (10, I i.2)], [(109, some (2, .own 23 1 (rows (passL l a m q m i.2)))), (0, some (0, .box [IS l, I (nxs l a (i.2 * m))]))], i.1⟩) (fun i => i.2 ≤ k) (fun i => k - i.2) (_, 0) (Nat.zero_le _) (.of (Nat.le_refl _) (.cons rfl (.cons ?_ .nil)) (.cons rfl (.cons rfl (.cons rfl (.cons rfl (.cons rfl (.cons rfl .nil))))))) ?_
  · rw [show nxs l a (0 * m) = a by unfold nxs; omega]; rfl
  rintro ⟨ck, i⟩ hi
  simp only at hi
  have hpl := passL_length l a m q m i
  repeat ((repeat first | refine awp_seq ?_ | refine awp_skip ?_ | refine awp_block ?_); refine awp_region tab_ok hl rfl fun K hK => ?_; simp only [go_sem, ne_eq, Nat.reduceAdd, Nat.reduceSub, Nat.reduceMul, Nat.reduceLT, Nat.reduceEqDiff, Nat.reduceBEq, Nat.reduceLeDiff, Int.reduceToNat, ↓reduceIte, Int.reduceEq, Int.reduceLT, Int.reduceLE, Int.reduceAdd, Int.reduceSub, Int.reduceNeg, reduceCtorEq]; (repeat ((with_reducible refine And.intro ?_ ?_); focus ((repeat' apply And.intro) <;> first | omega | simp))); refine hK _ ?_; clear hK K)
  (repeat first | refine awp_seq ?_ | refine awp_skip ?_ | refine awp_block ?_); refine condP _ rfl (fun e => ?_) (fun e => ?_)
  · have hik : i < k := by omega
    repeat ((repeat first | refine awp_seq ?_ | refine awp_skip ?_ | refine awp_block ?_); refine awp_region tab_ok hl rfl fun K hK => ?_; simp only [go_sem, ne_eq, Nat.reduceAdd, Nat.reduceSub, Nat.reduceMul, Nat.reduceLT, Nat.reduceEqDiff, Nat.reduceBEq, Nat.reduceLeDiff, Int.reduceToNat, ↓reduceIte, Int.reduceEq, Int.reduceLT, Int.reduceLE, Int.reduceAdd, Int.reduceSub, Int.reduceNeg, reduceCtorEq]; (repeat ((with_reducible refine And.intro ?_ ?_); focus ((repeat' apply And.intro) <;> first | omega | simp))); refine hK _ ?_; clear hK K)
    (repeat first | refine awp_seq ?_ | refine awp_skip ?_ | refine awp_block ?_)
    have hg : ∃ g, g = ck + 3 := ⟨_, rfl⟩
    obtain ⟨g, hg⟩ := hg
    refine awp_loopW (fun j : Nat × Nat => ⟨[(0, .ptO 0 0 0 0 0), (1, I k), (2, I m), (3, I q), (9, .slO 109 2 0 i), (10, I i), (11, .slO 111 g 0 j.2), (12, I j.2)], [(111, some (g, .own 3 1 (ints (draws l (a + i * m) q j.2)))), (109, some (2, .own 23 1 (rows (passL l a m q m i)))), (0, some (0, .box [IS l, I (nxs l a (i * m + j.2))]))], j.1⟩) (fun j => j.2 ≤ m) (fun j => m - j.2) (_, 0) (Nat.zero_le _) (.of (Nat.le_refl _) (.cons ?_ (.cons rfl (.cons rfl .nil))) (.cons rfl (.cons rfl (.cons rfl (.cons rfl (.cons rfl (.cons rfl (.cons ?_ (.cons rfl .nil))))))))) ?_
    · rw [hg]; rfl
    · rw [hg]; rfl
    rintro ⟨ck1, j⟩ hj
    simp only at hj
    have hdl := draws_length l (a + i * m) q j
    repeat ((repeat first | refine awp_seq ?_ | refine awp_skip ?_ | refine awp_block ?_); refine awp_region tab_ok hl rfl fun K hK => ?_; simp only [go_sem, ne_eq, Nat.reduceAdd, Nat.reduceSub, Nat.reduceMul, Nat.reduceLT, Nat.reduceEqDiff, Nat.reduceBEq, Nat.reduceLeDiff, Int.reduceToNat, ↓reduceIte, Int.reduceEq, Int.reduceLT, Int.reduceLE, Int.reduceAdd, Int.reduceSub, Int.reduceNeg, reduceCtorEq]; (repeat ((with_reducible refine And.intro ?_ ?_); focus ((repeat' apply And.intro) <;> first | omega | simp))); refine hK _ ?_; clear hK K)
    (repeat first | refine awp_seq ?_ | refine awp_skip ?_ | refine awp_block ?_); refine condP _ rfl (fun e1 => ?_) (fun e1 => ?_)
    · have hjm : j < m := by omega
      (repeat first | refine awp_seq ?_ | refine awp_skip ?_ | refine awp_block ?_); refine awp_region tab_ok hl rfl fun K hK => ?_; simp only [go_sem, ne_eq, Nat.reduceAdd, Nat.reduceSub, Nat.reduceMul, Nat.reduceLT, Nat.reduceEqDiff, Nat.reduceBEq, Nat.reduceLeDiff, Int.reduceToNat, ↓reduceIte, Int.reduceEq, Int.reduceLT, Int.reduceLE, Int.reduceAdd, Int.reduceSub, Int.reduceNeg, reduceCtorEq]
      refine callL rfl ⟨trivial, trivial⟩ ⟨trivial, trivial, trivial⟩ (by simp [refs1, refs2]) (n_sat l (nxs l a (i * m + j)) q hf (nxs_le _ _ _) (by omega)) ?_
      simp only [go_sem, ne_eq, Nat.reduceAdd, Nat.reduceSub, Nat.reduceMul, Nat.reduceLT, Nat.reduceEqDiff, Nat.reduceBEq, Nat.reduceLeDiff, Int.reduceToNat, ↓reduceIte, Int.reduceEq, Int.reduceLT, Int.reduceLE, Int.reduceAdd, Int.reduceSub, Int.reduceNeg, reduceCtorEq, hdl]
      (repeat ((with_reducible refine And.intro ?_ ?_); focus ((repeat' apply And.intro) <;> first | omega | simp))); refine hK _ ?_; clear hK K
      repeat ((repeat first | refine awp_seq ?_ | refine awp_skip ?_ | refine awp_block ?_); refine awp_region tab_ok hl rfl fun K hK => ?_; simp only [go_sem, ne_eq, Nat.reduceAdd, Nat.reduceSub, Nat.reduceMul, Nat.reduceLT, Nat.reduceEqDiff, Nat.reduceBEq, Nat.reduceLeDiff, Int.reduceToNat, ↓reduceIte, Int.reduceEq, Int.reduceLT, Int.reduceLE, Int.reduceAdd, Int.reduceSub, Int.reduceNeg, reduceCtorEq]; (repeat ((with_reducible refine And.intro ?_ ?_); focus ((repeat' apply And.intro) <;> first | omega | simp))); refine hK _ ?_; clear hK K)
      refine ⟨(_, j + 1), by simp only; omega, by simp only; omega, .of (Nat.le_refl _) (.cons ?_ (.cons rfl (.cons ?_ .nil))) (.cons rfl (.cons rfl (.cons rfl (.cons rfl (.cons rfl (.cons rfl (.cons rfl (.cons rfl .nil))))))))⟩
      · rw [← draws_succ, nxs_get, show a + (i * m + j) = a + i * m + j by omega]; rfl
      · rw [nxs_nxs, show i * m + j + 1 = i * m + (j + 1) by omega]; rfl
    · refine awp_exit ?_
      obtain rfl : j = m := by omega
      repeat ((repeat first | refine awp_seq ?_ | refine awp_skip ?_ | refine awp_block ?_); refine awp_region tab_ok hl rfl fun K hK => ?_; simp only [go_sem, ne_eq, Nat.reduceAdd, Nat.reduceSub, Nat.reduceMul, Nat.reduceLT, Nat.reduceEqDiff, Nat.reduceBEq, Nat.reduceLeDiff, Int.reduceToNat, ↓reduceIte, Int.reduceEq, Int.reduceLT, Int.reduceLE, Int.reduceAdd, Int.reduceSub, Int.reduceNeg, reduceCtorEq, hpl]; (repeat ((with_reducible refine And.intro ?_ ?_); focus ((repeat' apply And.intro) <;> first | omega | simp))); refine hK _ ?_; clear hK K)
      refine ⟨(_, i + 1), by simp only; omega, by simp only; omega, .of (Nat.le_refl _) (.cons ?_ (.cons ?_ .nil)) (.cons rfl (.cons rfl (.cons rfl (.cons rfl (.cons rfl (.cons rfl .nil))))))⟩
      · rw [← passL_succ]; rfl
      · rw [show (i + 1) * j = i * j + j by rw [Nat.add_mul, Nat.one_mul]]; rfl
  · refine awp_exit ?_
    obtain rfl : i = k := by omega
    repeat ((repeat first | refine awp_seq ?_ | refine awp_skip ?_ | refine awp_block ?_); refine awp_region tab_ok hl rfl fun K hK => ?_; simp only [go_sem, ne_eq, Nat.reduceAdd, Nat.reduceSub, Nat.reduceMul, Nat.reduceLT, Nat.reduceEqDiff, Nat.reduceBEq, Nat.reduceLeDiff, Int.reduceToNat, ↓reduceIte, Int.reduceEq, Int.reduceLT, Int.reduceLE, Int.reduceAdd, Int.reduceSub, Int.reduceNeg, reduceCtorEq]; (repeat ((with_reducible refine And.intro ?_ ?_); focus ((repeat' apply And.intro) <;> first | omega | simp))); refine hK _ ?_; clear hK K)
    refine awp_ret (ret1 ⟨rfl, by rw [rows_length, hpl, Nat.zero_add]⟩ rfl rfl (box1 rfl ⟨trivial, trivial, trivial⟩ rfl) nofun)

end Go.Proofs.Ytmjlnndnpdbagaa
