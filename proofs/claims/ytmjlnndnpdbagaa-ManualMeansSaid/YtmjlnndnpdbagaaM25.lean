import Derived.Test.YtmjlnndnpdbagaaM23
import Derived.Test.YtmjlnndnpdbagaaSym34
set_option linter.all false
set_option linter.unusedSimpArgs false
set_option linter.unusedVariables false
set_option linter.deprecated false
namespace Go.Proofs.Ytmjlnndnpdbagaa
open Go Go.Sym

theorem getD_pair {a b : Int} {k : Int} (h : 0 ≤ k ∧ k < (2 : Nat)) : [a, b].getD k.toNat 0 = if k = 0 then a else b := by
  have : k = 0 ∨ k = 1 := by omega
  rcases this with rfl | rfl <;> rfl

/-- a row of two bags -/
theorem two_bags {p : List (List Int)} {q : Int} {m f g : Nat} {out : List Int} (hf : f < m) (hg' : g < m) (hg : Good p m q) (ho : Ord [(g : Int), (f : Int)] (codeF q p 1 fun _ => 0) out) (h : out.getD 0 0 = 1) : bef p f g = true := by
  have hl : out.length = 2 := ho.len
  have hm1 := ho.mem _ (getD_memI (show 1 < out.length by omega))
  have hp := pairwise_getD ho.pair (a := 0) (b := 1) (by omega) (by omega)
  rw [h] at hp
  generalize out.getD 1 0 = k at *
  have hk : k = 0 ∨ k = 1 := by simp at hm1; omega
  unfold Ahead at hp
  rw [bef_iff hf hg' hg]
  rcases hk with rfl | rfl
  · simp only [show ((1 : Int)).toNat = 1 from rfl, show ((0 : Int)).toNat = 0 from rfl, List.getD_cons_succ, List.getD_cons_zero, Int.toNat_natCast] at hp
    exact decide_eq_true (by omega)
  · rcases hp with hp | ⟨_, hp⟩ <;> omega

set_option maxRecDepth 100000 in
set_option maxHeartbeats 4000000 in
theorem law6 (l : List Int) (hl1 : l.length ≤ 9223372036854775807) (hl2 : ∀ x ∈ l, I64 x) :
    Sat Try.prog 6 [IS l] [] (B true) [] := by
  have hF : Fits (l.take 2000) := ⟨by simp [List.length_take]; omega, fun x hx => hl2 x (List.mem_of_mem_take hx)⟩
  refine Sat_of_awp (T := tab) tab_ok Try.func6 rfl (by rfl) (by simp [Try.ntmps6]) ?_
  intro w Z blks hb
  have hl : blks.length ≤ 100 := by rw [hb]; simp
  rw [Try.ntmps6]
  simp only [tm0, hp0, List.zipIdx, List.map]
  repeat ((repeat first | refine awp_seq ?_ | refine awp_skip ?_ | refine awp_block ?_); refine awp_region tab_ok hl rfl fun K hK => ?_; simp only [go_sem, ne_eq, Nat.reduceAdd, Nat.reduceSub, Nat.reduceMul, Nat.reduceLT, Nat.reduceEqDiff, Nat.reduceBEq, Nat.reduceLeDiff, Int.reduceToNat, ↓reduceIte, Int.reduceEq, Int.reduceLT, Int.reduceLE, Int.reduceAdd, Int.reduceSub, Int.reduceNeg, reduceCtorEq]; (repeat ((with_reducible refine And.intro ?_ ?_); focus ((repeat' apply And.intro) <;> first | omega | simp))); refine hK _ ?_; clear hK K)
  (repeat first | refine awp_seq ?_ | refine awp_skip ?_ | refine awp_block ?_); refine awp_region tab_ok hl rfl fun K hK => ?_; simp only [go_sem, ne_eq, Nat.reduceAdd, Nat.reduceSub, Nat.reduceMul, Nat.reduceLT, Nat.reduceEqDiff, Nat.reduceBEq, Nat.reduceLeDiff, Int.reduceToNat, ↓reduceIte, Int.reduceEq, Int.reduceLT, Int.reduceLE, Int.reduceAdd, Int.reduceSub, Int.reduceNeg, reduceCtorEq]
  refine callB ⟨trivial, trivial⟩ (new_sat l hl1) ?_
  generalize l.take 2000 = s at *
  simp only [go_sem, ne_eq, Nat.reduceAdd, Nat.reduceSub, Nat.reduceMul, Nat.reduceLT, Nat.reduceEqDiff, Nat.reduceBEq, Nat.reduceLeDiff, Int.reduceToNat, ↓reduceIte, Int.reduceEq, Int.reduceLT, Int.reduceLE, Int.reduceAdd, Int.reduceSub, Int.reduceNeg, reduceCtorEq]
  (repeat ((with_reducible refine And.intro ?_ ?_); focus ((repeat' apply And.intro) <;> first | omega | simp))); refine hK _ ?_; clear hK K
  (repeat first | refine awp_seq ?_ | refine awp_skip ?_ | refine awp_block ?_); refine awp_region tab_ok hl rfl fun K hK => ?_; simp only [go_sem, ne_eq, Nat.reduceAdd, Nat.reduceSub, Nat.reduceMul, Nat.reduceLT, Nat.reduceEqDiff, Nat.reduceBEq, Nat.reduceLeDiff, Int.reduceToNat, ↓reduceIte, Int.reduceEq, Int.reduceLT, Int.reduceLE, Int.reduceAdd, Int.reduceSub, Int.reduceNeg, reduceCtorEq]
  refine callL rfl ⟨trivial, trivial⟩ ⟨trivial, trivial, trivial⟩ (by simp [refs1, refs2]) (n_sat s 0 7 hF (Nat.zero_le _) (by omega)) ?_
  have hn := modI_lt (x := s.getD 0 0) (n := 7) (by omega)
  simp only [go_sem, ne_eq, Nat.reduceAdd, Nat.reduceSub, Nat.reduceMul, Nat.reduceLT, Nat.reduceEqDiff, Nat.reduceBEq, Nat.reduceLeDiff, Int.reduceToNat, ↓reduceIte, Int.reduceEq, Int.reduceLT, Int.reduceLE, Int.reduceAdd, Int.reduceSub, Int.reduceNeg, reduceCtorEq]
  (repeat ((with_reducible refine And.intro ?_ ?_); focus ((repeat' apply And.intro) <;> first | omega | simp)))
  refine callL rfl ⟨trivial, trivial⟩ ⟨trivial, trivial, trivial⟩ (by simp [refs1, refs2]) (n_sat s (nxs s 0 1) 3 hF (nxs_le _ _ _) (by omega)) ?_
  have hq := modI_lt (x := s.getD (nxs s 0 1) 0) (n := 3) (by omega)
  simp only [go_sem, ne_eq, Nat.reduceAdd, Nat.reduceSub, Nat.reduceMul, Nat.reduceLT, Nat.reduceEqDiff, Nat.reduceBEq, Nat.reduceLeDiff, Int.reduceToNat, ↓reduceIte, Int.reduceEq, Int.reduceLT, Int.reduceLE, Int.reduceAdd, Int.reduceSub, Int.reduceNeg, reduceCtorEq]
  (repeat ((with_reducible refine And.intro ?_ ?_); focus ((repeat' apply And.intro) <;> first | omega | simp))); refine hK _ ?_; clear hK K
  obtain ⟨n, hN⟩ := Int.eq_ofNat_of_zero_le (show 0 ≤ 1 + modI (s.getD 0 0) 7 by omega)
  obtain ⟨q, hQ⟩ := Int.eq_ofNat_of_zero_le (show 0 ≤ 2 + modI (s.getD (nxs s 0 1) 0) 3 by omega)
  have hnb : 1 ≤ n ∧ n ≤ 7 := by omega
  have hqb : 2 ≤ q ∧ q ≤ 4 := by omega
  rw [hN, hQ]
  clear hN hQ hn hq
  have ha1 := nxs_le s (nxs s 0 1) 1
  generalize nxs s (nxs s 0 1) 1 = a1 at *
  (repeat first | refine awp_seq ?_ | refine awp_skip ?_ | refine awp_block ?_); refine awp_region tab_ok hl rfl fun K hK => ?_; simp only [go_sem, ne_eq, Nat.reduceAdd, Nat.reduceSub, Nat.reduceMul, Nat.reduceLT, Nat.reduceEqDiff, Nat.reduceBEq, Nat.reduceLeDiff, Int.reduceToNat, ↓reduceIte, Int.reduceEq, Int.reduceLT, Int.reduceLE, Int.reduceAdd, Int.reduceSub, Int.reduceNeg, reduceCtorEq]
  refine callL rfl ⟨trivial, trivial⟩ ⟨trivial, trivial, trivial⟩ (by simp [refs1, refs2]) (n_sat s a1 4 hF ha1 (by omega)) ?_
  have hk := modI_lt (x := s.getD a1 0) (n := 4) (by omega)
  obtain ⟨kp, hkp⟩ := Int.eq_ofNat_of_zero_le hk.1
  rw [hkp] at hk ⊢
  simp only [go_sem, ne_eq, Nat.reduceAdd, Nat.reduceSub, Nat.reduceMul, Nat.reduceLT, Nat.reduceEqDiff, Nat.reduceBEq, Nat.reduceLeDiff, Int.reduceToNat, ↓reduceIte, Int.reduceEq, Int.reduceLT, Int.reduceLE, Int.reduceAdd, Int.reduceSub, Int.reduceNeg, reduceCtorEq]
  refine callL rfl ⟨trivial, trivial, trivial, trivial⟩ ⟨trivial, trivial, trivial⟩ (by simp [refs1, refs2]) (passes_sat' s (nxs s a1 1) kp n q hF (nxs_le _ _ _) (by omega) (by omega) (by omega)) ?_
  have hpg0 : Good (passL s (nxs s a1 1) n q n kp) n q := passL_good (by omega)
  have hpl0 := passL_length s (nxs s a1 1) n q n kp
  have ha2 := nxs_le s (nxs s a1 1) (kp * n)
  generalize passL s (nxs s a1 1) n q n kp = p0 at *
  generalize nxs s (nxs s a1 1) (kp * n) = a2 at *
  simp only [go_sem, ne_eq, Nat.reduceAdd, Nat.reduceSub, Nat.reduceMul, Nat.reduceLT, Nat.reduceEqDiff, Nat.reduceBEq, Nat.reduceLeDiff, Int.reduceToNat, ↓reduceIte, Int.reduceEq, Int.reduceLT, Int.reduceLE, Int.reduceAdd, Int.reduceSub, Int.reduceNeg, reduceCtorEq]
  (repeat ((with_reducible refine And.intro ?_ ?_); focus ((repeat' apply And.intro) <;> first | omega | simp))); refine hK _ ?_; clear hK K
  (repeat first | refine awp_seq ?_ | refine awp_skip ?_ | refine awp_block ?_); refine awp_region tab_ok hl rfl fun K hK => ?_; simp only [go_sem, ne_eq, Nat.reduceAdd, Nat.reduceSub, Nat.reduceMul, Nat.reduceLT, Nat.reduceEqDiff, Nat.reduceBEq, Nat.reduceLeDiff, Int.reduceToNat, ↓reduceIte, Int.reduceEq, Int.reduceLT, Int.reduceLE, Int.reduceAdd, Int.reduceSub, Int.reduceNeg, reduceCtorEq]
  refine callL rfl ⟨trivial, trivial⟩ ⟨trivial, trivial, trivial⟩ (by simp [refs1, refs2]) (n_sat s a2 2 hF ha2 (by omega)) ?_
  simp only [go_sem, ne_eq, Nat.reduceAdd, Nat.reduceSub, Nat.reduceMul, Nat.reduceLT, Nat.reduceEqDiff, Nat.reduceBEq, Nat.reduceLeDiff, Int.reduceToNat, ↓reduceIte, Int.reduceEq, Int.reduceLT, Int.reduceLE, Int.reduceAdd, Int.reduceSub, Int.reduceNeg, reduceCtorEq]
  (repeat ((with_reducible refine And.intro ?_ ?_); focus ((repeat' apply And.intro) <;> first | omega | simp))); refine hK _ ?_; clear hK K
  have ha3 := nxs_le s a2 1
  generalize nxs s a2 1 = a3 at *
  (repeat first | refine awp_seq ?_ | refine awp_skip ?_ | refine awp_block ?_)
  refine awp_merge (fun i : Nat × Nat × List (List Int) => ⟨[(3, .ptO 118 i.2.1 0 0 0), (4, I n), (5, I q), (6, RS i.2.2)], [(118, some (i.2.1, .box [IS s, I a3]))], i.1⟩) (fun i => Good i.2.2 n q ∧ i.2.2.length ≤ 40) ?_ ?_
  · (repeat first | refine awp_seq ?_ | refine awp_skip ?_ | refine awp_block ?_); refine condP _ rfl (fun e => ?_) (fun e => ?_)
    · have hok : okR n q := by unfold okR; omega
      have hpl := rplan_sat n q
      rw [planR, if_pos hok] at hpl
      simp only [Int.toNat_natCast] at hpl
      have hkb := (kOf_small hok).1
      simp only [Int.toNat_natCast] at hkb
      (repeat first | refine awp_seq ?_ | refine awp_skip ?_ | refine awp_block ?_); refine awp_region tab_ok hl rfl fun K hK => ?_; simp only [go_sem, ne_eq, Nat.reduceAdd, Nat.reduceSub, Nat.reduceMul, Nat.reduceLT, Nat.reduceEqDiff, Nat.reduceBEq, Nat.reduceLeDiff, Int.reduceToNat, ↓reduceIte, Int.reduceEq, Int.reduceLT, Int.reduceLE, Int.reduceAdd, Int.reduceSub, Int.reduceNeg, reduceCtorEq]
      refine callP ⟨trivial, trivial, trivial⟩ hpl ?_
      simp only [go_sem, ne_eq, Nat.reduceAdd, Nat.reduceSub, Nat.reduceMul, Nat.reduceLT, Nat.reduceEqDiff, Nat.reduceBEq, Nat.reduceLeDiff, Int.reduceToNat, ↓reduceIte, Int.reduceEq, Int.reduceLT, Int.reduceLE, Int.reduceAdd, Int.reduceSub, Int.reduceNeg, reduceCtorEq]
      (repeat ((with_reducible refine And.intro ?_ ?_); focus ((repeat' apply And.intro) <;> first | omega | simp))); refine hK _ ?_; clear hK K
      exact ⟨(_, _, _), ⟨plan_good (by omega), by simp [planL]; omega⟩, .of (Nat.le_refl _) (.cons rfl .nil) (.cons rfl (.cons rfl (.cons rfl (.cons rfl .nil))))⟩
    · refine awp_skip ?_
      exact ⟨(_, _, _), ⟨hpg0, by simp only; omega⟩, .of (Nat.le_refl _) (.cons rfl .nil) (.cons rfl (.cons rfl (.cons rfl (.cons rfl .nil))))⟩
  rintro ⟨ck, g0, p⟩ ⟨hpg, hpl⟩
  simp only at hpg hpl
  clear hpg0 hpl0 p0 hkp
  have hsh := hpg.short (by omega) (by omega)
  (repeat first | refine awp_seq ?_ | refine awp_skip ?_ | refine awp_block ?_); refine awp_region tab_ok hl rfl fun K hK => ?_; simp only [go_sem, ne_eq, Nat.reduceAdd, Nat.reduceSub, Nat.reduceMul, Nat.reduceLT, Nat.reduceEqDiff, Nat.reduceBEq, Nat.reduceLeDiff, Int.reduceToNat, ↓reduceIte, Int.reduceEq, Int.reduceLT, Int.reduceLE, Int.reduceAdd, Int.reduceSub, Int.reduceNeg, reduceCtorEq]
  refine callL rfl ⟨trivial, trivial, trivial⟩ ⟨trivial, trivial, trivial⟩ (by simp [refs1, refs2]) (row_sat s a3 n 20 hF ha3 (by omega) (by omega)) ?_
  have hrk : rowK s a3 20 ≤ 20 := by
    have := modI_lt (x := s.getD a3 0) (n := (20 : Int) + 1) (by omega)
    unfold rowK; omega
  have hxl := draws_length s (a3 + 1) n (rowK s a3 20)
  have hxm : ∀ b ∈ draws s (a3 + 1) n (rowK s a3 20), 0 ≤ b ∧ b < (n : Int) := draws_mem (by omega)
  generalize draws s (a3 + 1) n (rowK s a3 20) = x at *
  simp only [go_sem, ne_eq, Nat.reduceAdd, Nat.reduceSub, Nat.reduceMul, Nat.reduceLT, Nat.reduceEqDiff, Nat.reduceBEq, Nat.reduceLeDiff, Int.reduceToNat, ↓reduceIte, Int.reduceEq, Int.reduceLT, Int.reduceLE, Int.reduceAdd, Int.reduceSub, Int.reduceNeg, reduceCtorEq]
  (repeat ((with_reducible refine And.intro ?_ ?_); focus ((repeat' apply And.intro) <;> first | omega | simp))); refine hK _ ?_; clear hK K
  obtain ⟨out, ho1, ho2, ho⟩ := sortR_spec (bags := x) (ps := p) (q := q) (m := n) (by omega) (by omega) (by omega) (by omega) hxm hpg
  have hol := ho.len
  (repeat first | refine awp_seq ?_ | refine awp_skip ?_ | refine awp_block ?_); refine awp_region tab_ok hl rfl fun K hK => ?_; simp only [go_sem, ne_eq, Nat.reduceAdd, Nat.reduceSub, Nat.reduceMul, Nat.reduceLT, Nat.reduceEqDiff, Nat.reduceBEq, Nat.reduceLeDiff, Int.reduceToNat, ↓reduceIte, Int.reduceEq, Int.reduceLT, Int.reduceLE, Int.reduceAdd, Int.reduceSub, Int.reduceNeg, reduceCtorEq]
  refine callP ⟨trivial, trivial, trivial, trivial⟩ (ho2 ▸ sort_sat x p q (by omega) hsh) ?_
  simp only [go_sem, ne_eq, Nat.reduceAdd, Nat.reduceSub, Nat.reduceMul, Nat.reduceLT, Nat.reduceEqDiff, Nat.reduceBEq, Nat.reduceLeDiff, Int.reduceToNat, ↓reduceIte, Int.reduceEq, Int.reduceLT, Int.reduceLE, Int.reduceAdd, Int.reduceSub, Int.reduceNeg, reduceCtorEq]
  (repeat ((with_reducible refine And.intro ?_ ?_); focus ((repeat' apply And.intro) <;> first | omega | simp))); refine hK _ ?_; clear hK K
  repeat ((repeat first | refine awp_seq ?_ | refine awp_skip ?_ | refine awp_block ?_); refine awp_region tab_ok hl rfl fun K hK => ?_; simp only [go_sem, ne_eq, Nat.reduceAdd, Nat.reduceSub, Nat.reduceMul, Nat.reduceLT, Nat.reduceEqDiff, Nat.reduceBEq, Nat.reduceLeDiff, Int.reduceToNat, ↓reduceIte, Int.reduceEq, Int.reduceLT, Int.reduceLE, Int.reduceAdd, Int.reduceSub, Int.reduceNeg, reduceCtorEq, hol]; (repeat ((with_reducible refine And.intro ?_ ?_); focus ((repeat' apply And.intro) <;> first | omega | simp))); refine hK _ ?_; clear hK K)
  (repeat first | refine awp_seq ?_ | refine awp_skip ?_ | refine awp_block ?_); refine condF rfl ?_
  have hss := sorts_sat p n hsh
  by_cases hS : SortsP p n
  · rw [decide_eq_true hS] at hss
    (repeat first | refine awp_seq ?_ | refine awp_skip ?_ | refine awp_block ?_); refine awp_region tab_ok hl rfl fun K hK => ?_; simp only [go_sem, ne_eq, Nat.reduceAdd, Nat.reduceSub, Nat.reduceMul, Nat.reduceLT, Nat.reduceEqDiff, Nat.reduceBEq, Nat.reduceLeDiff, Int.reduceToNat, ↓reduceIte, Int.reduceEq, Int.reduceLT, Int.reduceLE, Int.reduceAdd, Int.reduceSub, Int.reduceNeg, reduceCtorEq]
    refine callF ⟨trivial, trivial, trivial⟩ hss rfl ?_
    simp only [go_sem, ne_eq, Nat.reduceAdd, Nat.reduceSub, Nat.reduceMul, Nat.reduceLT, Nat.reduceEqDiff, Nat.reduceBEq, Nat.reduceLeDiff, Int.reduceToNat, ↓reduceIte, Int.reduceEq, Int.reduceLT, Int.reduceLE, Int.reduceAdd, Int.reduceSub, Int.reduceNeg, reduceCtorEq]
    (repeat ((with_reducible refine And.intro ?_ ?_); focus ((repeat' apply And.intro) <;> first | omega | simp))); refine hK _ ?_; clear hK K
    (repeat first | refine awp_seq ?_ | refine awp_skip ?_ | refine awp_block ?_); refine condT rfl ?_
    repeat ((repeat first | refine awp_seq ?_ | refine awp_skip ?_ | refine awp_block ?_); refine awp_region tab_ok hl rfl fun K hK => ?_; simp only [go_sem, ne_eq, Nat.reduceAdd, Nat.reduceSub, Nat.reduceMul, Nat.reduceLT, Nat.reduceEqDiff, Nat.reduceBEq, Nat.reduceLeDiff, Int.reduceToNat, ↓reduceIte, Int.reduceEq, Int.reduceLT, Int.reduceLE, Int.reduceAdd, Int.reduceSub, Int.reduceNeg, reduceCtorEq]; (repeat ((with_reducible refine And.intro ?_ ?_); focus ((repeat' apply And.intro) <;> first | omega | simp))); refine hK _ ?_; clear hK K)
    (repeat first | refine awp_seq ?_ | refine awp_skip ?_ | refine awp_block ?_)
    refine awp_loopW (fun i : Nat × Nat => ⟨[(7, IS x), (8, IS out), (63, I out.length), (64, I i.2)], [], i.1⟩) (fun i => i.2 ≤ out.length) (fun i => out.length - i.2) (_, 0) (Nat.zero_le _) (.of (Nat.le_refl _) .nil (.cons rfl (.cons rfl (.cons rfl (.cons rfl .nil))))) ?_
    rintro ⟨ck1, j⟩ hj
    simp only at hj
    repeat ((repeat first | refine awp_seq ?_ | refine awp_skip ?_ | refine awp_block ?_); refine awp_region tab_ok hl rfl fun K hK => ?_; simp only [go_sem, ne_eq, Nat.reduceAdd, Nat.reduceSub, Nat.reduceMul, Nat.reduceLT, Nat.reduceEqDiff, Nat.reduceBEq, Nat.reduceLeDiff, Int.reduceToNat, ↓reduceIte, Int.reduceEq, Int.reduceLT, Int.reduceLE, Int.reduceAdd, Int.reduceSub, Int.reduceNeg, reduceCtorEq]; (repeat ((with_reducible refine And.intro ?_ ?_); focus ((repeat' apply And.intro) <;> first | omega | simp))); refine hK _ ?_; clear hK K)
    (repeat first | refine awp_seq ?_ | refine awp_skip ?_ | refine awp_block ?_); refine condP _ rfl (fun e => ?_) (fun e => ?_)
    case refine_2 =>
      refine awp_exit ?_
      repeat ((repeat first | refine awp_seq ?_ | refine awp_skip ?_ | refine awp_block ?_); refine awp_region tab_ok hl rfl fun K hK => ?_; simp only [go_sem, ne_eq, Nat.reduceAdd, Nat.reduceSub, Nat.reduceMul, Nat.reduceLT, Nat.reduceEqDiff, Nat.reduceBEq, Nat.reduceLeDiff, Int.reduceToNat, ↓reduceIte, Int.reduceEq, Int.reduceLT, Int.reduceLE, Int.reduceAdd, Int.reduceSub, Int.reduceNeg, reduceCtorEq]; (repeat ((with_reducible refine And.intro ?_ ?_); focus ((repeat' apply And.intro) <;> first | omega | simp))); refine hK _ ?_; clear hK K)
      (repeat first | refine awp_seq ?_ | refine awp_skip ?_ | refine awp_block ?_); refine awp_region tab_ok hl rfl fun K hK => ?_; simp only [go_sem, ne_eq, Nat.reduceAdd, Nat.reduceSub, Nat.reduceMul, Nat.reduceLT, Nat.reduceEqDiff, Nat.reduceBEq, Nat.reduceLeDiff, Int.reduceToNat, ↓reduceIte, Int.reduceEq, Int.reduceLT, Int.reduceLE, Int.reduceAdd, Int.reduceSub, Int.reduceNeg, reduceCtorEq]
      refine callF trivial awake_sat rfl ?_
      simp only [go_sem, ne_eq, Nat.reduceAdd, Nat.reduceSub, Nat.reduceMul, Nat.reduceLT, Nat.reduceEqDiff, Nat.reduceBEq, Nat.reduceLeDiff, Int.reduceToNat, ↓reduceIte, Int.reduceEq, Int.reduceLT, Int.reduceLE, Int.reduceAdd, Int.reduceSub, Int.reduceNeg, reduceCtorEq]
      (repeat ((with_reducible refine And.intro ?_ ?_); focus ((repeat' apply And.intro) <;> first | omega | simp))); refine hK _ ?_; clear hK K
      refine awp_ret ⟨trivial, trivial, ?_, rfl, fun j hj => by cases hj⟩
      rfl
    have hlt : j < out.length := by omega
    have hm := ho.mem _ (getD_memI hlt)
    have hxx : (out.getD j 0).toNat < x.length := by omega
    have c1 : ¬ out.getD j 0 < 0 := by omega
    have c2 : ¬ (x.length : Int) ≤ out.getD j 0 := by omega
    repeat ((repeat first | refine awp_seq ?_ | refine awp_skip ?_ | refine awp_block ?_); refine awp_region tab_ok hl rfl fun K hK => ?_; simp only [go_sem, ne_eq, Nat.reduceAdd, Nat.reduceSub, Nat.reduceMul, Nat.reduceLT, Nat.reduceEqDiff, Nat.reduceBEq, Nat.reduceLeDiff, Int.reduceToNat, ↓reduceIte, Int.reduceEq, Int.reduceLT, Int.reduceLE, Int.reduceAdd, Int.reduceSub, Int.reduceNeg, reduceCtorEq]; (repeat ((with_reducible refine And.intro ?_ ?_); focus ((repeat' apply And.intro) <;> first | omega | simp))); refine hK _ ?_; clear hK K)
    by_cases hj0 : j = 0
    · subst hj0
      have h00 : ¬ (0 : Int) < ((0 : Nat) : Int) := by omega
      (repeat first | refine awp_seq ?_ | refine awp_skip ?_ | refine awp_block ?_); refine awp_region_still tab_ok hl (by kernel_rfl) (by kernel_rfl) rfl fun K hK => ?_; simp only [go_sem, ne_eq, Nat.reduceAdd, Nat.reduceSub, Nat.reduceMul, Nat.reduceLT, Nat.reduceEqDiff, Nat.reduceBEq, Nat.reduceLeDiff, Int.reduceToNat, ↓reduceIte, Int.reduceEq, Int.reduceLT, Int.reduceLE, Int.reduceAdd, Int.reduceSub, Int.reduceNeg, reduceCtorEq, ints_getD hlt, c1, c2, h00]; (repeat ((with_reducible refine And.intro ?_ ?_); focus (((repeat' apply And.intro) <;> first | omega | simp)))); refine hK _ ?_; clear hK K
      (repeat first | refine awp_seq ?_ | refine awp_skip ?_ | refine awp_block ?_); refine condF rfl ?_
      repeat ((repeat first | refine awp_seq ?_ | refine awp_skip ?_ | refine awp_block ?_); refine awp_region tab_ok hl rfl fun K hK => ?_; simp only [go_sem, ne_eq, Nat.reduceAdd, Nat.reduceSub, Nat.reduceMul, Nat.reduceLT, Nat.reduceEqDiff, Nat.reduceBEq, Nat.reduceLeDiff, Int.reduceToNat, ↓reduceIte, Int.reduceEq, Int.reduceLT, Int.reduceLE, Int.reduceAdd, Int.reduceSub, Int.reduceNeg, reduceCtorEq]; (repeat ((with_reducible refine And.intro ?_ ?_); focus ((repeat' apply And.intro) <;> first | omega | simp))); refine hK _ ?_; clear hK K)
      refine ⟨(_, 1), by simp only; omega, by simp only; omega, .of (Nat.le_refl _) .nil (by repeat (first | exact WOk.nil | refine WOk.cons rfl ?_))⟩
    · have hpos : (0 : Int) < j := by omega
      have e1 : (j : Int) - 1 = ((j - 1 : Nat) : Int) := by omega
      have hlt1 : j - 1 < out.length := by omega
      have hm1 := ho.mem _ (getD_memI hlt1)
      have hx1 : (out.getD (j - 1) 0).toNat < x.length := by omega
      have hpair := pairwise_getD ho.pair (a := j - 1) (b := j) (by omega) hlt
      have hb1 := hxm _ (getD_memI hx1)
      have hb2 := hxm _ (getD_memI hxx)
      have hngt : ¬ x.getD (out.getD j 0).toNat 0 < x.getD (out.getD (j - 1) 0).toNat 0 := by
        intro hlt'
        have := hS.2.2 (x.getD (out.getD (j - 1) 0).toNat 0).toNat (by omega) (x.getD (out.getD j 0).toNat 0).toNat (by omega)
        rw [bef_iff (m := n) (by omega) (by omega) hpg] at this
        have := of_decide_eq_true this
        unfold Ahead at hpair
        omega
      (repeat first | refine awp_seq ?_ | refine awp_skip ?_ | refine awp_block ?_); refine awp_region_still tab_ok hl (by kernel_rfl) (by kernel_rfl) rfl fun K hK => ?_; simp only [go_sem, ne_eq, Nat.reduceAdd, Nat.reduceSub, Nat.reduceMul, Nat.reduceLT, Nat.reduceEqDiff, Nat.reduceBEq, Nat.reduceLeDiff, Int.reduceToNat, ↓reduceIte, Int.reduceEq, Int.reduceLT, Int.reduceLE, Int.reduceAdd, Int.reduceSub, Int.reduceNeg, reduceCtorEq, ints_getD hlt, c1, c2, hpos, e1, ints_getD hlt1, ints_getD hx1, ints_getD hxx, hngt]; (repeat ((with_reducible refine And.intro ?_ ?_); focus (((repeat' apply And.intro) <;> first | omega | simp)))); refine hK _ ?_; clear hK K
      (repeat first | refine awp_seq ?_ | refine awp_skip ?_ | refine awp_block ?_); refine condF rfl ?_
      repeat ((repeat first | refine awp_seq ?_ | refine awp_skip ?_ | refine awp_block ?_); refine awp_region tab_ok hl rfl fun K hK => ?_; simp only [go_sem, ne_eq, Nat.reduceAdd, Nat.reduceSub, Nat.reduceMul, Nat.reduceLT, Nat.reduceEqDiff, Nat.reduceBEq, Nat.reduceLeDiff, Int.reduceToNat, ↓reduceIte, Int.reduceEq, Int.reduceLT, Int.reduceLE, Int.reduceAdd, Int.reduceSub, Int.reduceNeg, reduceCtorEq]; (repeat ((with_reducible refine And.intro ?_ ?_); focus ((repeat' apply And.intro) <;> first | omega | simp))); refine hK _ ?_; clear hK K)
      refine ⟨(_, j + 1), by simp only; omega, by simp only; omega, .of (Nat.le_refl _) .nil (by repeat (first | exact WOk.nil | refine WOk.cons rfl ?_))⟩
  rw [decide_eq_false hS] at hss
  (repeat first | refine awp_seq ?_ | refine awp_skip ?_ | refine awp_block ?_); refine awp_region tab_ok hl rfl fun K hK => ?_; simp only [go_sem, ne_eq, Nat.reduceAdd, Nat.reduceSub, Nat.reduceMul, Nat.reduceLT, Nat.reduceEqDiff, Nat.reduceBEq, Nat.reduceLeDiff, Int.reduceToNat, ↓reduceIte, Int.reduceEq, Int.reduceLT, Int.reduceLE, Int.reduceAdd, Int.reduceSub, Int.reduceNeg, reduceCtorEq]
  refine callF ⟨trivial, trivial, trivial⟩ hss rfl ?_
  simp only [go_sem, ne_eq, Nat.reduceAdd, Nat.reduceSub, Nat.reduceMul, Nat.reduceLT, Nat.reduceEqDiff, Nat.reduceBEq, Nat.reduceLeDiff, Int.reduceToNat, ↓reduceIte, Int.reduceEq, Int.reduceLT, Int.reduceLE, Int.reduceAdd, Int.reduceSub, Int.reduceNeg, reduceCtorEq]
  (repeat ((with_reducible refine And.intro ?_ ?_); focus ((repeat' apply And.intro) <;> first | omega | simp))); refine hK _ ?_; clear hK K
  (repeat first | refine awp_seq ?_ | refine awp_skip ?_ | refine awp_block ?_); refine condF rfl ?_
  repeat ((repeat first | refine awp_seq ?_ | refine awp_skip ?_ | refine awp_block ?_); refine awp_region tab_ok hl rfl fun K hK => ?_; simp only [go_sem, ne_eq, Nat.reduceAdd, Nat.reduceSub, Nat.reduceMul, Nat.reduceLT, Nat.reduceEqDiff, Nat.reduceBEq, Nat.reduceLeDiff, Int.reduceToNat, ↓reduceIte, Int.reduceEq, Int.reduceLT, Int.reduceLE, Int.reduceAdd, Int.reduceSub, Int.reduceNeg, reduceCtorEq]; (repeat ((with_reducible refine And.intro ?_ ?_); focus ((repeat' apply And.intro) <;> first | omega | simp))); refine hK _ ?_; clear hK K)
  (repeat first | refine awp_seq ?_ | refine awp_skip ?_ | refine awp_block ?_)
  refine awp_loopW (fun i : Nat × Nat => ⟨[(4, I n), (5, I q), (6, RS p), (11, I i.2)], [], i.1⟩) (fun i => i.2 ≤ n ∧ ∀ f, f < i.2 → ∀ g, f < g → g < n → bef p f g = true) (fun i => n - i.2) (_, 0) ⟨Nat.zero_le _, fun f hf => absurd hf (Nat.not_lt_zero _)⟩ (.of (Nat.le_refl _) .nil (.cons rfl (.cons rfl (.cons rfl (.cons rfl .nil))))) ?_
  rintro ⟨ck1, f⟩ ⟨hf, hbf⟩
  simp only at hf hbf
  repeat ((repeat first | refine awp_seq ?_ | refine awp_skip ?_ | refine awp_block ?_); refine awp_region tab_ok hl rfl fun K hK => ?_; simp only [go_sem, ne_eq, Nat.reduceAdd, Nat.reduceSub, Nat.reduceMul, Nat.reduceLT, Nat.reduceEqDiff, Nat.reduceBEq, Nat.reduceLeDiff, Int.reduceToNat, ↓reduceIte, Int.reduceEq, Int.reduceLT, Int.reduceLE, Int.reduceAdd, Int.reduceSub, Int.reduceNeg, reduceCtorEq]; (repeat ((with_reducible refine And.intro ?_ ?_); focus ((repeat' apply And.intro) <;> first | omega | simp))); refine hK _ ?_; clear hK K)
  (repeat first | refine awp_seq ?_ | refine awp_skip ?_ | refine awp_block ?_); refine condP _ rfl (fun e => ?_) (fun e => ?_)
  case refine_2 =>
    exfalso
    obtain rfl : f = n := by omega
    exact hS ⟨by omega, fun r hr => by rw [(hpg r hr).1]; omega, fun g hg f' hfg => hbf f' (by omega) g hfg (by omega)⟩
  have hfn : f < n := by omega
  repeat ((repeat first | refine awp_seq ?_ | refine awp_skip ?_ | refine awp_block ?_); refine awp_region tab_ok hl rfl fun K hK => ?_; simp only [go_sem, ne_eq, Nat.reduceAdd, Nat.reduceSub, Nat.reduceMul, Nat.reduceLT, Nat.reduceEqDiff, Nat.reduceBEq, Nat.reduceLeDiff, Int.reduceToNat, ↓reduceIte, Int.reduceEq, Int.reduceLT, Int.reduceLE, Int.reduceAdd, Int.reduceSub, Int.reduceNeg, reduceCtorEq]; (repeat ((with_reducible refine And.intro ?_ ?_); focus ((repeat' apply And.intro) <;> first | omega | simp))); refine hK _ ?_; clear hK K)
  (repeat first | refine awp_seq ?_ | refine awp_skip ?_ | refine awp_block ?_)
  refine awp_loopW (fun i : Nat × Nat => ⟨[(4, I n), (5, I q), (6, RS p), (11, I f), (12, I i.2)], [], i.1⟩) (fun i => f < i.2 ∧ i.2 ≤ n ∧ ∀ g, f < g → g < i.2 → bef p f g = true) (fun i => n - i.2) (_, f + 1) ⟨by simp only; omega, by simp only; omega, fun g h1 h2 => by simp only at h2; omega⟩ (.of (Nat.le_refl _) .nil (.cons rfl (.cons rfl (.cons rfl (.cons rfl (.cons ?_ .nil)))))) ?_
  · rfl
  rintro ⟨ck2, g⟩ ⟨hg1, hg2, hbg⟩
  simp only at hg1 hg2 hbg
  repeat ((repeat first | refine awp_seq ?_ | refine awp_skip ?_ | refine awp_block ?_); refine awp_region tab_ok hl rfl fun K hK => ?_; simp only [go_sem, ne_eq, Nat.reduceAdd, Nat.reduceSub, Nat.reduceMul, Nat.reduceLT, Nat.reduceEqDiff, Nat.reduceBEq, Nat.reduceLeDiff, Int.reduceToNat, ↓reduceIte, Int.reduceEq, Int.reduceLT, Int.reduceLE, Int.reduceAdd, Int.reduceSub, Int.reduceNeg, reduceCtorEq]; (repeat ((with_reducible refine And.intro ?_ ?_); focus ((repeat' apply And.intro) <;> first | omega | simp))); refine hK _ ?_; clear hK K)
  (repeat first | refine awp_seq ?_ | refine awp_skip ?_ | refine awp_block ?_); refine condP _ rfl (fun e1 => ?_) (fun e1 => ?_)
  case refine_2 =>
    obtain rfl : g = n := by omega
    refine awp_exit ?_
    repeat ((repeat first | refine awp_seq ?_ | refine awp_skip ?_ | refine awp_block ?_); refine awp_region tab_ok hl rfl fun K hK => ?_; simp only [go_sem, ne_eq, Nat.reduceAdd, Nat.reduceSub, Nat.reduceMul, Nat.reduceLT, Nat.reduceEqDiff, Nat.reduceBEq, Nat.reduceLeDiff, Int.reduceToNat, ↓reduceIte, Int.reduceEq, Int.reduceLT, Int.reduceLE, Int.reduceAdd, Int.reduceSub, Int.reduceNeg, reduceCtorEq]; (repeat ((with_reducible refine And.intro ?_ ?_); focus ((repeat' apply And.intro) <;> first | omega | simp))); refine hK _ ?_; clear hK K)
    refine ⟨(_, f + 1), ⟨by simp only; omega, fun f' hf' g' h1 h2 => ?_⟩, by simp only; omega, .of (Nat.le_refl _) .nil (by repeat (first | exact WOk.nil | refine WOk.cons rfl ?_))⟩
    by_cases hff : f' = f
    · subst hff; exact hbg g' h1 h2
    · exact hbf f' (by simp only at hf'; omega) g' h1 h2
  have hgn : g < n := by omega
  have hm1 : ∀ b ∈ [(g : Int), (f : Int)], 0 ≤ b ∧ b < (n : Int) := fun b hb => by simp at hb; rcases hb with rfl | rfl <;> omega
  have hm2 : ∀ b ∈ [(f : Int), (g : Int)], 0 ≤ b ∧ b < (n : Int) := fun b hb => by simp at hb; rcases hb with rfl | rfl <;> omega
  obtain ⟨oa, _, ha, hoa⟩ := sortR_spec (bags := [(g : Int), (f : Int)]) (ps := p) (q := q) (m := n) (by omega) (by omega) (by simp) (by omega) hm1 hpg
  obtain ⟨ob, _, hb, hob⟩ := sortR_spec (bags := [(f : Int), (g : Int)]) (ps := p) (q := q) (m := n) (by omega) (by omega) (by simp) (by omega) hm2 hpg
  have hal : oa.length = 2 := hoa.len
  have hbl : ob.length = 2 := hob.len
  (repeat first | refine awp_seq ?_ | refine awp_skip ?_ | refine awp_block ?_); refine awp_region tab_ok hl rfl fun K hK => ?_; simp only [go_sem, ne_eq, Nat.reduceAdd, Nat.reduceSub, Nat.reduceMul, Nat.reduceLT, Nat.reduceEqDiff, Nat.reduceBEq, Nat.reduceLeDiff, Int.reduceToNat, ↓reduceIte, Int.reduceEq, Int.reduceLT, Int.reduceLE, Int.reduceAdd, Int.reduceSub, Int.reduceNeg, reduceCtorEq]
  refine callP ⟨trivial, trivial, trivial, trivial⟩ (ha ▸ sort_sat [(g : Int), (f : Int)] p q (by simp) hsh) ?_
  simp only [go_sem, ne_eq, Nat.reduceAdd, Nat.reduceSub, Nat.reduceMul, Nat.reduceLT, Nat.reduceEqDiff, Nat.reduceBEq, Nat.reduceLeDiff, Int.reduceToNat, ↓reduceIte, Int.reduceEq, Int.reduceLT, Int.reduceLE, Int.reduceAdd, Int.reduceSub, Int.reduceNeg, reduceCtorEq]
  (repeat ((with_reducible refine And.intro ?_ ?_); focus ((repeat' apply And.intro) <;> first | omega | simp))); refine hK _ ?_; clear hK K
  (repeat first | refine awp_seq ?_ | refine awp_skip ?_ | refine awp_block ?_); refine awp_region tab_ok hl rfl fun K hK => ?_; simp only [go_sem, ne_eq, Nat.reduceAdd, Nat.reduceSub, Nat.reduceMul, Nat.reduceLT, Nat.reduceEqDiff, Nat.reduceBEq, Nat.reduceLeDiff, Int.reduceToNat, ↓reduceIte, Int.reduceEq, Int.reduceLT, Int.reduceLE, Int.reduceAdd, Int.reduceSub, Int.reduceNeg, reduceCtorEq]
  refine callP ⟨trivial, trivial, trivial, trivial⟩ (hb ▸ sort_sat [(f : Int), (g : Int)] p q (by simp) hsh) ?_
  simp only [go_sem, ne_eq, Nat.reduceAdd, Nat.reduceSub, Nat.reduceMul, Nat.reduceLT, Nat.reduceEqDiff, Nat.reduceBEq, Nat.reduceLeDiff, Int.reduceToNat, ↓reduceIte, Int.reduceEq, Int.reduceLT, Int.reduceLE, Int.reduceAdd, Int.reduceSub, Int.reduceNeg, reduceCtorEq]
  (repeat ((with_reducible refine And.intro ?_ ?_); focus ((repeat' apply And.intro) <;> first | omega | simp))); refine hK _ ?_; clear hK K
  have hal' : (oa.length : Int) = 2 := by omega
  have hbl' : (ob.length : Int) = 2 := by omega
  repeat ((repeat first | refine awp_seq ?_ | refine awp_skip ?_ | refine awp_block ?_); refine awp_region tab_ok hl rfl fun K hK => ?_; simp only [go_sem, ne_eq, Nat.reduceAdd, Nat.reduceSub, Nat.reduceMul, Nat.reduceLT, Nat.reduceEqDiff, Nat.reduceBEq, Nat.reduceLeDiff, Int.reduceToNat, ↓reduceIte, Int.reduceEq, Int.reduceLT, Int.reduceLE, Int.reduceAdd, Int.reduceSub, Int.reduceNeg, reduceCtorEq, hal', hbl']; (repeat ((with_reducible refine And.intro ?_ ?_); focus ((repeat' apply And.intro) <;> first | omega | simp))); refine hK _ ?_; clear hK K)
  (repeat first | refine awp_seq ?_ | refine awp_skip ?_ | refine awp_block ?_); refine condF rfl ?_
  have hga := ints_getD (l := oa) (n := 0) (by omega)
  have hgb := ints_getD (l := ob) (n := 0) (by omega)
  by_cases c1 : oa.getD 0 0 = 1
  · by_cases c2 : ob.getD 0 0 = 0
    · rw [c1] at hga
      rw [c2] at hgb
      repeat ((repeat first | refine awp_seq ?_ | refine awp_skip ?_ | refine awp_block ?_); refine awp_region tab_ok hl rfl fun K hK => ?_; simp only [go_sem, ne_eq, Nat.reduceAdd, Nat.reduceSub, Nat.reduceMul, Nat.reduceLT, Nat.reduceEqDiff, Nat.reduceBEq, Nat.reduceLeDiff, Int.reduceToNat, ↓reduceIte, Int.reduceEq, Int.reduceLT, Int.reduceLE, Int.reduceAdd, Int.reduceSub, Int.reduceNeg, reduceCtorEq, hga, hgb]; (repeat ((with_reducible refine And.intro ?_ ?_); focus ((repeat' apply And.intro) <;> first | omega | simp))); refine hK _ ?_; clear hK K)
      (repeat first | refine awp_seq ?_ | refine awp_skip ?_ | refine awp_block ?_); refine condF rfl ?_
      repeat ((repeat first | refine awp_seq ?_ | refine awp_skip ?_ | refine awp_block ?_); refine awp_region tab_ok hl rfl fun K hK => ?_; simp only [go_sem, ne_eq, Nat.reduceAdd, Nat.reduceSub, Nat.reduceMul, Nat.reduceLT, Nat.reduceEqDiff, Nat.reduceBEq, Nat.reduceLeDiff, Int.reduceToNat, ↓reduceIte, Int.reduceEq, Int.reduceLT, Int.reduceLE, Int.reduceAdd, Int.reduceSub, Int.reduceNeg, reduceCtorEq]; (repeat ((with_reducible refine And.intro ?_ ?_); focus ((repeat' apply And.intro) <;> first | omega | simp))); refine hK _ ?_; clear hK K)
      refine ⟨(_, g + 1), ⟨by simp only; omega, by simp only; omega, fun g' h1 h2 => ?_⟩, by simp only; omega, .of (Nat.le_refl _) .nil (by repeat (first | exact WOk.nil | refine WOk.cons rfl ?_))⟩
      by_cases hgg : g' = g
      · subst hgg; exact two_bags hfn hgn hpg hoa c1
      · exact hbg g' h1 (by simp only at h2; omega)
    · rw [c1] at hga
      repeat ((repeat first | refine awp_seq ?_ | refine awp_skip ?_ | refine awp_block ?_); refine awp_region tab_ok hl rfl fun K hK => ?_; simp only [go_sem, ne_eq, Nat.reduceAdd, Nat.reduceSub, Nat.reduceMul, Nat.reduceLT, Nat.reduceEqDiff, Nat.reduceBEq, Nat.reduceLeDiff, Int.reduceToNat, ↓reduceIte, Int.reduceEq, Int.reduceLT, Int.reduceLE, Int.reduceAdd, Int.reduceSub, Int.reduceNeg, reduceCtorEq, hga, hgb, c2]; (repeat ((with_reducible refine And.intro ?_ ?_); focus ((repeat' apply And.intro) <;> first | omega | simp))); refine hK _ ?_; clear hK K)
      (repeat first | refine awp_seq ?_ | refine awp_skip ?_ | refine awp_block ?_); refine condT rfl ?_
      (repeat first | refine awp_seq ?_ | refine awp_skip ?_ | refine awp_block ?_); refine awp_region tab_ok hl rfl fun K hK => ?_; simp only [go_sem, ne_eq, Nat.reduceAdd, Nat.reduceSub, Nat.reduceMul, Nat.reduceLT, Nat.reduceEqDiff, Nat.reduceBEq, Nat.reduceLeDiff, Int.reduceToNat, ↓reduceIte, Int.reduceEq, Int.reduceLT, Int.reduceLE, Int.reduceAdd, Int.reduceSub, Int.reduceNeg, reduceCtorEq]
      refine callF trivial awake_sat rfl ?_
      simp only [go_sem, ne_eq, Nat.reduceAdd, Nat.reduceSub, Nat.reduceMul, Nat.reduceLT, Nat.reduceEqDiff, Nat.reduceBEq, Nat.reduceLeDiff, Int.reduceToNat, ↓reduceIte, Int.reduceEq, Int.reduceLT, Int.reduceLE, Int.reduceAdd, Int.reduceSub, Int.reduceNeg, reduceCtorEq]
      (repeat ((with_reducible refine And.intro ?_ ?_); focus ((repeat' apply And.intro) <;> first | omega | simp))); refine hK _ ?_; clear hK K
      refine awp_ret ⟨trivial, trivial, ?_, rfl, fun j hj => by cases hj⟩
      rfl
  · repeat ((repeat first | refine awp_seq ?_ | refine awp_skip ?_ | refine awp_block ?_); refine awp_region tab_ok hl rfl fun K hK => ?_; simp only [go_sem, ne_eq, Nat.reduceAdd, Nat.reduceSub, Nat.reduceMul, Nat.reduceLT, Nat.reduceEqDiff, Nat.reduceBEq, Nat.reduceLeDiff, Int.reduceToNat, ↓reduceIte, Int.reduceEq, Int.reduceLT, Int.reduceLE, Int.reduceAdd, Int.reduceSub, Int.reduceNeg, reduceCtorEq, hga, c1]; (repeat ((with_reducible refine And.intro ?_ ?_); focus ((repeat' apply And.intro) <;> first | omega | simp))); refine hK _ ?_; clear hK K)
    (repeat first | refine awp_seq ?_ | refine awp_skip ?_ | refine awp_block ?_); refine condT rfl ?_
    (repeat first | refine awp_seq ?_ | refine awp_skip ?_ | refine awp_block ?_); refine awp_region tab_ok hl rfl fun K hK => ?_; simp only [go_sem, ne_eq, Nat.reduceAdd, Nat.reduceSub, Nat.reduceMul, Nat.reduceLT, Nat.reduceEqDiff, Nat.reduceBEq, Nat.reduceLeDiff, Int.reduceToNat, ↓reduceIte, Int.reduceEq, Int.reduceLT, Int.reduceLE, Int.reduceAdd, Int.reduceSub, Int.reduceNeg, reduceCtorEq]
    refine callF trivial awake_sat rfl ?_
    simp only [go_sem, ne_eq, Nat.reduceAdd, Nat.reduceSub, Nat.reduceMul, Nat.reduceLT, Nat.reduceEqDiff, Nat.reduceBEq, Nat.reduceLeDiff, Int.reduceToNat, ↓reduceIte, Int.reduceEq, Int.reduceLT, Int.reduceLE, Int.reduceAdd, Int.reduceSub, Int.reduceNeg, reduceCtorEq]
    (repeat ((with_reducible refine And.intro ?_ ?_); focus ((repeat' apply And.intro) <;> first | omega | simp))); refine hK _ ?_; clear hK K
    refine awp_ret ⟨trivial, trivial, ?_, rfl, fun j hj => by cases hj⟩
    rfl
end Go.Proofs.Ytmjlnndnpdbagaa
