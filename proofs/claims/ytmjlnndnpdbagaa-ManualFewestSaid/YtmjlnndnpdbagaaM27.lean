import Derived.Test.YtmjlnndnpdbagaaM23
import Derived.Test.YtmjlnndnpdbagaaSym34
set_option linter.all false
set_option linter.unusedSimpArgs false
set_option linter.unusedVariables false
set_option linter.deprecated false
namespace Go.Proofs.Ytmjlnndnpdbagaa
open Go Go.Sym

theorem few {p : List (List Int)} {n q : Nat} (hn : 1 ≤ n) (hg : Good p n q) (h : q ^ p.length < n) : ¬ SortsP p n := by
  intro hS
  have hb := codeF_bd hg (W := 1) (c := fun _ => 0) (fun x _ => by omega)
  have hw : codeW (q : Int) p 1 = ((q ^ p.length : Nat) : Int) := by rw [codeW_pow, Int.one_mul]; push_cast; rfl
  rw [hw] at hb
  have key : ∀ f, f < n → (f : Int) ≤ codeF q p 1 (fun _ => 0) f := by
    intro f
    induction f with
    | zero => intro h0; exact (hb 0 h0).1
    | succ f ih =>
      intro hf
      have h1 := ih (by omega)
      have h2 := hS.2.2 (f + 1) (by omega) f (by omega)
      rw [bef_iff (m := n) (by omega) hf hg] at h2
      have := of_decide_eq_true h2
      omega
  have h1 := key (n - 1) (by omega)
  have h2 := (hb (n - 1) (by omega)).2
  omega

theorem kOf_range {n q : Nat} (hn : 2 ≤ n ∧ n ≤ 40) (hq : 2 ≤ q) : 1 ≤ kOf n q ∧ kOf n q ≤ 8 := by
  have hs := kOf_spec (f := n) hq hn.2
  constructor
  · rcases Nat.eq_zero_or_pos (kOf n q) with h | h
    · rw [h] at hs; simp at hs; omega
    · exact h
  · refine Classical.byContradiction fun hc => ?_
    have h1 := hs.1 6 (by omega)
    have h2 : 2 ^ 6 ≤ q ^ 6 := Nat.pow_le_pow_left hq 6
    omega

theorem few_plan {p : List (List Int)} {n q : Nat} (hn : 2 ≤ n ∧ n ≤ 40) (hq : 2 ≤ q) (hg : Good p n q) (h : p.length < kOf n q) : ¬ SortsP p n :=
  few (by omega) hg ((kOf_spec (f := n) hq hn.2).1 _ h)

set_option maxRecDepth 100000 in
set_option maxHeartbeats 4000000 in
theorem law7 (flights piles : Int) (l : List Int) (hf : I64 flights) (hp : I64 piles) (hl1 : l.length ≤ 9223372036854775807) (hl2 : ∀ x ∈ l, I64 x) :
    Sat Try.prog 7 [I flights, I piles, IS l] [] (B true) [] := by
  have hF : Fits (l.take 2000) := ⟨by simp [List.length_take]; omega, fun x hx => hl2 x (List.mem_of_mem_take hx)⟩
  have hnb := modI_lt (x := flights) (n := 39) (by omega)
  have hqb := modI_lt (x := piles) (n := 8) (by omega)
  have hmn := mod_sat flights 39 hf.1 hf.2 (by omega)
  have hmq := mod_sat piles 8 hp.1 hp.2 (by omega)
  generalize modI flights 39 = n0 at *
  generalize modI piles 8 = q0 at *
  obtain ⟨n, hn⟩ := Int.eq_ofNat_of_zero_le (show 0 ≤ 2 + n0 by omega)
  obtain ⟨q, hq⟩ := Int.eq_ofNat_of_zero_le (show 0 ≤ 2 + q0 by omega)
  have hnn : 2 ≤ n ∧ n ≤ 40 := by omega
  have hqq : 2 ≤ q ∧ q ≤ 9 := by omega
  have hok : okR n q := by unfold okR; omega
  have hpas := passes_sat n q
  rw [passesR, if_pos hok] at hpas
  have hpln := rplan_sat n q
  rw [planR, if_pos hok] at hpln
  simp only [Int.toNat_natCast] at hpas hpln
  have hk := kOf_range hnn hqq.1
  have hbg : Good (planL n q (kOf n q)) n q := plan_good (by omega)
  have hbl : (planL n q (kOf n q)).length = kOf n q := by simp [planL]
  have hbs := plan_sorts (n := n) (q := q) (by omega) (by omega)
  have hfew : ∀ {p : List (List Int)}, Good p n q → p.length < kOf n q → ¬ SortsP p n := fun hg h => few_plan hnn hqq.1 hg h
  generalize planL n q (kOf n q) = best at *
  generalize kOf n q = k at *
  refine Sat_of_awp (T := tab) tab_ok Try.func7 rfl (by rfl) (by simp [Try.ntmps7]) ?_
  intro w Z blks hb
  have hl : blks.length ≤ 100 := by rw [hb]; simp
  rw [Try.ntmps7]
  simp only [tm0, hp0, List.zipIdx, List.map]
  repeat ((repeat first | refine awp_seq ?_ | refine awp_skip ?_ | refine awp_block ?_); refine awp_region tab_ok hl rfl fun K hK => ?_; simp only [go_sem, ne_eq, Nat.reduceAdd, Nat.reduceSub, Nat.reduceMul, Nat.reduceLT, Nat.reduceEqDiff, Nat.reduceBEq, Nat.reduceLeDiff, Int.reduceToNat, ↓reduceIte, Int.reduceEq, Int.reduceLT, Int.reduceLE, Int.reduceAdd, Int.reduceSub, Int.reduceNeg, reduceCtorEq]; (repeat ((with_reducible refine And.intro ?_ ?_); focus ((repeat' apply And.intro) <;> first | omega | simp))); refine hK _ ?_; clear hK K)
  (repeat first | refine awp_seq ?_ | refine awp_skip ?_ | refine awp_block ?_); refine awp_region tab_ok hl rfl fun K hK => ?_; simp only [go_sem, ne_eq, Nat.reduceAdd, Nat.reduceSub, Nat.reduceMul, Nat.reduceLT, Nat.reduceEqDiff, Nat.reduceBEq, Nat.reduceLeDiff, Int.reduceToNat, ↓reduceIte, Int.reduceEq, Int.reduceLT, Int.reduceLE, Int.reduceAdd, Int.reduceSub, Int.reduceNeg, reduceCtorEq]
  refine callB ⟨trivial, trivial⟩ (new_sat l hl1) ?_
  generalize l.take 2000 = s at *
  simp only [go_sem, ne_eq, Nat.reduceAdd, Nat.reduceSub, Nat.reduceMul, Nat.reduceLT, Nat.reduceEqDiff, Nat.reduceBEq, Nat.reduceLeDiff, Int.reduceToNat, ↓reduceIte, Int.reduceEq, Int.reduceLT, Int.reduceLE, Int.reduceAdd, Int.reduceSub, Int.reduceNeg, reduceCtorEq]
  (repeat ((with_reducible refine And.intro ?_ ?_); focus ((repeat' apply And.intro) <;> first | omega | simp))); refine hK _ ?_; clear hK K
  (repeat first | refine awp_seq ?_ | refine awp_skip ?_ | refine awp_block ?_); refine awp_region tab_ok hl rfl fun K hK => ?_; simp only [go_sem, ne_eq, Nat.reduceAdd, Nat.reduceSub, Nat.reduceMul, Nat.reduceLT, Nat.reduceEqDiff, Nat.reduceBEq, Nat.reduceLeDiff, Int.reduceToNat, ↓reduceIte, Int.reduceEq, Int.reduceLT, Int.reduceLE, Int.reduceAdd, Int.reduceSub, Int.reduceNeg, reduceCtorEq]
  refine callF ⟨trivial, trivial, trivial⟩ hmn rfl ?_
  simp only [go_sem, ne_eq, Nat.reduceAdd, Nat.reduceSub, Nat.reduceMul, Nat.reduceLT, Nat.reduceEqDiff, Nat.reduceBEq, Nat.reduceLeDiff, Int.reduceToNat, ↓reduceIte, Int.reduceEq, Int.reduceLT, Int.reduceLE, Int.reduceAdd, Int.reduceSub, Int.reduceNeg, reduceCtorEq]
  (repeat ((with_reducible refine And.intro ?_ ?_); focus ((repeat' apply And.intro) <;> first | omega | simp)))
  refine callF ⟨trivial, trivial, trivial⟩ hmq rfl ?_
  simp only [go_sem, ne_eq, Nat.reduceAdd, Nat.reduceSub, Nat.reduceMul, Nat.reduceLT, Nat.reduceEqDiff, Nat.reduceBEq, Nat.reduceLeDiff, Int.reduceToNat, ↓reduceIte, Int.reduceEq, Int.reduceLT, Int.reduceLE, Int.reduceAdd, Int.reduceSub, Int.reduceNeg, reduceCtorEq]
  (repeat ((with_reducible refine And.intro ?_ ?_); focus ((repeat' apply And.intro) <;> first | omega | simp))); refine hK _ ?_; clear hK K
  rw [hn, hq]
  (repeat first | refine awp_seq ?_ | refine awp_skip ?_ | refine awp_block ?_); refine awp_region tab_ok hl rfl fun K hK => ?_; simp only [go_sem, ne_eq, Nat.reduceAdd, Nat.reduceSub, Nat.reduceMul, Nat.reduceLT, Nat.reduceEqDiff, Nat.reduceBEq, Nat.reduceLeDiff, Int.reduceToNat, ↓reduceIte, Int.reduceEq, Int.reduceLT, Int.reduceLE, Int.reduceAdd, Int.reduceSub, Int.reduceNeg, reduceCtorEq]
  refine callF ⟨trivial, trivial, trivial⟩ hpas rfl ?_
  simp only [go_sem, ne_eq, Nat.reduceAdd, Nat.reduceSub, Nat.reduceMul, Nat.reduceLT, Nat.reduceEqDiff, Nat.reduceBEq, Nat.reduceLeDiff, Int.reduceToNat, ↓reduceIte, Int.reduceEq, Int.reduceLT, Int.reduceLE, Int.reduceAdd, Int.reduceSub, Int.reduceNeg, reduceCtorEq]
  (repeat ((with_reducible refine And.intro ?_ ?_); focus ((repeat' apply And.intro) <;> first | omega | simp))); refine hK _ ?_; clear hK K
  have c1 : ¬ (k : Int) < 1 := by omega
  have c2 : ¬ (8 : Int) < k := by omega
  repeat ((repeat first | refine awp_seq ?_ | refine awp_skip ?_ | refine awp_block ?_); refine awp_region tab_ok hl rfl fun K hK => ?_; simp only [go_sem, ne_eq, Nat.reduceAdd, Nat.reduceSub, Nat.reduceMul, Nat.reduceLT, Nat.reduceEqDiff, Nat.reduceBEq, Nat.reduceLeDiff, Int.reduceToNat, ↓reduceIte, Int.reduceEq, Int.reduceLT, Int.reduceLE, Int.reduceAdd, Int.reduceSub, Int.reduceNeg, reduceCtorEq, c1, c2]; (repeat ((with_reducible refine And.intro ?_ ?_); focus ((repeat' apply And.intro) <;> first | omega | simp))); refine hK _ ?_; clear hK K)
  (repeat first | refine awp_seq ?_ | refine awp_skip ?_ | refine awp_block ?_); refine condF rfl ?_
  (repeat first | refine awp_seq ?_ | refine awp_skip ?_ | refine awp_block ?_); refine awp_region tab_ok hl rfl fun K hK => ?_; simp only [go_sem, ne_eq, Nat.reduceAdd, Nat.reduceSub, Nat.reduceMul, Nat.reduceLT, Nat.reduceEqDiff, Nat.reduceBEq, Nat.reduceLeDiff, Int.reduceToNat, ↓reduceIte, Int.reduceEq, Int.reduceLT, Int.reduceLE, Int.reduceAdd, Int.reduceSub, Int.reduceNeg, reduceCtorEq]
  refine callL rfl ⟨trivial, trivial⟩ ⟨trivial, trivial, trivial⟩ (by simp [refs1, refs2]) (n_sat s 0 k hF (Nat.zero_le _) (by omega)) ?_
  have hm := modI_lt (x := s.getD 0 0) (n := (k : Int)) (by omega)
  obtain ⟨m, hmm⟩ := Int.eq_ofNat_of_zero_le hm.1
  rw [hmm] at hm ⊢
  simp only [go_sem, ne_eq, Nat.reduceAdd, Nat.reduceSub, Nat.reduceMul, Nat.reduceLT, Nat.reduceEqDiff, Nat.reduceBEq, Nat.reduceLeDiff, Int.reduceToNat, ↓reduceIte, Int.reduceEq, Int.reduceLT, Int.reduceLE, Int.reduceAdd, Int.reduceSub, Int.reduceNeg, reduceCtorEq]
  refine callL rfl ⟨trivial, trivial, trivial, trivial⟩ ⟨trivial, trivial, trivial⟩ (by simp [refs1, refs2]) (passes_sat' s (nxs s 0 1) m n q hF (nxs_le _ _ _) (by omega) (by omega) (by omega)) ?_
  have hpg : Good (passL s (nxs s 0 1) n q n m) n q := passL_good (by omega)
  have hpl := passL_length s (nxs s 0 1) n q n m
  have ha2 := nxs_le s (nxs s 0 1) (m * n)
  generalize passL s (nxs s 0 1) n q n m = p at *
  generalize nxs s (nxs s 0 1) (m * n) = a2 at *
  simp only [go_sem, ne_eq, Nat.reduceAdd, Nat.reduceSub, Nat.reduceMul, Nat.reduceLT, Nat.reduceEqDiff, Nat.reduceBEq, Nat.reduceLeDiff, Int.reduceToNat, ↓reduceIte, Int.reduceEq, Int.reduceLT, Int.reduceLE, Int.reduceAdd, Int.reduceSub, Int.reduceNeg, reduceCtorEq]
  (repeat ((with_reducible refine And.intro ?_ ?_); focus ((repeat' apply And.intro) <;> first | omega | simp))); refine hK _ ?_; clear hK K
  have hss := sorts_sat p n (hpg.short (by omega) (by omega))
  rw [decide_eq_false (hfew hpg (by omega))] at hss
  (repeat first | refine awp_seq ?_ | refine awp_skip ?_ | refine awp_block ?_); refine awp_region tab_ok hl rfl fun K hK => ?_; simp only [go_sem, ne_eq, Nat.reduceAdd, Nat.reduceSub, Nat.reduceMul, Nat.reduceLT, Nat.reduceEqDiff, Nat.reduceBEq, Nat.reduceLeDiff, Int.reduceToNat, ↓reduceIte, Int.reduceEq, Int.reduceLT, Int.reduceLE, Int.reduceAdd, Int.reduceSub, Int.reduceNeg, reduceCtorEq]
  refine callF ⟨trivial, trivial, trivial⟩ hss rfl ?_
  simp only [go_sem, ne_eq, Nat.reduceAdd, Nat.reduceSub, Nat.reduceMul, Nat.reduceLT, Nat.reduceEqDiff, Nat.reduceBEq, Nat.reduceLeDiff, Int.reduceToNat, ↓reduceIte, Int.reduceEq, Int.reduceLT, Int.reduceLE, Int.reduceAdd, Int.reduceSub, Int.reduceNeg, reduceCtorEq]
  (repeat ((with_reducible refine And.intro ?_ ?_); focus ((repeat' apply And.intro) <;> first | omega | simp))); refine hK _ ?_; clear hK K
  (repeat first | refine awp_seq ?_ | refine awp_skip ?_ | refine awp_block ?_); refine condF rfl ?_
  (repeat first | refine awp_seq ?_ | refine awp_skip ?_ | refine awp_block ?_); refine awp_region tab_ok hl rfl fun K hK => ?_; simp only [go_sem, ne_eq, Nat.reduceAdd, Nat.reduceSub, Nat.reduceMul, Nat.reduceLT, Nat.reduceEqDiff, Nat.reduceBEq, Nat.reduceLeDiff, Int.reduceToNat, ↓reduceIte, Int.reduceEq, Int.reduceLT, Int.reduceLE, Int.reduceAdd, Int.reduceSub, Int.reduceNeg, reduceCtorEq]
  refine callP ⟨trivial, trivial, trivial⟩ hpln ?_
  simp only [go_sem, ne_eq, Nat.reduceAdd, Nat.reduceSub, Nat.reduceMul, Nat.reduceLT, Nat.reduceEqDiff, Nat.reduceBEq, Nat.reduceLeDiff, Int.reduceToNat, ↓reduceIte, Int.reduceEq, Int.reduceLT, Int.reduceLE, Int.reduceAdd, Int.reduceSub, Int.reduceNeg, reduceCtorEq]
  (repeat ((with_reducible refine And.intro ?_ ?_); focus ((repeat' apply And.intro) <;> first | omega | simp))); refine hK _ ?_; clear hK K
  (repeat first | refine awp_seq ?_ | refine awp_skip ?_ | refine awp_block ?_); refine awp_region tab_ok hl rfl fun K hK => ?_; simp only [go_sem, ne_eq, Nat.reduceAdd, Nat.reduceSub, Nat.reduceMul, Nat.reduceLT, Nat.reduceEqDiff, Nat.reduceBEq, Nat.reduceLeDiff, Int.reduceToNat, ↓reduceIte, Int.reduceEq, Int.reduceLT, Int.reduceLE, Int.reduceAdd, Int.reduceSub, Int.reduceNeg, reduceCtorEq, hbl]
  refine callL rfl ⟨trivial, trivial⟩ ⟨trivial, trivial, trivial⟩ (by simp [refs1, refs2]) (n_sat s a2 k hF ha2 (by omega)) ?_
  have hi := modI_lt (x := s.getD a2 0) (n := (k : Int)) (by omega)
  obtain ⟨i, hii⟩ := Int.eq_ofNat_of_zero_le hi.1
  rw [hii] at hi ⊢
  simp only [go_sem, ne_eq, Nat.reduceAdd, Nat.reduceSub, Nat.reduceMul, Nat.reduceLT, Nat.reduceEqDiff, Nat.reduceBEq, Nat.reduceLeDiff, Int.reduceToNat, ↓reduceIte, Int.reduceEq, Int.reduceLT, Int.reduceLE, Int.reduceAdd, Int.reduceSub, Int.reduceNeg, reduceCtorEq]
  (repeat ((with_reducible refine And.intro ?_ ?_); focus ((repeat' apply And.intro) <;> first | omega | simp))); refine hK _ ?_; clear hK K
  have htk : (rows best).take i = rows (best.take i) := by simp [rows, List.map_take]
  have hdk : (rows best).drop (i + 1) = rows (best.drop (i + 1)) := by simp [rows, List.map_drop]
  have hdl : (best.drop (i + 1)).length = k - (i + 1) := by simp [hbl]
  have htl : (best.take i).length = i := by simp [hbl]; omega
  have hi1 : ((i : Int) + 1).toNat = i + 1 := by omega
  have hcat : rows (best.take i) ++ rows (best.drop (i + 1)) = rows (best.take i ++ best.drop (i + 1)) := by simp [rows]
  have hcg : Good (best.take i ++ best.drop (i + 1)) n q := fun r hr => by
    rcases List.mem_append.1 hr with h | h
    · exact hbg.take i r h
    · exact hbg.drop (i + 1) r h
  have hcl : (best.take i ++ best.drop (i + 1)).length = k - 1 := by rw [List.length_append, htl, hdl]; omega
  have hs2 := sorts_sat (best.take i ++ best.drop (i + 1)) n (hcg.short (by omega) (by omega))
  rw [decide_eq_false (hfew hcg (by omega))] at hs2
  have hs3 := sorts_sat best n (hbg.short (by omega) (by omega))
  rw [decide_eq_true hbs] at hs3
  generalize best.take i = b1 at *
  generalize best.drop (i + 1) = b2 at *
  (repeat first | refine awp_seq ?_ | refine awp_skip ?_ | refine awp_block ?_); refine awp_region_drawR tab_ok hl (by kernel_rfl) (by kernel_rfl) rfl fun K hK => ?_; simp only [go_sem, ne_eq, Nat.reduceAdd, Nat.reduceSub, Nat.reduceMul, Nat.reduceLT, Nat.reduceEqDiff, Nat.reduceBEq, Nat.reduceLeDiff, Int.reduceToNat, ↓reduceIte, Int.reduceEq, Int.reduceLT, Int.reduceLE, Int.reduceAdd, Int.reduceSub, Int.reduceNeg, reduceCtorEq, htk, hdk, hbl, hi1, hcat, hdl, htl]
  (repeat ((with_reducible refine And.intro ?_ ?_); focus ((repeat' apply And.intro) <;> first | omega | simp)))
  refine callP ⟨⟨rfl, by rw [rows_length, List.length_append, htl, hdl, Nat.zero_add]⟩, trivial, trivial⟩ hs2 ?_
  simp only [go_sem, ne_eq, Nat.reduceAdd, Nat.reduceSub, Nat.reduceMul, Nat.reduceLT, Nat.reduceEqDiff, Nat.reduceBEq, Nat.reduceLeDiff, Int.reduceToNat, ↓reduceIte, Int.reduceEq, Int.reduceLT, Int.reduceLE, Int.reduceAdd, Int.reduceSub, Int.reduceNeg, reduceCtorEq]
  refine callP ⟨trivial, trivial, trivial⟩ hs3 ?_
  simp only [go_sem, ne_eq, Nat.reduceAdd, Nat.reduceSub, Nat.reduceMul, Nat.reduceLT, Nat.reduceEqDiff, Nat.reduceBEq, Nat.reduceLeDiff, Int.reduceToNat, ↓reduceIte, Int.reduceEq, Int.reduceLT, Int.reduceLE, Int.reduceAdd, Int.reduceSub, Int.reduceNeg, reduceCtorEq]
  refine callF trivial awake_sat rfl ?_
  simp only [go_sem, ne_eq, Nat.reduceAdd, Nat.reduceSub, Nat.reduceMul, Nat.reduceLT, Nat.reduceEqDiff, Nat.reduceBEq, Nat.reduceLeDiff, Int.reduceToNat, ↓reduceIte, Int.reduceEq, Int.reduceLT, Int.reduceLE, Int.reduceAdd, Int.reduceSub, Int.reduceNeg, reduceCtorEq]
  refine ⟨by kernel_rfl, ?_⟩
  refine hK _ ?_; clear hK K
  refine awp_ret ⟨trivial, trivial, ?_, rfl, fun j hj => by cases hj⟩
  rfl
end Go.Proofs.Ytmjlnndnpdbagaa
