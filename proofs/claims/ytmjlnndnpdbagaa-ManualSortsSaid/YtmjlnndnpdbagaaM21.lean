import Derived.Test.YtmjlnndnpdbagaaMP3
import Derived.Test.YtmjlnndnpdbagaaSym32
set_option linter.all false
set_option linter.unusedSimpArgs false
set_option linter.unusedVariables false
set_option linter.deprecated false
namespace Go.Proofs.Ytmjlnndnpdbagaa
open Go Go.Sym

/-- which bags have been seen -/
def seenL (out : List Int) (i : Nat) : List AV := List.map (fun (j : Nat) => B (decide ((j : Int) ∈ out.take i))) (List.range 40)
theorem seenL_length (out : List Int) (i : Nat) : (seenL out i).length = 40 := by simp [seenL]
theorem seenL_drop {out : List Int} {i k : Nat} (h : k < 40) : ((seenL out i).drop k).getD 0 .bad = B (decide ((k : Int) ∈ out.take i)) := by
  simp [seenL, h]
theorem seenL_set {out : List Int} {i k : Nat} (h : k < 40) (hi : i < out.length) (he : out.getD i 0 = k) : (seenL out i).take k ++ [B true] ++ (seenL out i).drop (k + 1) = seenL out (i + 1) := by
  rw [List.append_assoc, List.singleton_append]
  have e0 : out[i] = (k : Int) := by rw [← he]; simp [hi]
  refine List.ext_getElem (by simp [seenL]; omega) fun j h1 h2 => ?_
  have hj : j < 40 := by simpa [seenL] using h2
  have hr : (seenL out (i + 1))[j] = B (decide ((j : Int) ∈ out.take (i + 1))) := by simp [seenL]
  refine Eq.trans ?_ hr.symm
  rw [List.take_succ_eq_append_getElem hi, e0]
  by_cases hjk : j < k
  · rw [List.getElem_append_left (by simp [seenL]; omega)]
    have : ¬ (j : Int) = (k : Int) := by omega
    simp [seenL, this]
  · have hlk : ((seenL out i).take k).length = k := by simp [seenL]; omega
    rw [List.getElem_append_right (by omega)]
    by_cases hjk2 : j = k
    · subst hjk2
      simp [hlk]
    · have e1 : j - ((seenL out i).take k).length = (j - k - 1) + 1 := by omega
      simp only [e1, List.getElem_cons_succ, List.getElem_drop]
      have : ¬ (j : Int) = (k : Int) := by omega
      have e2 : k + 1 + (j - k - 1) = j := by omega
      simp [seenL, this, e2]
theorem seenL_zero (out : List Int) : seenL out 0 = List.replicate 40 (B false) := by simp [seenL]; rfl

set_option maxRecDepth 100000 in
set_option maxHeartbeats 4000000 in
theorem law5 (flights piles : Int) (l : List Int) (hf : I64 flights) (hp : I64 piles) (hl1 : l.length ≤ 9223372036854775807) (hl2 : ∀ x ∈ l, I64 x) :
    Sat Try.prog 5 [I flights, I piles, IS l] [] (B true) [] := by
  have hF : Fits (l.take 2000) := ⟨by simp [List.length_take]; omega, fun x hx => hl2 x (List.mem_of_mem_take hx)⟩
  have hnb := modI_lt (x := flights) (n := 40) (by omega)
  have hqb := modI_lt (x := piles) (n := 8) (by omega)
  have hmn := mod_sat flights 40 hf.1 hf.2 (by omega)
  have hmq := mod_sat piles 8 hp.1 hp.2 (by omega)
  generalize modI flights 40 = n0 at *
  generalize modI piles 8 = q0 at *
  obtain ⟨n, hn⟩ := Int.eq_ofNat_of_zero_le (show 0 ≤ 1 + n0 by omega)
  obtain ⟨q, hq⟩ := Int.eq_ofNat_of_zero_le (show 0 ≤ 2 + q0 by omega)
  have hok : okR n q := by unfold okR; omega
  have hpl := plan_sat n q
  rw [planR, if_pos hok] at hpl
  simp only [Int.toNat_natCast] at hpl
  have hpg : Good (planL n q (kOf n q)) n q := plan_good (by omega)
  have hps := plan_sorts (n := n) (q := q) (by omega) (by omega)
  have hkb := (kOf_small hok).1
  simp only [Int.toNat_natCast] at hkb
  have hpll : (planL n q (kOf n q)).length = kOf n q := by simp [planL]
  have hcode : ∀ x, x < n → codeF q (planL n q (kOf n q)) 1 (fun _ => 0) x = (x : Int) := fun x hx => plan_codeF (by omega) hx (kOf_spec (f := n) (by omega) (by omega)).2
  have hshort : Short (planL n q (kOf n q)) := ⟨by omega, fun x hx => by rw [(hpg x hx).1]; omega⟩
  generalize planL n q (kOf n q) = ps at *
  refine Sat_of_awp (T := tab) tab_ok Try.func5 rfl (by rfl) (by simp [Try.ntmps5]) ?_
  intro w Z blks hb
  have hl : blks.length ≤ 100 := by rw [hb]; simp
  rw [Try.ntmps5]
  simp only [tm0, hp0, List.zipIdx, List.map]
  repeat ((repeat first | refine awp_seq ?_ | refine awp_skip ?_ | refine awp_block ?_); refine awp_region tab_ok hl rfl fun K hK => ?_; simp only [go_sem, ne_eq, Nat.reduceAdd, Nat.reduceSub, Nat.reduceMul, Nat.reduceLT, Nat.reduceEqDiff, Nat.reduceBEq, Nat.reduceLeDiff, Int.reduceToNat, ↓reduceIte, Int.reduceEq, Int.reduceLT, Int.reduceLE, Int.reduceAdd, Int.reduceSub, Int.reduceNeg, reduceCtorEq]; (repeat ((with_reducible refine And.intro ?_ ?_); focus ((repeat' apply And.intro) <;> first | omega | simp))); refine hK _ ?_; clear hK K)
  (repeat first | refine awp_seq ?_ | refine awp_skip ?_ | refine awp_block ?_); refine awp_region tab_ok hl rfl fun K hK => ?_; simp only [go_sem, ne_eq, Nat.reduceAdd, Nat.reduceSub, Nat.reduceMul, Nat.reduceLT, Nat.reduceEqDiff, Nat.reduceBEq, Nat.reduceLeDiff, Int.reduceToNat, ↓reduceIte, Int.reduceEq, Int.reduceLT, Int.reduceLE, Int.reduceAdd, Int.reduceSub, Int.reduceNeg, reduceCtorEq]
  refine callB ⟨trivial, trivial⟩ (new_sat l hl1) ?_
  generalize l.take 2000 = s at *
  simp only [go_sem, ne_eq, Nat.reduceAdd, Nat.reduceSub, Nat.reduceMul, Nat.reduceLT, Nat.reduceEqDiff, Nat.reduceBEq, Nat.reduceLeDiff, Int.reduceToNat, ↓reduceIte, Int.reduceEq, Int.reduceLT, Int.reduceLE, Int.reduceAdd, Int.reduceSub, Int.reduceNeg, reduceCtorEq]
  (repeat ((with_reducible refine And.intro ?_ ?_); focus ((repeat' apply And.intro) <;> first | omega | simp))); refine hK _ ?_; clear hK K
  (repeat first | refine awp_seq ?_ | refine awp_skip ?_ | refine awp_block ?_); refine awp_region tab_ok hl rfl fun K hK => ?_; simp only [go_sem, ne_eq, Nat.reduceAdd, Nat.reduceSub, Nat.reduceMul, Nat.reduceLT, Nat.reduceEqDiff, Nat.reduceBEq, Nat.reduceLeDiff, Int.reduceToNat, ↓reduceIte, Int.reduceEq, Int.reduceLT, Int.reduceLE, Int.reduceAdd, Int.reduceSub, Int.reduceNeg, reduceCtorEq]
  refine callF ⟨trivial, trivial, trivial⟩ hmn rfl ?_
  simp only [go_sem, ne_eq, Nat.reduceAdd, Nat.reduceSub, Nat.reduceMul, Nat.reduceLT, Nat.reduceEqDiff, Nat.reduceBEq, Nat.reduceLeDiff, Int.reduceToNat, ↓reduceIte, Int.reduceEq, Int.reduceLT, Int.reduceLE, Int.reduceAdd, Int.reduceSub, Int.reduceNeg, reduceCtorEq]
  (repeat ((with_reducible refine And.intro ?_ ?_); focus ((repeat' apply And.intro) <;> first | omega | simp)))
  refine callF ⟨trivial, trivial, trivial⟩ hmq rfl ?_
  simp only [go_sem, ne_eq, Nat.reduceAdd, Nat.reduceSub, Nat.reduceMul, Nat.reduceLT, Nat.reduceEqDiff, Nat.reduceBEq, Nat.reduceLeDiff, Int.reduceToNat, ↓reduceIte, Int.reduceEq, Int.reduceLT, Int.reduceLE, Int.reduceAdd, Int.reduceSub, Int.reduceNeg, reduceCtorEq]
  (repeat ((with_reducible refine And.intro ?_ ?_); focus ((repeat' apply And.intro) <;> first | omega | simp))); refine hK _ ?_; clear hK K
  rw [hn, hq]
  (repeat first | refine awp_seq ?_ | refine awp_skip ?_ | refine awp_block ?_); refine awp_region tab_ok hl rfl fun K hK => ?_; simp only [go_sem, ne_eq, Nat.reduceAdd, Nat.reduceSub, Nat.reduceMul, Nat.reduceLT, Nat.reduceEqDiff, Nat.reduceBEq, Nat.reduceLeDiff, Int.reduceToNat, ↓reduceIte, Int.reduceEq, Int.reduceLT, Int.reduceLE, Int.reduceAdd, Int.reduceSub, Int.reduceNeg, reduceCtorEq]
  refine callP ⟨trivial, trivial, trivial⟩ hpl ?_
  simp only [go_sem, ne_eq, Nat.reduceAdd, Nat.reduceSub, Nat.reduceMul, Nat.reduceLT, Nat.reduceEqDiff, Nat.reduceBEq, Nat.reduceLeDiff, Int.reduceToNat, ↓reduceIte, Int.reduceEq, Int.reduceLT, Int.reduceLE, Int.reduceAdd, Int.reduceSub, Int.reduceNeg, reduceCtorEq]
  (repeat ((with_reducible refine And.intro ?_ ?_); focus ((repeat' apply And.intro) <;> first | omega | simp))); refine hK _ ?_; clear hK K
  (repeat first | refine awp_seq ?_ | refine awp_skip ?_ | refine awp_block ?_); refine awp_region tab_ok hl rfl fun K hK => ?_; simp only [go_sem, ne_eq, Nat.reduceAdd, Nat.reduceSub, Nat.reduceMul, Nat.reduceLT, Nat.reduceEqDiff, Nat.reduceBEq, Nat.reduceLeDiff, Int.reduceToNat, ↓reduceIte, Int.reduceEq, Int.reduceLT, Int.reduceLE, Int.reduceAdd, Int.reduceSub, Int.reduceNeg, reduceCtorEq]
  refine callL rfl ⟨trivial, trivial, trivial⟩ ⟨trivial, trivial, trivial⟩ (by simp [refs1, refs2]) (row_sat s 0 n 40 hF (Nat.zero_le _) (by omega) (by omega)) ?_
  have hrk : rowK s 0 40 ≤ 40 := by
    have := modI_lt (x := s.getD 0 0) (n := (40 : Int) + 1) (by omega)
    unfold rowK; omega
  have hxl := draws_length s (0 + 1) n (rowK s 0 40)
  have hxm : ∀ b ∈ draws s (0 + 1) n (rowK s 0 40), 0 ≤ b ∧ b < (n : Int) := draws_mem (by omega)
  generalize draws s (0 + 1) n (rowK s 0 40) = x at *
  simp only [go_sem, ne_eq, Nat.reduceAdd, Nat.reduceSub, Nat.reduceMul, Nat.reduceLT, Nat.reduceEqDiff, Nat.reduceBEq, Nat.reduceLeDiff, Int.reduceToNat, ↓reduceIte, Int.reduceEq, Int.reduceLT, Int.reduceLE, Int.reduceAdd, Int.reduceSub, Int.reduceNeg, reduceCtorEq]
  (repeat ((with_reducible refine And.intro ?_ ?_); focus ((repeat' apply And.intro) <;> first | omega | simp))); refine hK _ ?_; clear hK K
  obtain ⟨out, _, hso, ho⟩ := sortR_spec (bags := x) (ps := ps) (q := q) (m := n) (by omega) (by omega) (by omega) (by omega) hxm hpg
  have hol := ho.len
  (repeat first | refine awp_seq ?_ | refine awp_skip ?_ | refine awp_block ?_); refine awp_region tab_ok hl rfl fun K hK => ?_; simp only [go_sem, ne_eq, Nat.reduceAdd, Nat.reduceSub, Nat.reduceMul, Nat.reduceLT, Nat.reduceEqDiff, Nat.reduceBEq, Nat.reduceLeDiff, Int.reduceToNat, ↓reduceIte, Int.reduceEq, Int.reduceLT, Int.reduceLE, Int.reduceAdd, Int.reduceSub, Int.reduceNeg, reduceCtorEq]
  refine callP ⟨trivial, trivial, trivial, trivial⟩ (hso ▸ sort_sat x ps q (by omega) hshort) ?_
  simp only [go_sem, ne_eq, Nat.reduceAdd, Nat.reduceSub, Nat.reduceMul, Nat.reduceLT, Nat.reduceEqDiff, Nat.reduceBEq, Nat.reduceLeDiff, Int.reduceToNat, ↓reduceIte, Int.reduceEq, Int.reduceLT, Int.reduceLE, Int.reduceAdd, Int.reduceSub, Int.reduceNeg, reduceCtorEq]
  (repeat ((with_reducible refine And.intro ?_ ?_); focus ((repeat' apply And.intro) <;> first | omega | simp))); refine hK _ ?_; clear hK K
  have hss := sorts_sat ps n hshort
  rw [decide_eq_true hps] at hss
  (repeat first | refine awp_seq ?_ | refine awp_skip ?_ | refine awp_block ?_); refine awp_region tab_ok hl rfl fun K hK => ?_; simp only [go_sem, ne_eq, Nat.reduceAdd, Nat.reduceSub, Nat.reduceMul, Nat.reduceLT, Nat.reduceEqDiff, Nat.reduceBEq, Nat.reduceLeDiff, Int.reduceToNat, ↓reduceIte, Int.reduceEq, Int.reduceLT, Int.reduceLE, Int.reduceAdd, Int.reduceSub, Int.reduceNeg, reduceCtorEq, hol]
  refine callF ⟨trivial, trivial, trivial⟩ hss rfl ?_
  simp only [go_sem, ne_eq, Nat.reduceAdd, Nat.reduceSub, Nat.reduceMul, Nat.reduceLT, Nat.reduceEqDiff, Nat.reduceBEq, Nat.reduceLeDiff, Int.reduceToNat, ↓reduceIte, Int.reduceEq, Int.reduceLT, Int.reduceLE, Int.reduceAdd, Int.reduceSub, Int.reduceNeg, reduceCtorEq]
  (repeat ((with_reducible refine And.intro ?_ ?_); focus ((repeat' apply And.intro) <;> first | omega | simp))); refine hK _ ?_; clear hK K
  (repeat first | refine awp_seq ?_ | refine awp_skip ?_ | refine awp_block ?_); refine condF rfl ?_
  repeat ((repeat first | refine awp_seq ?_ | refine awp_skip ?_ | refine awp_block ?_); refine awp_region tab_ok hl rfl fun K hK => ?_; simp only [go_sem, ne_eq, Nat.reduceAdd, Nat.reduceSub, Nat.reduceMul, Nat.reduceLT, Nat.reduceEqDiff, Nat.reduceBEq, Nat.reduceLeDiff, Int.reduceToNat, ↓reduceIte, Int.reduceEq, Int.reduceLT, Int.reduceLE, Int.reduceAdd, Int.reduceSub, Int.reduceNeg, reduceCtorEq]; (repeat ((with_reducible refine And.intro ?_ ?_); focus ((repeat' apply And.intro) <;> first | omega | simp))); refine hK _ ?_; clear hK K)
  (repeat first | refine awp_seq ?_ | refine awp_skip ?_ | refine awp_block ?_)
  refine awp_loopW (fun i : Nat × Nat × Nat => ⟨[(12, IS x), (13, IS out), (15, .ptO 115 i.2.2 0 0 0), (61, IS out), (62, I out.length), (63, I i.2.1)], [(115, some (i.2.2, .box (seenL out i.2.1)))], i.1⟩) (fun i => i.2.1 ≤ out.length) (fun i => out.length - i.2.1) (_, 0, _) (Nat.zero_le _) (.of (Nat.le_refl _) (.cons ?_ .nil) (.cons rfl (.cons rfl (.cons rfl (.cons rfl (.cons rfl (.cons rfl .nil))))))) ?_
  · rw [seenL_zero]; rfl
  rintro ⟨ck, i, g⟩ hi
  simp only at hi
  have hsl := seenL_length out i
  repeat ((repeat first | refine awp_seq ?_ | refine awp_skip ?_ | refine awp_block ?_); refine awp_region tab_ok hl rfl fun K hK => ?_; simp only [go_sem, ne_eq, Nat.reduceAdd, Nat.reduceSub, Nat.reduceMul, Nat.reduceLT, Nat.reduceEqDiff, Nat.reduceBEq, Nat.reduceLeDiff, Int.reduceToNat, ↓reduceIte, Int.reduceEq, Int.reduceLT, Int.reduceLE, Int.reduceAdd, Int.reduceSub, Int.reduceNeg, reduceCtorEq]; (repeat ((with_reducible refine And.intro ?_ ?_); focus ((repeat' apply And.intro) <;> first | omega | simp))); refine hK _ ?_; clear hK K)
  (repeat first | refine awp_seq ?_ | refine awp_skip ?_ | refine awp_block ?_); refine condP _ rfl (fun e => ?_) (fun e => ?_)
  case refine_2 =>
    refine awp_exit ?_
    repeat ((repeat first | refine awp_seq ?_ | refine awp_skip ?_ | refine awp_block ?_); refine awp_region tab_ok hl rfl fun K hK => ?_; simp only [go_sem, ne_eq, Nat.reduceAdd, Nat.reduceSub, Nat.reduceMul, Nat.reduceLT, Nat.reduceEqDiff, Nat.reduceBEq, Nat.reduceLeDiff, Int.reduceToNat, ↓reduceIte, Int.reduceEq, Int.reduceLT, Int.reduceLE, Int.reduceAdd, Int.reduceSub, Int.reduceNeg, reduceCtorEq]; (repeat ((with_reducible refine And.intro ?_ ?_); focus ((repeat' apply And.intro) <;> first | omega | simp))); refine hK _ ?_; clear hK K)
    (repeat first | refine awp_seq ?_ | refine awp_skip ?_ | refine awp_block ?_); refine awp_region tab_ok hl rfl fun K hK => ?_; simp only [go_sem, ne_eq, Nat.reduceAdd, Nat.reduceSub, Nat.reduceMul, Nat.reduceLT, Nat.reduceEqDiff, Nat.reduceBEq, Nat.reduceLeDiff, Int.reduceToNat, ↓reduceIte, Int.reduceEq, Int.reduceLT, Int.reduceLE, Int.reduceAdd, Int.reduceSub, Int.reduceNeg, reduceCtorEq]
    refine callF trivial awake_sat rfl ?_
    simp only [go_sem, ne_eq, Nat.reduceAdd, Nat.reduceSub, Nat.reduceMul, Nat.reduceLT, Nat.reduceEqDiff, Nat.reduceBEq, Nat.reduceLeDiff, Int.reduceToNat, ↓reduceIte, Int.reduceEq, Int.reduceLT, Int.reduceLE, Int.reduceAdd, Int.reduceSub, Int.reduceNeg, reduceCtorEq]
    (repeat ((with_reducible refine And.intro ?_ ?_); focus ((repeat' apply And.intro) <;> first | omega | simp))); refine hK _ ?_; clear hK K
    refine awp_ret ⟨trivial, trivial, ?_, rfl, fun j hj => by cases hj⟩
    rfl
  have hlt : i < out.length := by omega
  have hm := ho.mem _ (getD_memI hlt)
  obtain ⟨k, hk⟩ := Int.eq_ofNat_of_zero_le hm.1
  have hig := ints_getD hlt
  have hset := seenL_set (k := k) (by omega) hlt hk
  have hkx : k < x.length := by omega
  have hnm : ¬ (k : Int) ∈ out.take i := by
    intro hmem
    obtain ⟨j, hj, hjk⟩ := mem_getDI hmem
    have hj' : j < i ∧ j < out.length := by simp at hj; omega
    have h1 := pairwise_getD ho.pair hj'.1 hlt
    have h2 : (out.take i).getD j 0 = out.getD j 0 := by simp [hj'.1, List.getD_eq_getElem?_getD, List.getElem?_take]
    rw [h2] at hjk
    rw [hjk, hk] at h1
    rcases h1 with h1 | ⟨_, h1⟩ <;> omega
  have hdrop := seenL_drop (out := out) (i := i) (k := k) (by omega)
  rw [decide_eq_false hnm] at hdrop
  rw [hk] at hig hm
  have hkn : ¬ (k : Int) < 0 := by omega
  have hkl : ¬ (x.length : Int) ≤ k := by omega
  repeat ((repeat first | refine awp_seq ?_ | refine awp_skip ?_ | refine awp_block ?_); refine awp_region tab_ok hl rfl fun K hK => ?_; simp only [go_sem, ne_eq, Nat.reduceAdd, Nat.reduceSub, Nat.reduceMul, Nat.reduceLT, Nat.reduceEqDiff, Nat.reduceBEq, Nat.reduceLeDiff, Int.reduceToNat, ↓reduceIte, Int.reduceEq, Int.reduceLT, Int.reduceLE, Int.reduceAdd, Int.reduceSub, Int.reduceNeg, reduceCtorEq, hig]; (repeat ((with_reducible refine And.intro ?_ ?_); focus ((repeat' apply And.intro) <;> first | omega | simp))); refine hK _ ?_; clear hK K)
  repeat ((repeat first | refine awp_seq ?_ | refine awp_skip ?_ | refine awp_block ?_); refine awp_region tab_ok hl rfl fun K hK => ?_; simp only [go_sem, ne_eq, Nat.reduceAdd, Nat.reduceSub, Nat.reduceMul, Nat.reduceLT, Nat.reduceEqDiff, Nat.reduceBEq, Nat.reduceLeDiff, Int.reduceToNat, ↓reduceIte, Int.reduceEq, Int.reduceLT, Int.reduceLE, Int.reduceAdd, Int.reduceSub, Int.reduceNeg, reduceCtorEq, hkn, hkl, hsl, hdrop, Nat.mul_one, List.length_drop]; (repeat ((with_reducible refine And.intro ?_ ?_); focus ((repeat' apply And.intro) <;> first | omega | simp))); refine hK _ ?_; clear hK K)
  (repeat first | refine awp_seq ?_ | refine awp_skip ?_ | refine awp_block ?_); refine condF rfl ?_
  repeat ((repeat first | refine awp_seq ?_ | refine awp_skip ?_ | refine awp_block ?_); refine awp_region tab_ok hl rfl fun K hK => ?_; simp only [go_sem, ne_eq, Nat.reduceAdd, Nat.reduceSub, Nat.reduceMul, Nat.reduceLT, Nat.reduceEqDiff, Nat.reduceBEq, Nat.reduceLeDiff, Int.reduceToNat, ↓reduceIte, Int.reduceEq, Int.reduceLT, Int.reduceLE, Int.reduceAdd, Int.reduceSub, Int.reduceNeg, reduceCtorEq, hsl, Nat.mul_one]; (repeat ((with_reducible refine And.intro ?_ ?_); focus ((repeat' apply And.intro) <;> first | omega | simp))); refine hK _ ?_; clear hK K)
  rw [hset]
  by_cases hi0 : i = 0
  · subst hi0
    have h00 : ¬ (0 : Int) < ((0 : Nat) : Int) := by omega
    (repeat first | refine awp_seq ?_ | refine awp_skip ?_ | refine awp_block ?_); refine awp_region_still tab_ok hl (by kernel_rfl) (by kernel_rfl) rfl fun K hK => ?_; simp only [go_sem, ne_eq, Nat.reduceAdd, Nat.reduceSub, Nat.reduceMul, Nat.reduceLT, Nat.reduceEqDiff, Nat.reduceBEq, Nat.reduceLeDiff, Int.reduceToNat, ↓reduceIte, Int.reduceEq, Int.reduceLT, Int.reduceLE, Int.reduceAdd, Int.reduceSub, Int.reduceNeg, reduceCtorEq, h00]; (repeat ((with_reducible refine And.intro ?_ ?_); focus (((repeat' apply And.intro) <;> first | omega | simp)))); refine hK _ ?_; clear hK K
    (repeat first | refine awp_seq ?_ | refine awp_skip ?_ | refine awp_block ?_); refine condF rfl ?_
    repeat ((repeat first | refine awp_seq ?_ | refine awp_skip ?_ | refine awp_block ?_); refine awp_region tab_ok hl rfl fun K hK => ?_; simp only [go_sem, ne_eq, Nat.reduceAdd, Nat.reduceSub, Nat.reduceMul, Nat.reduceLT, Nat.reduceEqDiff, Nat.reduceBEq, Nat.reduceLeDiff, Int.reduceToNat, ↓reduceIte, Int.reduceEq, Int.reduceLT, Int.reduceLE, Int.reduceAdd, Int.reduceSub, Int.reduceNeg, reduceCtorEq]; (repeat ((with_reducible refine And.intro ?_ ?_); focus ((repeat' apply And.intro) <;> first | omega | simp))); refine hK _ ?_; clear hK K)
    refine ⟨(_, 1, g), by simp only; omega, by simp only; omega, .of (Nat.le_refl _) (.cons rfl .nil) (by repeat (first | exact WOk.nil | refine WOk.cons rfl ?_))⟩
  have hpos : (0 : Int) < i := by omega
  have e1 : (i : Int) - 1 = ((i - 1 : Nat) : Int) := by omega
  have hlt1 : i - 1 < out.length := by omega
  have hm1 := ho.mem _ (getD_memI hlt1)
  obtain ⟨o, ho'⟩ := Int.eq_ofNat_of_zero_le hm1.1
  have hig1 := ints_getD hlt1
  rw [ho'] at hig1 hm1
  have hox : o < x.length := by omega
  have hpair := pairwise_getD ho.pair (a := i - 1) (b := i) (by omega) hlt
  rw [ho', hk] at hpair
  unfold Ahead at hpair
  simp only [Int.toNat_natCast] at hpair
  have hbo := hxm _ (getD_memI hox)
  have hbk := hxm _ (getD_memI hkx)
  rw [hcode _ (by omega), hcode _ (by omega)] at hpair
  have hngt : ¬ x.getD k 0 < x.getD o 0 := by omega
  by_cases heq : x.getD o 0 = x.getD k 0
  · have hnlt : ¬ (k : Int) < o := by omega
    (repeat first | refine awp_seq ?_ | refine awp_skip ?_ | refine awp_block ?_); refine awp_region_still tab_ok hl (by kernel_rfl) (by kernel_rfl) rfl fun K hK => ?_; simp only [go_sem, ne_eq, Nat.reduceAdd, Nat.reduceSub, Nat.reduceMul, Nat.reduceLT, Nat.reduceEqDiff, Nat.reduceBEq, Nat.reduceLeDiff, Int.reduceToNat, ↓reduceIte, Int.reduceEq, Int.reduceLT, Int.reduceLE, Int.reduceAdd, Int.reduceSub, Int.reduceNeg, reduceCtorEq, hpos, e1, hig1, ints_getD hox, ints_getD hkx, hngt, heq, hnlt, Int.lt_irrefl]; (repeat ((with_reducible refine And.intro ?_ ?_); focus (((repeat' apply And.intro) <;> first | omega | simp)))); refine hK _ ?_; clear hK K
    (repeat first | refine awp_seq ?_ | refine awp_skip ?_ | refine awp_block ?_); refine condF rfl ?_
    repeat ((repeat first | refine awp_seq ?_ | refine awp_skip ?_ | refine awp_block ?_); refine awp_region tab_ok hl rfl fun K hK => ?_; simp only [go_sem, ne_eq, Nat.reduceAdd, Nat.reduceSub, Nat.reduceMul, Nat.reduceLT, Nat.reduceEqDiff, Nat.reduceBEq, Nat.reduceLeDiff, Int.reduceToNat, ↓reduceIte, Int.reduceEq, Int.reduceLT, Int.reduceLE, Int.reduceAdd, Int.reduceSub, Int.reduceNeg, reduceCtorEq]; (repeat ((with_reducible refine And.intro ?_ ?_); focus ((repeat' apply And.intro) <;> first | omega | simp))); refine hK _ ?_; clear hK K)
    refine ⟨(_, i + 1, g), by simp only; omega, by simp only; omega, .of (Nat.le_refl _) (.cons rfl .nil) (by repeat (first | exact WOk.nil | refine WOk.cons rfl ?_))⟩
  · (repeat first | refine awp_seq ?_ | refine awp_skip ?_ | refine awp_block ?_); refine awp_region_still tab_ok hl (by kernel_rfl) (by kernel_rfl) rfl fun K hK => ?_; simp only [go_sem, ne_eq, Nat.reduceAdd, Nat.reduceSub, Nat.reduceMul, Nat.reduceLT, Nat.reduceEqDiff, Nat.reduceBEq, Nat.reduceLeDiff, Int.reduceToNat, ↓reduceIte, Int.reduceEq, Int.reduceLT, Int.reduceLE, Int.reduceAdd, Int.reduceSub, Int.reduceNeg, reduceCtorEq, hpos, e1, hig1, ints_getD hox, ints_getD hkx, hngt, heq]; (repeat ((with_reducible refine And.intro ?_ ?_); focus (((repeat' apply And.intro) <;> first | omega | simp)))); refine hK _ ?_; clear hK K
    (repeat first | refine awp_seq ?_ | refine awp_skip ?_ | refine awp_block ?_); refine condF rfl ?_
    repeat ((repeat first | refine awp_seq ?_ | refine awp_skip ?_ | refine awp_block ?_); refine awp_region tab_ok hl rfl fun K hK => ?_; simp only [go_sem, ne_eq, Nat.reduceAdd, Nat.reduceSub, Nat.reduceMul, Nat.reduceLT, Nat.reduceEqDiff, Nat.reduceBEq, Nat.reduceLeDiff, Int.reduceToNat, ↓reduceIte, Int.reduceEq, Int.reduceLT, Int.reduceLE, Int.reduceAdd, Int.reduceSub, Int.reduceNeg, reduceCtorEq]; (repeat ((with_reducible refine And.intro ?_ ?_); focus ((repeat' apply And.intro) <;> first | omega | simp))); refine hK _ ?_; clear hK K)
    refine ⟨(_, i + 1, g), by simp only; omega, by simp only; omega, .of (Nat.le_refl _) (.cons rfl .nil) (by repeat (first | exact WOk.nil | refine WOk.cons rfl ?_))⟩
end Go.Proofs.Ytmjlnndnpdbagaa
