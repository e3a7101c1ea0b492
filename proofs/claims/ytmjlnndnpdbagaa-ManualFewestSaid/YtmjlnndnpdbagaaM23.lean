import Derived.Test.YtmjlnndnpdbagaaMP3
import Derived.Test.YtmjlnndnpdbagaaSym32
set_option linter.all false
set_option linter.unusedSimpArgs false
set_option linter.unusedVariables false
set_option linter.deprecated false
namespace Go.Proofs.Ytmjlnndnpdbagaa
open Go Go.Sym

theorem sortGo_append {bags : List Int} {q : Int} : ∀ {a b : List (List Int)} {out o1 : List Int}, sortGo bags q a out = (0, o1) → sortGo bags q (a ++ b) out = sortGo bags q b o1
  | [], b, out, o1, h => by simp only [sortGo, Prod.mk.injEq, true_and] at h; subst h; rfl
  | p :: a, b, out, o1, h => by
    rw [sortGo] at h
    rw [List.cons_append, sortGo]
    split at h
    · rename_i he; rw [if_pos he]; exact sortGo_append h
    · rename_i he; simp only [Prod.mk.injEq] at h; exact absurd h.1 he

theorem nextOf_length (a b : List Int) : (nextOf a b).length = b.length := by simp [nextOf]
theorem rowOf_length (a b : List Int) : (rowOf a b).length = b.length := by simp [rowOf]

theorem sortGo_next {x first : List Int} {q : Int} : ∀ {ps : List (List Int)} {o o2 : List Int}, (∀ k ∈ o, 0 ≤ k ∧ k < first.length) → sortGo (rowOf x first) q ps o = (0, o2) → sortGo x q ps (nextOf first o) = (0, nextOf first o2)
  | [], o, o2, _, h => by simp only [sortGo, Prod.mk.injEq, true_and] at h ⊢; rw [h]
  | p :: ps, o, o2, ho, h => by
    have e1 : rowOf x (nextOf first o) = rowOf (rowOf x first) o := by
      simp only [rowOf, nextOf, List.map_map]
      refine List.map_congr_left fun k hk => ?_
      have := ho k hk
      simp only [Function.comp_apply]
      rw [getD_mapO (by omega)]
    rw [sortGo] at h ⊢
    rw [e1]
    split at h
    · rename_i he
      rw [if_pos he]
      have hm : ∀ k ∈ performL (rowOf (rowOf x first) o) p, 0 ≤ k ∧ k < o.length := fun k hk => by rw [← rowOf_length (rowOf x first) o]; exact performL_mem hk
      have e2 : nextOf (nextOf first o) (performL (rowOf (rowOf x first) o) p) = nextOf first (nextOf o (performL (rowOf (rowOf x first) o) p)) := by
        simp only [nextOf, List.map_map]
        refine List.map_congr_left fun k hk => ?_
        have := hm k hk
        simp only [Function.comp_apply]
        rw [getD_mapO (by omega)]
      rw [e2]
      refine sortGo_next (fun k hk => ?_) h
      simp only [nextOf, List.mem_map] at hk
      obtain ⟨y, hy, rfl⟩ := hk
      have := hm y hy
      exact ho _ (getD_memI (by omega))
    · rename_i he; simp only [Prod.mk.injEq] at h; exact absurd h.1 he

theorem nextOf_iota (first : List Int) : nextOf first (iota first.length) = first := rowOf_iota first

theorem passL_good {l : List Int} {a m k : Nat} {q : Int} (hq : 1 ≤ q) : Good (passL l a m q m k) m q := by
  intro p hp
  obtain ⟨b, rfl⟩ := passL_mem hp
  exact ⟨draws_length _ _ _ _, fun d hd => by have := draws_mem hq d hd; omega⟩

theorem Good.short {ps : List (List Int)} {m : Nat} {q : Int} (h : Good ps m q) (hm : m ≤ 1000) (hl : ps.length ≤ 1000) : Short ps := ⟨by omega, fun x hx => by rw [(h x hx).1]; omega⟩
theorem Good.take {ps : List (List Int)} {m : Nat} {q : Int} (h : Good ps m q) (k : Nat) : Good (ps.take k) m q := fun p hp => h p (List.mem_of_mem_take hp)
theorem Good.drop {ps : List (List Int)} {m : Nat} {q : Int} (h : Good ps m q) (k : Nat) : Good (ps.drop k) m q := fun p hp => h p (List.mem_of_mem_drop hp)

set_option maxRecDepth 100000 in
set_option maxHeartbeats 4000000 in
theorem law8 (l : List Int) (at_ : Int) (hl1 : l.length ≤ 9223372036854775807) (hl2 : ∀ x ∈ l, I64 x) (ha : I64 at_) :
    Sat Try.prog 8 [IS l, I at_] [] (B true) [] := by
  have hF : Fits (l.take 2000) := ⟨by simp [List.length_take]; omega, fun x hx => hl2 x (List.mem_of_mem_take hx)⟩
  refine Sat_of_awp (T := tab) tab_ok Try.func8 rfl (by rfl) (by simp [Try.ntmps8]) ?_
  intro w Z blks hb
  have hl : blks.length ≤ 100 := by rw [hb]; simp
  rw [Try.ntmps8]
  simp only [tm0, hp0, List.zipIdx, List.map]
  repeat ((repeat first | refine awp_seq ?_ | refine awp_skip ?_ | refine awp_block ?_); refine awp_region tab_ok hl rfl fun K hK => ?_; simp only [go_sem, ne_eq, Nat.reduceAdd, Nat.reduceSub, Nat.reduceMul, Nat.reduceLT, Nat.reduceEqDiff, Nat.reduceBEq, Nat.reduceLeDiff, Int.reduceToNat, ↓reduceIte, Int.reduceEq, Int.reduceLT, Int.reduceLE, Int.reduceAdd, Int.reduceSub, Int.reduceNeg, reduceCtorEq]; (repeat ((with_reducible refine And.intro ?_ ?_); focus ((repeat' apply And.intro) <;> first | omega | simp))); refine hK _ ?_; clear hK K)
  (repeat first | refine awp_seq ?_ | refine awp_skip ?_ | refine awp_block ?_); refine awp_region tab_ok hl rfl fun K hK => ?_; simp only [go_sem, ne_eq, Nat.reduceAdd, Nat.reduceSub, Nat.reduceMul, Nat.reduceLT, Nat.reduceEqDiff, Nat.reduceBEq, Nat.reduceLeDiff, Int.reduceToNat, ↓reduceIte, Int.reduceEq, Int.reduceLT, Int.reduceLE, Int.reduceAdd, Int.reduceSub, Int.reduceNeg, reduceCtorEq]
  refine callB ⟨trivial, trivial⟩ (new_sat l hl1) ?_
  generalize l.take 2000 = s at *
  simp only [go_sem, ne_eq, Nat.reduceAdd, Nat.reduceSub, Nat.reduceMul, Nat.reduceLT, Nat.reduceEqDiff, Nat.reduceBEq, Nat.reduceLeDiff, Int.reduceToNat, ↓reduceIte, Int.reduceEq, Int.reduceLT, Int.reduceLE, Int.reduceAdd, Int.reduceSub, Int.reduceNeg, reduceCtorEq]
  (repeat ((with_reducible refine And.intro ?_ ?_); focus ((repeat' apply And.intro) <;> first | omega | simp))); refine hK _ ?_; clear hK K
  (repeat first | refine awp_seq ?_ | refine awp_skip ?_ | refine awp_block ?_); refine awp_region tab_ok hl rfl fun K hK => ?_; simp only [go_sem, ne_eq, Nat.reduceAdd, Nat.reduceSub, Nat.reduceMul, Nat.reduceLT, Nat.reduceEqDiff, Nat.reduceBEq, Nat.reduceLeDiff, Int.reduceToNat, ↓reduceIte, Int.reduceEq, Int.reduceLT, Int.reduceLE, Int.reduceAdd, Int.reduceSub, Int.reduceNeg, reduceCtorEq]
  refine callL rfl ⟨trivial, trivial⟩ ⟨trivial, trivial, trivial⟩ (by simp [refs1, refs2]) (n_sat s 0 9 hF (Nat.zero_le _) (by omega)) ?_
  have hn := modI_lt (x := s.getD 0 0) (n := 9) (by omega)
  simp only [go_sem, ne_eq, Nat.reduceAdd, Nat.reduceSub, Nat.reduceMul, Nat.reduceLT, Nat.reduceEqDiff, Nat.reduceBEq, Nat.reduceLeDiff, Int.reduceToNat, ↓reduceIte, Int.reduceEq, Int.reduceLT, Int.reduceLE, Int.reduceAdd, Int.reduceSub, Int.reduceNeg, reduceCtorEq]
  (repeat ((with_reducible refine And.intro ?_ ?_); focus ((repeat' apply And.intro) <;> first | omega | simp)))
  refine callL rfl ⟨trivial, trivial⟩ ⟨trivial, trivial, trivial⟩ (by simp [refs1, refs2]) (n_sat s (nxs s 0 1) 5 hF (nxs_le _ _ _) (by omega)) ?_
  have hq := modI_lt (x := s.getD (nxs s 0 1) 0) (n := 5) (by omega)
  simp only [go_sem, ne_eq, Nat.reduceAdd, Nat.reduceSub, Nat.reduceMul, Nat.reduceLT, Nat.reduceEqDiff, Nat.reduceBEq, Nat.reduceLeDiff, Int.reduceToNat, ↓reduceIte, Int.reduceEq, Int.reduceLT, Int.reduceLE, Int.reduceAdd, Int.reduceSub, Int.reduceNeg, reduceCtorEq]
  (repeat ((with_reducible refine And.intro ?_ ?_); focus ((repeat' apply And.intro) <;> first | omega | simp))); refine hK _ ?_; clear hK K
  obtain ⟨n, hN⟩ := Int.eq_ofNat_of_zero_le (show 0 ≤ 1 + modI (s.getD 0 0) 9 by omega)
  obtain ⟨q, hQ⟩ := Int.eq_ofNat_of_zero_le (show 0 ≤ 2 + modI (s.getD (nxs s 0 1) 0) 5 by omega)
  have hnb : 1 ≤ n ∧ n ≤ 9 := by omega
  have hqb : 2 ≤ q ∧ q ≤ 6 := by omega
  rw [hN, hQ]
  clear hN hQ hn hq
  have ha1 := nxs_le s (nxs s 0 1) 1
  generalize nxs s (nxs s 0 1) 1 = a1 at *
  (repeat first | refine awp_seq ?_ | refine awp_skip ?_ | refine awp_block ?_); refine awp_region tab_ok hl rfl fun K hK => ?_; simp only [go_sem, ne_eq, Nat.reduceAdd, Nat.reduceSub, Nat.reduceMul, Nat.reduceLT, Nat.reduceEqDiff, Nat.reduceBEq, Nat.reduceLeDiff, Int.reduceToNat, ↓reduceIte, Int.reduceEq, Int.reduceLT, Int.reduceLE, Int.reduceAdd, Int.reduceSub, Int.reduceNeg, reduceCtorEq]
  refine callL rfl ⟨trivial, trivial⟩ ⟨trivial, trivial, trivial⟩ (by simp [refs1, refs2]) (n_sat s a1 6 hF ha1 (by omega)) ?_
  have hk := modI_lt (x := s.getD a1 0) (n := 6) (by omega)
  obtain ⟨kp, hkp⟩ := Int.eq_ofNat_of_zero_le hk.1
  rw [hkp] at hk ⊢
  simp only [go_sem, ne_eq, Nat.reduceAdd, Nat.reduceSub, Nat.reduceMul, Nat.reduceLT, Nat.reduceEqDiff, Nat.reduceBEq, Nat.reduceLeDiff, Int.reduceToNat, ↓reduceIte, Int.reduceEq, Int.reduceLT, Int.reduceLE, Int.reduceAdd, Int.reduceSub, Int.reduceNeg, reduceCtorEq]
  refine callL rfl ⟨trivial, trivial, trivial, trivial⟩ ⟨trivial, trivial, trivial⟩ (by simp [refs1, refs2]) (passes_sat' s (nxs s a1 1) kp n q hF (nxs_le _ _ _) (by omega) (by omega) (by omega)) ?_
  have hpg : Good (passL s (nxs s a1 1) n q n kp) n q := passL_good (by omega)
  have hpl := passL_length s (nxs s a1 1) n q n kp
  have ha2 := nxs_le s (nxs s a1 1) (kp * n)
  generalize passL s (nxs s a1 1) n q n kp = p at *
  generalize nxs s (nxs s a1 1) (kp * n) = a2 at *
  simp only [go_sem, ne_eq, Nat.reduceAdd, Nat.reduceSub, Nat.reduceMul, Nat.reduceLT, Nat.reduceEqDiff, Nat.reduceBEq, Nat.reduceLeDiff, Int.reduceToNat, ↓reduceIte, Int.reduceEq, Int.reduceLT, Int.reduceLE, Int.reduceAdd, Int.reduceSub, Int.reduceNeg, reduceCtorEq]
  refine callL rfl ⟨trivial, trivial, trivial⟩ ⟨trivial, trivial, trivial⟩ (by simp [refs1, refs2]) (row_sat s a2 n 25 hF ha2 (by omega) (by omega)) ?_
  have hrk : rowK s a2 25 ≤ 25 := by
    have := modI_lt (x := s.getD a2 0) (n := (25 : Int) + 1) (by omega)
    unfold rowK; omega
  have hxl := draws_length s (a2 + 1) n (rowK s a2 25)
  have hxm : ∀ b ∈ draws s (a2 + 1) n (rowK s a2 25), 0 ≤ b ∧ b < (n : Int) := draws_mem (by omega)
  generalize draws s (a2 + 1) n (rowK s a2 25) = x at *
  simp only [go_sem, ne_eq, Nat.reduceAdd, Nat.reduceSub, Nat.reduceMul, Nat.reduceLT, Nat.reduceEqDiff, Nat.reduceBEq, Nat.reduceLeDiff, Int.reduceToNat, ↓reduceIte, Int.reduceEq, Int.reduceLT, Int.reduceLE, Int.reduceAdd, Int.reduceSub, Int.reduceNeg, reduceCtorEq]
  (repeat ((with_reducible refine And.intro ?_ ?_); focus ((repeat' apply And.intro) <;> first | omega | simp))); refine hK _ ?_; clear hK K
  have hsh := hpg.short (by omega) (by omega)
  have hkm := modI_lt (x := at_) (n := (kp : Int) + 1) (by omega)
  (repeat first | refine awp_seq ?_ | refine awp_skip ?_ | refine awp_block ?_); refine awp_region tab_ok hl rfl fun K hK => ?_; simp only [go_sem, ne_eq, Nat.reduceAdd, Nat.reduceSub, Nat.reduceMul, Nat.reduceLT, Nat.reduceEqDiff, Nat.reduceBEq, Nat.reduceLeDiff, Int.reduceToNat, ↓reduceIte, Int.reduceEq, Int.reduceLT, Int.reduceLE, Int.reduceAdd, Int.reduceSub, Int.reduceNeg, reduceCtorEq, hpl]
  refine ⟨(by (repeat' apply And.intro) <;> first | omega | simp), ?_⟩
  refine callF ⟨trivial, trivial, trivial⟩ (mod_sat at_ ((kp : Int) + 1) ha.1 ha.2 (by omega)) rfl ?_
  obtain ⟨k, hk2⟩ := Int.eq_ofNat_of_zero_le hkm.1
  rw [hk2] at hkm ⊢
  simp only [go_sem, ne_eq, Nat.reduceAdd, Nat.reduceSub, Nat.reduceMul, Nat.reduceLT, Nat.reduceEqDiff, Nat.reduceBEq, Nat.reduceLeDiff, Int.reduceToNat, ↓reduceIte, Int.reduceEq, Int.reduceLT, Int.reduceLE, Int.reduceAdd, Int.reduceSub, Int.reduceNeg, reduceCtorEq]
  (repeat ((with_reducible refine And.intro ?_ ?_); focus ((repeat' apply And.intro) <;> first | omega | simp))); refine hK _ ?_; clear hK K
  obtain ⟨whole, hw1, hw2, hw3⟩ := sortR_spec (bags := x) (ps := p) (q := q) (m := n) (by omega) (by omega) (by omega) (by omega) hxm hpg
  obtain ⟨first, hf1, hf2, hf3⟩ := sortR_spec (bags := x) (ps := p.take k) (q := q) (m := n) (by omega) (by omega) (by omega) (by simp; omega) hxm (hpg.take k)
  have hfl := hf3.len
  have hwl := hw3.len
  (repeat first | refine awp_seq ?_ | refine awp_skip ?_ | refine awp_block ?_); refine awp_region tab_ok hl rfl fun K hK => ?_; simp only [go_sem, ne_eq, Nat.reduceAdd, Nat.reduceSub, Nat.reduceMul, Nat.reduceLT, Nat.reduceEqDiff, Nat.reduceBEq, Nat.reduceLeDiff, Int.reduceToNat, ↓reduceIte, Int.reduceEq, Int.reduceLT, Int.reduceLE, Int.reduceAdd, Int.reduceSub, Int.reduceNeg, reduceCtorEq]
  refine callP ⟨trivial, trivial, trivial, trivial⟩ (hw2 ▸ sort_sat x p q (by omega) hsh) ?_
  simp only [go_sem, ne_eq, Nat.reduceAdd, Nat.reduceSub, Nat.reduceMul, Nat.reduceLT, Nat.reduceEqDiff, Nat.reduceBEq, Nat.reduceLeDiff, Int.reduceToNat, ↓reduceIte, Int.reduceEq, Int.reduceLT, Int.reduceLE, Int.reduceAdd, Int.reduceSub, Int.reduceNeg, reduceCtorEq]
  (repeat ((with_reducible refine And.intro ?_ ?_); focus ((repeat' apply And.intro) <;> first | omega | simp))); refine hK _ ?_; clear hK K
  have htk : (rows p).take k = rows (p.take k) := by simp [rows, List.map_take]
  have hdk : (rows p).drop k = rows (p.drop k) := by simp [rows, List.map_drop]
  (repeat first | refine awp_seq ?_ | refine awp_skip ?_ | refine awp_block ?_); refine awp_region tab_ok hl rfl fun K hK => ?_; simp only [go_sem, ne_eq, Nat.reduceAdd, Nat.reduceSub, Nat.reduceMul, Nat.reduceLT, Nat.reduceEqDiff, Nat.reduceBEq, Nat.reduceLeDiff, Int.reduceToNat, ↓reduceIte, Int.reduceEq, Int.reduceLT, Int.reduceLE, Int.reduceAdd, Int.reduceSub, Int.reduceNeg, reduceCtorEq, htk, hpl]
  (repeat ((with_reducible refine And.intro ?_ ?_); focus ((repeat' apply And.intro) <;> first | omega | simp)))
  refine callP ⟨trivial, trivial, trivial, trivial⟩ (hf2 ▸ sort_sat x (p.take k) q (by omega) ((hpg.take k).short (by omega) (by simp; omega))) ?_
  simp only [go_sem, ne_eq, Nat.reduceAdd, Nat.reduceSub, Nat.reduceMul, Nat.reduceLT, Nat.reduceEqDiff, Nat.reduceBEq, Nat.reduceLeDiff, Int.reduceToNat, ↓reduceIte, Int.reduceEq, Int.reduceLT, Int.reduceLE, Int.reduceAdd, Int.reduceSub, Int.reduceNeg, reduceCtorEq]
  (repeat ((with_reducible refine And.intro ?_ ?_); focus ((repeat' apply And.intro) <;> first | omega | simp))); refine hK _ ?_; clear hK K
  repeat ((repeat first | refine awp_seq ?_ | refine awp_skip ?_ | refine awp_block ?_); refine awp_region tab_ok hl rfl fun K hK => ?_; simp only [go_sem, ne_eq, Nat.reduceAdd, Nat.reduceSub, Nat.reduceMul, Nat.reduceLT, Nat.reduceEqDiff, Nat.reduceBEq, Nat.reduceLeDiff, Int.reduceToNat, ↓reduceIte, Int.reduceEq, Int.reduceLT, Int.reduceLE, Int.reduceAdd, Int.reduceSub, Int.reduceNeg, reduceCtorEq, hfl, hwl]; (repeat ((with_reducible refine And.intro ?_ ?_); focus ((repeat' apply And.intro) <;> first | omega | simp))); refine hK _ ?_; clear hK K)
  (repeat first | refine awp_seq ?_ | refine awp_skip ?_ | refine awp_block ?_); refine condF rfl ?_
  repeat ((repeat first | refine awp_seq ?_ | refine awp_skip ?_ | refine awp_block ?_); refine awp_region tab_ok hl rfl fun K hK => ?_; simp only [go_sem, ne_eq, Nat.reduceAdd, Nat.reduceSub, Nat.reduceMul, Nat.reduceLT, Nat.reduceEqDiff, Nat.reduceBEq, Nat.reduceLeDiff, Int.reduceToNat, ↓reduceIte, Int.reduceEq, Int.reduceLT, Int.reduceLE, Int.reduceAdd, Int.reduceSub, Int.reduceNeg, reduceCtorEq]; (repeat ((with_reducible refine And.intro ?_ ?_); focus ((repeat' apply And.intro) <;> first | omega | simp))); refine hK _ ?_; clear hK K)
  (repeat first | refine awp_seq ?_ | refine awp_skip ?_ | refine awp_block ?_)
  refine awp_loopW (fun i : Nat × Nat × Nat => ⟨[(7, I q), (8, RS p), (9, IS x), (10, I k), (11, IS whole), (13, IS first), (15, .slO 115 i.2.2 0 i.2.1), (79, IS first), (80, I first.length), (81, I i.2.1)], [(115, some (i.2.2, .own 3 1 (ints (rowOf x (first.take i.2.1)))))], i.1⟩) (fun i => i.2.1 ≤ first.length) (fun i => first.length - i.2.1) (_, 0, _) (Nat.zero_le _) (.of (Nat.le_refl _) (.cons rfl .nil) (.cons rfl (.cons rfl (.cons rfl (.cons rfl (.cons rfl (.cons rfl (.cons rfl (.cons rfl (.cons rfl (.cons rfl .nil))))))))))) ?_
  rintro ⟨ck, i, g⟩ hi
  simp only at hi
  have hrl : (rowOf x (first.take i)).length = i := by simp [rowOf]; omega
  repeat ((repeat first | refine awp_seq ?_ | refine awp_skip ?_ | refine awp_block ?_); refine awp_region tab_ok hl rfl fun K hK => ?_; simp only [go_sem, ne_eq, Nat.reduceAdd, Nat.reduceSub, Nat.reduceMul, Nat.reduceLT, Nat.reduceEqDiff, Nat.reduceBEq, Nat.reduceLeDiff, Int.reduceToNat, ↓reduceIte, Int.reduceEq, Int.reduceLT, Int.reduceLE, Int.reduceAdd, Int.reduceSub, Int.reduceNeg, reduceCtorEq]; (repeat ((with_reducible refine And.intro ?_ ?_); focus ((repeat' apply And.intro) <;> first | omega | simp))); refine hK _ ?_; clear hK K)
  (repeat first | refine awp_seq ?_ | refine awp_skip ?_ | refine awp_block ?_); refine condP _ rfl (fun e => ?_) (fun e => ?_)
  · have hlt : i < first.length := by omega
    have hm := hf3.mem _ (getD_memI hlt)
    have hxx : (first.getD i 0).toNat < x.length := by omega
    have hms := map_take_succ (fun k => x.getD k.toNat 0) first hlt
    have c1 : ¬ first.getD i 0 < 0 := by omega
    have c2 : ¬ (x.length : Int) ≤ first.getD i 0 := by omega
    repeat ((repeat first | refine awp_seq ?_ | refine awp_skip ?_ | refine awp_block ?_); refine awp_region tab_ok hl rfl fun K hK => ?_; simp only [go_sem, ne_eq, Nat.reduceAdd, Nat.reduceSub, Nat.reduceMul, Nat.reduceLT, Nat.reduceEqDiff, Nat.reduceBEq, Nat.reduceLeDiff, Int.reduceToNat, ↓reduceIte, Int.reduceEq, Int.reduceLT, Int.reduceLE, Int.reduceAdd, Int.reduceSub, Int.reduceNeg, reduceCtorEq, ints_getD hlt]; (repeat ((with_reducible refine And.intro ?_ ?_); focus ((repeat' apply And.intro) <;> first | omega | simp))); refine hK _ ?_; clear hK K)
    repeat ((repeat first | refine awp_seq ?_ | refine awp_skip ?_ | refine awp_block ?_); refine awp_region tab_ok hl rfl fun K hK => ?_; simp only [go_sem, ne_eq, Nat.reduceAdd, Nat.reduceSub, Nat.reduceMul, Nat.reduceLT, Nat.reduceEqDiff, Nat.reduceBEq, Nat.reduceLeDiff, Int.reduceToNat, ↓reduceIte, Int.reduceEq, Int.reduceLT, Int.reduceLE, Int.reduceAdd, Int.reduceSub, Int.reduceNeg, reduceCtorEq, c1, c2]; (repeat ((with_reducible refine And.intro ?_ ?_); focus ((repeat' apply And.intro) <;> first | omega | simp))); refine hK _ ?_; clear hK K)
    (repeat first | refine awp_seq ?_ | refine awp_skip ?_ | refine awp_block ?_); refine condF rfl ?_
    repeat ((repeat first | refine awp_seq ?_ | refine awp_skip ?_ | refine awp_block ?_); refine awp_region tab_ok hl rfl fun K hK => ?_; simp only [go_sem, ne_eq, Nat.reduceAdd, Nat.reduceSub, Nat.reduceMul, Nat.reduceLT, Nat.reduceEqDiff, Nat.reduceBEq, Nat.reduceLeDiff, Int.reduceToNat, ↓reduceIte, Int.reduceEq, Int.reduceLT, Int.reduceLE, Int.reduceAdd, Int.reduceSub, Int.reduceNeg, reduceCtorEq, ints_getD hxx, hrl]; (repeat ((with_reducible refine And.intro ?_ ?_); focus ((repeat' apply And.intro) <;> first | omega | simp))); refine hK _ ?_; clear hK K)
    refine ⟨(_, i + 1, g), by simp only; omega, by simp only; omega, .of (Nat.le_refl _) (.cons ?_ .nil) (by repeat (first | exact WOk.nil | refine WOk.cons rfl ?_))⟩
    show some (g, Ob.own 3 1 (ints (rowOf x (first.take i) ++ [_]))) = _
    rw [rowOf, hms]; rfl
  refine awp_exit ?_
  obtain rfl : i = first.length := by omega
  rw [List.take_length] at hrl ⊢
  have hym : ∀ b ∈ rowOf x first, 0 ≤ b ∧ b < (n : Int) := fun b hb => by
    simp only [rowOf, List.mem_map] at hb
    obtain ⟨z, hz, rfl⟩ := hb
    have := hf3.mem z hz
    exact hxm _ (getD_memI (by omega))
  obtain ⟨second, hs1, hs2, hs3⟩ := sortR_spec (bags := rowOf x first) (ps := p.drop k) (q := q) (m := n) (by omega) (by omega) (by omega) (by simp; omega) hym (hpg.drop k)
  have hsl := hs3.len
  rw [hrl] at hsl
  have hrel : whole = nextOf first second := by
    have h1 := sortGo_append (b := p.drop k) hf1
    rw [List.take_append_drop, hw1] at h1
    have h2 := sortGo_next (x := x) (first := first) (q := q) (ps := p.drop k) (o := iota first.length) (o2 := second) (fun k hk => iota_mem hk) (by rw [← hrl]; exact hs1)
    rw [nextOf_iota] at h2
    rw [h2] at h1
    exact (Prod.mk.inj h1).2
  (repeat first | refine awp_seq ?_ | refine awp_skip ?_ | refine awp_block ?_); refine awp_region tab_ok hl rfl fun K hK => ?_; simp only [go_sem, ne_eq, Nat.reduceAdd, Nat.reduceSub, Nat.reduceMul, Nat.reduceLT, Nat.reduceEqDiff, Nat.reduceBEq, Nat.reduceLeDiff, Int.reduceToNat, ↓reduceIte, Int.reduceEq, Int.reduceLT, Int.reduceLE, Int.reduceAdd, Int.reduceSub, Int.reduceNeg, reduceCtorEq, hdk, hpl]
  (repeat ((with_reducible refine And.intro ?_ ?_); focus ((repeat' apply And.intro) <;> first | omega | simp)))
  refine callP ⟨⟨rfl, by rw [ints_length, hrl, Nat.zero_add]⟩, trivial, trivial, trivial⟩ (hs2 ▸ sort_sat (rowOf x first) (p.drop k) q (by omega) ((hpg.drop k).short (by omega) (by simp; omega))) ?_
  simp only [go_sem, ne_eq, Nat.reduceAdd, Nat.reduceSub, Nat.reduceMul, Nat.reduceLT, Nat.reduceEqDiff, Nat.reduceBEq, Nat.reduceLeDiff, Int.reduceToNat, ↓reduceIte, Int.reduceEq, Int.reduceLT, Int.reduceLE, Int.reduceAdd, Int.reduceSub, Int.reduceNeg, reduceCtorEq]
  (repeat ((with_reducible refine And.intro ?_ ?_); focus ((repeat' apply And.intro) <;> first | omega | simp))); refine hK _ ?_; clear hK K
  repeat ((repeat first | refine awp_seq ?_ | refine awp_skip ?_ | refine awp_block ?_); refine awp_region tab_ok hl rfl fun K hK => ?_; simp only [go_sem, ne_eq, Nat.reduceAdd, Nat.reduceSub, Nat.reduceMul, Nat.reduceLT, Nat.reduceEqDiff, Nat.reduceBEq, Nat.reduceLeDiff, Int.reduceToNat, ↓reduceIte, Int.reduceEq, Int.reduceLT, Int.reduceLE, Int.reduceAdd, Int.reduceSub, Int.reduceNeg, reduceCtorEq, hsl, hfl]; (repeat ((with_reducible refine And.intro ?_ ?_); focus ((repeat' apply And.intro) <;> first | omega | simp))); refine hK _ ?_; clear hK K)
  (repeat first | refine awp_seq ?_ | refine awp_skip ?_ | refine awp_block ?_); refine condF rfl ?_
  repeat ((repeat first | refine awp_seq ?_ | refine awp_skip ?_ | refine awp_block ?_); refine awp_region tab_ok hl rfl fun K hK => ?_; simp only [go_sem, ne_eq, Nat.reduceAdd, Nat.reduceSub, Nat.reduceMul, Nat.reduceLT, Nat.reduceEqDiff, Nat.reduceBEq, Nat.reduceLeDiff, Int.reduceToNat, ↓reduceIte, Int.reduceEq, Int.reduceLT, Int.reduceLE, Int.reduceAdd, Int.reduceSub, Int.reduceNeg, reduceCtorEq]; (repeat ((with_reducible refine And.intro ?_ ?_); focus ((repeat' apply And.intro) <;> first | omega | simp))); refine hK _ ?_; clear hK K)
  (repeat first | refine awp_seq ?_ | refine awp_skip ?_ | refine awp_block ?_)
  refine awp_loopW (fun i : Nat × Nat => ⟨[(11, IS whole), (13, IS first), (18, IS second), (119, IS second), (120, I second.length), (121, I i.2)], [], i.1⟩) (fun i => i.2 ≤ second.length) (fun i => second.length - i.2) (_, 0) (Nat.zero_le _) (.of (Nat.le_refl _) .nil (.cons rfl (.cons rfl (.cons rfl (.cons rfl (.cons rfl (.cons rfl .nil))))))) ?_
  rintro ⟨ck1, j⟩ hj
  simp only at hj
  repeat ((repeat first | refine awp_seq ?_ | refine awp_skip ?_ | refine awp_block ?_); refine awp_region tab_ok hl rfl fun K hK => ?_; simp only [go_sem, ne_eq, Nat.reduceAdd, Nat.reduceSub, Nat.reduceMul, Nat.reduceLT, Nat.reduceEqDiff, Nat.reduceBEq, Nat.reduceLeDiff, Int.reduceToNat, ↓reduceIte, Int.reduceEq, Int.reduceLT, Int.reduceLE, Int.reduceAdd, Int.reduceSub, Int.reduceNeg, reduceCtorEq]; (repeat ((with_reducible refine And.intro ?_ ?_); focus ((repeat' apply And.intro) <;> first | omega | simp))); refine hK _ ?_; clear hK K)
  (repeat first | refine awp_seq ?_ | refine awp_skip ?_ | refine awp_block ?_); refine condP _ rfl (fun e1 => ?_) (fun e1 => ?_)
  case refine_2 =>
    refine awp_exit ?_
    repeat ((repeat first | refine awp_seq ?_ | refine awp_skip ?_ | refine awp_block ?_); refine awp_region tab_ok hl rfl fun K hK => ?_; simp only [go_sem, ne_eq, Nat.reduceAdd, Nat.reduceSub, Nat.reduceMul, Nat.reduceLT, Nat.reduceEqDiff, Nat.reduceBEq, Nat.reduceLeDiff, Int.reduceToNat, ↓reduceIte, Int.reduceEq, Int.reduceLT, Int.reduceLE, Int.reduceAdd, Int.reduceSub, Int.reduceNeg, reduceCtorEq]; (repeat ((with_reducible refine And.intro ?_ ?_); focus ((repeat' apply And.intro) <;> first | omega | simp))); refine hK _ ?_; clear hK K)
    (repeat first | refine awp_seq ?_ | refine awp_skip ?_ | refine awp_block ?_); refine awp_region tab_ok hl rfl fun K hK => ?_; simp only [go_sem, ne_eq, Nat.reduceAdd, Nat.reduceSub, Nat.reduceMul, Nat.reduceLT, Nat.reduceEqDiff, Nat.reduceBEq, Nat.reduceLeDiff, Int.reduceToNat, ↓reduceIte, Int.reduceEq, Int.reduceLT, Int.reduceLE, Int.reduceAdd, Int.reduceSub, Int.reduceNeg, reduceCtorEq]
    refine callF trivial awake_sat rfl ?_
    simp only [go_sem, ne_eq, Nat.reduceAdd, Nat.reduceSub, Nat.reduceMul, Nat.reduceLT, Nat.reduceEqDiff, Nat.reduceBEq, Nat.reduceLeDiff, Int.reduceToNat, ↓reduceIte, Int.reduceEq, Int.reduceLT, Int.reduceLE, Int.reduceAdd, Int.reduceSub, Int.reduceNeg, reduceCtorEq]
    (repeat ((with_reducible refine And.intro ?_ ?_); focus ((repeat' apply And.intro) <;> first | omega | simp))); refine hK _ ?_; clear hK K
    refine awp_ret ⟨trivial, trivial, ?_, rfl, fun j hj => by cases hj⟩
    rfl
  have hlt : j < second.length := by omega
  have hm := hs3.mem _ (getD_memI hlt)
  rw [hrl] at hm
  have hff : (second.getD j 0).toNat < first.length := by omega
  have hwj : j < whole.length := by omega
  have hgw : whole.getD j 0 = first.getD (second.getD j 0).toNat 0 := by rw [hrel, nextOf, getD_mapO hlt]
  have c1 : ¬ second.getD j 0 < 0 := by omega
  have c2 : ¬ (first.length : Int) ≤ second.getD j 0 := by omega
  repeat ((repeat first | refine awp_seq ?_ | refine awp_skip ?_ | refine awp_block ?_); refine awp_region tab_ok hl rfl fun K hK => ?_; simp only [go_sem, ne_eq, Nat.reduceAdd, Nat.reduceSub, Nat.reduceMul, Nat.reduceLT, Nat.reduceEqDiff, Nat.reduceBEq, Nat.reduceLeDiff, Int.reduceToNat, ↓reduceIte, Int.reduceEq, Int.reduceLT, Int.reduceLE, Int.reduceAdd, Int.reduceSub, Int.reduceNeg, reduceCtorEq]; (repeat ((with_reducible refine And.intro ?_ ?_); focus ((repeat' apply And.intro) <;> first | omega | simp))); refine hK _ ?_; clear hK K)
  (repeat first | refine awp_seq ?_ | refine awp_skip ?_ | refine awp_block ?_); refine awp_region_still tab_ok hl (by kernel_rfl) (by kernel_rfl) rfl fun K hK => ?_; simp only [go_sem, ne_eq, Nat.reduceAdd, Nat.reduceSub, Nat.reduceMul, Nat.reduceLT, Nat.reduceEqDiff, Nat.reduceBEq, Nat.reduceLeDiff, Int.reduceToNat, ↓reduceIte, Int.reduceEq, Int.reduceLT, Int.reduceLE, Int.reduceAdd, Int.reduceSub, Int.reduceNeg, reduceCtorEq, ints_getD hlt, c1, c2, ints_getD hff, ints_getD hwj, hgw]; (repeat ((with_reducible refine And.intro ?_ ?_); focus (((repeat' apply And.intro) <;> first | omega | simp)))); refine hK _ ?_; clear hK K
  (repeat first | refine awp_seq ?_ | refine awp_skip ?_ | refine awp_block ?_); refine condF rfl ?_
  repeat ((repeat first | refine awp_seq ?_ | refine awp_skip ?_ | refine awp_block ?_); refine awp_region tab_ok hl rfl fun K hK => ?_; simp only [go_sem, ne_eq, Nat.reduceAdd, Nat.reduceSub, Nat.reduceMul, Nat.reduceLT, Nat.reduceEqDiff, Nat.reduceBEq, Nat.reduceLeDiff, Int.reduceToNat, ↓reduceIte, Int.reduceEq, Int.reduceLT, Int.reduceLE, Int.reduceAdd, Int.reduceSub, Int.reduceNeg, reduceCtorEq]; (repeat ((with_reducible refine And.intro ?_ ?_); focus ((repeat' apply And.intro) <;> first | omega | simp))); refine hK _ ?_; clear hK K)
  refine ⟨(_, j + 1), by simp only; omega, by simp only; omega, .of (Nat.le_refl _) .nil (by repeat (first | exact WOk.nil | refine WOk.cons rfl ?_))⟩
end Go.Proofs.Ytmjlnndnpdbagaa
