import Derived.Test.YtmjlnndnpdbagaaM10
set_option linter.all false
set_option linter.unusedSimpArgs false
set_option linter.unusedVariables false
set_option linter.deprecated false
namespace Go.Proofs.Ytmjlnndnpdbagaa
open Go Go.Sym

def iota (n : Nat) : List Int := List.map (fun (j : Nat) => (j : Int)) (List.range n)
def rowOf (bags out : List Int) : List Int := out.map fun k => bags.getD k.toNat 0
def nextOf (out moved : List Int) : List Int := moved.map fun k => out.getD k.toNat 0
def sortGo (bags : List Int) (piles : Int) : List (List Int) → List Int → Int × List Int
  | [], out => (0, out)
  | p :: ps, out => if errOf (rowOf bags out) p piles = 0 then sortGo bags piles ps (nextOf out (performL (rowOf bags out) p)) else (errOf (rowOf bags out) p piles, [])
def sortR (bags : List Int) (passes : List (List Int)) (piles : Int) : AV :=
  if 40 < bags.length ∨ 40 < passes.length then .tup [IS [], I 2] else .tup [IS (sortGo bags piles passes (iota bags.length)).2, I (sortGo bags piles passes (iota bags.length)).1]

/-- the first i are new -/
def half (n i : Nat) (f g : Nat → Int) : List Int := (List.range n).map fun x => if x < i then f x else g x
theorem half_length (n i : Nat) (f g : Nat → Int) : (half n i f g).length = n := by simp [half]
theorem half_succ {n i : Nat} {f g : Nat → Int} (h : i < n) : (half n i f g).set i (f i) = half n (i + 1) f g := by
  refine List.ext_getElem (by simp [half]) fun x h1 h2 => ?_
  rw [List.getElem_set]
  simp only [half, List.getElem_map, List.getElem_range]
  by_cases hx : i = x
  · subst hx; simp
  · rw [if_neg hx]
    by_cases hxj : x < i
    · rw [if_pos hxj, if_pos (by omega)]
    · rw [if_neg hxj, if_neg (by omega)]
theorem half_zero {l : List Int} {n : Nat} {f g : Nat → Int} (hn : l.length = n) (h : ∀ x, x < n → l.getD x 0 = g x) : half n 0 f g = l := by
  refine List.ext_getElem (by simp [half, hn]) fun x h1 h2 => ?_
  have := h x (by omega)
  simp only [half, List.getElem_map, List.getElem_range, Nat.not_lt_zero, if_false]
  rw [← this]; simp [h2]
theorem half_full {l : List Int} {n : Nat} {f g : Nat → Int} (hn : l.length = n) (h : ∀ x, x < n → l.getD x 0 = f x) : half n n f g = l := by
  refine List.ext_getElem (by simp [half, hn]) fun x h1 h2 => ?_
  have := h x (by omega)
  have hx : x < n := by omega
  simp only [half, List.getElem_map, List.getElem_range, hx, if_true]
  rw [← this]; simp [h2]

theorem getD_map {f : Int → Int} {l : List Int} {x : Nat} (h : x < l.length) : (l.map f).getD x 0 = f (l.getD x 0) := by simp [h]

theorem outL_one {pl pl' : Nat → List Int} {q : Nat} {i : Int} (he : pl' q = pl q ++ [i]) (hne : ∀ k, k ≠ q → pl' k = pl k) : ∀ n, (outL pl' n).length = (outL pl n).length + if q < n then 1 else 0
  | 0 => by simp [outL]
  | n + 1 => by
    have := outL_one he hne n
    rw [outL_succ, outL_succ, List.length_append, List.length_append, this]
    by_cases h : n = q
    · subst h; rw [he]; simp; omega
    · rw [hne n h]
      by_cases h2 : q < n
      · rw [if_pos h2, if_pos (by omega)]; omega
      · rw [if_neg h2, if_neg (by omega)]; omega

theorem err_good {bags pass : List Int} {piles : Int} (h : errOf bags pass piles = 0) : bags.length ≤ 40 ∧ pass.length ≤ 40 ∧ (2 ≤ piles ∧ piles ≤ 9) ∧ (∀ p ∈ pass, 0 ≤ p ∧ p ≤ piles - 1) ∧ ∀ b ∈ bags, 0 ≤ b ∧ b ≤ (pass.length : Int) - 1 := by
  unfold errOf at h
  split at h
  · cases h
  · rename_i h1
    split at h
    · cases h
    · rename_i h2
      split at h
      · cases h
      · rename_i h3
        split at h
        · cases h
        · rename_i h4
          refine ⟨by omega, by omega, Classical.not_not.1 h2, fun p hp => ?_, fun b hb => ?_⟩
          · exact Classical.byContradiction fun hn => h3 ⟨p, hp, hn⟩
          · exact Classical.byContradiction fun hn => h4 ⟨b, hb, hn⟩

theorem performL_length {bags pass : List Int} {piles : Int} (h : errOf bags pass piles = 0) : (performL bags pass).length = bags.length := by
  obtain ⟨_, _, h1, h2, h3⟩ := err_good h
  have key : ∀ i, i ≤ bags.length → (outL (pile bags pass i) 9).length = i := by
    intro i
    induction i with
    | zero => intro _; rfl
    | succ i ih =>
      intro hi
      have hb := h3 _ (getD_memI (show i < bags.length by omega))
      have hp := h2 _ (getD_memI (show (bags.getD i 0).toNat < pass.length by omega))
      obtain ⟨q, hq⟩ := Int.eq_ofNat_of_zero_le hp.1
      have := outL_one (pl := pile bags pass i) (pl' := pile bags pass (i + 1)) (q := q) (i := (i : Int)) (by rw [pile_succ, if_pos (by rw [hq])]) (fun k hk => by rw [pile_succ, if_neg (by rw [hq]; omega)]) 9
      rw [this, ih (by omega), if_pos (by omega)]
  exact key _ (Nat.le_refl _)

theorem performL_mem {bags pass : List Int} {k : Int} (h : k ∈ performL bags pass) : 0 ≤ k ∧ k < bags.length := by
  simp only [performL, pile, List.mem_flatMap, List.mem_map, List.mem_filter, List.mem_range] at h
  obtain ⟨_, _, j, ⟨hj, _⟩, rfl⟩ := h
  omega

theorem iota_length (n : Nat) : (iota n).length = n := by simp [iota]
theorem iota_getD {n x : Nat} (h : x < n) : (iota n).getD x 0 = (x : Int) := by simp [iota, h]
theorem iota_mem {n : Nat} {k : Int} (h : k ∈ iota n) : 0 ≤ k ∧ k < n := by
  simp only [iota, List.mem_map, List.mem_range] at h
  obtain ⟨j, hj, rfl⟩ := h
  omega
theorem rowOf_iota (bags : List Int) : rowOf bags (iota bags.length) = bags := by
  refine List.ext_getElem (by simp [rowOf, iota]) fun x h1 h2 => ?_
  simp [rowOf, iota, h2]
end Go.Proofs.Ytmjlnndnpdbagaa
