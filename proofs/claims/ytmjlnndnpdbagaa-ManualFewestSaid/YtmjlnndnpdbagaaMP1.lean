import Derived.Test.YtmjlnndnpdbagaaM9
set_option linter.all false
set_option linter.unusedSimpArgs false
set_option linter.unusedVariables false
set_option linter.deprecated false
namespace Go.Proofs.Ytmjlnndnpdbagaa
open Go Go.Sym

def BadP (pass : List Int) (piles : Int) : Prop := ∃ p ∈ pass, ¬ (0 ≤ p ∧ p ≤ piles - 1)
def BadB (bags pass : List Int) : Prop := ∃ b ∈ bags, ¬ (0 ≤ b ∧ b ≤ (pass.length : Int) - 1)
instance (pass : List Int) (piles : Int) : Decidable (BadP pass piles) := by unfold BadP; infer_instance
instance (bags pass : List Int) : Decidable (BadB bags pass) := by unfold BadB; infer_instance

def errOf (bags pass : List Int) (piles : Int) : Int :=
  if 40 < bags.length ∨ 40 < pass.length then 2 else if ¬ (2 ≤ piles ∧ piles ≤ 9) then 1 else if BadP pass piles then 1 else if BadB bags pass then 1 else 0

/-- what lies on a pile, when so many bags have been laid -/
def pile (bags pass : List Int) (i p : Nat) : List Int := List.map (fun (j : Nat) => (j : Int)) ((List.range i).filter fun (j : Nat) => decide (pass.getD (bags.getD j 0).toNat 0 = (p : Int)))
def performL (bags pass : List Int) : List Int := (List.range 9).flatMap fun p => pile bags pass bags.length p
def performR (bags pass : List Int) (piles : Int) : AV :=
  if errOf bags pass piles = 0 then .tup [IS (performL bags pass), I 0] else .tup [IS [], I (errOf bags pass piles)]

theorem getD_memI {ps : List Int} {i : Nat} (h : i < ps.length) : ps.getD i 0 ∈ ps := by
  have : ps.getD i 0 = ps[i] := by simp [h]
  rw [this]; exact List.getElem_mem h
theorem mem_getDI {ps : List Int} {x : Int} (h : x ∈ ps) : ∃ i, i < ps.length ∧ ps.getD i 0 = x := by
  obtain ⟨i, hi, rfl⟩ := List.getElem_of_mem h
  exact ⟨i, hi, by simp [hi]⟩

def cellP (pl : Nat → List Int) (gp : Nat → Nat) (p : Nat) : AV := if pl p = [] then .sl [] true else .slO (1000 + p) (gp p) 0 (pl p).length
def cellsP (pl : Nat → List Int) (gp : Nat → Nat) : List AV := (List.range 9).map (cellP pl gp)
def objP (pl : Nat → List Int) (gp : Nat → Nat) (p : Nat) : Option (Nat × Ob) := if pl p = [] then none else some (gp p, Ob.own 3 1 (ints (pl p)))
def hpP (pl : Nat → List Int) (gp : Nat → Nat) : Hp := (List.range 9).map fun p => (1000 + p, objP pl gp p)

theorem get_map (F : Nat → Option (Nat × Ob)) (id : Nat) : ∀ l : List Nat, Hp.get (l.map fun p => (1000 + p, F p)) id = if 1000 ≤ id ∧ id - 1000 ∈ l then F (id - 1000) else none
  | [] => by simp [Hp.get]
  | p :: l => by
    simp only [List.map_cons, Hp.get, get_map F id l, List.mem_cons]
    by_cases h : 1000 + p = id
    · have e : id - 1000 = p := by omega
      rw [if_pos h, if_pos ⟨by omega, .inl e⟩, e]
    · rw [if_neg h]
      by_cases h2 : 1000 ≤ id ∧ id - 1000 ∈ l
      · rw [if_pos h2, if_pos ⟨h2.1, .inr h2.2⟩]
      · rw [if_neg h2, if_neg]
        rintro ⟨h3, h4 | h4⟩
        · omega
        · exact h2 ⟨h3, h4⟩

theorem hpP_get (pl : Nat → List Int) (gp : Nat → Nat) (id : Nat) : (hpP pl gp).get id = if 1000 ≤ id ∧ id - 1000 < 9 then objP pl gp (id - 1000) else none := by
  rw [hpP, get_map]
  simp only [List.mem_range]

theorem cellsP_length (pl : Nat → List Int) (gp : Nat → Nat) : (cellsP pl gp).length = 9 := by simp [cellsP]
theorem cellsP_drop {pl : Nat → List Int} {gp : Nat → Nat} {q : Nat} (h : q < 9) : ((cellsP pl gp).drop q).getD 0 .bad = cellP pl gp q := by
  simp [cellsP, h]
theorem splice_cells {pl : Nat → List Int} {gp : Nat → Nat} {q : Nat} (h : q < 9) (v : AV) : splice (cellsP pl gp) q [v] = (List.range 9).map fun p => if p = q then v else cellP pl gp p := by
  refine List.ext_getElem (by simp [splice, cellsP]; omega) fun x h1 h2 => ?_
  have hx : x < 9 := by simpa using h2
  simp only [List.getElem_map, List.getElem_range]
  by_cases hxq : x = q
  · subst hxq
    rw [if_pos rfl]
    simp only [splice, cellsP, List.getElem_append, List.length_append, List.length_take, List.length_map, List.length_range, List.length_singleton, List.getElem_take, List.getElem_map, List.getElem_range, List.getElem_drop]
    rw [dif_pos (by omega), dif_neg (by omega)]
    simp
  · rw [if_neg hxq]
    simp only [splice, cellsP, List.getElem_append, List.length_append, List.length_take, List.length_map, List.length_range, List.length_singleton, List.getElem_take, List.getElem_map, List.getElem_range, List.getElem_drop]
    by_cases hlt : x < q
    · rw [dif_pos (by omega), dif_pos (by omega)]
    · rw [dif_neg (by omega)]
      congr 1
      omega

theorem pile_succ (bags pass : List Int) (i p : Nat) : pile bags pass (i + 1) p = if pass.getD (bags.getD i 0).toNat 0 = p then pile bags pass i p ++ [(i : Int)] else pile bags pass i p := by
  simp only [pile, List.range_succ, List.filter_append, List.map_append, List.filter_cons, List.filter_nil, decide_eq_true_eq]
  split <;> simp

theorem cellsP_take (pl : Nat → List Int) (gp : Nat → Nat) : (cellsP pl gp).take 9 = cellsP pl gp := List.take_of_length_le (by simp [cellsP])
def outL (pl : Nat → List Int) (q : Nat) : List Int := (List.range q).flatMap pl
theorem outL_succ (pl : Nat → List Int) (q : Nat) : outL pl (q + 1) = outL pl q ++ pl q := by simp [outL, List.range_succ]
theorem outL_length {pl : Nat → List Int} {n : Nat} (h : ∀ q, (pl q).length ≤ n) : ∀ q, (outL pl q).length ≤ q * n
  | 0 => by simp [outL]
  | q + 1 => by
    have := outL_length h q
    have := h q
    rw [outL_succ, List.length_append, Nat.succ_mul]
    omega

def ROk (x y : Nat) (tm : List (Nat × AV)) : List (Nat × AV) → Prop
  | [] => True
  | (t, v) :: l => RenC x y (tget tm t) v ∧ ROk x y tm l
theorem ROk.get {x y : Nat} {tm : List (Nat × AV)} : ∀ {l : List (Nat × AV)}, ROk x y tm l → ∀ t, tget l t = .bad ∨ RenC x y (tget tm t) (tget l t)
  | [], _, t => .inl rfl
  | (t', v) :: l, h, t => by
    simp only [tget]
    by_cases ht : t' = t
    · subst ht; rw [if_pos rfl]; exact .inr h.1
    · rw [if_neg ht]; exact ROk.get h.2 t

/-- the first bag on a pile: the new object gets the pile's own name -/
theorem new_pile {C : Cx} (hl : C.lent.length ≤ 100) {tm tm' : List (Nat × AV)} {ck ck' g0 gn : Nat} {pl pl' : Nat → List Int} {gp : Nat → Nat} {q : Nat} {i : Int} (hq : q < 9) (he : pl q = []) (he' : pl' q = [i]) (hne : ∀ k, k ≠ q → pl' k = pl k)
    (hck : ck ≤ ck') (ht : ROk 164 (1000 + q) tm tm') :
    Ren 164 (1000 + q) C.lent.length
      ⟨tm, (110, some (g0, .box ((List.range 9).map fun p => if p = q then .slO 164 gn 0 1 else cellP pl gp p))) :: (164, some (gn, .own 3 1 [.lit (.int .i64 i)])) :: (110, some (g0, .box (cellsP pl gp))) :: hpP pl gp, ck⟩
      ⟨tm', (110, some (g0, .box (cellsP pl' fun k => if k = q then gn else gp k))) :: hpP pl' (fun k => if k = q then gn else gp k), ck'⟩ := by
  constructor
  · exact hck
  · omega
  · omega
  · refine ⟨gn, 3, 1, [.lit (.int .i64 i)], rfl, ?_⟩
    simp only [Hp.get]
    rw [if_neg (by omega), hpP_get, if_pos ⟨by omega, by omega⟩, Nat.add_sub_cancel_left, objP, if_neg (by rw [he']; simp), he', if_pos rfl]
    rfl
  · simp only [Hp.get]
    rw [if_neg (by omega), if_neg (by omega), if_neg (by omega), hpP_get, if_pos ⟨by omega, by omega⟩, Nat.add_sub_cancel_left, objP, if_pos he]
  · simp only [Hp.get]
    rw [if_neg (by omega), hpP_get, if_neg (by omega)]
  · intro id h1 h2
    by_cases h3 : 110 = id
    · subst h3
      refine .inr (.inr ⟨g0, _, _, rfl, rfl, ?_, fun j h h' => ?_⟩)
      · simp [cellsP]
      · have hj : j < 9 := by simpa using h
        simp only [cellsP, List.getElem_map, List.getElem_range]
        by_cases hjq : j = q
        · subst hjq
          rw [if_pos rfl]
          refine .inr ⟨gn, 0, 1, rfl, ?_⟩
          rw [cellP, if_neg (by rw [he']; simp), if_pos rfl, he']; rfl
        · rw [if_neg hjq]
          refine .inl ⟨?_, ?_⟩
          · rw [cellP, cellP, hne j hjq, if_neg hjq]
          · rw [cellP]
            split
            · trivial
            · show 1000 + j ≠ 1000 + q
              omega
    · simp only [Hp.get]
      rw [if_neg h3, if_neg h3, if_neg (Ne.symm h1), if_neg h3, hpP_get, hpP_get]
      by_cases h4 : 1000 ≤ id ∧ id - 1000 < 9
      · have hk : ¬ (id - 1000 = q) := by omega
        rw [if_pos h4, if_pos h4, objP, objP, hne _ hk]
        by_cases h5 : pl (id - 1000) = []
        · exact .inl (if_pos h5)
        · simp only [if_neg h5, if_neg hk]; exact .inr (.inl ⟨_, _, _, _, rfl, rfl⟩)
      · rw [if_neg h4]; exact .inl rfl
  · exact ht.get

def NOk (tm : List (Nat × AV)) : List (Nat × AV) → Prop
  | [] => True
  | (t, v) :: l => tget tm t = v ∧ NOk tm l
theorem NOk.get {tm : List (Nat × AV)} : ∀ {l : List (Nat × AV)}, NOk tm l → ∀ t, tget l t = .bad ∨ tget l t = tget tm t
  | [], _, t => .inl rfl
  | (t', v) :: l, h, t => by
    simp only [tget]
    by_cases ht : t' = t
    · subst ht; rw [if_pos rfl]; exact .inr h.1.symm
    · rw [if_neg ht]; exact NOk.get h.2 t

/-- one more bag on a pile -/
theorem more_pile {tm tm' : List (Nat × AV)} {ck ck' g0 : Nat} {pl pl' : Nat → List Int} {gp : Nat → Nat} {q : Nat} {i : Int} (hq : q < 9) (he : pl q ≠ []) (he' : pl' q = pl q ++ [i]) (hne : ∀ k, k ≠ q → pl' k = pl k)
    (hck : ck ≤ ck') (ht : NOk tm tm') :
    Weak ⟨tm, (110, some (g0, .box ((List.range 9).map fun p => if p = q then .slO (1000 + q) (gp q) 0 ((pl q).length + 1) else cellP pl gp p))) :: (1000 + q, some (gp q, .own 3 1 (ints (pl q ++ [i])))) :: (110, some (g0, .box (cellsP pl gp))) :: hpP pl gp, ck⟩
      ⟨tm', (110, some (g0, .box (cellsP pl' gp))) :: hpP pl' gp, ck'⟩ := by
  have hc : cellsP pl' gp = (List.range 9).map fun p => if p = q then .slO (1000 + q) (gp q) 0 ((pl q).length + 1) else cellP pl gp p := by
    refine List.map_congr_left fun p _ => ?_
    by_cases hp : p = q
    · subst hp
      rw [if_pos rfl, cellP, if_neg (by rw [he']; simp), he']; simp
    · rw [if_neg hp, cellP, cellP, hne p hp]
  refine ⟨hck, fun id => .inr ?_, ?_⟩
  · by_cases h3 : 110 = id
    · subst h3; rw [hc]; rfl
    · simp only [Hp.get]
      rw [if_neg h3, if_neg h3]
      by_cases h4 : 1000 + q = id
      · subst h4
        rw [if_pos rfl, hpP_get, if_pos ⟨by omega, by omega⟩, Nat.add_sub_cancel_left, objP, if_neg (by rw [he']; simp), he']
      · rw [if_neg h4, if_neg h3, hpP_get, hpP_get]
        by_cases h5 : 1000 ≤ id ∧ id - 1000 < 9
        · rw [if_pos h5, if_pos h5, objP, objP, hne _ (by omega)]
        · rw [if_neg h5, if_neg h5]
  · intro t
    rcases ht.get t with h | h
    · exact .inl h
    · exact .inr (.inl h)
end Go.Proofs.Ytmjlnndnpdbagaa
