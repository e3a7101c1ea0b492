/-
  SYM, part 19: a region whose order is drawn: the text's order tells what every order gives, if no operation meets what an unordered one writes.
-/
import Derived.Test.YtmjlnndnpdbagaaSym17
set_option linter.all false
set_option linter.unusedSimpArgs false
set_option linter.unusedVariables false
set_option linter.deprecated false
namespace Go.Sym
open Go Go.Great

/-! which objects a value names -/
def ids0 : AV → List Nat
  | .slO id _ _ _ => [id]
  | .ptO id _ _ _ _ => [id]
  | _ => []
def ids1 : AV → List Nat
  | .fn _ cs => cs.flatMap ids0
  | v => ids0 v
def ids2 : AV → List Nat
  | .agg cs => cs.flatMap ids1
  | v => ids1 v
def ids3 : AV → List Nat
  | .tup cs => cs.flatMap ids2
  | v => ids2 v

theorem refs1_ids {v : AV} {i : Nat} (h : i ∈ refs1 v) : i ∈ ids3 v := by
  cases v <;> simp [refs1] at h
  subst h; simp [ids3, ids2, ids1, ids0]
theorem refs1_ids1 {v : AV} {i : Nat} (h : i ∈ refs1 v) : i ∈ ids1 v := by
  cases v <;> simp [refs1] at h
  subst h; simp [ids1, ids0]
theorem refs2_ids {v : AV} {i : Nat} (h : i ∈ refs2 v) : i ∈ ids3 v := by
  cases v with
  | agg cs =>
    simp only [refs2, List.mem_flatMap] at h
    obtain ⟨c, hc, h⟩ := h
    simp only [ids3, ids2, List.mem_flatMap]
    exact ⟨c, hc, refs1_ids1 h⟩
  | slO id g off len => exact refs1_ids (v := .slO id g off len) h
  | _ => exact absurd h (by simp [refs2, refs1])

/-- what heaps agree on -/
def Agree (ids : List Nat) (hp hp' : Hp) : Prop := ∀ i ∈ ids, hp'.get i = hp.get i

theorem snap1_agree {hp hp' : Hp} {v : AV} (h : ∀ i ∈ refs1 v, hp'.get i = hp.get i) : snap1 hp' v = snap1 hp v ∧ snap1P hp' v = snap1P hp v := by
  cases v with
  | slO id g off len =>
    have := h id (by simp [refs1])
    simp only [snap1, snap1P, this, and_self]
  | _ => exact ⟨rfl, rfl⟩
theorem snap2_agree {hp hp' : Hp} {v : AV} (h : ∀ i ∈ refs2 v, hp'.get i = hp.get i) : snap2 hp' v = snap2 hp v ∧ snap2P hp' v = snap2P hp v := by
  cases v with
  | agg cs =>
    have h1 : ∀ c ∈ cs, snap1 hp' c = snap1 hp c ∧ snap1P hp' c = snap1P hp c := fun c hc => snap1_agree fun i hi => h i (by simp only [refs2, List.mem_flatMap]; exact ⟨c, hc, hi⟩)
    refine ⟨?_, ?_⟩
    · simp only [snap2]
      rw [List.map_congr_left fun c hc => (h1 c hc).1]
    · simp only [snap2P, eq_iff_iff]
      exact ⟨fun hh c hc => by rw [← (h1 c hc).2]; exact hh c hc, fun hh c hc => by rw [(h1 c hc).2]; exact hh c hc⟩
  | slO id g off len => exact snap1_agree (v := .slO id g off len) h
  | _ => exact ⟨rfl, rfl⟩

/-- the objects that an operation may meet -/
def accOf (o : Oper) (s : St) : List Nat :=
  (100 + o.dst.getD 0) :: (o.op.operands.toList.flatMap fun x => ids3 (s.ev x)) ++
    match o.op with
    | .call { callee := .value _, args, argTypes := _ } => args.toList.flatMap fun x => match s.ev x with
      | .ptO id _ _ _ _ => (match s.hp.get id with | some (_, .box cs) => cs.flatMap refs1 | _ => [])
      | _ => []
    | _ => []

theorem opV_congr {T : List (Nat × TI)} (o : Oper) {ev ev' : Operand → AV} {hp hp' : Hp} (g : Nat) (he : ∀ x ∈ o.op.operands, ev' x = ev x)
    (hh : ∀ x ∈ o.op.operands, ∀ i ∈ ids3 (ev x), hp'.get i = hp.get i) : opV T o ev' hp' g = opV T o ev hp g := by
  obtain ⟨dst, op, type, pos, after, guard⟩ := o
  cases op with
  | move x => simp only [opV, he x (by simp [Op.operands])]
  | assign x =>
    have := he x (by simp [Op.operands])
    simp only [opV, this]
  | pick c a b => simp only [opV, he c (by simp [Op.operands]), he a (by simp [Op.operands]), he b (by simp [Op.operands])]
  | binOp op t x y yt => simp only [opV, he x (by simp [Op.operands]), he y (by simp [Op.operands])]
  | unOp op t x =>
    have := he x (by simp [Op.operands])
    cases op <;> simp only [opV, this]
  | nilCheck x =>
    have h1 := he x (by simp [Op.operands])
    have h2 := hh x (by simp [Op.operands])
    simp only [opV, h1]
    generalize ev x = v at h2
    cases v with
    | ptO id g n i off => simp only [Hp.has, h2 id (by simp [ids3, ids2, ids1, ids0])]
    | _ => rfl
  | extract x i => simp only [opV, he x (by simp [Op.operands])]
  | load t x =>
    have h1 := he x (by simp [Op.operands])
    have h2 := hh x (by simp [Op.operands])
    simp only [opV, h1]
    generalize ev x = v at h2
    cases v with
    | ptO id g n i off => simp only [opLoad, h2 id (by simp [ids3, ids2, ids1, ids0])]
    | _ => rfl
  | store t x y =>
    have h1 := he x (by simp [Op.operands])
    have h2 := hh x (by simp [Op.operands])
    have h3 := he y (by simp [Op.operands])
    have h4 := hh y (by simp [Op.operands])
    simp only [opV, h1, h3]
    generalize ev x = v at h2
    generalize ev y = u at h4
    cases v with
    | ptO id g n i off =>
      have hs := snap2_agree (hp := hp) (hp' := hp') (v := u) fun i hi => h4 i (refs2_ids hi)
      simp only [opStore, h2 id (by simp [ids3, ids2, ids1, ids0]), hs.1, hs.2]
    | _ => rfl
  | indexAddr t x i =>
    have h1 := he x (by simp [Op.operands])
    have h2 := hh x (by simp [Op.operands])
    have h3 := he i (by simp [Op.operands])
    simp only [opV, h1, h3]
    generalize ev x = v at h2
    generalize ev i = u
    cases v with
    | ptO id g n i off => cases u <;> first | rfl | (rename_i u; cases u <;> first | rfl | simp only [opIndexAddr, Hp.has, h2 id (by simp [ids3, ids2, ids1, ids0])])
    | slO id g off len => cases u <;> first | rfl | (rename_i u; cases u <;> first | rfl | simp only [opIndexAddr, h2 id (by simp [ids3, ids2, ids1, ids0])])
    | _ => cases u <;> first | rfl | (rename_i u; cases u <;> rfl)
  | fieldAddr t x f =>
    have h1 := he x (by simp [Op.operands])
    have h2 := hh x (by simp [Op.operands])
    simp only [opV, h1]
    generalize ev x = v at h2
    cases v with
    | ptO id g n i off => simp only [opFieldAddr, Hp.has, h2 id (by simp [ids3, ids2, ids1, ids0])]
    | _ => rfl
  | field t x f => simp only [opV, he x (by simp [Op.operands])]
  | index t x i => simp only [opV, he x (by simp [Op.operands]), he i (by simp [Op.operands])]
  | slice t x lo hi mx =>
    have h1 := he x (by simp [Op.operands])
    have h2 := hh x (by simp [Op.operands])
    have e1 : lo.map ev' = lo.map ev := by cases lo <;> simp_all [Op.operands]
    have e2 : hi.map ev' = hi.map ev := by cases hi <;> simp_all [Op.operands]
    have e3 : mx.map ev' = mx.map ev := by cases mx <;> simp_all [Op.operands]
    simp only [opV, h1, e1, e2, e3]
    generalize ev x = v at h2
    cases v with
    | slO id g off len => simp only [opSlice, opSliceS, h2 id (by simp [ids3, ids2, ids1, ids0])]
    | _ => rfl
  | makeSlice t l c => simp only [opV, he l (by simp [Op.operands]), he c (by simp [Op.operands])]
  | buildSlice t n ps =>
    have hm : ps.toList.map (fun p => ev' p.2) = ps.toList.map fun p => ev p.2 := List.map_congr_left fun p hp => he p.2 (by simp [Op.operands]; exact ⟨p.1, by simpa using hp⟩)
    have hs : ∀ v ∈ ps.toList.map (fun p => ev p.2), snap2 hp' v = snap2 hp v ∧ snap2P hp' v = snap2P hp v := by
      intro v hv
      obtain ⟨p, hp1, rfl⟩ := List.mem_map.1 hv
      exact snap2_agree fun i hi => hh p.2 (by simp [Op.operands]; exact ⟨p.1, by simpa using hp1⟩) i (refs2_ids hi)
    simp only [opV, hm]
    rw [List.map_congr_left fun v hv => (hs v hv).1]
    have e1 : (∀ v ∈ ps.toList.map (fun p => ev p.2), snap2P hp' v ∧ v.cells.length = 0) ↔ (∀ v ∈ ps.toList.map (fun p => ev p.2), snap2P hp v ∧ v.cells.length = 0) :=
      ⟨fun h v hv => by rw [← (hs v hv).2]; exact h v hv, fun h v hv => by rw [(hs v hv).2]; exact h v hv⟩
    have e2 : ∀ k, (∀ v ∈ ps.toList.map (fun p => ev p.2), snap2P hp' v ∧ v.cells.length = k) = (∀ v ∈ ps.toList.map (fun p => ev p.2), snap2P hp v ∧ v.cells.length = k) := fun k =>
      propext ⟨fun h v hv => by rw [← (hs v hv).2]; exact h v hv, fun h v hv => by rw [(hs v hv).2]; exact h v hv⟩
    simp only [e2]
  | build t ps =>
    have he' : ∀ p ∈ ps.toList, ev' p.2 = ev p.2 := fun p hp => he p.2 (by simp [Op.operands]; exact ⟨p.1, by simpa using hp⟩)
    simp only [opV]
    split
    · rename_i fs hty
      have e1 : (∀ p ∈ ps.toList, p.1 < fs.length ∧ (tl T (fs.getD p.1 (0, 0)).2).size ≠ 0 ∧ (ev' p.2).cells.length = (tl T (fs.getD p.1 (0, 0)).2).size ∧ (fs.getD p.1 (0, 0)).1 + (tl T (fs.getD p.1 (0, 0)).2).size ≤ (tl T t).size ∧ (∀ c ∈ (ev' p.2).cells, c.one = true)) =
          (∀ p ∈ ps.toList, p.1 < fs.length ∧ (tl T (fs.getD p.1 (0, 0)).2).size ≠ 0 ∧ (ev p.2).cells.length = (tl T (fs.getD p.1 (0, 0)).2).size ∧ (fs.getD p.1 (0, 0)).1 + (tl T (fs.getD p.1 (0, 0)).2).size ≤ (tl T t).size ∧ (∀ c ∈ (ev p.2).cells, c.one = true)) :=
        propext ⟨fun h p hp => by have := h p hp; rw [he' p hp] at this; exact this, fun h p hp => by rw [he' p hp]; exact h p hp⟩
      have e2 : ∀ (l : List (Nat × Operand)) (z : List AV), (∀ p ∈ l, ev' p.2 = ev p.2) → l.foldl (fun cs p => splice cs (fs.getD p.1 (0, 0)).1 (ev' p.2).cells) z = l.foldl (fun cs p => splice cs (fs.getD p.1 (0, 0)).1 (ev p.2).cells) z := by
        intro l
        induction l with
        | nil => intro z _; rfl
        | cons p l ih =>
          intro z h
          simp only [List.foldl_cons, h p List.mem_cons_self]
          exact ih _ fun q hq => h q (List.mem_cons_of_mem _ hq)
      rw [e1, e2 _ _ he']
    · rfl
  | alloc t => rfl
  | box t x => simp only [opV, he x (by simp [Op.operands])]
  | convert a b x => simp only [opV, he x (by simp [Op.operands])]
  | call c =>
    obtain ⟨callee, args, argTypes⟩ := c
    cases callee with
    | builtin b =>
      simp only [opV]
      split
      · rename_i x t ha ht
        have hx : x ∈ args := by rw [← Array.mem_toList_iff, ha]; simp
        have h1 := he x (by simpa [Op.operands, Call.operands] using hx)
        have h2 := hh x (by simpa [Op.operands, Call.operands] using hx)
        rw [h1]
        generalize ev x = v at h2
        cases v with
        | slO id g off len => simp only [opLen, h2 id (by simp [ids3, ids2, ids1, ids0])]
        | _ => rfl
      · rename_i d x t t' ha ht
        have hd : d ∈ args := by rw [← Array.mem_toList_iff, ha]; simp
        have hx : x ∈ args := by rw [← Array.mem_toList_iff, ha]; simp
        have h1 := he x (by simpa [Op.operands, Call.operands] using hx)
        have h2 := hh x (by simpa [Op.operands, Call.operands] using hx)
        have h3 := he d (by simpa [Op.operands, Call.operands] using hd)
        have h4 := hh d (by simpa [Op.operands, Call.operands] using hd)
        rw [h1, h3]
        generalize ev x = v at h2
        generalize ev d = u at h4
        have hs := snap1_agree (hp := hp) (hp' := hp') (v := v) fun i hi => h2 i (refs1_ids hi)
        have : opAppend T t (100 + dst.getD 0) g hp' u v = opAppend T t (100 + dst.getD 0) g hp u v := by
          unfold opAppend
          rw [hs.1, hs.2]
          cases u with
          | slO id g off len => simp only [h4 id (by simp [ids3, ids2, ids1, ids0])]
          | sl es full => cases snap1 hp v <;> first | rfl | (cases es <;> cases full <;> rfl)
          | _ => cases snap1 hp v <;> rfl
        rw [this]
      · rename_i x y t t' ha ht
        have hx : x ∈ args := by rw [← Array.mem_toList_iff, ha]; simp
        have hy : y ∈ args := by rw [← Array.mem_toList_iff, ha]; simp
        rw [he x (by simpa [Op.operands, Call.operands] using hx), he y (by simpa [Op.operands, Call.operands] using hy)]
      · rename_i x y t t' ha ht
        have hx : x ∈ args := by rw [← Array.mem_toList_iff, ha]; simp
        have hy : y ∈ args := by rw [← Array.mem_toList_iff, ha]; simp
        rw [he x (by simpa [Op.operands, Call.operands] using hx), he y (by simpa [Op.operands, Call.operands] using hy)]
      · rfl
    | _ => rfl
  | _ => rfl
end Go.Sym
