/-
  SYM, part 2: abstract heaps and states, and how they stand to the world.
-/
import Derived.Test.YtmjlnndnpdbagaaSym1
set_option linter.all false
set_option linter.unusedSimpArgs false
set_option linter.unusedVariables false
set_option linter.deprecated false
namespace Go.Sym
open Go

abbrev Hp := List (Nat × Option (Nat × Ob))

def Hp.get : Hp → Nat → Option (Nat × Ob)
  | [], _ => none
  | (i, x) :: h, n => if i = n then x else Hp.get h n

def tget : List (Nat × AV) → Nat → AV
  | [], _ => .bad
  | (i, x) :: h, n => if i = n then x else tget h n

structure St where
  tm : List (Nat × AV)
  hp : Hp
  ck : Nat

def ORel (w : World) (e : Env) (G : Nat → Prop) : Ob → EE → Prop
  | .own t k es, ee => ee.k = k ∧ ee.n = es.length ∧ 0 < k ∧ (∀ i (h : i < es.length), es[i].cells.length = k) ∧
      (∀ i (h : i < es.length) j (h' : j < es[i].cells.length), es[i].cells[j].one = true) ∧
      match ee.blk with
      | none => es = []
      | some (b, bcap) => bcap ≤ maxLen ∧ es.length ≤ bcap ∧ ∃ cs, w.heap[b]? = some (.cells cs t (0, 0)) ∧ cs.size = bcap * k ∧
          ∀ i (h : i < es.length) j (h' : j < es[i].cells.length), VD w (UE e) es[i].cells[j] (cs.getD (i * k + j) undef)
  | .box cs, ee => ee.n = 0 ∧ (∀ j (h : j < cs.length), cs[j].one = true) ∧ ∃ b c vs t, ee.blk = some (b, c) ∧ w.heap[b]? = some (.cells vs t (0, 0)) ∧ vs.size = cs.length ∧
      ∀ j (h : j < cs.length), VR w (UE e) e G cs[j] (vs.getD j undef)

structure HRel (w : World) (e : Env) (G : Nat → Prop) (hp : Hp) : Prop where
  dead : ∀ id, hp.get id = none → e id = none
  live : ∀ id g ob, hp.get id = some (g, ob) → ∃ ee, e id = some ee ∧ ee.g = g ∧ G g ∧ ORel w e G ob ee
  inj : ∀ id id' ee ee' b c c', e id = some ee → e id' = some ee' → ee.blk = some (b, c) → ee'.blk = some (b, c') → id = id'
  lt : ∀ id ee b c, e id = some ee → ee.blk = some (b, c) → b < w.heap.size
  nz : ∀ id ee b c, e id = some ee → ee.blk = some (b, c) → ¬ e.z b

theorem ORel.ext {w w' : World} {e e' : Env} {G G' : Nat → Prop} (x : Ext w e G w' e' G') {ob : Ob} {ee : EE} (h : ORel w e G ob ee)
    (hb : ∀ b c, ee.blk = some (b, c) → w'.heap[b]? = w.heap[b]?) : ORel w' e' G' ob ee := by
  cases ob with
  | own t k es =>
    obtain ⟨h1, h2, h3, h4, h5, h6⟩ := h
    refine ⟨h1, h2, h3, h4, h5, ?_⟩
    cases hbl : ee.blk with
    | none => rw [hbl] at h6; exact h6
    | some p =>
      obtain ⟨b, bcap⟩ := p
      rw [hbl] at h6
      obtain ⟨h7, h8, cs, h9, h10, h11⟩ := h6
      exact ⟨h7, h8, cs, (hb b bcap hbl).trans h9, h10, fun i hi j hj => (h11 i hi j hj).mono x.size x.un x.same⟩
  | box cs =>
    obtain ⟨h1, h2, b, c, vs, t, h3, h4, h5, h6⟩ := h
    exact ⟨h1, h2, b, c, vs, t, h3, (hb b c h3).trans h4, h5, fun j hj => (h6 j hj).ext x⟩

/-- the environment with one object laid, moved or removed -/
def eset (e : Env) (id : Nat) (x : Option EE) : Env := ⟨fun i => if i = id then x else e i, e.z⟩

theorem eset_same (e : Env) (id : Nat) (x : Option EE) : eset e id x id = x := by simp [eset]
theorem eset_other (e : Env) {id i : Nat} (x : Option EE) (h : i ≠ id) : eset e id x i = e i := by simp [eset, h]

theorem Hp.get_cons_same (h : Hp) (id : Nat) (x : Option (Nat × Ob)) : Hp.get ((id, x) :: h) id = x := by simp [Hp.get]
theorem Hp.get_cons_other (h : Hp) {id i : Nat} (x : Option (Nat × Ob)) (hne : i ≠ id) : Hp.get ((id, x) :: h) i = h.get i := by
  simp [Hp.get, Ne.symm hne]

/-- one object is laid anew, moved or written -/
theorem HRel.set {w w' : World} {e : Env} {G G' : Nat → Prop} {hp : Hp} {id : Nat} {ee : EE} {ob : Ob} (h : HRel w e G hp)
    (x : Ext w e G w' (eset e id (some ee)) G') (ho : ORel w' (eset e id (some ee)) G' ob ee) (hg : G' ee.g)
    (hother : ∀ i ei b c, i ≠ id → e i = some ei → ei.blk = some (b, c) → w'.heap[b]? = w.heap[b]?)
    (hfresh : ∀ i ei b c c', i ≠ id → e i = some ei → ei.blk = some (b, c) → ee.blk ≠ some (b, c'))
    (hlt : ∀ b c, ee.blk = some (b, c) → b < w'.heap.size) (hnz : ∀ b c, ee.blk = some (b, c) → ¬ e.z b) : HRel w' (eset e id (some ee)) G' ((id, some (ee.g, ob)) :: hp) := by
  constructor
  · intro i hi
    by_cases hne : i = id
    · subst hne; rw [Hp.get_cons_same] at hi; cases hi
    · rw [Hp.get_cons_other _ _ hne] at hi
      rw [eset_other _ _ hne]; exact h.dead i hi
  · intro i g ob' hi
    by_cases hne : i = id
    · subst hne
      rw [Hp.get_cons_same] at hi
      cases hi
      exact ⟨ee, eset_same _ _ _, rfl, hg, ho⟩
    · rw [Hp.get_cons_other _ _ hne] at hi
      obtain ⟨ei, h1, h2, h3, h4⟩ := h.live i g ob' hi
      refine ⟨ei, by rw [eset_other _ _ hne]; exact h1, h2, x.gs _ h3, ?_⟩
      exact h4.ext x fun b c hb => hother i ei b c hne h1 hb
  · intro i j ei ej b c c' hi hj hbi hbj
    by_cases h1 : i = id
    · by_cases h2 : j = id
      · rw [h1, h2]
      · subst h1
        rw [eset_same] at hi; cases hi
        rw [eset_other _ _ h2] at hj
        exact absurd hbi (hfresh j ej b c' c h2 hj hbj)
    · by_cases h2 : j = id
      · subst h2
        rw [eset_same] at hj; cases hj
        rw [eset_other _ _ h1] at hi
        exact absurd hbj (hfresh i ei b c c' h1 hi hbi)
      · rw [eset_other _ _ h1] at hi
        rw [eset_other _ _ h2] at hj
        exact h.inj i j ei ej b c c' hi hj hbi hbj
  · intro i ei b c hi hb
    by_cases h1 : i = id
    · subst h1; rw [eset_same] at hi; cases hi; exact hlt b c hb
    · rw [eset_other _ _ h1] at hi
      exact Nat.lt_of_lt_of_le (h.lt i ei b c hi hb) x.size
  · intro i ei b c hi hb
    by_cases h1 : i = id
    · subst h1; rw [eset_same] at hi; cases hi; exact hnz b c hb
    · rw [eset_other _ _ h1] at hi
      exact h.nz i ei b c hi hb

/-- an object is forgotten: its block is nobody's from now on -/
theorem Ext.drop (w : World) (e : Env) (G : Nat → Prop) (id : Nat) : Ext w e G w (eset e id none) G := by
  refine ⟨Nat.le_refl _, fun _ h => h, ?_, fun _ _ _ => rfl, ?_⟩
  · intro b _ hb
    refine ⟨hb.1, fun i ee c hi => ?_⟩
    by_cases h : i = id
    · subst h; rw [eset_same] at hi; cases hi
    · rw [eset_other _ _ h] at hi; exact hb.2 i ee c hi
  · intro i ee' hi _
    by_cases h : i = id
    · subst h; rw [eset_same] at hi; cases hi
    · rw [eset_other _ _ h] at hi; exact ⟨ee', hi, rfl, rfl, .inl ⟨rfl, rfl⟩⟩

theorem HRel.drop {w : World} {e : Env} {G : Nat → Prop} {hp : Hp} (h : HRel w e G hp) (id : Nat) : HRel w (eset e id none) G ((id, none) :: hp) := by
  have x := Ext.drop w e G id
  constructor
  · intro i hi
    by_cases hne : i = id
    · subst hne; exact eset_same _ _ _
    · rw [Hp.get_cons_other _ _ hne] at hi
      rw [eset_other _ _ hne]; exact h.dead i hi
  · intro i g ob' hi
    by_cases hne : i = id
    · subst hne; rw [Hp.get_cons_same] at hi; cases hi
    · rw [Hp.get_cons_other _ _ hne] at hi
      obtain ⟨ei, h1, h2, h3, h4⟩ := h.live i g ob' hi
      exact ⟨ei, by rw [eset_other _ _ hne]; exact h1, h2, h3, h4.ext x fun _ _ _ => rfl⟩
  · intro i j ei ej b c c' hi hj hbi hbj
    by_cases h1 : i = id
    · subst h1; rw [eset_same] at hi; cases hi
    · by_cases h2 : j = id
      · subst h2; rw [eset_same] at hj; cases hj
      · rw [eset_other _ _ h1] at hi
        rw [eset_other _ _ h2] at hj
        exact h.inj i j ei ej b c c' hi hj hbi hbj
  · intro i ei b c hi hb
    by_cases h1 : i = id
    · subst h1; rw [eset_same] at hi; cases hi
    · rw [eset_other _ _ h1] at hi
      exact h.lt i ei b c hi hb
  · intro i ei b c hi hb
    by_cases h1 : i = id
    · subst h1; rw [eset_same] at hi; cases hi
    · rw [eset_other _ _ h1] at hi
      exact h.nz i ei b c hi hb

/-- the world has moved, but no owned block has -/
theorem HRel.ext {w w' : World} {e : Env} {G G' : Nat → Prop} {hp : Hp} (h : HRel w e G hp) (x : Ext w e G w' e G')
    (hother : ∀ i ei b c, e i = some ei → ei.blk = some (b, c) → w'.heap[b]? = w.heap[b]?) : HRel w' e G' hp := by
  constructor
  · exact h.dead
  · intro i g ob hi
    obtain ⟨ei, h1, h2, h3, h4⟩ := h.live i g ob hi
    exact ⟨ei, h1, h2, x.gs _ h3, h4.ext x fun b c hb => hother i ei b c h1 hb⟩
  · exact h.inj
  · exact fun i ei b c hi hb => Nat.lt_of_lt_of_le (h.lt i ei b c hi hb) x.size
  · exact h.nz

/-- what a function is run in: the program, the size of its frame, the world in which it was entered, and the blocks that it was lent (its first objects) -/
structure Cx where
  P : Program
  N : Nat
  w0 : World
  lent : List Nat
  z : Nat → Prop

structure Frm (C : Cx) (w : World) : Prop where
  os : w.os = C.w0.os
  tape : w.tape = C.w0.tape
  output : w.output = C.w0.output
  size : C.w0.heap.size ≤ w.heap.size
  same : ∀ b, b < C.w0.heap.size → b ∉ C.lent → w.heap[b]? = C.w0.heap[b]?

/-- whose the blocks of the environment are -/
structure Lnt (C : Cx) (e : Env) : Prop where
  zeq : e.z = C.z
  zlt : ∀ b, C.z b → b < C.w0.heap.size
  mine : ∀ id ee b c, C.lent.length ≤ id → e id = some ee → ee.blk = some (b, c) → C.w0.heap.size ≤ b
  lent : ∀ id (h : id < C.lent.length) ee, e id = some ee → ∃ c, ee.blk = some (C.lent[id], c)

structure Rel (C : Cx) (G : Nat → Prop) (tm : List (Nat × AV)) (hp : Hp) (a : Act) (w : World) : Prop where
  defers : a.defers = []
  size : a.tmps.size = C.N
  frm : Frm C w
  body : ∃ e, HRel w e G hp ∧ Lnt C e ∧ ∀ t, VR w (UE e) e G (tget tm t) (a.tmps.getD t undef)

end Go.Sym
