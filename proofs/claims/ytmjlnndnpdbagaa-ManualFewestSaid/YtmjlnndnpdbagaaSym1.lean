/-
  SYM, part 1: abstract values, abstract heaps, and how they stand to the model's values and worlds.
  An abstract value says what a value reads as: an immutable slice carries its contents; what the function may still write is an object of an abstract heap.
-/
import Derived.WalkKit
set_option linter.all false
set_option linter.unusedSimpArgs false
set_option linter.unusedVariables false
set_option linter.deprecated false
namespace Go.Sym
open Go

inductive AV where
  | bad
  | lit (v : Value)
  | agg (cs : List AV)
  | tup (vs : List AV)
  | sl (es : List AV) (full : Bool)
  | slO (id g off len : Nat)
  | ptI (cs : List AV)
  | ptO (id g n i off : Nat)
  | fn (f : FuncId) (caps : List AV)

def AV.cells : AV → List AV
  | .agg cs => cs
  | v => [v]

/-- values of one cell that are known -/
def AV.one : AV → Bool
  | .bad | .agg _ | .tup _ => false
  | _ => true

inductive Ob where
  | own (t k : Nat) (es : List AV)
  | box (cs : List AV)

inductive VD (w : World) (U : Nat → Prop) : AV → Value → Prop
  | bad (v : Value) : VD w U .bad v
  | lit (v : Value) : v.oneCell' = true → VD w U (.lit v) v
  | agg (cs : List AV) (vs : Array Value) : cs.length = vs.size → (∀ i (h : i < cs.length), cs[i].one = true) →
      (∀ i (h : i < cs.length), VD w U cs[i] (vs.getD i undef)) → VD w U (.agg cs) (.agg vs)
  | tup (cs : List AV) (vs : Array Value) : cs.length = vs.size →
      (∀ i (h : i < cs.length), VD w U cs[i] (vs.getD i undef)) → VD w U (.tup cs) (.tuple vs)
  | nil (full : Bool) (a : Option Addr) : VD w U (.sl [] full) (.slice a 0 0)
  | sl (es : List AV) (full : Bool) (b off cap k : Nat) (f : Nat → Value) : U b → b < w.heap.size → es.length ≤ cap → cap ≤ maxLen → (full = true → cap = es.length) → 0 < k →
      (∀ i (h : i < es.length), es[i].cells.length = k) →
      (∀ j, j < es.length * k → w.cell? ⟨b, off + j, none⟩ = some (f j)) →
      (∀ i (h : i < es.length) j (h' : j < es[i].cells.length), es[i].cells[j].one = true) →
      (∀ i (h : i < es.length) j (h' : j < es[i].cells.length), VD w U es[i].cells[j] (f (i * k + j))) →
      VD w U (.sl es full) (.slice (some ⟨b, off, none⟩) es.length cap)
  | ptI (cs : List AV) (b off : Nat) (f : Nat → Value) : U b → b < w.heap.size →
      (∀ j, j < cs.length → w.cell? ⟨b, off + j, none⟩ = some (f j)) →
      (∀ j (h : j < cs.length), cs[j].one = true) →
      (∀ j (h : j < cs.length), VD w U cs[j] (f j)) → VD w U (.ptI cs) (.pointer (some ⟨b, off, none⟩))
  | fn (f : FuncId) (cs : List AV) (vs : Array Value) : cs.length = vs.size →
      (∀ i (h : i < cs.length), VD w U cs[i] (vs.getD i undef)) → VD w U (.fn f cs) (.func (.func f) #[] vs)

/-- what is known of a live object: its generation, its block (with the block's capacity in elements), cells an element, elements -/
structure EE where
  g : Nat
  blk : Option (Nat × Nat)
  k : Nat
  n : Nat

/-- the live objects, and the blocks that are somebody else's -/
structure Env where
  m : Nat → Option EE
  z : Nat → Prop

instance : CoeFun Env (fun _ => Nat → Option EE) := ⟨Env.m⟩

/-- the blocks that nobody writes -/
def UE (e : Env) (b : Nat) : Prop := ¬ e.z b ∧ ∀ id ee c, e id = some ee → ee.blk ≠ some (b, c)

def SlOK (ee : EE) (off len : Nat) (v : Value) : Prop :=
  match ee.blk with
  | none => off = 0 ∧ len = 0 ∧ ∃ a, v = .slice a 0 0
  | some (b, bcap) => ∃ cap, v = .slice (some ⟨b, off * ee.k, none⟩) len cap ∧ off + cap = bcap ∧ len ≤ cap

inductive VR (w : World) (U : Nat → Prop) (e : Env) (G : Nat → Prop) : AV → Value → Prop
  | dat (av : AV) (v : Value) : VD w U av v → VR w U e G av v
  | agg (cs : List AV) (vs : Array Value) : cs.length = vs.size → (∀ i (h : i < cs.length), cs[i].one = true) →
      (∀ i (h : i < cs.length), VR w U e G cs[i] (vs.getD i undef)) → VR w U e G (.agg cs) (.agg vs)
  | tup (cs : List AV) (vs : Array Value) : cs.length = vs.size →
      (∀ i (h : i < cs.length), VR w U e G cs[i] (vs.getD i undef)) → VR w U e G (.tup cs) (.tuple vs)
  | fn (f : FuncId) (cs : List AV) (vs : Array Value) : cs.length = vs.size →
      (∀ i (h : i < cs.length), VR w U e G cs[i] (vs.getD i undef)) → VR w U e G (.fn f cs) (.func (.func f) #[] vs)
  | slO (id g off len : Nat) (v : Value) : G g → v.oneCell' = true →
      (∀ ee, e id = some ee → ee.g = g → off + len ≤ ee.n ∧ (ee.n = off + len → SlOK ee off len v)) → VR w U e G (.slO id g off len) v
  | ptO (id g n i off : Nat) (v : Value) : G g → v.oneCell' = true →
      (∀ ee, e id = some ee → ee.g = g → n ≤ ee.n ∧ (ee.n = n → ∀ b c, ee.blk = some (b, c) → v = .pointer (some ⟨b, i * ee.k + off, none⟩))) → VR w U e G (.ptO id g n i off) v

/-- how a step of the machine moves the world and the environment -/
structure Ext (w : World) (e : Env) (G : Nat → Prop) (w' : World) (e' : Env) (G' : Nat → Prop) : Prop where
  size : w.heap.size ≤ w'.heap.size
  gs : ∀ g, G g → G' g
  un : ∀ b, b < w.heap.size → UE e b → UE e' b
  same : ∀ b, b < w.heap.size → UE e b → w'.heap[b]? = w.heap[b]?
  ent : ∀ id ee', e' id = some ee' → G ee'.g → ∃ ee, e id = some ee ∧ ee.g = ee'.g ∧ ee.k = ee'.k ∧ ((ee.n = ee'.n ∧ ee.blk = ee'.blk) ∨ ee.n < ee'.n)

theorem cell?_heap {w w' : World} {b o : Nat} (h : w'.heap[b]? = w.heap[b]?) : w'.cell? ⟨b, o, none⟩ = w.cell? ⟨b, o, none⟩ := by
  simp [World.cell?, h]

theorem VD.mono {w w' : World} {U U' : Nat → Prop} (hs : w.heap.size ≤ w'.heap.size) (hU : ∀ b, b < w.heap.size → U b → U' b)
    (hh : ∀ b, b < w.heap.size → U b → w'.heap[b]? = w.heap[b]?) {av : AV} {v : Value} (h : VD w U av v) : VD w' U' av v := by
  induction h with
  | bad v => exact .bad v
  | lit v h => exact .lit v h
  | agg cs vs h1 h2 _ ih => exact .agg cs vs h1 h2 ih
  | tup cs vs h1 _ ih => exact .tup cs vs h1 ih
  | nil full a => exact .nil full a
  | sl es full b off cap k f hb hlt h1 h1' h2 h3 h4 h5 h6 _ ih =>
    exact .sl es full b off cap k f (hU b hlt hb) (Nat.lt_of_lt_of_le hlt hs) h1 h1' h2 h3 h4 (fun j hj => (cell?_heap (hh b hlt hb)).trans (h5 j hj)) h6 ih
  | ptI cs b off f hb hlt h1 h2 _ ih =>
    exact .ptI cs b off f (hU b hlt hb) (Nat.lt_of_lt_of_le hlt hs) (fun j hj => (cell?_heap (hh b hlt hb)).trans (h1 j hj)) h2 ih
  | fn f cs vs h1 _ ih => exact .fn f cs vs h1 ih

theorem VR.ext {w w' : World} {e e' : Env} {G G' : Nat → Prop} (x : Ext w e G w' e' G') {av : AV} {v : Value}
    (h : VR w (UE e) e G av v) : VR w' (UE e') e' G' av v := by
  induction h with
  | dat av v h => exact .dat av v (h.mono x.size x.un x.same)
  | agg cs vs h1 h2 _ ih => exact .agg cs vs h1 h2 ih
  | tup cs vs h1 _ ih => exact .tup cs vs h1 ih
  | fn f cs vs h1 _ ih => exact .fn f cs vs h1 ih
  | slO id g off len v hg h1 hi =>
    refine .slO id g off len v (x.gs _ hg) h1 fun ee' he' hg' => ?_
    obtain ⟨ee, he, hgg, hk, hn⟩ := x.ent id ee' he' (by rw [hg']; exact hg)
    obtain ⟨ha, hb⟩ := hi ee he (by omega)
    rcases hn with ⟨hn, hbl⟩ | hn
    · refine ⟨by omega, fun hl => ?_⟩
      have := hb (by omega)
      unfold SlOK at this ⊢
      rw [hk, hbl] at this
      exact this
    · exact ⟨by omega, fun hl => by omega⟩
  | ptO id g n i off v hg h1 hi =>
    refine .ptO id g n i off v (x.gs _ hg) h1 fun ee' he' hg' => ?_
    obtain ⟨ee, he, hgg, hk, hn⟩ := x.ent id ee' he' (by rw [hg']; exact hg)
    obtain ⟨ha, hb⟩ := hi ee he (by omega)
    rcases hn with ⟨hn, hbl⟩ | hn
    · exact ⟨by omega, fun hl b c hc => by rw [← hk]; exact hb (by omega) b c (hbl.trans hc)⟩
    · exact ⟨by omega, fun hl => by omega⟩

theorem VD.oneCell {w : World} {U : Nat → Prop} {av : AV} {v : Value} (h : VD w U av v) (h1 : av.one = true) : v.oneCell' = true := by
  cases h <;> first | assumption | rfl | cases h1

theorem VR.oneCell {w : World} {U : Nat → Prop} {e : Env} {G : Nat → Prop} {av : AV} {v : Value} (h : VR w U e G av v) (h1 : av.one = true) : v.oneCell' = true := by
  cases h with
  | dat _ _ h => exact h.oneCell h1
  | agg => cases h1
  | tup => cases h1
  | fn => rfl
  | slO => assumption
  | ptO => assumption

end Go.Sym
