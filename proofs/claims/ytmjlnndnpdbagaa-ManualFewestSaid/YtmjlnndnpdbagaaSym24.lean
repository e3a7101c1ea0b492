/-
  SYM, part 24: handy forms.
-/
import Derived.Test.YtmjlnndnpdbagaaSym23
set_option linter.all false
set_option linter.unusedSimpArgs false
set_option linter.unusedVariables false
set_option linter.deprecated false
namespace Go.Sym
open Go Go.Great

abbrev I (x : Int) : AV := .lit (.int .i64 x)
abbrev B (x : Bool) : AV := .lit (.bool x)
def ints (l : List Int) : List AV := l.map I
abbrev IS (l : List Int) : AV := .sl (ints l) false
def rows (l : List (List Int)) : List AV := l.map IS
abbrev RS (l : List (List Int)) : AV := .sl (rows l) false

theorem ints_length (l : List Int) : (ints l).length = l.length := by simp [ints]
theorem rows_length (l : List (List Int)) : (rows l).length = l.length := by simp [rows]
theorem ints_getD {l : List Int} {n : Nat} (h : n < l.length) : (ints l).getD n .bad = I (l.getD n 0) := by
  simp [ints, h]
theorem rows_getD {l : List (List Int)} {n : Nat} (h : n < l.length) : (rows l).getD n .bad = IS (l.getD n []) := by
  simp [rows, h]
theorem ints_append (l r : List Int) : ints l ++ ints r = ints (l ++ r) := by simp [ints]
theorem ints_cells {l : List Int} : ∀ y ∈ ints l, y.cells.length = 1 := by
  intro y hy
  simp only [ints, List.mem_map] at hy
  obtain ⟨x, _, rfl⟩ := hy
  rfl
theorem rows_cells {l : List (List Int)} : ∀ y ∈ rows l, y.cells.length = 1 := by
  intro y hy
  simp only [rows, List.mem_map] at hy
  obtain ⟨x, _, rfl⟩ := hy
  rfl

section
variable {C : Cx} {T : List (Nat × TI)}

@[congr] theorem awpOps_congr {P : Program} {T : List (Nat × TI)} {all rest : List Oper} {s s' : St} {K : St → Prop} (h : s = s') : awpOps P T all rest s K = awpOps P T all rest s' K := by rw [h]
@[congr] theorem awpD_congr {P : Program} {T : List (Nat × TI)} {all rest : List Oper} {s s' : St} {K : St → List Rec → Prop} (h : s = s') : awpD P T all rest s K = awpD P T all rest s' K := by rw [h]
@[congr] theorem opK_congr {P : Program} {T : List (Nat × TI)} {o : Oper} {s s' : St} {K : St → Prop} (h : s = s') : opK P T o s K = opK P T o s' K := by rw [h]
@[congr] theorem opKD_congr {P : Program} {T : List (Nat × TI)} {o : Oper} {s s' : St} {K : AV → List Up → List Nat → Prop} (h : s = s') : opKD P T o s K = opKD P T o s' K := by rw [h]
@[congr] theorem opV_same {T : List (Nat × TI)} {o : Oper} {ev : Operand → AV} {hp : Hp} {g : Nat} : opV T o ev hp g = opV T o ev hp g := rfl
@[congr] theorem conf_same {ms : List Nat} {rs : List Rec} : conf ms rs = conf ms rs := rfl

/-- snapshots can be taken -/
def SnP (hp : Hp) : List AV → Prop
  | [] => True
  | v :: vs => snap2P hp v ∧ SnP hp vs
theorem SnP.all {hp : Hp} : ∀ {vs : List AV}, SnP hp vs → ∀ v ∈ vs, snap2P hp v
  | [], _, v, hv => by cases hv
  | u :: us, h, v, hv => by
    rcases List.mem_cons.1 hv with rfl | hv
    · exact h.1
    · exact SnP.all h.2 v hv

theorem callF {P : Program} {f : FuncId} {g did : Nat} {hp : Hp} {vs : List AV} {r : AV} {K : AV → List Up → Prop} (hs : SnP hp vs) (h : Sat P f (vs.map (snap2 hp)) [] r []) (hf : flat3 r = true) (hK : K r []) : CallK P f g did hp vs K :=
  ⟨r, [], .flat _ _ hs.all h hf, hK⟩
theorem callP {P : Program} {f : FuncId} {g did : Nat} {hp : Hp} {vs : List AV} {r : AV} {K : AV → List Up → Prop} (hs : SnP hp vs) (h : Sat P f (vs.map (snap2 hp)) [] r []) (hK : K r (drops (vs.flatMap refs2))) : CallK P f g did hp vs K :=
  ⟨r, _, .plain _ _ hs.all h, hK⟩
theorem callN {P : Program} {f : FuncId} {g did : Nat} {hp : Hp} {vs : List AV} {r : AV} {K : AV → List Up → Prop} (hs : SnP hp vs) (h : SatF P f (vs.map (snap2 hp)) r) (hK : K r []) : CallK P f g did hp vs K :=
  ⟨r, [], .fresh _ _ hs.all h, hK⟩

/-- slots that hold what they are said to hold, or a snapshot of it -/
inductive WOk (s : St) (hp' : Hp) : List (Nat × AV) → Prop
  | nil : WOk s hp' []
  | cons {t : Nat} {v : AV} {l : List (Nat × AV)} : tget s.tm t = v → WOk s hp' l → WOk s hp' ((t, v) :: l)
  | snap {t : Nat} {v : AV} {l : List (Nat × AV)} : snap2P s.hp (tget s.tm t) → snap2 s.hp (tget s.tm t) = v → (∀ i ∈ refs2 (tget s.tm t), hp'.get i = none) → WOk s hp' l → WOk s hp' ((t, v) :: l)

inductive HOk (s : St) : Hp → Prop
  | nil : HOk s []
  | cons {i : Nat} {x : Option (Nat × Ob)} {l : Hp} : s.hp.get i = x → HOk s l → HOk s ((i, x) :: l)

theorem HOk.get {s : St} {l : Hp} (h : HOk s l) : ∀ id, l.get id = none ∨ l.get id = s.hp.get id := by
  induction h with
  | nil => exact fun _ => .inl rfl
  | @cons i x l h _ ih =>
    intro id
    simp only [Hp.get]
    by_cases hi : i = id
    · subst hi; rw [if_pos rfl]; exact .inr h.symm
    · rw [if_neg hi]; exact ih id

theorem WOk.get {s : St} {hp' : Hp} {l : List (Nat × AV)} (h : WOk s hp' l) : ∀ t, tget l t = .bad ∨ tget l t = tget s.tm t ∨
    (snap2P s.hp (tget s.tm t) ∧ tget l t = snap2 s.hp (tget s.tm t) ∧ ∀ i ∈ refs2 (tget s.tm t), hp'.get i = none) := by
  induction h with
  | nil => exact fun _ => .inl rfl
  | @cons i x l h _ ih =>
    intro id
    simp only [tget]
    by_cases hi : i = id
    · subst hi; rw [if_pos rfl]; exact .inr (.inl h.symm)
    · rw [if_neg hi]; exact ih id
  | @snap i x l h1 h2 h3 _ ih =>
    intro id
    simp only [tget]
    by_cases hi : i = id
    · subst hi; rw [if_pos rfl]; exact .inr (.inr ⟨h1, h2.symm, h3⟩)
    · rw [if_neg hi]; exact ih id

theorem Weak.of {s s' : St} (hc : s.ck ≤ s'.ck) (hh : HOk s s'.hp) (ht : WOk s s'.hp s'.tm) : Weak s s' := ⟨hc, hh.get, ht.get⟩

theorem awp_loopW {ι : Type} {c : Code} {Q : Exit → St → Prop} {s : St} (inv : ι → St) (ok : ι → Prop) (m : ι → Nat) (i0 : ι) (h0 : ok i0) (hw : Weak s (inv i0))
    (round : ∀ i, ok i → awp C c (QThen (fun s' => ∃ j, ok j ∧ m j < m i ∧ Weak s' (inv j)) Q) (inv i)) : awp C (.loop c) Q s := by
  refine awp_weak hw (awp_loop inv ok m i0 h0 fun i hi => awp_mono (round i hi) ?_)
  intro e s' h
  cases e with
  | normal => obtain ⟨j, h1, h2, h3⟩ := h; exact ⟨j, h1, h2, fun a w hr => h3.rel hr⟩
  | _ => exact h

theorem seqR {id : Nat} {l : List Oper} {y : Code} {Q : Exit → St → Prop} {s : St} (hT : TOk C.P T) (hl : C.lent.length ≤ 100) (hd : (l.all fun o => decide (o.dst.getD 0 < C.N)) = true)
    (h : ∀ K : St → Prop, (∀ s', awp C y Q s' → K s') → awpOps C.P T l l s K) : awp C (.seq (.region id l.toArray false) y) Q s :=
  awp_seq (awp_region hT hl hd fun K hK => h K fun s' h' => hK s' h')

theorem seqD {id : Nat} {l : List Oper} {y : Code} {Q : Exit → St → Prop} {s : St} (hT : TOk C.P T) (hl : C.lent.length ≤ 100) (hm : C.P.follows .mixedOrders = true) (hs : slotOk l = true) (hd : (l.all fun o => decide (o.dst.getD 0 < C.N)) = true)
    (h : ∀ K : St → Prop, (∀ s', awp C y Q s' → K s') → awpD C.P T l l s (fun s' rs => conf (masks l []) rs = true ∧ K s')) : awp C (.seq (.region id l.toArray true) y) Q s :=
  awp_seq (awp_region_draw hT hl hm hs hd fun K hK => h K fun s' h' => hK s' h')

/-- a condition, and what follows: told apart by what the condition says -/
theorem seqC {c : Operand} {x y z : Code} {Q : Exit → St → Prop} {s : St} (p : Prop) [Decidable p] (hc : s.ev c = .lit (.bool (decide p))) (ht : p → awp C x (QThen (awp C z Q) Q) s) (hf : ¬ p → awp C y (QThen (awp C z Q) Q) s) :
    awp C (.seq (.cond c x y) z) Q s :=
  awp_seq (awp_cond (decide p) hc (fun h => ht (by simpa using h)) fun h => hf (by simpa using h))

theorem condP {c : Operand} {x y : Code} {Q : Exit → St → Prop} {s : St} (p : Prop) [Decidable p] (hc : s.ev c = .lit (.bool (decide p))) (ht : p → awp C x Q s) (hf : ¬ p → awp C y Q s) :
    awp C (.cond c x y) Q s :=
  awp_cond (decide p) hc (fun h => ht (by simpa using h)) fun h => hf (by simpa using h)
end
end Go.Sym
