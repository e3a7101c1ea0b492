/-
  SYM, part 26: returns, small laws of numbers.
-/
import Derived.Test.YtmjlnndnpdbagaaSym25
set_option linter.all false
set_option linter.unusedSimpArgs false
set_option linter.unusedVariables false
set_option linter.deprecated false
namespace Go.Sym
open Go Go.Great

/-! the values' parts, kind by kind -/
section
variable {hp : Hp}
theorem cells_lit (v : Value) : AV.cells (.lit v) = [.lit v] := rfl
theorem cells_sl (es : List AV) (b : Bool) : AV.cells (.sl es b) = [.sl es b] := rfl
theorem cells_ptI (cs : List AV) : AV.cells (.ptI cs) = [.ptI cs] := rfl
theorem cells_agg (cs : List AV) : AV.cells (.agg cs) = cs := rfl
theorem cells_slO (id g off len : Nat) : AV.cells (.slO id g off len) = [.slO id g off len] := rfl
theorem cells_ptO (id g n i off : Nat) : AV.cells (.ptO id g n i off) = [.ptO id g n i off] := rfl
theorem cells_bad  : AV.cells (.bad) = [.bad] := rfl
theorem cells_fn (f : Nat) (cs : List AV) : AV.cells (.fn f cs) = [.fn f cs] := rfl
theorem s1_lit (v : Value) : snap1 hp (.lit v) = .lit v := rfl
theorem s2_lit (v : Value) : snap2 hp (.lit v) = .lit v := rfl
theorem s1_sl (es : List AV) (b : Bool) : snap1 hp (.sl es b) = .sl es false := rfl
theorem s2_sl (es : List AV) (b : Bool) : snap2 hp (.sl es b) = .sl es false := rfl
theorem s1_ptI (cs : List AV) : snap1 hp (.ptI cs) = .ptI cs := rfl
theorem s2_ptI (cs : List AV) : snap2 hp (.ptI cs) = .ptI cs := rfl
theorem s1_fn (f : Nat) (cs : List AV) : snap1 hp (.fn f cs) = .fn f cs := rfl
theorem s2_fn (f : Nat) (cs : List AV) : snap2 hp (.fn f cs) = .fn f cs := rfl
theorem s1_slO (id g off len : Nat) : snap1 hp (.slO id g off len) = (match hp.get id with | some (_, .own _ _ es) => .sl (es.drop off) false | _ => .bad) := rfl
theorem s2_slO (id g off len : Nat) : snap2 hp (.slO id g off len) = (match hp.get id with | some (_, .own _ _ es) => .sl (es.drop off) false | _ => .bad) := rfl
theorem s2_agg (cs : List AV) : snap2 hp (.agg cs) = .agg (cs.map (snap1 hp)) := rfl
theorem p1_lit (v : Value) : snap1P hp (.lit v) = True := rfl
theorem p2_lit (v : Value) : snap2P hp (.lit v) = True := rfl
theorem p1_sl (es : List AV) (b : Bool) : snap1P hp (.sl es b) = True := rfl
theorem p2_sl (es : List AV) (b : Bool) : snap2P hp (.sl es b) = True := rfl
theorem p1_ptI (cs : List AV) : snap1P hp (.ptI cs) = True := rfl
theorem p2_ptI (cs : List AV) : snap2P hp (.ptI cs) = True := rfl
theorem p1_slO (id g off len : Nat) : snap1P hp (.slO id g off len) = (match hp.get id with | some (g', .own _ _ es) => g' = g ∧ es.length = off + len | _ => False) := rfl
theorem p2_slO (id g off len : Nat) : snap2P hp (.slO id g off len) = (match hp.get id with | some (g', .own _ _ es) => g' = g ∧ es.length = off + len | _ => False) := rfl
theorem p2_agg (cs : List AV) : snap2P hp (.agg cs) = (∀ c ∈ cs, snap1P hp c) := rfl
theorem r1_lit (v : Value) : refs1 (.lit v) = [] := rfl
theorem r2_lit (v : Value) : refs2 (.lit v) = [] := rfl
theorem r1_sl (es : List AV) (b : Bool) : refs1 (.sl es b) = [] := rfl
theorem r2_sl (es : List AV) (b : Bool) : refs2 (.sl es b) = [] := rfl
theorem r1_ptI (cs : List AV) : refs1 (.ptI cs) = [] := rfl
theorem r2_ptI (cs : List AV) : refs2 (.ptI cs) = [] := rfl
theorem r1_ptO (id g n i off : Nat) : refs1 (.ptO id g n i off) = [] := rfl
theorem r2_ptO (id g n i off : Nat) : refs2 (.ptO id g n i off) = [] := rfl
theorem r1_fn (f : Nat) (cs : List AV) : refs1 (.fn f cs) = [] := rfl
theorem r2_fn (f : Nat) (cs : List AV) : refs2 (.fn f cs) = [] := rfl
theorem r1_bad  : refs1 (.bad) = [] := rfl
theorem r2_bad  : refs2 (.bad) = [] := rfl
theorem r1_slO (id g off len : Nat) : refs1 (.slO id g off len) = [id] := rfl
theorem r2_slO (id g off len : Nat) : refs2 (.slO id g off len) = [id] := rfl
theorem r2_agg (cs : List AV) : refs2 (.agg cs) = cs.flatMap refs1 := rfl
theorem one_lit (v : Value) : AV.one (.lit v) = true := rfl
theorem one_sl (es : List AV) (b : Bool) : AV.one (.sl es b) = true := rfl
theorem one_ptI (cs : List AV) : AV.one (.ptI cs) = true := rfl
theorem one_ptO (id g n i off : Nat) : AV.one (.ptO id g n i off) = true := rfl
theorem one_slO (id g off len : Nat) : AV.one (.slO id g off len) = true := rfl
theorem one_fn (f : Nat) (cs : List AV) : AV.one (.fn f cs) = true := rfl
end
theorem parts_0  : partsOk 0 [] = true := rfl
theorem parts_1 (x0 : Operand) : partsOk 1 [(0, x0)] = true := rfl
theorem parts_2 (x0 x1 : Operand) : partsOk 2 [(0, x0), (1, x1)] = true := rfl
theorem parts_3 (x0 x1 x2 : Operand) : partsOk 3 [(0, x0), (1, x1), (2, x2)] = true := rfl
theorem parts_4 (x0 x1 x2 x3 : Operand) : partsOk 4 [(0, x0), (1, x1), (2, x2), (3, x3)] = true := rfl
theorem parts_5 (x0 x1 x2 x3 x4 : Operand) : partsOk 5 [(0, x0), (1, x1), (2, x2), (3, x3), (4, x4)] = true := rfl
theorem parts_6 (x0 x1 x2 x3 x4 x5 : Operand) : partsOk 6 [(0, x0), (1, x1), (2, x2), (3, x3), (4, x4), (5, x5)] = true := rfl
theorem parts_7 (x0 x1 x2 x3 x4 x5 x6 : Operand) : partsOk 7 [(0, x0), (1, x1), (2, x2), (3, x3), (4, x4), (5, x5), (6, x6)] = true := rfl
theorem parts_8 (x0 x1 x2 x3 x4 x5 x6 x7 : Operand) : partsOk 8 [(0, x0), (1, x1), (2, x2), (3, x3), (4, x4), (5, x5), (6, x6), (7, x7)] = true := rfl
theorem parts_9 (x0 x1 x2 x3 x4 x5 x6 x7 x8 : Operand) : partsOk 9 [(0, x0), (1, x1), (2, x2), (3, x3), (4, x4), (5, x5), (6, x6), (7, x7), (8, x8)] = true := rfl
theorem all_cons {α : Type} {p : α → Prop} {x : α} {l : List α} : (∀ y ∈ x :: l, p y) = (p x ∧ ∀ y ∈ l, p y) := by simp
theorem all_nil {α : Type} {p : α → Prop} : (∀ y ∈ ([] : List α), p y) = True := by simp
theorem all_ints {l : List Int} : (∀ y ∈ ints l, y.cells.length = 1) = True := by simp only [eq_iff_iff, iff_true]; exact ints_cells
theorem all_rows {l : List (List Int)} : (∀ y ∈ rows l, y.cells.length = 1) = True := by simp only [eq_iff_iff, iff_true]; exact rows_cells
theorem ints_set {l : List Int} {j : Nat} {v : Int} : (ints l).set j (.lit (.int .i64 v)) = ints (l.set j v) := by simp [ints, List.map_set, I]
theorem ints_snoc {l : List Int} {v : Int} : ints l ++ [.lit (.int .i64 v)] = ints (l ++ [v]) := by simp [ints]
theorem rows_snoc {l : List (List Int)} {v : List Int} : rows l ++ [.sl (ints v) false] = rows (l ++ [v]) := by simp [rows]

section
variable {C : Cx} {T : List (Nat × TI)} {s : St} {nb : Nat} {r : AV} {bs' : List (List AV)}

theorem awp_region_drawR {id : Nat} {l : List Oper} {Q : Exit → St → Prop} (hT : TOk C.P T) (hl : C.lent.length ≤ 100) (hm : C.P.follows .mixedOrders = true)
    (hs : slotOk l = true) (hd : (l.all fun o => decide (o.dst.getD 0 < C.N)) = true)
    (h : ∀ K : St → Prop, (∀ s', Q .normal s' → K s') → awpDr C.P T l l s [] (fun s' rs => conf (masks l []) rs = true ∧ K s')) : awp C (.region id l.toArray true) Q s :=
  awp_region_draw hT hl hm hs hd h

theorem condT {c : Operand} {x y : Code} {Q : Exit → St → Prop} (hc : s.ev c = .lit (.bool true)) (ht : awp C x Q s) : awp C (.cond c x y) Q s :=
  awp_cond true hc (fun _ => ht) (fun h => by cases h)
theorem condF {c : Operand} {x y : Code} {Q : Exit → St → Prop} (hc : s.ev c = .lit (.bool false)) (ht : awp C y Q s) : awp C (.cond c x y) Q s :=
  awp_cond false hc (fun h => by cases h) (fun _ => ht)

def BoxesOk (s : St) (bs' : List (List AV)) : Prop := ∀ j (h : j < bs'.length), ∃ cs, s.hp.get j = some (0, .box cs) ∧ (∀ c ∈ cs, snap1P s.hp c) ∧ cs.map (snap1 s.hp) = bs'[j]

def SnP1 (hp : Hp) : List AV → Prop
  | [] => True
  | v :: vs => snap1P hp v ∧ SnP1 hp vs
theorem SnP1.all {hp : Hp} : ∀ {vs : List AV}, SnP1 hp vs → ∀ v ∈ vs, snap1P hp v
  | [], _, v, hv => by cases hv
  | u :: us, h, v, hv => by
    rcases List.mem_cons.1 hv with rfl | hv
    · exact h.1
    · exact SnP1.all h.2 v hv

theorem box0 : BoxesOk s [] := fun j h => by cases h
theorem box1 {cs cs' : List AV} (h : s.hp.get 0 = some (0, .box cs)) (h1 : SnP1 s.hp cs) (h2 : cs.map (snap1 s.hp) = cs') : BoxesOk s [cs'] := by
  intro j hj
  have : j = 0 := by simp at hj; omega
  subst this
  exact ⟨cs, h, h1.all, h2⟩

theorem ret1 {a : Nat} (h1 : snap2P s.hp (tget s.tm a)) (hr : snap2 s.hp (tget s.tm a) = r) (hl : bs'.length = nb) (hb : BoxesOk s bs') (hnt : ∀ vs, tget s.tm a ≠ .tup vs) : RetOk T [.tmp a] nb r bs' s := by
  refine ⟨trivial, ?_, ?_, hl, hb⟩
  · show snap3P s.hp (tget s.tm a)
    cases h : tget s.tm a with
    | tup vs => exact absurd h (hnt vs)
    | _ => rw [h] at h1; exact h1
  · show snap3 s.hp (tget s.tm a) = r
    cases h : tget s.tm a with
    | tup vs => exact absurd h (hnt vs)
    | _ => rw [h] at hr; exact hr

theorem ret2 {a b : Nat} (h1 : snap2P s.hp (tget s.tm a)) (h2 : snap2P s.hp (tget s.tm b)) (hr : .tup [snap2 s.hp (tget s.tm a), snap2 s.hp (tget s.tm b)] = r) (hl : bs'.length = nb) (hb : BoxesOk s bs') : RetOk T [.tmp a, .tmp b] nb r bs' s := by
  refine ⟨?_, ?_, hr, hl, hb⟩
  · intro x hx
    simp at hx
    rcases hx with rfl | rfl <;> trivial
  · intro c hc
    simp [resV, R.val] at hc
    rcases hc with rfl | rfl
    · exact h1
    · exact h2
end

theorem quo_nat {a b : Nat} (h : a ≤ 9223372036854775807) : IntKind.i64.wrap ((a : Int).tdiv (b : Int)) = ((a / b : Nat) : Int) := by
  have : (a : Int).tdiv (b : Int) = ((a / b : Nat) : Int) := by
    rw [Int.tdiv_eq_ediv_of_nonneg (by omega)]; rfl
  rw [this]
  have : a / b ≤ a := Nat.div_le_self a b
  generalize a / b = q at *
  exact wrap_i64 ⟨by omega, by omega⟩
theorem rem_nat {a b : Nat} : (a : Int).tmod (b : Int) = ((a % b : Nat) : Int) := by
  rw [Int.tmod_eq_emod_of_nonneg (by omega)]; rfl
end Go.Sym
