/-
  SYM, part 25: what each kind of operation does, as one equation each (printed by genops.py).
-/
import Derived.Test.YtmjlnndnpdbagaaSym24
set_option linter.all false
set_option linter.unusedSimpArgs false
set_option linter.unusedVariables false
set_option linter.deprecated false
namespace Go.Sym
open Go Go.Great

def fin (r : R) (dst : Option Nat) (s : St) (K : St → Prop) : Prop := r.1 ∧ K (s.put dst r.2.1 r.2.2)
def finD (r : R) (acc : List Nat) (K : AV → List Up → List Nat → Prop) : Prop := r.1 ∧ K r.2.1 r.2.2 acc
@[congr] theorem fin_congr {r r' : R} {dst : Option Nat} {s : St} {K : St → Prop} (h : r = r') : fin r dst s K = fin r' dst s K := by rw [h]
@[congr] theorem finD_congr {r r' : R} {acc : List Nat} {K : AV → List Up → List Nat → Prop} (h : r = r') : finD r acc K = finD r' acc K := by rw [h]
theorem fin_mk {p : Prop} {v : AV} {ups : List Up} {dst : Option Nat} {s : St} {K : St → Prop} : fin (p, v, ups) dst s K = (p ∧ K (s.put dst v ups)) := rfl
theorem finD_mk {p : Prop} {v : AV} {ups : List Up} {acc : List Nat} {K : AV → List Up → List Nat → Prop} : finD (p, v, ups) acc K = (p ∧ K v ups acc) := rfl

/-- one operation, and the rest of its region -/
def awpO (P : Program) (T : List (Nat × TI)) (all : List Oper) (o : Oper) (rest : List Oper) (s : St) (K : St → Prop) : Prop := opK P T o s fun s' => awpOps P T all rest s' K
def finO (P : Program) (T : List (Nat × TI)) (r : R) (dst : Option Nat) (all rest : List Oper) (s : St) (K : St → Prop) : Prop := r.1 ∧ awpOps P T all rest (s.put dst r.2.1 r.2.2) K
def CallO (P : Program) (T : List (Nat × TI)) (f : FuncId) (g did : Nat) (hp : Hp) (vs : List AV) (dst : Option Nat) (all rest : List Oper) (s : St) (K : St → Prop) : Prop :=
  CallK P f g did hp vs fun v ups => awpOps P T all rest (s.put dst v ups) K
/-- the same, with what is written and read kept -/
def awpDr (P : Program) (T : List (Nat × TI)) (all rest : List Oper) (s : St) (acc : List Rec) (K : St → List Rec → Prop) : Prop := awpD P T all rest s fun s' rs => K s' (acc ++ rs)
def awpOD (P : Program) (T : List (Nat × TI)) (all : List Oper) (o : Oper) (rest : List Oper) (s : St) (acc : List Rec) (K : St → List Rec → Prop) : Prop :=
  opKD P T o s fun v ups a => awpDr P T all rest (s.put o.dst v ups) (acc ++ [(ups.map (·.1), a)]) K
def finOD (P : Program) (T : List (Nat × TI)) (r : R) (a : List Nat) (dst : Option Nat) (all rest : List Oper) (s : St) (acc : List Rec) (K : St → List Rec → Prop) : Prop :=
  r.1 ∧ awpDr P T all rest (s.put dst r.2.1 r.2.2) (acc ++ [(r.2.2.map (·.1), a)]) K
def CallOD (P : Program) (T : List (Nat × TI)) (f : FuncId) (g did : Nat) (hp : Hp) (vs : List AV) (dst : Option Nat) (all rest : List Oper) (s : St) (acc : List Rec) (K : St → List Rec → Prop) : Prop :=
  CallK P f g did hp vs fun v ups => awpDr P T all rest (s.put dst v ups) (acc ++ [(ups.map (·.1), callAcc hp vs)]) K
theorem finO_mk {P : Program} {T : List (Nat × TI)} {p : Prop} {v : AV} {ups : List Up} {dst : Option Nat} {all rest : List Oper} {s : St} {K : St → Prop} : finO P T (p, v, ups) dst all rest s K = (p ∧ awpOps P T all rest (s.put dst v ups) K) := propext ⟨fun h => h, fun h => h⟩
theorem finOD_mk {P : Program} {T : List (Nat × TI)} {p : Prop} {v : AV} {ups : List Up} {a : List Nat} {dst : Option Nat} {all rest : List Oper} {s : St} {acc : List Rec} {K : St → List Rec → Prop} : finOD P T (p, v, ups) a dst all rest s acc K = (p ∧ awpDr P T all rest (s.put dst v ups) (acc ++ [(ups.map (·.1), a)]) K) := propext ⟨fun h => h, fun h => h⟩
def gv (tm : List (Nat × AV)) : Option Nat → Option AV
  | some d => some (tget tm d)
  | none => none
theorem gv_some {tm : List (Nat × AV)} {d : Nat} : gv tm (some d) = some (tget tm d) := rfl
theorem gv_eq (tm : List (Nat × AV)) : ∀ o : Option Nat, o.map (tget tm) = gv tm o
  | some _ => rfl
  | none => rfl
/-- a guarded operation: no proposition stands under it, so that simp looks at what the guard has given alone -/
def GO (P : Program) (T : List (Nat × TI)) (x : Option AV) (want : Bool) (all : List Oper) (o : Oper) (rest : List Oper) (s : St) (K : St → Prop) : Prop :=
  GM x want (awpO P T all o rest s K) (awpOps P T all rest (s.put o.dst (.tup []) []) K)
def GOD (P : Program) (T : List (Nat × TI)) (x : Option AV) (want : Bool) (all : List Oper) (o : Oper) (rest : List Oper) (s : St) (acc : List Rec) (K : St → List Rec → Prop) : Prop :=
  GM x want (awpOD P T all o rest s acc K) (awpDr P T all rest (s.put o.dst (.tup []) []) (acc ++ [([], [])]) K)
section
variable {P : Program} {T : List (Nat × TI)} {all rest : List Oper} {o : Oper} {s : St} {K : St → Prop} {acc : List Rec} {KD : St → List Rec → Prop} {want : Bool}
theorem GO_tt : GO P T (some (.lit (.bool true))) true all o rest s K = awpO P T all o rest s K := by simp [GO, GM, GK]
theorem GO_ff : GO P T (some (.lit (.bool false))) false all o rest s K = awpO P T all o rest s K := by simp [GO, GM, GK]
theorem GO_tf : GO P T (some (.lit (.bool true))) false all o rest s K = awpOps P T all rest (s.put o.dst (.tup []) []) K := by simp [GO, GM, GK]
theorem GO_ft : GO P T (some (.lit (.bool false))) true all o rest s K = awpOps P T all rest (s.put o.dst (.tup []) []) K := by simp [GO, GM, GK]
theorem GO_tup : GO P T (some (.tup [])) want all o rest s K = awpOps P T all rest (s.put o.dst (.tup []) []) K := propext ⟨fun h => h, fun h => h⟩
theorem GOD_tt : GOD P T (some (.lit (.bool true))) true all o rest s acc KD = awpOD P T all o rest s acc KD := by simp [GOD, GM, GK]
theorem GOD_ff : GOD P T (some (.lit (.bool false))) false all o rest s acc KD = awpOD P T all o rest s acc KD := by simp [GOD, GM, GK]
theorem GOD_tf : GOD P T (some (.lit (.bool true))) false all o rest s acc KD = awpDr P T all rest (s.put o.dst (.tup []) []) (acc ++ [([], [])]) KD := by simp [GOD, GM, GK]
theorem GOD_ft : GOD P T (some (.lit (.bool false))) true all o rest s acc KD = awpDr P T all rest (s.put o.dst (.tup []) []) (acc ++ [([], [])]) KD := by simp [GOD, GM, GK]
theorem GOD_tup : GOD P T (some (.tup [])) want all o rest s acc KD = awpDr P T all rest (s.put o.dst (.tup []) []) (acc ++ [([], [])]) KD := propext ⟨fun h => h, fun h => h⟩
end

section
variable {P : Program} {T : List (Nat × TI)} {dst : Option Nat} {type : TypeId} {pos : String} {after : Array Edge} {guard : Option (Nat × Bool)} {s : St} {all rest : List Oper} {K : St → Prop} {acc : List Rec} {KD : St → List Rec → Prop}

theorem K_move (x : Operand) : awpO P T all ⟨dst, .move x, type, pos, after, guard⟩ rest s K = finO P T (.val True (s.ev x)) dst all rest s K := propext ⟨fun h => h, fun h => h⟩
theorem D_move (x : Operand) : awpOD P T all ⟨dst, .move x, type, pos, after, guard⟩ rest s acc KD = finOD P T (.val True (s.ev x)) ((Op.operands (.move x)).toList.flatMap fun x => ids3 (s.ev x)) dst all rest s acc KD := propext ⟨fun h => h, fun h => h⟩
theorem K_pick (c a b : Operand) : awpO P T all ⟨dst, .pick c a b, type, pos, after, guard⟩ rest s K = finO P T ((match s.ev c with | .lit (.bool c) => .val True (if c then s.ev a else s.ev b) | _ => .no)) dst all rest s K := propext ⟨fun h => h, fun h => h⟩
theorem D_pick (c a b : Operand) : awpOD P T all ⟨dst, .pick c a b, type, pos, after, guard⟩ rest s acc KD = finOD P T ((match s.ev c with | .lit (.bool c) => .val True (if c then s.ev a else s.ev b) | _ => .no)) ((Op.operands (.pick c a b)).toList.flatMap fun x => ids3 (s.ev x)) dst all rest s acc KD := propext ⟨fun h => h, fun h => h⟩
theorem K_binOp (op : BinOp) (t : TypeId) (x y : Operand) (u : TypeId) : awpO P T all ⟨dst, .binOp op t x y u, type, pos, after, guard⟩ rest s K = finO P T (bop op (tl T t).ty (s.ev x) (s.ev y)) dst all rest s K := propext ⟨fun h => h, fun h => h⟩
theorem D_binOp (op : BinOp) (t : TypeId) (x y : Operand) (u : TypeId) : awpOD P T all ⟨dst, .binOp op t x y u, type, pos, after, guard⟩ rest s acc KD = finOD P T (bop op (tl T t).ty (s.ev x) (s.ev y)) ((Op.operands (.binOp op t x y u)).toList.flatMap fun x => ids3 (s.ev x)) dst all rest s acc KD := propext ⟨fun h => h, fun h => h⟩
theorem K_not (t : TypeId) (x : Operand) : awpO P T all ⟨dst, .unOp .not t x, type, pos, after, guard⟩ rest s K = finO P T ((match s.ev x with | .lit (.bool b) => .val True (.lit (.bool (!b))) | _ => .no)) dst all rest s K := propext ⟨fun h => h, fun h => h⟩
theorem D_not (t : TypeId) (x : Operand) : awpOD P T all ⟨dst, .unOp .not t x, type, pos, after, guard⟩ rest s acc KD = finOD P T ((match s.ev x with | .lit (.bool b) => .val True (.lit (.bool (!b))) | _ => .no)) ((Op.operands (.unOp .not t x)).toList.flatMap fun x => ids3 (s.ev x)) dst all rest s acc KD := propext ⟨fun h => h, fun h => h⟩
theorem K_neg (t : TypeId) (x : Operand) : awpO P T all ⟨dst, .unOp .neg t x, type, pos, after, guard⟩ rest s K = finO P T ((match s.ev x with | .lit (.int k n) => arith k (0 - n) | _ => .no)) dst all rest s K := propext ⟨fun h => h, fun h => h⟩
theorem D_neg (t : TypeId) (x : Operand) : awpOD P T all ⟨dst, .unOp .neg t x, type, pos, after, guard⟩ rest s acc KD = finOD P T ((match s.ev x with | .lit (.int k n) => arith k (0 - n) | _ => .no)) ((Op.operands (.unOp .neg t x)).toList.flatMap fun x => ids3 (s.ev x)) dst all rest s acc KD := propext ⟨fun h => h, fun h => h⟩
theorem K_nilCheck (x : Operand) : awpO P T all ⟨dst, .nilCheck x, type, pos, after, guard⟩ rest s K = finO P T ((match s.ev x with | .ptI cs => .val True (.ptI cs) | .ptO id g n i off => .val (s.hp.has id g n) (.ptO id g n i off) | _ => .no)) dst all rest s K := propext ⟨fun h => h, fun h => h⟩
theorem D_nilCheck (x : Operand) : awpOD P T all ⟨dst, .nilCheck x, type, pos, after, guard⟩ rest s acc KD = finOD P T ((match s.ev x with | .ptI cs => .val True (.ptI cs) | .ptO id g n i off => .val (s.hp.has id g n) (.ptO id g n i off) | _ => .no)) ((Op.operands (.nilCheck x)).toList.flatMap fun x => ids3 (s.ev x)) dst all rest s acc KD := propext ⟨fun h => h, fun h => h⟩
theorem K_extract (x : Operand) (i : Nat) : awpO P T all ⟨dst, .extract x i, type, pos, after, guard⟩ rest s K = finO P T ((match s.ev x with | .tup vs => .val (i < vs.length) (vs.getD i .bad) | _ => .no)) dst all rest s K := propext ⟨fun h => h, fun h => h⟩
theorem D_extract (x : Operand) (i : Nat) : awpOD P T all ⟨dst, .extract x i, type, pos, after, guard⟩ rest s acc KD = finOD P T ((match s.ev x with | .tup vs => .val (i < vs.length) (vs.getD i .bad) | _ => .no)) ((Op.operands (.extract x i)).toList.flatMap fun x => ids3 (s.ev x)) dst all rest s acc KD := propext ⟨fun h => h, fun h => h⟩
theorem K_load (t : TypeId) (x : Operand) : awpO P T all ⟨dst, .load t x, type, pos, after, guard⟩ rest s K = finO P T (opLoad (tl T t) s.hp (s.ev x)) dst all rest s K := propext ⟨fun h => h, fun h => h⟩
theorem D_load (t : TypeId) (x : Operand) : awpOD P T all ⟨dst, .load t x, type, pos, after, guard⟩ rest s acc KD = finOD P T (opLoad (tl T t) s.hp (s.ev x)) ((Op.operands (.load t x)).toList.flatMap fun x => ids3 (s.ev x)) dst all rest s acc KD := propext ⟨fun h => h, fun h => h⟩
theorem K_store (t : TypeId) (x y : Operand) : awpO P T all ⟨dst, .store t x y, type, pos, after, guard⟩ rest s K = finO P T (opStore (tl T t) s.hp (s.ev y) (s.ev x)) dst all rest s K := propext ⟨fun h => h, fun h => h⟩
theorem D_store (t : TypeId) (x y : Operand) : awpOD P T all ⟨dst, .store t x y, type, pos, after, guard⟩ rest s acc KD = finOD P T (opStore (tl T t) s.hp (s.ev y) (s.ev x)) ((Op.operands (.store t x y)).toList.flatMap fun x => ids3 (s.ev x)) dst all rest s acc KD := propext ⟨fun h => h, fun h => h⟩
theorem K_indexAddr (t : TypeId) (x y : Operand) : awpO P T all ⟨dst, .indexAddr t x y, type, pos, after, guard⟩ rest s K = finO P T (opIndexAddr (tl T t) (tl T (Sym.elemOf T t)) s.hp (s.ev x) (s.ev y)) dst all rest s K := propext ⟨fun h => h, fun h => h⟩
theorem D_indexAddr (t : TypeId) (x y : Operand) : awpOD P T all ⟨dst, .indexAddr t x y, type, pos, after, guard⟩ rest s acc KD = finOD P T (opIndexAddr (tl T t) (tl T (Sym.elemOf T t)) s.hp (s.ev x) (s.ev y)) ((Op.operands (.indexAddr t x y)).toList.flatMap fun x => ids3 (s.ev x)) dst all rest s acc KD := propext ⟨fun h => h, fun h => h⟩
theorem K_fieldAddr (t : TypeId) (x : Operand) (i : Nat) : awpO P T all ⟨dst, .fieldAddr t x i, type, pos, after, guard⟩ rest s K = finO P T (opFieldAddr T t i s.hp (s.ev x)) dst all rest s K := propext ⟨fun h => h, fun h => h⟩
theorem D_fieldAddr (t : TypeId) (x : Operand) (i : Nat) : awpOD P T all ⟨dst, .fieldAddr t x i, type, pos, after, guard⟩ rest s acc KD = finOD P T (opFieldAddr T t i s.hp (s.ev x)) ((Op.operands (.fieldAddr t x i)).toList.flatMap fun x => ids3 (s.ev x)) dst all rest s acc KD := propext ⟨fun h => h, fun h => h⟩
theorem K_field (t : TypeId) (x : Operand) (i : Nat) : awpO P T all ⟨dst, .field t x i, type, pos, after, guard⟩ rest s K = finO P T (opField T t i (s.ev x)) dst all rest s K := propext ⟨fun h => h, fun h => h⟩
theorem D_field (t : TypeId) (x : Operand) (i : Nat) : awpOD P T all ⟨dst, .field t x i, type, pos, after, guard⟩ rest s acc KD = finOD P T (opField T t i (s.ev x)) ((Op.operands (.field t x i)).toList.flatMap fun x => ids3 (s.ev x)) dst all rest s acc KD := propext ⟨fun h => h, fun h => h⟩
theorem K_index (t : TypeId) (x y : Operand) : awpO P T all ⟨dst, .index t x y, type, pos, after, guard⟩ rest s K = finO P T (opIndex T t (s.ev x) (s.ev y)) dst all rest s K := propext ⟨fun h => h, fun h => h⟩
theorem D_index (t : TypeId) (x y : Operand) : awpOD P T all ⟨dst, .index t x y, type, pos, after, guard⟩ rest s acc KD = finOD P T (opIndex T t (s.ev x) (s.ev y)) ((Op.operands (.index t x y)).toList.flatMap fun x => ids3 (s.ev x)) dst all rest s acc KD := propext ⟨fun h => h, fun h => h⟩
theorem K_slice (t : TypeId) (x : Operand) (lo hi mx : Option Operand) : awpO P T all ⟨dst, .slice t x lo hi mx, type, pos, after, guard⟩ rest s K = finO P T (opSlice T t s.hp (lo.map s.ev) (hi.map s.ev) (mx.map s.ev) (s.ev x)) dst all rest s K := propext ⟨fun h => h, fun h => h⟩
theorem D_slice (t : TypeId) (x : Operand) (lo hi mx : Option Operand) : awpOD P T all ⟨dst, .slice t x lo hi mx, type, pos, after, guard⟩ rest s acc KD = finOD P T (opSlice T t s.hp (lo.map s.ev) (hi.map s.ev) (mx.map s.ev) (s.ev x)) ((Op.operands (.slice t x lo hi mx)).toList.flatMap fun x => ids3 (s.ev x)) dst all rest s acc KD := propext ⟨fun h => h, fun h => h⟩
theorem K_makeSlice (t : TypeId) (l c : Operand) : awpO P T all ⟨dst, .makeSlice t l c, type, pos, after, guard⟩ rest s K = finO P T ((match (tl T t).ty, s.ev l, s.ev c with
    | .slice e, .lit (.int _ l), .lit (.int _ c) =>
      (0 ≤ l ∧ l ≤ c ∧ c * (tl T e).bytes ≤ 140737488355328 ∧ c ≤ 9223372036854775807 ∧ (tl T e).size ≠ 0, .slO (100 + dst.getD 0) s.ck 0 l.toNat, [((100 + dst.getD 0), some (s.ck, .own e (tl T e).size (List.replicate l.toNat (tl T e).zav)))])
    | _, _, _ => .no)) dst all rest s K := propext ⟨fun h => h, fun h => h⟩
theorem D_makeSlice (t : TypeId) (l c : Operand) : awpOD P T all ⟨dst, .makeSlice t l c, type, pos, after, guard⟩ rest s acc KD = finOD P T ((match (tl T t).ty, s.ev l, s.ev c with
    | .slice e, .lit (.int _ l), .lit (.int _ c) =>
      (0 ≤ l ∧ l ≤ c ∧ c * (tl T e).bytes ≤ 140737488355328 ∧ c ≤ 9223372036854775807 ∧ (tl T e).size ≠ 0, .slO (100 + dst.getD 0) s.ck 0 l.toNat, [((100 + dst.getD 0), some (s.ck, .own e (tl T e).size (List.replicate l.toNat (tl T e).zav)))])
    | _, _, _ => .no)) ((Op.operands (.makeSlice t l c)).toList.flatMap fun x => ids3 (s.ev x)) dst all rest s acc KD := propext ⟨fun h => h, fun h => h⟩
theorem K_buildSlice (t : TypeId) (n : Nat) (ps : Array (Nat × Operand)) : awpO P T all ⟨dst, .buildSlice t n ps, type, pos, after, guard⟩ rest s K = finO P T ((match (tl T t).ty with
   | .slice el =>
    (partsOk n ps.toList = true ∧ (tl T el).size ≠ 0 ∧ n * (tl T el).size ≤ 16777216 ∧ (∀ v ∈ ps.toList.map fun p => s.ev p.2, snap2P s.hp v ∧ v.cells.length = (tl T el).size),
      .sl ((ps.toList.map fun p => s.ev p.2).map (snap2 s.hp)) true, ((ps.toList.map fun p => s.ev p.2).flatMap refs2).map fun j => (j, none))
   | _ => .no)) dst all rest s K := propext ⟨fun h => h, fun h => h⟩
theorem D_buildSlice (t : TypeId) (n : Nat) (ps : Array (Nat × Operand)) : awpOD P T all ⟨dst, .buildSlice t n ps, type, pos, after, guard⟩ rest s acc KD = finOD P T ((match (tl T t).ty with
   | .slice el =>
    (partsOk n ps.toList = true ∧ (tl T el).size ≠ 0 ∧ n * (tl T el).size ≤ 16777216 ∧ (∀ v ∈ ps.toList.map fun p => s.ev p.2, snap2P s.hp v ∧ v.cells.length = (tl T el).size),
      .sl ((ps.toList.map fun p => s.ev p.2).map (snap2 s.hp)) true, ((ps.toList.map fun p => s.ev p.2).flatMap refs2).map fun j => (j, none))
   | _ => .no)) ((Op.operands (.buildSlice t n ps)).toList.flatMap fun x => ids3 (s.ev x)) dst all rest s acc KD := propext ⟨fun h => h, fun h => h⟩
theorem K_alloc (t : TypeId) : awpO P T all ⟨dst, .alloc t, type, pos, after, guard⟩ rest s K = finO P T (((tl T t).size ≠ 0, .ptO (100 + dst.getD 0) s.ck 0 0 0, [((100 + dst.getD 0), some (s.ck, .box (tl T t).zav.cells))])) dst all rest s K := propext ⟨fun h => h, fun h => h⟩
theorem D_alloc (t : TypeId) : awpOD P T all ⟨dst, .alloc t, type, pos, after, guard⟩ rest s acc KD = finOD P T (((tl T t).size ≠ 0, .ptO (100 + dst.getD 0) s.ck 0 0 0, [((100 + dst.getD 0), some (s.ck, .box (tl T t).zav.cells))])) ((Op.operands (.alloc t)).toList.flatMap fun x => ids3 (s.ev x)) dst all rest s acc KD := propext ⟨fun h => h, fun h => h⟩
theorem K_box (t : TypeId) (x : Operand) : awpO P T all ⟨dst, .box t x, type, pos, after, guard⟩ rest s K = finO P T ((((s.ev x).cells.length = (tl T t).size ∧ ∀ c ∈ (s.ev x).cells, c.one = true), .ptO (100 + dst.getD 0) s.ck 0 0 0, [((100 + dst.getD 0), some (s.ck, .box (s.ev x).cells))])) dst all rest s K := propext ⟨fun h => h, fun h => h⟩
theorem D_box (t : TypeId) (x : Operand) : awpOD P T all ⟨dst, .box t x, type, pos, after, guard⟩ rest s acc KD = finOD P T ((((s.ev x).cells.length = (tl T t).size ∧ ∀ c ∈ (s.ev x).cells, c.one = true), .ptO (100 + dst.getD 0) s.ck 0 0 0, [((100 + dst.getD 0), some (s.ck, .box (s.ev x).cells))])) ((Op.operands (.box t x)).toList.flatMap fun x => ids3 (s.ev x)) dst all rest s acc KD := propext ⟨fun h => h, fun h => h⟩
theorem K_build (t : TypeId) (ps : Array (Nat × Operand)) : awpO P T all ⟨dst, .build t ps, type, pos, after, guard⟩ rest s K = finO P T ((match (tl T t).ty with
    | .struct fs =>
      (∀ p ∈ ps.toList, p.1 < fs.length ∧ (tl T (fs.getD p.1 (0, 0)).2).size ≠ 0 ∧ (s.ev p.2).cells.length = (tl T (fs.getD p.1 (0, 0)).2).size ∧ (fs.getD p.1 (0, 0)).1 + (tl T (fs.getD p.1 (0, 0)).2).size ≤ (tl T t).size ∧ (∀ c ∈ (s.ev p.2).cells, c.one = true),
        .agg (ps.toList.foldl (fun cs p => splice cs (fs.getD p.1 (0, 0)).1 (s.ev p.2).cells) ((tl T t).zs.map ZC.av)), [])
    | _ => .no)) dst all rest s K := propext ⟨fun h => h, fun h => h⟩
theorem D_build (t : TypeId) (ps : Array (Nat × Operand)) : awpOD P T all ⟨dst, .build t ps, type, pos, after, guard⟩ rest s acc KD = finOD P T ((match (tl T t).ty with
    | .struct fs =>
      (∀ p ∈ ps.toList, p.1 < fs.length ∧ (tl T (fs.getD p.1 (0, 0)).2).size ≠ 0 ∧ (s.ev p.2).cells.length = (tl T (fs.getD p.1 (0, 0)).2).size ∧ (fs.getD p.1 (0, 0)).1 + (tl T (fs.getD p.1 (0, 0)).2).size ≤ (tl T t).size ∧ (∀ c ∈ (s.ev p.2).cells, c.one = true),
        .agg (ps.toList.foldl (fun cs p => splice cs (fs.getD p.1 (0, 0)).1 (s.ev p.2).cells) ((tl T t).zs.map ZC.av)), [])
    | _ => .no)) ((Op.operands (.build t ps)).toList.flatMap fun x => ids3 (s.ev x)) dst all rest s acc KD := propext ⟨fun h => h, fun h => h⟩
theorem K_convert (t u : TypeId) (x : Operand) : awpO P T all ⟨dst, .convert t u x, type, pos, after, guard⟩ rest s K = finO P T ((match (tl T t).ty, (tl T u).ty, s.ev x with | .int _, .int k, .lit (.int _ n) => .val True (.lit (.int k (k.wrap n))) | _, _, _ => .no)) dst all rest s K := propext ⟨fun h => h, fun h => h⟩
theorem D_convert (t u : TypeId) (x : Operand) : awpOD P T all ⟨dst, .convert t u x, type, pos, after, guard⟩ rest s acc KD = finOD P T ((match (tl T t).ty, (tl T u).ty, s.ev x with | .int _, .int k, .lit (.int _ n) => .val True (.lit (.int k (k.wrap n))) | _, _, _ => .no)) ((Op.operands (.convert t u x)).toList.flatMap fun x => ids3 (s.ev x)) dst all rest s acc KD := propext ⟨fun h => h, fun h => h⟩
theorem K_len (x : Operand) (t : TypeId) : awpO P T all ⟨dst, .call { callee := .builtin .len, args := #[x], argTypes := #[t] }, type, pos, after, guard⟩ rest s K = finO P T (opLen T t s.hp (s.ev x)) dst all rest s K := propext ⟨fun h => h, fun h => h⟩
theorem D_len (x : Operand) (t : TypeId) : awpOD P T all ⟨dst, .call { callee := .builtin .len, args := #[x], argTypes := #[t] }, type, pos, after, guard⟩ rest s acc KD = finOD P T (opLen T t s.hp (s.ev x)) ((Op.operands (.call { callee := .builtin .len, args := #[x], argTypes := #[t] })).toList.flatMap fun x => ids3 (s.ev x)) dst all rest s acc KD := propext ⟨fun h => h, fun h => h⟩
theorem K_append (d x : Operand) (t u : TypeId) : awpO P T all ⟨dst, .call { callee := .builtin .append, args := #[d, x], argTypes := #[t, u] }, type, pos, after, guard⟩ rest s K = finO P T ((match (tl T t).ty with | .slice _ => (u = t ∧ (opAppend T t (100 + dst.getD 0) s.ck s.hp (s.ev d) (s.ev x)).1, (opAppend T t (100 + dst.getD 0) s.ck s.hp (s.ev d) (s.ev x)).2) | _ => .no)) dst all rest s K := propext ⟨fun h => h, fun h => h⟩
theorem D_append (d x : Operand) (t u : TypeId) : awpOD P T all ⟨dst, .call { callee := .builtin .append, args := #[d, x], argTypes := #[t, u] }, type, pos, after, guard⟩ rest s acc KD = finOD P T ((match (tl T t).ty with | .slice _ => (u = t ∧ (opAppend T t (100 + dst.getD 0) s.ck s.hp (s.ev d) (s.ev x)).1, (opAppend T t (100 + dst.getD 0) s.ck s.hp (s.ev d) (s.ev x)).2) | _ => .no)) ((Op.operands (.call { callee := .builtin .append, args := #[d, x], argTypes := #[t, u] })).toList.flatMap fun x => ids3 (s.ev x)) dst all rest s acc KD := propext ⟨fun h => h, fun h => h⟩
theorem K_min (d x : Operand) (t u : TypeId) : awpO P T all ⟨dst, .call { callee := .builtin .min, args := #[d, x], argTypes := #[t, u] }, type, pos, after, guard⟩ rest s K = finO P T ((match s.ev d, s.ev x with | .lit (.int k a), .lit (.int _ b) => .val True (.lit (.int k (if b < a then b else a))) | _, _ => .no)) dst all rest s K := propext ⟨fun h => h, fun h => h⟩
theorem D_min (d x : Operand) (t u : TypeId) : awpOD P T all ⟨dst, .call { callee := .builtin .min, args := #[d, x], argTypes := #[t, u] }, type, pos, after, guard⟩ rest s acc KD = finOD P T ((match s.ev d, s.ev x with | .lit (.int k a), .lit (.int _ b) => .val True (.lit (.int k (if b < a then b else a))) | _, _ => .no)) ((Op.operands (.call { callee := .builtin .min, args := #[d, x], argTypes := #[t, u] })).toList.flatMap fun x => ids3 (s.ev x)) dst all rest s acc KD := propext ⟨fun h => h, fun h => h⟩
theorem K_max (d x : Operand) (t u : TypeId) : awpO P T all ⟨dst, .call { callee := .builtin .max, args := #[d, x], argTypes := #[t, u] }, type, pos, after, guard⟩ rest s K = finO P T ((match s.ev d, s.ev x with | .lit (.int k a), .lit (.int _ b) => .val True (.lit (.int k (if a < b then b else a))) | _, _ => .no)) dst all rest s K := propext ⟨fun h => h, fun h => h⟩
theorem D_max (d x : Operand) (t u : TypeId) : awpOD P T all ⟨dst, .call { callee := .builtin .max, args := #[d, x], argTypes := #[t, u] }, type, pos, after, guard⟩ rest s acc KD = finOD P T ((match s.ev d, s.ev x with | .lit (.int k a), .lit (.int _ b) => .val True (.lit (.int k (if a < b then b else a))) | _, _ => .no)) ((Op.operands (.call { callee := .builtin .max, args := #[d, x], argTypes := #[t, u] })).toList.flatMap fun x => ids3 (s.ev x)) dst all rest s acc KD := propext ⟨fun h => h, fun h => h⟩

theorem K_assignV (t : Nat) : awpO P T all ⟨dst, .assign (.tmp t), type, pos, after, guard⟩ rest s K = finO P T (.val True (s.ev (.tmp t))) dst all rest s K := propext ⟨fun h => h, fun h => h⟩
theorem D_assignV (t : Nat) : awpOD P T all ⟨dst, .assign (.tmp t), type, pos, after, guard⟩ rest s acc KD = finOD P T (.val True (s.ev (.tmp t))) ((Op.operands (.assign (.tmp t))).toList.flatMap fun x => ids3 (s.ev x)) dst all rest s acc KD := propext ⟨fun h => h, fun h => h⟩
theorem K_assignF (t : Nat) : awpO P T all ⟨dst, .assign (.func t), type, pos, after, guard⟩ rest s K = finO P T (.val True (s.ev (.func t))) dst all rest s K := propext ⟨fun h => h, fun h => h⟩
theorem K_assignC (v : Value) : awpO P T all ⟨dst, .assign (.const v), type, pos, after, guard⟩ rest s K =
    finO P T (match Operand.const v, (tl T type).ty with
    | .const (.slice none 0 0), .slice e => ((tl T e).size ≠ 0, .slO (100 + dst.getD 0) s.ck 0 0, [((100 + dst.getD 0), some (s.ck, .own e (tl T e).size []))])
    | _, _ => .val True (s.ev (.const v))) dst all rest s K := propext ⟨fun h => h, fun h => h⟩
theorem D_assignC (v : Value) : awpOD P T all ⟨dst, .assign (.const v), type, pos, after, guard⟩ rest s acc KD =
    finOD P T (match Operand.const v, (tl T type).ty with
    | .const (.slice none 0 0), .slice e => ((tl T e).size ≠ 0, .slO (100 + dst.getD 0) s.ck 0 0, [((100 + dst.getD 0), some (s.ck, .own e (tl T e).size []))])
    | _, _ => .val True (s.ev (.const v))) ((Op.operands (.assign (.const v))).toList.flatMap fun x => ids3 (s.ev x)) dst all rest s acc KD := propext ⟨fun h => h, fun h => h⟩
theorem K_call (f : FuncId) (args : Array Operand) (at_ : Array TypeId) : awpO P T all ⟨dst, .call { callee := .value (.func f), args := args, argTypes := at_ }, type, pos, after, guard⟩ rest s K =
    CallO P T f s.ck (100 + dst.getD 0) s.hp (args.toList.map s.ev) dst all rest s K := by
  simp only [awpO, CallO, opK, St.ev, evs, List.append_nil]
theorem D_call (f : FuncId) (args : Array Operand) (at_ : Array TypeId) : awpOD P T all ⟨dst, .call { callee := .value (.func f), args := args, argTypes := at_ }, type, pos, after, guard⟩ rest s acc KD =
    CallOD P T f s.ck (100 + dst.getD 0) s.hp (args.toList.map s.ev) dst all rest s acc KD := by
  simp only [awpOD, CallOD, opKD, St.ev, List.append_nil]

/-! a state's parts -/
theorem put_some {tm : List (Nat × AV)} {hp : Hp} {ck d : Nat} {v : AV} {ups : List Up} : St.put ⟨tm, hp, ck⟩ (some d) v ups = ⟨(d, v) :: tm, ups ++ hp, ck + 1⟩ := rfl
theorem put_none {tm : List (Nat × AV)} {hp : Hp} {ck : Nat} {v : AV} {ups : List Up} : St.put ⟨tm, hp, ck⟩ none v ups = ⟨tm, ups ++ hp, ck + 1⟩ := rfl
theorem ev_tmp {tm : List (Nat × AV)} {hp : Hp} {ck t : Nat} : St.ev ⟨tm, hp, ck⟩ (.tmp t) = tget tm t := rfl
theorem ev_const {s : St} {v : Value} : St.ev s (.const v) = ofV v := rfl
theorem ev_func {s : St} {f : Nat} : St.ev s (.func f) = .fn f [] := rfl
theorem ofV_int {k : IntKind} {n : Int} : ofV (.int k n) = .lit (.int k n) := rfl
theorem ofV_bool {b : Bool} : ofV (.bool b) = .lit (.bool b) := rfl
theorem ofV_str {b : ByteArray} : ofV (.string b) = .lit (.string b) := rfl
theorem ofV_nil : ofV (.slice none 0 0) = .sl [] true := rfl
theorem ofV_ptr : ofV (.pointer none) = .lit (.pointer none) := rfl

/-! the operations of a region -/
theorem ops_nil : awpOps P T all [] s K = K s := propext ⟨fun h => h, fun h => h⟩
theorem ops_cons {op : Op} : awpOps P T all (⟨dst, op, type, pos, after, none⟩ :: rest) s K = awpO P T all ⟨dst, op, type, pos, after, none⟩ rest s K := propext ⟨fun h => h, fun h => h⟩
theorem ops_guard {op : Op} {j : Nat} {want : Bool} : awpOps P T all (⟨dst, op, type, pos, after, some (j, want)⟩ :: rest) s K =
    GO P T (gv s.tm (dstOf all j)) want all ⟨dst, op, type, pos, after, some (j, want)⟩ rest s K := by
  rw [← gv_eq]; rfl
theorem opsD_nil : awpDr P T all [] s acc KD = KD s acc := by simp only [awpDr, awpD, List.append_nil]
theorem opsD_cons {op : Op} : awpDr P T all (⟨dst, op, type, pos, after, none⟩ :: rest) s acc KD = awpOD P T all ⟨dst, op, type, pos, after, none⟩ rest s acc KD := by
  simp only [awpDr, awpOD, awpD, List.append_assoc, List.singleton_append]
theorem opsD_guard {op : Op} {j : Nat} {want : Bool} : awpDr P T all (⟨dst, op, type, pos, after, some (j, want)⟩ :: rest) s acc KD =
    GOD P T (gv s.tm (dstOf all j)) want all ⟨dst, op, type, pos, after, some (j, want)⟩ rest s acc KD := by
  simp only [← gv_eq, GOD, awpDr, awpOD, awpD, List.append_assoc, List.singleton_append]
end
end Go.Sym
