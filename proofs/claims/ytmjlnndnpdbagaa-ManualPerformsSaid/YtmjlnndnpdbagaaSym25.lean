/-
  SYM, part 25: what each kind of operation does, as one equation each (printed by genops.py).
-/
import Derived.Test.YtmjlnndnpdbagaaSym24
set_option linter.all false
set_option linter.unusedSimpArgs false
set_option linter.unusedVariables false
set_option linter.deprecated false
namespace Go.Sym
open Go Go.Great

def fin (r : R) (dst : Option Nat) (s : St) (K : St → Prop) : Prop := r.1 ∧ K (s.put dst r.2.1 r.2.2)
def finD (r : R) (acc : List Nat) (K : AV → List Up → List Nat → Prop) : Prop := r.1 ∧ K r.2.1 r.2.2 acc
@[congr] theorem fin_congr {r r' : R} {dst : Option Nat} {s : St} {K : St → Prop} (h : r = r') : fin r dst s K = fin r' dst s K := by rw [h]
@[congr] theorem finD_congr {r r' : R} {acc : List Nat} {K : AV → List Up → List Nat → Prop} (h : r = r') : finD r acc K = finD r' acc K := by rw [h]
theorem fin_mk {p : Prop} {v : AV} {ups : List Up} {dst : Option Nat} {s : St} {K : St → Prop} : fin (p, v, ups) dst s K = (p ∧ K (s.put dst v ups)) := rfl
theorem finD_mk {p : Prop} {v : AV} {ups : List Up} {acc : List Nat} {K : AV → List Up → List Nat → Prop} : finD (p, v, ups) acc K = (p ∧ K v ups acc) := rfl

section
variable {P : Program} {T : List (Nat × TI)} {dst : Option Nat} {type : TypeId} {pos : String} {after : Array Edge} {guard : Option (Nat × Bool)} {s : St}

theorem K_move (x : Operand) {K : St → Prop} : opK P T ⟨dst, .move x, type, pos, after, guard⟩ s K = fin (.val True (s.ev x)) dst s K := rfl
theorem D_move (x : Operand) {K : AV → List Up → List Nat → Prop} : opKD P T ⟨dst, .move x, type, pos, after, guard⟩ s K = finD (.val True (s.ev x)) ((Op.operands (.move x)).toList.flatMap fun x => ids3 (s.ev x)) K := rfl
theorem K_pick (c a b : Operand) {K : St → Prop} : opK P T ⟨dst, .pick c a b, type, pos, after, guard⟩ s K = fin ((match s.ev c with | .lit (.bool c) => .val True (if c then s.ev a else s.ev b) | _ => .no)) dst s K := rfl
theorem D_pick (c a b : Operand) {K : AV → List Up → List Nat → Prop} : opKD P T ⟨dst, .pick c a b, type, pos, after, guard⟩ s K = finD ((match s.ev c with | .lit (.bool c) => .val True (if c then s.ev a else s.ev b) | _ => .no)) ((Op.operands (.pick c a b)).toList.flatMap fun x => ids3 (s.ev x)) K := rfl
theorem K_binOp (op : BinOp) (t : TypeId) (x y : Operand) (u : TypeId) {K : St → Prop} : opK P T ⟨dst, .binOp op t x y u, type, pos, after, guard⟩ s K = fin (bop op (tl T t).ty (s.ev x) (s.ev y)) dst s K := rfl
theorem D_binOp (op : BinOp) (t : TypeId) (x y : Operand) (u : TypeId) {K : AV → List Up → List Nat → Prop} : opKD P T ⟨dst, .binOp op t x y u, type, pos, after, guard⟩ s K = finD (bop op (tl T t).ty (s.ev x) (s.ev y)) ((Op.operands (.binOp op t x y u)).toList.flatMap fun x => ids3 (s.ev x)) K := rfl
theorem K_not (t : TypeId) (x : Operand) {K : St → Prop} : opK P T ⟨dst, .unOp .not t x, type, pos, after, guard⟩ s K = fin ((match s.ev x with | .lit (.bool b) => .val True (.lit (.bool (!b))) | _ => .no)) dst s K := rfl
theorem D_not (t : TypeId) (x : Operand) {K : AV → List Up → List Nat → Prop} : opKD P T ⟨dst, .unOp .not t x, type, pos, after, guard⟩ s K = finD ((match s.ev x with | .lit (.bool b) => .val True (.lit (.bool (!b))) | _ => .no)) ((Op.operands (.unOp .not t x)).toList.flatMap fun x => ids3 (s.ev x)) K := rfl
theorem K_neg (t : TypeId) (x : Operand) {K : St → Prop} : opK P T ⟨dst, .unOp .neg t x, type, pos, after, guard⟩ s K = fin ((match s.ev x with | .lit (.int k n) => arith k (0 - n) | _ => .no)) dst s K := rfl
theorem D_neg (t : TypeId) (x : Operand) {K : AV → List Up → List Nat → Prop} : opKD P T ⟨dst, .unOp .neg t x, type, pos, after, guard⟩ s K = finD ((match s.ev x with | .lit (.int k n) => arith k (0 - n) | _ => .no)) ((Op.operands (.unOp .neg t x)).toList.flatMap fun x => ids3 (s.ev x)) K := rfl
theorem K_nilCheck (x : Operand) {K : St → Prop} : opK P T ⟨dst, .nilCheck x, type, pos, after, guard⟩ s K = fin ((match s.ev x with | .ptI cs => .val True (.ptI cs) | .ptO id g n i off => .val (s.hp.has id g n) (.ptO id g n i off) | _ => .no)) dst s K := rfl
theorem D_nilCheck (x : Operand) {K : AV → List Up → List Nat → Prop} : opKD P T ⟨dst, .nilCheck x, type, pos, after, guard⟩ s K = finD ((match s.ev x with | .ptI cs => .val True (.ptI cs) | .ptO id g n i off => .val (s.hp.has id g n) (.ptO id g n i off) | _ => .no)) ((Op.operands (.nilCheck x)).toList.flatMap fun x => ids3 (s.ev x)) K := rfl
theorem K_extract (x : Operand) (i : Nat) {K : St → Prop} : opK P T ⟨dst, .extract x i, type, pos, after, guard⟩ s K = fin ((match s.ev x with | .tup vs => .val (i < vs.length) (vs.getD i .bad) | _ => .no)) dst s K := rfl
theorem D_extract (x : Operand) (i : Nat) {K : AV → List Up → List Nat → Prop} : opKD P T ⟨dst, .extract x i, type, pos, after, guard⟩ s K = finD ((match s.ev x with | .tup vs => .val (i < vs.length) (vs.getD i .bad) | _ => .no)) ((Op.operands (.extract x i)).toList.flatMap fun x => ids3 (s.ev x)) K := rfl
theorem K_load (t : TypeId) (x : Operand) {K : St → Prop} : opK P T ⟨dst, .load t x, type, pos, after, guard⟩ s K = fin (opLoad (tl T t) s.hp (s.ev x)) dst s K := rfl
theorem D_load (t : TypeId) (x : Operand) {K : AV → List Up → List Nat → Prop} : opKD P T ⟨dst, .load t x, type, pos, after, guard⟩ s K = finD (opLoad (tl T t) s.hp (s.ev x)) ((Op.operands (.load t x)).toList.flatMap fun x => ids3 (s.ev x)) K := rfl
theorem K_store (t : TypeId) (x y : Operand) {K : St → Prop} : opK P T ⟨dst, .store t x y, type, pos, after, guard⟩ s K = fin (opStore (tl T t) s.hp (s.ev y) (s.ev x)) dst s K := rfl
theorem D_store (t : TypeId) (x y : Operand) {K : AV → List Up → List Nat → Prop} : opKD P T ⟨dst, .store t x y, type, pos, after, guard⟩ s K = finD (opStore (tl T t) s.hp (s.ev y) (s.ev x)) ((Op.operands (.store t x y)).toList.flatMap fun x => ids3 (s.ev x)) K := rfl
theorem K_indexAddr (t : TypeId) (x y : Operand) {K : St → Prop} : opK P T ⟨dst, .indexAddr t x y, type, pos, after, guard⟩ s K = fin (opIndexAddr (tl T t) (tl T (Sym.elemOf T t)) s.hp (s.ev x) (s.ev y)) dst s K := rfl
theorem D_indexAddr (t : TypeId) (x y : Operand) {K : AV → List Up → List Nat → Prop} : opKD P T ⟨dst, .indexAddr t x y, type, pos, after, guard⟩ s K = finD (opIndexAddr (tl T t) (tl T (Sym.elemOf T t)) s.hp (s.ev x) (s.ev y)) ((Op.operands (.indexAddr t x y)).toList.flatMap fun x => ids3 (s.ev x)) K := rfl
theorem K_fieldAddr (t : TypeId) (x : Operand) (i : Nat) {K : St → Prop} : opK P T ⟨dst, .fieldAddr t x i, type, pos, after, guard⟩ s K = fin (opFieldAddr T t i s.hp (s.ev x)) dst s K := rfl
theorem D_fieldAddr (t : TypeId) (x : Operand) (i : Nat) {K : AV → List Up → List Nat → Prop} : opKD P T ⟨dst, .fieldAddr t x i, type, pos, after, guard⟩ s K = finD (opFieldAddr T t i s.hp (s.ev x)) ((Op.operands (.fieldAddr t x i)).toList.flatMap fun x => ids3 (s.ev x)) K := rfl
theorem K_field (t : TypeId) (x : Operand) (i : Nat) {K : St → Prop} : opK P T ⟨dst, .field t x i, type, pos, after, guard⟩ s K = fin (opField T t i (s.ev x)) dst s K := rfl
theorem D_field (t : TypeId) (x : Operand) (i : Nat) {K : AV → List Up → List Nat → Prop} : opKD P T ⟨dst, .field t x i, type, pos, after, guard⟩ s K = finD (opField T t i (s.ev x)) ((Op.operands (.field t x i)).toList.flatMap fun x => ids3 (s.ev x)) K := rfl
theorem K_index (t : TypeId) (x y : Operand) {K : St → Prop} : opK P T ⟨dst, .index t x y, type, pos, after, guard⟩ s K = fin (opIndex T t (s.ev x) (s.ev y)) dst s K := rfl
theorem D_index (t : TypeId) (x y : Operand) {K : AV → List Up → List Nat → Prop} : opKD P T ⟨dst, .index t x y, type, pos, after, guard⟩ s K = finD (opIndex T t (s.ev x) (s.ev y)) ((Op.operands (.index t x y)).toList.flatMap fun x => ids3 (s.ev x)) K := rfl
theorem K_slice (t : TypeId) (x : Operand) (lo hi mx : Option Operand) {K : St → Prop} : opK P T ⟨dst, .slice t x lo hi mx, type, pos, after, guard⟩ s K = fin (opSlice T t s.hp (lo.map s.ev) (hi.map s.ev) (mx.map s.ev) (s.ev x)) dst s K := rfl
theorem D_slice (t : TypeId) (x : Operand) (lo hi mx : Option Operand) {K : AV → List Up → List Nat → Prop} : opKD P T ⟨dst, .slice t x lo hi mx, type, pos, after, guard⟩ s K = finD (opSlice T t s.hp (lo.map s.ev) (hi.map s.ev) (mx.map s.ev) (s.ev x)) ((Op.operands (.slice t x lo hi mx)).toList.flatMap fun x => ids3 (s.ev x)) K := rfl
theorem K_makeSlice (t : TypeId) (l c : Operand) {K : St → Prop} : opK P T ⟨dst, .makeSlice t l c, type, pos, after, guard⟩ s K = fin ((match (tl T t).ty, s.ev l, s.ev c with
    | .slice e, .lit (.int _ l), .lit (.int _ c) =>
      (0 ≤ l ∧ l ≤ c ∧ c * (tl T e).bytes ≤ 140737488355328 ∧ c ≤ 9223372036854775807 ∧ (tl T e).size ≠ 0, .slO (100 + dst.getD 0) s.ck 0 l.toNat, [((100 + dst.getD 0), some (s.ck, .own e (tl T e).size (List.replicate l.toNat (tl T e).zav)))])
    | _, _, _ => .no)) dst s K := rfl
theorem D_makeSlice (t : TypeId) (l c : Operand) {K : AV → List Up → List Nat → Prop} : opKD P T ⟨dst, .makeSlice t l c, type, pos, after, guard⟩ s K = finD ((match (tl T t).ty, s.ev l, s.ev c with
    | .slice e, .lit (.int _ l), .lit (.int _ c) =>
      (0 ≤ l ∧ l ≤ c ∧ c * (tl T e).bytes ≤ 140737488355328 ∧ c ≤ 9223372036854775807 ∧ (tl T e).size ≠ 0, .slO (100 + dst.getD 0) s.ck 0 l.toNat, [((100 + dst.getD 0), some (s.ck, .own e (tl T e).size (List.replicate l.toNat (tl T e).zav)))])
    | _, _, _ => .no)) ((Op.operands (.makeSlice t l c)).toList.flatMap fun x => ids3 (s.ev x)) K := rfl
theorem K_buildSlice (t : TypeId) (n : Nat) (ps : Array (Nat × Operand)) {K : St → Prop} : opK P T ⟨dst, .buildSlice t n ps, type, pos, after, guard⟩ s K = fin ((match (tl T t).ty with
   | .slice el =>
    (partsOk n ps.toList = true ∧ (tl T el).size ≠ 0 ∧ n * (tl T el).size ≤ 16777216 ∧ (∀ v ∈ ps.toList.map fun p => s.ev p.2, snap2P s.hp v ∧ v.cells.length = (tl T el).size),
      .sl ((ps.toList.map fun p => s.ev p.2).map (snap2 s.hp)) true, ((ps.toList.map fun p => s.ev p.2).flatMap refs2).map fun j => (j, none))
   | _ => .no)) dst s K := rfl
theorem D_buildSlice (t : TypeId) (n : Nat) (ps : Array (Nat × Operand)) {K : AV → List Up → List Nat → Prop} : opKD P T ⟨dst, .buildSlice t n ps, type, pos, after, guard⟩ s K = finD ((match (tl T t).ty with
   | .slice el =>
    (partsOk n ps.toList = true ∧ (tl T el).size ≠ 0 ∧ n * (tl T el).size ≤ 16777216 ∧ (∀ v ∈ ps.toList.map fun p => s.ev p.2, snap2P s.hp v ∧ v.cells.length = (tl T el).size),
      .sl ((ps.toList.map fun p => s.ev p.2).map (snap2 s.hp)) true, ((ps.toList.map fun p => s.ev p.2).flatMap refs2).map fun j => (j, none))
   | _ => .no)) ((Op.operands (.buildSlice t n ps)).toList.flatMap fun x => ids3 (s.ev x)) K := rfl
theorem K_alloc (t : TypeId) {K : St → Prop} : opK P T ⟨dst, .alloc t, type, pos, after, guard⟩ s K = fin (((tl T t).size ≠ 0, .ptO (100 + dst.getD 0) s.ck 0 0 0, [((100 + dst.getD 0), some (s.ck, .box (tl T t).zav.cells))])) dst s K := rfl
theorem D_alloc (t : TypeId) {K : AV → List Up → List Nat → Prop} : opKD P T ⟨dst, .alloc t, type, pos, after, guard⟩ s K = finD (((tl T t).size ≠ 0, .ptO (100 + dst.getD 0) s.ck 0 0 0, [((100 + dst.getD 0), some (s.ck, .box (tl T t).zav.cells))])) ((Op.operands (.alloc t)).toList.flatMap fun x => ids3 (s.ev x)) K := rfl
theorem K_box (t : TypeId) (x : Operand) {K : St → Prop} : opK P T ⟨dst, .box t x, type, pos, after, guard⟩ s K = fin ((((s.ev x).cells.length = (tl T t).size ∧ ∀ c ∈ (s.ev x).cells, c.one = true), .ptO (100 + dst.getD 0) s.ck 0 0 0, [((100 + dst.getD 0), some (s.ck, .box (s.ev x).cells))])) dst s K := rfl
theorem D_box (t : TypeId) (x : Operand) {K : AV → List Up → List Nat → Prop} : opKD P T ⟨dst, .box t x, type, pos, after, guard⟩ s K = finD ((((s.ev x).cells.length = (tl T t).size ∧ ∀ c ∈ (s.ev x).cells, c.one = true), .ptO (100 + dst.getD 0) s.ck 0 0 0, [((100 + dst.getD 0), some (s.ck, .box (s.ev x).cells))])) ((Op.operands (.box t x)).toList.flatMap fun x => ids3 (s.ev x)) K := rfl
theorem K_build (t : TypeId) (ps : Array (Nat × Operand)) {K : St → Prop} : opK P T ⟨dst, .build t ps, type, pos, after, guard⟩ s K = fin ((match (tl T t).ty with
    | .struct fs =>
      (∀ p ∈ ps.toList, p.1 < fs.length ∧ (tl T (fs.getD p.1 (0, 0)).2).size ≠ 0 ∧ (s.ev p.2).cells.length = (tl T (fs.getD p.1 (0, 0)).2).size ∧ (fs.getD p.1 (0, 0)).1 + (tl T (fs.getD p.1 (0, 0)).2).size ≤ (tl T t).size ∧ (∀ c ∈ (s.ev p.2).cells, c.one = true),
        .agg (ps.toList.foldl (fun cs p => splice cs (fs.getD p.1 (0, 0)).1 (s.ev p.2).cells) ((tl T t).zs.map ZC.av)), [])
    | _ => .no)) dst s K := rfl
theorem D_build (t : TypeId) (ps : Array (Nat × Operand)) {K : AV → List Up → List Nat → Prop} : opKD P T ⟨dst, .build t ps, type, pos, after, guard⟩ s K = finD ((match (tl T t).ty with
    | .struct fs =>
      (∀ p ∈ ps.toList, p.1 < fs.length ∧ (tl T (fs.getD p.1 (0, 0)).2).size ≠ 0 ∧ (s.ev p.2).cells.length = (tl T (fs.getD p.1 (0, 0)).2).size ∧ (fs.getD p.1 (0, 0)).1 + (tl T (fs.getD p.1 (0, 0)).2).size ≤ (tl T t).size ∧ (∀ c ∈ (s.ev p.2).cells, c.one = true),
        .agg (ps.toList.foldl (fun cs p => splice cs (fs.getD p.1 (0, 0)).1 (s.ev p.2).cells) ((tl T t).zs.map ZC.av)), [])
    | _ => .no)) ((Op.operands (.build t ps)).toList.flatMap fun x => ids3 (s.ev x)) K := rfl
theorem K_convert (t u : TypeId) (x : Operand) {K : St → Prop} : opK P T ⟨dst, .convert t u x, type, pos, after, guard⟩ s K = fin ((match (tl T t).ty, (tl T u).ty, s.ev x with | .int _, .int k, .lit (.int _ n) => .val True (.lit (.int k (k.wrap n))) | _, _, _ => .no)) dst s K := rfl
theorem D_convert (t u : TypeId) (x : Operand) {K : AV → List Up → List Nat → Prop} : opKD P T ⟨dst, .convert t u x, type, pos, after, guard⟩ s K = finD ((match (tl T t).ty, (tl T u).ty, s.ev x with | .int _, .int k, .lit (.int _ n) => .val True (.lit (.int k (k.wrap n))) | _, _, _ => .no)) ((Op.operands (.convert t u x)).toList.flatMap fun x => ids3 (s.ev x)) K := rfl
theorem K_len (x : Operand) (t : TypeId) {K : St → Prop} : opK P T ⟨dst, .call { callee := .builtin .len, args := #[x], argTypes := #[t] }, type, pos, after, guard⟩ s K = fin (opLen T t s.hp (s.ev x)) dst s K := rfl
theorem D_len (x : Operand) (t : TypeId) {K : AV → List Up → List Nat → Prop} : opKD P T ⟨dst, .call { callee := .builtin .len, args := #[x], argTypes := #[t] }, type, pos, after, guard⟩ s K = finD (opLen T t s.hp (s.ev x)) ((Op.operands (.call { callee := .builtin .len, args := #[x], argTypes := #[t] })).toList.flatMap fun x => ids3 (s.ev x)) K := rfl
theorem K_append (d x : Operand) (t u : TypeId) {K : St → Prop} : opK P T ⟨dst, .call { callee := .builtin .append, args := #[d, x], argTypes := #[t, u] }, type, pos, after, guard⟩ s K = fin ((match (tl T t).ty with | .slice _ => (u = t ∧ (opAppend T t (100 + dst.getD 0) s.ck s.hp (s.ev d) (s.ev x)).1, (opAppend T t (100 + dst.getD 0) s.ck s.hp (s.ev d) (s.ev x)).2) | _ => .no)) dst s K := rfl
theorem D_append (d x : Operand) (t u : TypeId) {K : AV → List Up → List Nat → Prop} : opKD P T ⟨dst, .call { callee := .builtin .append, args := #[d, x], argTypes := #[t, u] }, type, pos, after, guard⟩ s K = finD ((match (tl T t).ty with | .slice _ => (u = t ∧ (opAppend T t (100 + dst.getD 0) s.ck s.hp (s.ev d) (s.ev x)).1, (opAppend T t (100 + dst.getD 0) s.ck s.hp (s.ev d) (s.ev x)).2) | _ => .no)) ((Op.operands (.call { callee := .builtin .append, args := #[d, x], argTypes := #[t, u] })).toList.flatMap fun x => ids3 (s.ev x)) K := rfl
theorem K_min (d x : Operand) (t u : TypeId) {K : St → Prop} : opK P T ⟨dst, .call { callee := .builtin .min, args := #[d, x], argTypes := #[t, u] }, type, pos, after, guard⟩ s K = fin ((match s.ev d, s.ev x with | .lit (.int k a), .lit (.int _ b) => .val True (.lit (.int k (if b < a then b else a))) | _, _ => .no)) dst s K := rfl
theorem D_min (d x : Operand) (t u : TypeId) {K : AV → List Up → List Nat → Prop} : opKD P T ⟨dst, .call { callee := .builtin .min, args := #[d, x], argTypes := #[t, u] }, type, pos, after, guard⟩ s K = finD ((match s.ev d, s.ev x with | .lit (.int k a), .lit (.int _ b) => .val True (.lit (.int k (if b < a then b else a))) | _, _ => .no)) ((Op.operands (.call { callee := .builtin .min, args := #[d, x], argTypes := #[t, u] })).toList.flatMap fun x => ids3 (s.ev x)) K := rfl
theorem K_max (d x : Operand) (t u : TypeId) {K : St → Prop} : opK P T ⟨dst, .call { callee := .builtin .max, args := #[d, x], argTypes := #[t, u] }, type, pos, after, guard⟩ s K = fin ((match s.ev d, s.ev x with | .lit (.int k a), .lit (.int _ b) => .val True (.lit (.int k (if a < b then b else a))) | _, _ => .no)) dst s K := rfl
theorem D_max (d x : Operand) (t u : TypeId) {K : AV → List Up → List Nat → Prop} : opKD P T ⟨dst, .call { callee := .builtin .max, args := #[d, x], argTypes := #[t, u] }, type, pos, after, guard⟩ s K = finD ((match s.ev d, s.ev x with | .lit (.int k a), .lit (.int _ b) => .val True (.lit (.int k (if a < b then b else a))) | _, _ => .no)) ((Op.operands (.call { callee := .builtin .max, args := #[d, x], argTypes := #[t, u] })).toList.flatMap fun x => ids3 (s.ev x)) K := rfl

theorem K_assignV (t : Nat) {K : St → Prop} : opK P T ⟨dst, .assign (.tmp t), type, pos, after, guard⟩ s K = fin (.val True (s.ev (.tmp t))) dst s K := rfl
theorem D_assignV (t : Nat) {K : AV → List Up → List Nat → Prop} : opKD P T ⟨dst, .assign (.tmp t), type, pos, after, guard⟩ s K = finD (.val True (s.ev (.tmp t))) ((Op.operands (.assign (.tmp t))).toList.flatMap fun x => ids3 (s.ev x)) K := rfl
theorem K_assignF (t : Nat) {K : St → Prop} : opK P T ⟨dst, .assign (.func t), type, pos, after, guard⟩ s K = fin (.val True (s.ev (.func t))) dst s K := rfl
theorem K_assignC (v : Value) {K : St → Prop} : opK P T ⟨dst, .assign (.const v), type, pos, after, guard⟩ s K =
    fin (match Operand.const v, (tl T type).ty with
    | .const (.slice none 0 0), .slice e => ((tl T e).size ≠ 0, .slO (100 + dst.getD 0) s.ck 0 0, [((100 + dst.getD 0), some (s.ck, .own e (tl T e).size []))])
    | _, _ => .val True (s.ev (.const v))) dst s K := rfl
theorem D_assignC (v : Value) {K : AV → List Up → List Nat → Prop} : opKD P T ⟨dst, .assign (.const v), type, pos, after, guard⟩ s K =
    finD (match Operand.const v, (tl T type).ty with
    | .const (.slice none 0 0), .slice e => ((tl T e).size ≠ 0, .slO (100 + dst.getD 0) s.ck 0 0, [((100 + dst.getD 0), some (s.ck, .own e (tl T e).size []))])
    | _, _ => .val True (s.ev (.const v))) ((Op.operands (.assign (.const v))).toList.flatMap fun x => ids3 (s.ev x)) K := rfl
theorem K_call (f : FuncId) (args : Array Operand) (at_ : Array TypeId) {K : St → Prop} : opK P T ⟨dst, .call { callee := .value (.func f), args := args, argTypes := at_ }, type, pos, after, guard⟩ s K =
    CallK P f s.ck (100 + dst.getD 0) s.hp (args.toList.map s.ev) fun v ups => K (s.put dst v ups) := by
  simp only [opK, St.ev, evs, List.append_nil]
theorem D_call (f : FuncId) (args : Array Operand) (at_ : Array TypeId) {K : AV → List Up → List Nat → Prop} : opKD P T ⟨dst, .call { callee := .value (.func f), args := args, argTypes := at_ }, type, pos, after, guard⟩ s K =
    CallK P f s.ck (100 + dst.getD 0) s.hp (args.toList.map s.ev) fun v ups => K v ups (callAcc s.hp (args.toList.map s.ev)) := by
  simp only [opKD, St.ev, List.append_nil]

/-! a state's parts -/
theorem put_some {tm : List (Nat × AV)} {hp : Hp} {ck d : Nat} {v : AV} {ups : List Up} : St.put ⟨tm, hp, ck⟩ (some d) v ups = ⟨(d, v) :: tm, ups ++ hp, ck + 1⟩ := rfl
theorem put_none {tm : List (Nat × AV)} {hp : Hp} {ck : Nat} {v : AV} {ups : List Up} : St.put ⟨tm, hp, ck⟩ none v ups = ⟨tm, ups ++ hp, ck + 1⟩ := rfl
theorem ev_tmp {tm : List (Nat × AV)} {hp : Hp} {ck t : Nat} : St.ev ⟨tm, hp, ck⟩ (.tmp t) = tget tm t := rfl
theorem ev_const {s : St} {v : Value} : St.ev s (.const v) = ofV v := rfl
theorem ev_func {s : St} {f : Nat} : St.ev s (.func f) = .fn f [] := rfl
theorem ofV_int {k : IntKind} {n : Int} : ofV (.int k n) = .lit (.int k n) := rfl
theorem ofV_bool {b : Bool} : ofV (.bool b) = .lit (.bool b) := rfl
theorem ofV_str {b : ByteArray} : ofV (.string b) = .lit (.string b) := rfl
theorem ofV_nil : ofV (.slice none 0 0) = .sl [] true := rfl
theorem ofV_ptr : ofV (.pointer none) = .lit (.pointer none) := rfl

/-! the operations of a region -/
theorem ops_nil {all : List Oper} {K : St → Prop} : awpOps P T all [] s K = K s := rfl
theorem ops_cons {all rest : List Oper} {op : Op} {K : St → Prop} : awpOps P T all (⟨dst, op, type, pos, after, none⟩ :: rest) s K = opK P T ⟨dst, op, type, pos, after, none⟩ s fun s' => awpOps P T all rest s' K := rfl
theorem ops_guard {all rest : List Oper} {op : Op} {j : Nat} {want : Bool} {K : St → Prop} : awpOps P T all (⟨dst, op, type, pos, after, some (j, want)⟩ :: rest) s K =
    match (dstOf all j).map (tget s.tm) with
      | some (.lit (.bool b)) => GK b want (opK P T ⟨dst, op, type, pos, after, some (j, want)⟩ s fun s' => awpOps P T all rest s' K) (awpOps P T all rest (s.put dst .bad []) K)
      | _ => False := rfl
theorem opsD_nil {all : List Oper} {K : St → List Rec → Prop} : awpD P T all [] s K = K s [] := rfl
theorem opsD_cons {all rest : List Oper} {op : Op} {K : St → List Rec → Prop} : awpD P T all (⟨dst, op, type, pos, after, none⟩ :: rest) s K =
    opKD P T ⟨dst, op, type, pos, after, none⟩ s fun v ups acc => awpD P T all rest (s.put dst v ups) fun s' rs => K s' ((ups.map (·.1), acc) :: rs) := rfl
theorem opsD_guard {all rest : List Oper} {op : Op} {j : Nat} {want : Bool} {K : St → List Rec → Prop} : awpD P T all (⟨dst, op, type, pos, after, some (j, want)⟩ :: rest) s K =
    match (dstOf all j).map (tget s.tm) with
      | some (.lit (.bool b)) => GK b want (opKD P T ⟨dst, op, type, pos, after, some (j, want)⟩ s fun v ups acc => awpD P T all rest (s.put dst v ups) fun s' rs => K s' ((ups.map (·.1), acc) :: rs))
          (awpD P T all rest (s.put dst .bad []) fun s' rs => K s' (([], []) :: rs))
      | _ => False := rfl
end
end Go.Sym
