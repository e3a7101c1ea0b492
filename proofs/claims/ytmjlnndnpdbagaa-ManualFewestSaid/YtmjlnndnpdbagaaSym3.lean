/-
  SYM, part 3: the types' table, and what an operation does to abstract values.
-/
import Derived.Test.YtmjlnndnpdbagaaSym2
set_option linter.all false
set_option linter.unusedSimpArgs false
set_option linter.unusedVariables false
set_option linter.deprecated false
namespace Go.Sym
open Go

inductive ZC where
  | int (k : IntKind) | bool | str | sl | ptr | map | fn | iface

def ZC.val : ZC → Value
  | .int k => .int k 0
  | .bool => .bool false
  | .str => .string ByteArray.empty
  | .sl => .slice none 0 0
  | .ptr => .pointer none
  | .map => .map none
  | .fn => .nilFunc
  | .iface => .nilIface

def ZC.av : ZC → AV
  | .sl => .sl [] true
  | z => .lit z.val

inductive Ty where
  | int (k : IntKind) | bool | str
  | slice (e : Nat) | array (n e : Nat) | struct (fs : List (Nat × Nat)) | ptr (e : Nat) | map (k e : Nat) | other

structure TI where
  ty : Ty
  agg : Bool
  size : Nat
  bytes : Nat
  zs : List ZC

def TI.none : TI := ⟨.other, false, 0, 0, []⟩

def tl : List (Nat × TI) → Nat → TI
  | [], _ => .none
  | (i, x) :: h, n => if i = n then x else tl h n

def TI.zval (ti : TI) : Value :=
  if ti.agg then .agg (ti.zs.map ZC.val).toArray else (match ti.zs with | [z] => z.val | _ => undef)
def TI.zav (ti : TI) : AV :=
  if ti.agg then .agg (ti.zs.map ZC.av) else (match ti.zs with | [z] => z.av | _ => .bad)

def Ty.fits : Ty → TypeDesc → Prop
  | .int k, d => d = .int k
  | .bool, d => d = .bool
  | .str, d => d = .string
  | .slice e, d => d = .slice e
  | .array n e, d => d = .array n e
  | .struct fs, d => ∃ a, d = .struct a ∧ a.toList.map (fun f => (f.offset, f.type)) = fs
  | .ptr e, d => d = .pointer e
  | .map k e, d => d = .map k e
  | .other, _ => True

structure TFit (P : Program) (t : Nat) (ti : TI) : Prop where
  info : ∃ i, P.info? t = some i ∧ i.size = ti.size ∧ i.bytes = ti.bytes ∧ i.zero = some ti.zval
  desc : ∃ d, P.underlying t = some d ∧ ti.ty.fits d ∧ (ti.agg = match d with | .struct _ | .array _ _ => true | _ => false)
  len : ti.zs.length = ti.size
  flds : ∀ a, P.underlying t = some (.struct a) → ∀ f ∈ a, (P.info? f.type).isSome = true
  one : ti.agg = false → ti.size = 1

def TOk (P : Program) (T : List (Nat × TI)) : Prop := ∀ t, tl T t = .none ∨ TFit P t (tl T t)

/-- a snapshot of a value of one cell -/
def snap1 (hp : Hp) : AV → AV
  | .sl es _ => .sl es false
  | .slO id _ off _ => match hp.get id with
    | some (_, .own _ _ es) => .sl (es.drop off) false
    | _ => .bad
  | v => v
def snap1P (hp : Hp) : AV → Prop
  | .slO id g off len => match hp.get id with
    | some (g', .own _ _ es) => g' = g ∧ es.length = off + len
    | _ => False
  | .lit _ | .sl _ _ | .ptI _ => True
  | .fn _ cs => cs = []
  | _ => False
def snap2 (hp : Hp) : AV → AV
  | .agg cs => .agg (cs.map (snap1 hp))
  | v => snap1 hp v
def snap2P (hp : Hp) : AV → Prop
  | .agg cs => ∀ c ∈ cs, snap1P hp c
  | v => snap1P hp v
def snap3 (hp : Hp) : AV → AV
  | .tup vs => .tup (vs.map (snap2 hp))
  | v => snap2 hp v
def snap3P (hp : Hp) : AV → Prop
  | .tup vs => ∀ c ∈ vs, snap2P hp c
  | v => snap2P hp v
def refs1 : AV → List Nat
  | .slO id _ _ _ => [id]
  | _ => []
def refs2 : AV → List Nat
  | .agg cs => cs.flatMap refs1
  | v => refs1 v

def ofC : Value → AV
  | .slice none 0 0 => .sl [] true
  | v => if v.oneCell' then .lit v else .bad
def ofV : Value → AV
  | .agg cs => if cs.toList.all (fun c => (ofC c).one) then .agg (cs.toList.map ofC) else .bad
  | v => ofC v

def St.ev (s : St) : Operand → AV
  | .tmp t => tget s.tm t
  | .const v => ofV v
  | .func f => .fn f []
  | .global _ => .bad

abbrev Up := Nat × Option (Nat × Ob)
abbrev R := Prop × AV × List Up

def R.no : R := (False, .bad, [])
def R.val (ob : Prop) (v : AV) : R := (ob, v, [])

/-- sums, differences and products: of int they must fit -/
def arith (k : IntKind) (r : Int) : R :=
  match k with
  | .i64 => .val (-9223372036854775808 ≤ r ∧ r ≤ 9223372036854775807) (.lit (.int .i64 r))
  | k => .val True (.lit (.int k (k.wrap r)))

def bopInt (op : BinOp) (k : IntKind) (a b : Int) : R :=
  match op with
  | .add => arith k (a + b)
  | .sub => arith k (a - b)
  | .mul => arith k (a * b)
  | .quo => .val (b ≠ 0) (.lit (.int k (k.wrap (a.tdiv b))))
  | .rem => .val (b ≠ 0) (.lit (.int k (a.tmod b)))
  | .eql => .val True (.lit (.bool (decide (a = b))))
  | .neq => .val True (.lit (.bool (decide (a ≠ b))))
  | .lss => .val True (.lit (.bool (decide (a < b))))
  | .leq => .val True (.lit (.bool (decide (a ≤ b))))
  | .gtr => .val True (.lit (.bool (decide (b < a))))
  | .geq => .val True (.lit (.bool (decide (b ≤ a))))
  | _ => .no

def bopBool (op : BinOp) (ty : Ty) (a b : Bool) : R :=
  match ty, op with
  | .bool, .eql => .val True (.lit (.bool (a == b)))
  | .bool, .neq => .val True (.lit (.bool (!(a == b))))
  | _, _ => .no

def bop (op : BinOp) (ty : Ty) : AV → AV → R
  | .lit (.int k a), .lit (.int k' b) => let r := bopInt op k a b; (k = k' ∧ r.1, r.2)
  | .lit (.bool a), .lit (.bool b) => bopBool op ty a b
  | _, _ => .no

def ldCells (ti : TI) (cs : List AV) : R :=
  .val (ti.size ≠ 0 ∧ ti.size ≤ cs.length) (if ti.agg then .agg (cs.take ti.size) else cs.getD 0 .bad)

def opLoad (ti : TI) (hp : Hp) : AV → R
  | .ptI cs => ldCells ti cs
  | .ptO id g n i off => match hp.get id with
    | some (g', .box cs) => let r := ldCells ti (cs.drop off); (g' = g ∧ n = 0 ∧ i = 0 ∧ r.1, r.2)
    | some (g', .own _ _ es) => let r := ldCells ti ((es.getD i .bad).cells.drop off); (g' = g ∧ n = es.length ∧ i < es.length ∧ r.1, r.2)
    | none => .no
  | _ => .no

def splice (cs : List AV) (off : Nat) (vs : List AV) : List AV := cs.take off ++ vs ++ cs.drop (off + vs.length)

def opStore (ti : TI) (hp : Hp) (v : AV) : AV → R
  | .ptO id g n i off => match hp.get id with
    | some (g', .box cs) => (g' = g ∧ n = 0 ∧ i = 0 ∧ ti.size ≠ 0 ∧ v.cells.length = ti.size ∧ (∀ c ∈ v.cells, c.one = true) ∧ off + ti.size ≤ cs.length, .bad, [(id, some (g, .box (splice cs off v.cells)))])
    | some (g', .own t k es) =>
      if off = 0 then
        (g' = g ∧ n = es.length ∧ i < es.length ∧ v.cells.length = ti.size ∧ k = ti.size ∧ snap2P hp v ∧ id ∉ refs2 v, .bad,
          (id, some (g, .own t k (es.set i (snap2 hp v)))) :: (refs2 v).map fun j => (j, none))
      else .no
    | none => .no
  | _ => .no

/-- a live object, seen by a pointer into it -/
def Hp.has (hp : Hp) (id g n : Nat) : Prop :=
  match hp.get id with
  | some (g', .box _) => g' = g ∧ n = 0
  | some (g', .own _ _ es) => g' = g ∧ n = es.length ∧ es.length ≠ 0
  | none => False

def opIndexAddr (ti ei : TI) (hp : Hp) : AV → AV → R
  | .sl es _, .lit (.int _ i) => match ti.ty with
    | .slice _ => .val (0 ≤ i ∧ i < es.length ∧ (es.getD i.toNat .bad).cells.length = ei.size) (.ptI (es.getD i.toNat .bad).cells)
    | _ => .no
  | .slO id g off len, .lit (.int _ i) => match ti.ty, hp.get id with
    | .slice _, some (g', .own _ k es) => .val (g' = g ∧ es.length = off + len ∧ k = ei.size ∧ 0 ≤ i ∧ i < len) (.ptO id g (off + len) (off + i.toNat) 0)
    | _, _ => .no
  | .ptO id g n j off, .lit (.int _ i) => match ti.ty with
    | .array m _ => .val (hp.has id g n ∧ ei.size ≠ 0 ∧ 0 ≤ i ∧ i < m) (.ptO id g n j (off + i.toNat * ei.size))
    | _ => .no
  | .ptI cs, .lit (.int _ i) => match ti.ty with
    | .array m _ => .val (ei.size ≠ 0 ∧ 0 ≤ i ∧ i < m) (.ptI (cs.drop (i.toNat * ei.size)))
    | _ => .no
  | _, _ => .no

def opFieldAddr (T : List (Nat × TI)) (t f : Nat) (hp : Hp) (v : AV) : R :=
  match (tl T t).ty with
  | .struct fs =>
    let q := fs.getD f (0, 0)
    match v with
    | .ptI cs => .val (f < fs.length ∧ (tl T q.2).size ≠ 0) (.ptI (cs.drop q.1))
    | .ptO id g n i off => .val (f < fs.length ∧ (tl T q.2).size ≠ 0 ∧ hp.has id g n) (.ptO id g n i (off + q.1))
    | _ => .no
  | _ => .no

def opField (T : List (Nat × TI)) (t f : Nat) (v : AV) : R :=
  match (tl T t).ty with
  | .struct fs =>
    let q := fs.getD f (0, 0)
    match v with
    | .agg cs => let r := ldCells (tl T q.2) (cs.drop q.1); (f < fs.length ∧ (tl T q.2).size ≠ 0 ∧ r.1, r.2)
    | _ => .no
  | _ => .no

def opIndex (T : List (Nat × TI)) (t : Nat) (v i : AV) : R :=
  match (tl T t).ty with
  | .array n e => match v, i with
    | .agg cs, .lit (.int _ i) => let r := ldCells (tl T e) (cs.drop (i.toNat * (tl T e).size)); (0 ≤ i ∧ i < n ∧ (tl T e).size ≠ 0 ∧ r.1, r.2)
    | _, _ => .no
  | _ => .no

def elemOf (T : List (Nat × TI)) (t : Nat) : Nat :=
  match (tl T t).ty with
  | .slice e => e
  | .array _ e => e
  | _ => 0

/-- s[lo:hi:max] of a slice -/
def opSliceS (ei : TI) (hp : Hp) (lo hi mx : Option AV) : AV → R
  | .sl es full => match lo, hi, mx with
    | none, none, none => .val (ei.size ≠ 0) (.sl es full)
    | some (.lit (.int _ l)), none, none => .val (ei.size ≠ 0 ∧ (∀ y ∈ es, y.cells.length = ei.size) ∧ 0 ≤ l ∧ l ≤ es.length) (.sl (es.drop l.toNat) full)
    | none, some (.lit (.int _ h)), none => .val (ei.size ≠ 0 ∧ 0 ≤ h ∧ h ≤ es.length) (.sl (es.take h.toNat) false)
    | some (.lit (.int _ l)), some (.lit (.int _ h)), none => .val (ei.size ≠ 0 ∧ (∀ y ∈ es, y.cells.length = ei.size) ∧ 0 ≤ l ∧ l ≤ h ∧ h ≤ es.length) (.sl ((es.take h.toNat).drop l.toNat) false)
    | none, some (.lit (.int _ h)), some (.lit (.int _ m)) => .val (ei.size ≠ 0 ∧ 0 ≤ h ∧ h = m ∧ m ≤ es.length) (.sl (es.take h.toNat) true)
    | some (.lit (.int _ l)), some (.lit (.int _ h)), some (.lit (.int _ m)) => .val (ei.size ≠ 0 ∧ (∀ y ∈ es, y.cells.length = ei.size) ∧ 0 ≤ l ∧ l ≤ h ∧ h = m ∧ m ≤ es.length) (.sl ((es.take h.toNat).drop l.toNat) true)
    | _, _, _ => .no
  | .slO id g off len => match lo, hi, mx with
    | some (.lit (.int _ l)), none, none => match hp.get id with
      | some (g', .own _ k es) => .val (g' = g ∧ es.length = off + len ∧ k = ei.size ∧ 0 ≤ l ∧ l < len) (.slO id g (off + l.toNat) (len - l.toNat))
      | _ => .no
    | _, _, _ => .no
  | _ => .no

def opSlice (T : List (Nat × TI)) (t : Nat) (hp : Hp) (lo hi mx : Option AV) (v : AV) : R :=
  match (tl T t).ty with
  | .slice el => opSliceS (tl T el) hp lo hi mx v
  | _ => .no

def opAppend (T : List (Nat × TI)) (t : Nat) (did g : Nat) (hp : Hp) (d x : AV) : R :=
  let e := elemOf T t
  let ei := tl T e
  let y := snap1 hp x
  match y with
  | .sl ys _ =>
    let okY := snap1P hp x ∧ ei.size ≠ 0 ∧ ∀ y ∈ ys, y.cells.length = ei.size
    match d with
    | .sl [] true => (okY ∧ ys.length * ei.bytes ≤ 140737488355328 ∧ ys.length ≤ 9223372036854775807, .slO did g 0 ys.length, [(did, some (g, .own e ei.size ys))])
    | .sl es true => .val (okY ∧ (es.length + ys.length) * ei.bytes ≤ 140737488355328 ∧ es.length + ys.length ≤ 9223372036854775807 ∧ ∀ y ∈ es, y.cells.length = ei.size) (.sl (es ++ ys) false)
    | .slO id g' off len => match hp.get id with
      | some (g'', .own e' k es) => (okY ∧ 100 ≤ id ∧ g'' = g' ∧ e' = e ∧ k = ei.size ∧ off = 0 ∧ es.length = len ∧ (len + ys.length) * ei.bytes ≤ 140737488355328 ∧ len + ys.length ≤ 9223372036854775807,
          .slO id g' 0 (len + ys.length), [(id, some (g', .own e k (es ++ ys)))])
      | _ => .no
    | _ => .no
  | _ => .no

def partsOk (n : Nat) (ps : List (Nat × Operand)) : Bool := ps.map (·.1) == List.range n

def opLen (T : List (Nat × TI)) (t : Nat) (hp : Hp) (v : AV) : R :=
  match (tl T t).ty with
  | .slice _ => match v with
    | .sl es _ => .val True (.lit (.int .i64 es.length))
    | .slO id g off len => match hp.get id with
      | some (g', .own _ _ es) => .val (g' = g ∧ es.length = off + len) (.lit (.int .i64 len))
      | _ => .no
    | _ => .no
  | .str => match v with
    | .lit (.string s) => .val True (.lit (.int .i64 s.size))
    | _ => .no
  | .array n _ => .val True (.lit (.int .i64 n))
  | _ => .no

/-- what an operation gives (calls of Go functions apart): what must hold, the value, the objects laid, written or given up -/
def opV (T : List (Nat × TI)) (o : Oper) (ev : Operand → AV) (hp : Hp) (g : Nat) : R :=
  let did := 100 + o.dst.getD 0
  match o.op with
  | .move x => .val True (ev x)
  | .assign x => match x, (tl T o.type).ty with
    | .const (.slice none 0 0), .slice e => ((tl T e).size ≠ 0, .slO did g 0 0, [(did, some (g, .own e (tl T e).size []))])
    | _, _ => .val True (ev x)
  | .pick c a b => match ev c with
    | .lit (.bool c) => .val True (if c then ev a else ev b)
    | _ => .no
  | .binOp op t x y _ => bop op (tl T t).ty (ev x) (ev y)
  | .unOp .not _ x => match ev x with
    | .lit (.bool b) => .val True (.lit (.bool (!b)))
    | _ => .no
  | .unOp .neg _ x => match ev x with
    | .lit (.int k n) => arith k (0 - n)
    | _ => .no
  | .nilCheck x => match ev x with
    | .ptI cs => .val True (.ptI cs)
    | .ptO id g n i off => .val (hp.has id g n) (.ptO id g n i off)
    | _ => .no
  | .extract x i => match ev x with
    | .tup vs => .val (i < vs.length) (vs.getD i .bad)
    | _ => .no
  | .load t a => opLoad (tl T t) hp (ev a)
  | .store t a v => opStore (tl T t) hp (ev v) (ev a)
  | .indexAddr t x i => opIndexAddr (tl T t) (tl T (elemOf T t)) hp (ev x) (ev i)
  | .fieldAddr t x f => opFieldAddr T t f hp (ev x)
  | .field t x f => opField T t f (ev x)
  | .index t x i => opIndex T t (ev x) (ev i)
  | .slice t x lo hi mx => opSlice T t hp (lo.map ev) (hi.map ev) (mx.map ev) (ev x)
  | .makeSlice t l c => match (tl T t).ty, ev l, ev c with
    | .slice e, .lit (.int _ l), .lit (.int _ c) =>
      (0 ≤ l ∧ l ≤ c ∧ c * (tl T e).bytes ≤ 140737488355328 ∧ c ≤ 9223372036854775807 ∧ (tl T e).size ≠ 0, .slO did g 0 l.toNat, [(did, some (g, .own e (tl T e).size (List.replicate l.toNat (tl T e).zav)))])
    | _, _, _ => .no
  | .buildSlice t n ps => match (tl T t).ty with
   | .slice el =>
    let ei := tl T el
    let vs := ps.toList.map fun p => ev p.2
    (partsOk n ps.toList = true ∧ ei.size ≠ 0 ∧ n * ei.size ≤ 16777216 ∧ (∀ v ∈ vs, snap2P hp v ∧ v.cells.length = ei.size),
      .sl (vs.map (snap2 hp)) true, (vs.flatMap refs2).map fun j => (j, none))
   | _ => .no
  | .alloc t => ((tl T t).size ≠ 0, .ptO did g 0 0 0, [(did, some (g, .box (tl T t).zav.cells))])
  | .box t x => (((ev x).cells.length = (tl T t).size ∧ ∀ c ∈ (ev x).cells, c.one = true), .ptO did g 0 0 0, [(did, some (g, .box (ev x).cells))])
  | .build t ps => match (tl T t).ty with
    | .struct fs =>
      let step := fun (cs : List AV) (p : Nat × Operand) => splice cs (fs.getD p.1 (0, 0)).1 (ev p.2).cells
      (∀ p ∈ ps.toList, p.1 < fs.length ∧ (tl T (fs.getD p.1 (0, 0)).2).size ≠ 0 ∧ (ev p.2).cells.length = (tl T (fs.getD p.1 (0, 0)).2).size ∧ (fs.getD p.1 (0, 0)).1 + (tl T (fs.getD p.1 (0, 0)).2).size ≤ (tl T t).size ∧ (∀ c ∈ (ev p.2).cells, c.one = true),
        .agg (ps.toList.foldl step ((tl T t).zs.map ZC.av)), [])
    | _ => .no
  | .convert s d x => match (tl T s).ty, (tl T d).ty, ev x with
    | .int _, .int k, .lit (.int _ n) => .val True (.lit (.int k (k.wrap n)))
    | _, _, _ => .no
  | .call { callee := .builtin b, args, argTypes } => match b, args.toList, argTypes.toList with
    | .len, [x], [t] => opLen T t hp (ev x)
    | .append, [d, x], [t, t'] => match (tl T t).ty with
      | .slice _ => let r := opAppend T t did g hp (ev d) (ev x); (t' = t ∧ r.1, r.2)
      | _ => .no
    | .min, [x, y], [_, _] => match ev x, ev y with
      | .lit (.int k a), .lit (.int _ b) => .val True (.lit (.int k (if b < a then b else a)))
      | _, _ => .no
    | .max, [x, y], [_, _] => match ev x, ev y with
      | .lit (.int k a), .lit (.int _ b) => .val True (.lit (.int k (if a < b then b else a)))
      | _, _ => .no
    | _, _, _ => .no
  | _ => .no

end Go.Sym
