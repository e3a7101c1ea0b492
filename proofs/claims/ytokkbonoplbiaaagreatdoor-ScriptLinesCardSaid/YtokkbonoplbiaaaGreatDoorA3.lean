/- Lemmas towards scriptLines_card: no conditions of their own beyond those that each one states. -/
import Derived.Test.YtokkbonoplbiaaaGreatDoorA2
import Derived.Test.YtokkbonoplbiaaaGreatDoorRows
import Derived.RangeFuncSeq
import Derived.RangeFuncIn
import Derived.RangeFuncCalls
import Derived.ProofKit
import Derived.Deep.Matrix
import Derived.Deep.Strs
import Derived.LaidMore
import Derived.OpenShut
import Derived.Stop.Joined
set_option linter.all false
set_option linter.unusedSimpArgs false
set_option linter.unusedVariables false
set_option linter.deprecated false
namespace Go.Sym
open Go Go.Great
def fin (r:R) (dst:Option Nat) (s:St) (K:St->Prop):Prop:=r.1/\K (s.put dst r.2.1 r.2.2)
def finD (r:R) (acc:List Nat) (K:AV->List Up->List Nat->Prop):Prop:=r.1/\K r.2.1 r.2.2 acc
@[congr] theorem fin_congr {r r':R} {dst:Option Nat} {s:St} {K:St->Prop} (h:r=r'):fin r dst s K=fin r' dst s K:=by rw[h]
@[congr] theorem finD_congr {r r':R} {acc:List Nat} {K:AV->List Up->List Nat->Prop} (h:r=r'):finD r acc K=finD r' acc K:=by rw[h]
def awpO (P:Program) (T:Tab) (all:List Oper) (o:Oper) (rest:List Oper) (s:St) (K:St->Prop):Prop:=opK P T o s fun s'=>awpOps P T all rest s' K
def finO (P:Program) (T:Tab) (r:R) (dst:Option Nat) (all rest:List Oper) (s:St) (K:St->Prop):Prop:=r.1/\awpOps P T all rest (s.put dst r.2.1 r.2.2) K
def CallO (P:Program) (T:Tab) (f:FuncId) (g:Nat) (hp:Hp) (vs:List AV) (dst:Option Nat) (all rest:List Oper) (s:St) (K:St->Prop):Prop:=
 CallK P T f g hp vs fun v ups _=>awpOps P T all rest (s.put dst v ups) K
def CallVO (P:Program) (T:Tab) (v:AV) (g:Nat) (hp:Hp) (vs:List AV) (dst:Option Nat) (all rest:List Oper) (s:St) (K:St->Prop):Prop:=
 match fnArgs v vs with
 |some (fid,vs)=>CallO P T fid g hp vs dst all rest s K
 |none=>False
theorem CallVO_fn {P:Program} {T:Tab} {fid g:Nat} {caps:List AV} {hp:Hp} {vs:List AV} {dst:Option Nat} {all rest:List Oper} {s:St} {K:St->Prop}:
  CallVO P T (.fn fid caps) g hp vs dst all rest s K=CallO P T fid g hp (vs++caps) dst all rest s K:=propext ⟨fun h=>h,fun h=>h⟩
theorem CallVO_bfn {P:Program} {T:Tab} {fid g:Nat} {first:List AV} {hp:Hp} {vs:List AV} {dst:Option Nat} {all rest:List Oper} {s:St} {K:St->Prop}:
  CallVO P T (.bfn fid first) g hp vs dst all rest s K=CallO P T fid g hp (first++vs) dst all rest s K:=propext ⟨fun h=>h,fun h=>h⟩
def awpDr (P:Program) (T:Tab) (all rest:List Oper) (s:St) (acc:List Rec) (K:St->List Rec->Prop):Prop:=awpD P T all rest s fun s' rs=>K s' (acc++rs)
def awpOD (P:Program) (T:Tab) (all:List Oper) (o:Oper) (rest:List Oper) (s:St) (acc:List Rec) (K:St->List Rec->Prop):Prop:=
 opKD P T o s fun v ups a=>awpDr P T all rest (s.put o.dst v ups) (acc++[(ups.map (·.1),a)]) K
def finOD (P:Program) (T:Tab) (r:R) (a:List Nat) (dst:Option Nat) (all rest:List Oper) (s:St) (acc:List Rec) (K:St->List Rec->Prop):Prop:=
 r.1/\awpDr P T all rest (s.put dst r.2.1 r.2.2) (acc++[(r.2.2.map (·.1),a)]) K
def CallOD (P:Program) (T:Tab) (f:FuncId) (g:Nat) (hp:Hp) (vs:List AV) (dst:Option Nat) (all rest:List Oper) (s:St) (acc:List Rec) (K:St->List Rec->Prop):Prop:=
 CallK P T f g hp vs fun v ups a=>awpDr P T all rest (s.put dst v ups) (acc++[(ups.map (·.1),a)]) K
def CallVOD (P:Program) (T:Tab) (v:AV) (g:Nat) (hp:Hp) (vs:List AV) (dst:Option Nat) (all rest:List Oper) (s:St) (acc:List Rec) (K:St->List Rec->Prop):Prop:=
 match fnArgs v vs with
 |some (fid,vs)=>CallOD P T fid g hp vs dst all rest s acc K
 |none=>False
theorem CallVOD_fn {P:Program} {T:Tab} {fid g:Nat} {caps:List AV} {hp:Hp} {vs:List AV} {dst:Option Nat} {all rest:List Oper} {s:St} {acc:List Rec} {K:St->List Rec->Prop}:
  CallVOD P T (.fn fid caps) g hp vs dst all rest s acc K=CallOD P T fid g hp (vs++caps) dst all rest s acc K:=propext ⟨fun h=>h,fun h=>h⟩
theorem CallVOD_bfn {P:Program} {T:Tab} {fid g:Nat} {first:List AV} {hp:Hp} {vs:List AV} {dst:Option Nat} {all rest:List Oper} {s:St} {acc:List Rec} {K:St->List Rec->Prop}:
  CallVOD P T (.bfn fid first) g hp vs dst all rest s acc K=CallOD P T fid g hp (first++vs) dst all rest s acc K:=propext ⟨fun h=>h,fun h=>h⟩
theorem finO_mk {P:Program} {T:Tab} {p:Prop} {v:AV} {ups:List Up} {dst:Option Nat} {all rest:List Oper} {s:St} {K:St->Prop}:finO P T (p,v,ups) dst all rest s K=(p/\awpOps P T all rest (s.put dst v ups) K):=propext ⟨fun h=>h,fun h=>h⟩
theorem finOD_mk {P:Program} {T:Tab} {p:Prop} {v:AV} {ups:List Up} {a:List Nat} {dst:Option Nat} {all rest:List Oper} {s:St} {acc:List Rec} {K:St->List Rec->Prop}:finOD P T (p,v,ups) a dst all rest s acc K=(p/\awpDr P T all rest (s.put dst v ups) (acc++[(ups.map (·.1),a)]) K):=propext ⟨fun h=>h,fun h=>h⟩
def gv (tm:List (Nat×AV)):Option Nat->Option AV
 |some d=>some (tget tm d)
 |none=>none
theorem gv_some {tm:List (Nat×AV)} {d:Nat}:gv tm (some d)=some (tget tm d):=rfl
theorem gv_eq (tm:List (Nat×AV)):∀o:Option Nat,o.map (tget tm)=gv tm o
 |some _=>rfl
 |none=>rfl
def GO (P:Program) (T:Tab) (x:Option AV) (want:Bool) (all:List Oper) (o:Oper) (rest:List Oper) (s:St) (K:St->Prop):Prop:=
 GM x want (awpO P T all o rest s K) (awpOps P T all rest (s.put o.dst (.tup []) []) K)
def GOD (P:Program) (T:Tab) (x:Option AV) (want:Bool) (all:List Oper) (o:Oper) (rest:List Oper) (s:St) (acc:List Rec) (K:St->List Rec->Prop):Prop:=
 GM x want (awpOD P T all o rest s acc K) (awpDr P T all rest (s.put o.dst (.tup []) []) (acc++[([],[])]) K)
section
variable {P:Program} {T:Tab} {all rest:List Oper} {o:Oper} {s:St} {K:St->Prop} {acc:List Rec} {KD:St->List Rec->Prop} {want:Bool}
theorem GO_tt:GO P T (some (.lit (.bool true))) true all o rest s K=awpO P T all o rest s K:=by simp[GO,GM,GK]
theorem GO_ff:GO P T (some (.lit (.bool false))) false all o rest s K=awpO P T all o rest s K:=by simp[GO,GM,GK]
theorem GO_tf:GO P T (some (.lit (.bool true))) false all o rest s K=awpOps P T all rest (s.put o.dst (.tup []) []) K:=by simp[GO,GM,GK]
theorem GO_ft:GO P T (some (.lit (.bool false))) true all o rest s K=awpOps P T all rest (s.put o.dst (.tup []) []) K:=by simp[GO,GM,GK]
theorem GO_tup:GO P T (some (.tup [])) want all o rest s K=awpOps P T all rest (s.put o.dst (.tup []) []) K:=propext ⟨fun h=>h,fun h=>h⟩
theorem GOD_tt:GOD P T (some (.lit (.bool true))) true all o rest s acc KD=awpOD P T all o rest s acc KD:=by simp[GOD,GM,GK]
theorem GOD_ff:GOD P T (some (.lit (.bool false))) false all o rest s acc KD=awpOD P T all o rest s acc KD:=by simp[GOD,GM,GK]
theorem GOD_tf:GOD P T (some (.lit (.bool true))) false all o rest s acc KD=awpDr P T all rest (s.put o.dst (.tup []) []) (acc++[([],[])]) KD:=by simp[GOD,GM,GK]
theorem GOD_ft:GOD P T (some (.lit (.bool false))) true all o rest s acc KD=awpDr P T all rest (s.put o.dst (.tup []) []) (acc++[([],[])]) KD:=by simp[GOD,GM,GK]
theorem GOD_tup:GOD P T (some (.tup [])) want all o rest s acc KD=awpDr P T all rest (s.put o.dst (.tup []) []) (acc++[([],[])]) KD:=propext ⟨fun h=>h,fun h=>h⟩
end
section
variable {P:Program} {T:Tab} {dst:Option Nat} {type:TypeId} {pos:String} {after:Array Edge} {guard:Option (Nat×Bool)} {s:St} {all rest:List Oper} {K:St->Prop} {acc:List Rec} {KD:St->List Rec->Prop}
theorem K_move (x:Operand):awpO P T all ⟨dst, .move x,type,pos,after,guard⟩ rest s K=finO P T (.val True (s.ev x)) dst all rest s K:=propext ⟨fun h=>h,fun h=>h⟩
theorem D_move (x:Operand):awpOD P T all ⟨dst, .move x,type,pos,after,guard⟩ rest s acc KD=finOD P T (.val True (s.ev x)) ([]++[]) dst all rest s acc KD:=propext ⟨fun h=>h,fun h=>h⟩
theorem K_pick (c a b:Operand):awpO P T all ⟨dst, .pick c a b,type,pos,after,guard⟩ rest s K=finO P T ((match s.ev c with| .lit (.bool c)=> .val True (if c then s.ev a else s.ev b)|_=> .no)) dst all rest s K:=propext ⟨fun h=>h,fun h=>h⟩
theorem D_pick (c a b:Operand):awpOD P T all ⟨dst, .pick c a b,type,pos,after,guard⟩ rest s acc KD=finOD P T ((match s.ev c with| .lit (.bool c)=> .val True (if c then s.ev a else s.ev b)|_=> .no)) (((Op.operands (.pick c a b)).toList.flatMap fun x=>ids3 (s.ev x))++[]) dst all rest s acc KD:=propext ⟨fun h=>h,fun h=>h⟩
theorem K_binOp (op:BinOp) (t:TypeId) (x y:Operand) (u:TypeId):awpO P T all ⟨dst, .binOp op t x y u,type,pos,after,guard⟩ rest s K=finO P T (bopI (isNilI y) op (tl T t) (s.ev x) (bopB (isNil y) op (tl T t) (s.ev x) (s.ev y))) dst all rest s K:=propext ⟨fun h=>h,fun h=>h⟩
theorem D_binOp (op:BinOp) (t:TypeId) (x y:Operand) (u:TypeId):awpOD P T all ⟨dst, .binOp op t x y u,type,pos,after,guard⟩ rest s acc KD=finOD P T (bopI (isNilI y) op (tl T t) (s.ev x) (bopB (isNil y) op (tl T t) (s.ev x) (s.ev y))) (((Op.operands (.binOp op t x y u)).toList.flatMap fun x=>ids3 (s.ev x))++[]) dst all rest s acc KD:=propext ⟨fun h=>h,fun h=>h⟩
theorem K_makeMap (t:TypeId):awpO P T all ⟨dst, .makeMap t none,type,pos,after,guard⟩ rest s K=finO P T ((True, .mpO (100+dst.getD 0) s.ck,[((100+dst.getD 0),some (s.ck,if isStrMap T t then .ms [] else .mp []))])) dst all rest s K:=propext ⟨fun h=>h,fun h=>h⟩
theorem D_makeMap (t:TypeId):awpOD P T all ⟨dst, .makeMap t none,type,pos,after,guard⟩ rest s acc KD=finOD P T ((True, .mpO (100+dst.getD 0) s.ck,[((100+dst.getD 0),some (s.ck,if isStrMap T t then .ms [] else .mp []))])) (((Op.operands (.makeMap t none)).toList.flatMap fun x=>ids3 (s.ev x))++[]) dst all rest s acc KD:=propext ⟨fun h=>h,fun h=>h⟩
theorem K_lookup (t:TypeId) (m k:Operand):awpO P T all ⟨dst, .lookup t m k false,type,pos,after,guard⟩ rest s K=finO P T (opLookup T t s.hp (s.ev m) (s.ev k)) dst all rest s K:=propext ⟨fun h=>h,fun h=>h⟩
theorem D_lookup (t:TypeId) (m k:Operand):awpOD P T all ⟨dst, .lookup t m k false,type,pos,after,guard⟩ rest s acc KD=finOD P T (opLookup T t s.hp (s.ev m) (s.ev k)) (((Op.operands (.lookup t m k false)).toList.flatMap fun x=>ids3 (s.ev x))++[]) dst all rest s acc KD:=propext ⟨fun h=>h,fun h=>h⟩
theorem K_lookup2 (t:TypeId) (m k:Operand):awpO P T all ⟨dst, .lookup t m k true,type,pos,after,guard⟩ rest s K=finO P T (opLookup2 T t s.hp (s.ev m) (s.ev k)) dst all rest s K:=propext ⟨fun h=>h,fun h=>h⟩
theorem D_lookup2 (t:TypeId) (m k:Operand):awpOD P T all ⟨dst, .lookup t m k true,type,pos,after,guard⟩ rest s acc KD=finOD P T (opLookup2 T t s.hp (s.ev m) (s.ev k)) (((Op.operands (.lookup t m k true)).toList.flatMap fun x=>ids3 (s.ev x))++[]) dst all rest s acc KD:=propext ⟨fun h=>h,fun h=>h⟩
theorem K_mapUpdate (t:TypeId) (m k v:Operand):awpO P T all ⟨dst, .mapUpdate t m k v,type,pos,after,guard⟩ rest s K=finO P T ((if isStrMap T t then opMapUpdS T t s.hp (s.ev m) (s.ev k) (s.ev v) else opMapUpd T t s.hp (s.ev m) (s.ev k) (s.ev v))) dst all rest s K:=propext ⟨fun h=>h,fun h=>h⟩
theorem D_mapUpdate (t:TypeId) (m k v:Operand):awpOD P T all ⟨dst, .mapUpdate t m k v,type,pos,after,guard⟩ rest s acc KD=finOD P T ((if isStrMap T t then opMapUpdS T t s.hp (s.ev m) (s.ev k) (s.ev v) else opMapUpd T t s.hp (s.ev m) (s.ev k) (s.ev v))) (((Op.operands (.mapUpdate t m k v)).toList.flatMap fun x=>ids3 (s.ev x))++[]) dst all rest s acc KD:=propext ⟨fun h=>h,fun h=>h⟩
theorem K_insert (t:TypeId) (m k v:Operand):awpO P T all ⟨dst, .insert t m k v,type,pos,after,guard⟩ rest s K=finO P T (opMapUpdS T t s.hp (s.ev m) (s.ev k) (s.ev v)) dst all rest s K:=propext ⟨fun h=>h,fun h=>h⟩
theorem D_insert (t:TypeId) (m k v:Operand):awpOD P T all ⟨dst, .insert t m k v,type,pos,after,guard⟩ rest s acc KD=finOD P T (opMapUpdS T t s.hp (s.ev m) (s.ev k) (s.ev v)) (((Op.operands (.insert t m k v)).toList.flatMap fun x=>ids3 (s.ev x))++[]) dst all rest s acc KD:=propext ⟨fun h=>h,fun h=>h⟩
theorem K_makeFunc1 (f:FuncId) (x:Operand):awpO P T all ⟨dst, .makeFunc (.func f) #[x] #[],type,pos,after,guard⟩ rest s K=finO P T ((([]:List Operand)=[], .bfn f [s.ev x],[])) dst all rest s K:=propext ⟨fun h=>h,fun h=>h⟩
theorem D_makeFunc1 (f:FuncId) (x:Operand):awpOD P T all ⟨dst, .makeFunc (.func f) #[x] #[],type,pos,after,guard⟩ rest s acc KD=finOD P T ((([]:List Operand)=[], .bfn f [s.ev x],[])) (((Op.operands (.makeFunc (.func f) #[x] #[])).toList.flatMap fun x=>ids3 (s.ev x))++[]) dst all rest s acc KD:=propext ⟨fun h=>h,fun h=>h⟩
theorem K_not (t:TypeId) (x:Operand):awpO P T all ⟨dst, .unOp .not t x,type,pos,after,guard⟩ rest s K=finO P T ((match s.ev x with| .lit (.bool b)=> .val True (.lit (.bool (!b)))|_=> .no)) dst all rest s K:=propext ⟨fun h=>h,fun h=>h⟩
theorem D_not (t:TypeId) (x:Operand):awpOD P T all ⟨dst, .unOp .not t x,type,pos,after,guard⟩ rest s acc KD=finOD P T ((match s.ev x with| .lit (.bool b)=> .val True (.lit (.bool (!b)))|_=> .no)) (((Op.operands (.unOp .not t x)).toList.flatMap fun x=>ids3 (s.ev x))++[]) dst all rest s acc KD:=propext ⟨fun h=>h,fun h=>h⟩
theorem K_neg (t:TypeId) (x:Operand):awpO P T all ⟨dst, .unOp .neg t x,type,pos,after,guard⟩ rest s K=finO P T ((match s.ev x with| .lit (.int k n)=>arith k (0 - n)|_=> .no)) dst all rest s K:=propext ⟨fun h=>h,fun h=>h⟩
theorem D_neg (t:TypeId) (x:Operand):awpOD P T all ⟨dst, .unOp .neg t x,type,pos,after,guard⟩ rest s acc KD=finOD P T ((match s.ev x with| .lit (.int k n)=>arith k (0 - n)|_=> .no)) (((Op.operands (.unOp .neg t x)).toList.flatMap fun x=>ids3 (s.ev x))++[]) dst all rest s acc KD:=propext ⟨fun h=>h,fun h=>h⟩
theorem K_nilCheck (x:Operand):awpO P T all ⟨dst, .nilCheck x,type,pos,after,guard⟩ rest s K=finO P T ((match s.ev x with| .gl n=> .val True (.gl n)| .ptI cs=> .val True (.ptI cs)| .ptO id g n i off=> .val (s.hp.has id g n) (.ptO id g n i off)|_=> .no)) dst all rest s K:=propext ⟨fun h=>h,fun h=>h⟩
theorem D_nilCheck (x:Operand):awpOD P T all ⟨dst, .nilCheck x,type,pos,after,guard⟩ rest s acc KD=finOD P T ((match s.ev x with| .gl n=> .val True (.gl n)| .ptI cs=> .val True (.ptI cs)| .ptO id g n i off=> .val (s.hp.has id g n) (.ptO id g n i off)|_=> .no)) (((Op.operands (.nilCheck x)).toList.flatMap fun x=>ids3 (s.ev x))++[]) dst all rest s acc KD:=propext ⟨fun h=>h,fun h=>h⟩
theorem K_extract (x:Operand) (i:Nat):awpO P T all ⟨dst, .extract x i,type,pos,after,guard⟩ rest s K=finO P T ((match s.ev x with| .tup vs=> .val (i<vs.length) (vs.getD i .bad)|_=> .no)) dst all rest s K:=propext ⟨fun h=>h,fun h=>h⟩
theorem D_extract (x:Operand) (i:Nat):awpOD P T all ⟨dst, .extract x i,type,pos,after,guard⟩ rest s acc KD=finOD P T ((match s.ev x with| .tup vs=> .val (i<vs.length) (vs.getD i .bad)|_=> .no)) ([]++[]) dst all rest s acc KD:=propext ⟨fun h=>h,fun h=>h⟩
theorem K_load (t:TypeId) (x:Operand):awpO P T all ⟨dst, .load t x,type,pos,after,guard⟩ rest s K=finO P T (opLoad (tl T t) (100+dst.getD 0) s.ck s.hp (glob T (s.ev x))) dst all rest s K:=propext ⟨fun h=>h,fun h=>h⟩
theorem D_load (t:TypeId) (x:Operand):awpOD P T all ⟨dst, .load t x,type,pos,after,guard⟩ rest s acc KD=finOD P T (opLoad (tl T t) (100+dst.getD 0) s.ck s.hp (glob T (s.ev x))) (((Op.operands (.load t x)).toList.flatMap fun x=>ids3 (s.ev x))++[]) dst all rest s acc KD:=propext ⟨fun h=>h,fun h=>h⟩
theorem K_store (t:TypeId) (x y:Operand):awpO P T all ⟨dst, .store t x y,type,pos,after,guard⟩ rest s K=finO P T (opStore (tl T t) s.hp (s.ev y) (s.ev x)) dst all rest s K:=propext ⟨fun h=>h,fun h=>h⟩
theorem D_store (t:TypeId) (x y:Operand):awpOD P T all ⟨dst, .store t x y,type,pos,after,guard⟩ rest s acc KD=finOD P T (opStore (tl T t) s.hp (s.ev y) (s.ev x)) (((Op.operands (.store t x y)).toList.flatMap fun x=>ids3 (s.ev x))++[]) dst all rest s acc KD:=propext ⟨fun h=>h,fun h=>h⟩
theorem K_indexAddr (t:TypeId) (x y:Operand):awpO P T all ⟨dst, .indexAddr t x y,type,pos,after,guard⟩ rest s K=finO P T (opIndexAddr (tl T t) (tl T (Sym.elemOf T t)) s.hp (glob T (s.ev x)) (s.ev y)) dst all rest s K:=propext ⟨fun h=>h,fun h=>h⟩
theorem D_indexAddr (t:TypeId) (x y:Operand):awpOD P T all ⟨dst, .indexAddr t x y,type,pos,after,guard⟩ rest s acc KD=finOD P T (opIndexAddr (tl T t) (tl T (Sym.elemOf T t)) s.hp (glob T (s.ev x)) (s.ev y)) (((Op.operands (.indexAddr t x y)).toList.flatMap fun x=>ids3 (s.ev x))++[]) dst all rest s acc KD:=propext ⟨fun h=>h,fun h=>h⟩
theorem K_fieldAddr (t:TypeId) (x:Operand) (i:Nat):awpO P T all ⟨dst, .fieldAddr t x i,type,pos,after,guard⟩ rest s K=finO P T (opFieldAddr T t i s.hp (glob T (s.ev x))) dst all rest s K:=propext ⟨fun h=>h,fun h=>h⟩
theorem D_fieldAddr (t:TypeId) (x:Operand) (i:Nat):awpOD P T all ⟨dst, .fieldAddr t x i,type,pos,after,guard⟩ rest s acc KD=finOD P T (opFieldAddr T t i s.hp (glob T (s.ev x))) (((Op.operands (.fieldAddr t x i)).toList.flatMap fun x=>ids3 (s.ev x))++[]) dst all rest s acc KD:=propext ⟨fun h=>h,fun h=>h⟩
theorem K_field (t:TypeId) (x:Operand) (i:Nat):awpO P T all ⟨dst, .field t x i,type,pos,after,guard⟩ rest s K=finO P T (opField T t i (s.ev x)) dst all rest s K:=propext ⟨fun h=>h,fun h=>h⟩
theorem D_field (t:TypeId) (x:Operand) (i:Nat):awpOD P T all ⟨dst, .field t x i,type,pos,after,guard⟩ rest s acc KD=finOD P T (opField T t i (s.ev x)) (((Op.operands (.field t x i)).toList.flatMap fun x=>ids3 (s.ev x))++[]) dst all rest s acc KD:=propext ⟨fun h=>h,fun h=>h⟩
theorem K_index (t:TypeId) (x y:Operand):awpO P T all ⟨dst, .index t x y,type,pos,after,guard⟩ rest s K=finO P T (opIndex T t (s.ev x) (s.ev y)) dst all rest s K:=propext ⟨fun h=>h,fun h=>h⟩
theorem D_index (t:TypeId) (x y:Operand):awpOD P T all ⟨dst, .index t x y,type,pos,after,guard⟩ rest s acc KD=finOD P T (opIndex T t (s.ev x) (s.ev y)) (((Op.operands (.index t x y)).toList.flatMap fun x=>ids3 (s.ev x))++[]) dst all rest s acc KD:=propext ⟨fun h=>h,fun h=>h⟩
theorem K_slice (t:TypeId) (x:Operand) (lo hi mx:Option Operand):awpO P T all ⟨dst, .slice t x lo hi mx,type,pos,after,guard⟩ rest s K=finO P T (opSlice T t s.ck s.hp (lo.map s.ev) (hi.map s.ev) (mx.map s.ev) (s.ev x)) dst all rest s K:=propext ⟨fun h=>h,fun h=>h⟩
theorem D_slice (t:TypeId) (x:Operand) (lo hi mx:Option Operand):awpOD P T all ⟨dst, .slice t x lo hi mx,type,pos,after,guard⟩ rest s acc KD=finOD P T (opSlice T t s.ck s.hp (lo.map s.ev) (hi.map s.ev) (mx.map s.ev) (s.ev x)) (((Op.operands (.slice t x lo hi mx)).toList.flatMap fun x=>ids3 (s.ev x))++[]) dst all rest s acc KD:=propext ⟨fun h=>h,fun h=>h⟩
theorem K_makeFunc (f:FuncId) (caps:Array Operand):awpO P T all ⟨dst, .makeFunc (.func f) #[] caps,type,pos,after,guard⟩ rest s K=finO P T (.val True (.fn f (caps.toList.map s.ev))) dst all rest s K:=propext ⟨fun h=>h,fun h=>h⟩
theorem D_makeFunc (f:FuncId) (caps:Array Operand):awpOD P T all ⟨dst, .makeFunc (.func f) #[] caps,type,pos,after,guard⟩ rest s acc KD=finOD P T (.val True (.fn f (caps.toList.map s.ev))) (((Op.operands (.makeFunc (.func f) #[] caps)).toList.flatMap fun x=>ids3 (s.ev x))++[]) dst all rest s acc KD:=propext ⟨fun h=>h,fun h=>h⟩
theorem K_makeSlice (t:TypeId) (l c:Operand):awpO P T all ⟨dst, .makeSlice t l c,type,pos,after,guard⟩ rest s K=finO P T ((match (tl T t).ty,s.ev l,s.ev c with
  | .slice e, .lit (.int _ l), .lit (.int _ c)=>
   (0<=l/\l<=c/\c*(tl T e).bytes<=140737488355328/\c<=9223372036854775807/\(tl T e).size≠0, .slO (100+dst.getD 0) s.ck 0 l.toNat,[((100+dst.getD 0),some (s.ck, .own e (tl T e).size (List.replicate l.toNat (tl T e).zav)))])
  |_,_,_=> .no)) dst all rest s K:=propext ⟨fun h=>h,fun h=>h⟩
theorem D_makeSlice (t:TypeId) (l c:Operand):awpOD P T all ⟨dst, .makeSlice t l c,type,pos,after,guard⟩ rest s acc KD=finOD P T ((match (tl T t).ty,s.ev l,s.ev c with
  | .slice e, .lit (.int _ l), .lit (.int _ c)=>
   (0<=l/\l<=c/\c*(tl T e).bytes<=140737488355328/\c<=9223372036854775807/\(tl T e).size≠0, .slO (100+dst.getD 0) s.ck 0 l.toNat,[((100+dst.getD 0),some (s.ck, .own e (tl T e).size (List.replicate l.toNat (tl T e).zav)))])
  |_,_,_=> .no)) (((Op.operands (.makeSlice t l c)).toList.flatMap fun x=>ids3 (s.ev x))++[]) dst all rest s acc KD:=propext ⟨fun h=>h,fun h=>h⟩
theorem K_buildSlice (t:TypeId) (n:Nat) (ps:Array (Nat×Operand)):awpO P T all ⟨dst, .buildSlice t n ps,type,pos,after,guard⟩ rest s K=finO P T ((match (tl T t).ty with
  | .slice el=>
  (partsOk n ps.toList=true/\(tl T el).size≠0/\n*(tl T el).size<=16777216/\(∀v∈ps.toList.map fun p=>s.ev p.2,v.cells.length=(tl T el).size/\∀c∈v.cells,c.one=true/\c.noKid=true),
   .slO (100+dst.getD 0) s.ck 0 n,[((100+dst.getD 0),some (s.ck, .own el (tl T el).size (ps.toList.map fun p=>s.ev p.2)))])
  |_=> .no)) dst all rest s K:=propext ⟨fun h=>h,fun h=>h⟩
theorem D_buildSlice (t:TypeId) (n:Nat) (ps:Array (Nat×Operand)):awpOD P T all ⟨dst, .buildSlice t n ps,type,pos,after,guard⟩ rest s acc KD=finOD P T ((match (tl T t).ty with
  | .slice el=>
  (partsOk n ps.toList=true/\(tl T el).size≠0/\n*(tl T el).size<=16777216/\(∀v∈ps.toList.map fun p=>s.ev p.2,v.cells.length=(tl T el).size/\∀c∈v.cells,c.one=true/\c.noKid=true),
   .slO (100+dst.getD 0) s.ck 0 n,[((100+dst.getD 0),some (s.ck, .own el (tl T el).size (ps.toList.map fun p=>s.ev p.2)))])
  |_=> .no)) (((Op.operands (.buildSlice t n ps)).toList.flatMap fun x=>ids3 (s.ev x))++[]) dst all rest s acc KD:=propext ⟨fun h=>h,fun h=>h⟩
theorem K_alloc (t:TypeId):awpO P T all ⟨dst, .alloc t,type,pos,after,guard⟩ rest s K=finO P T ((match (tl T t).ty with
  | .bld e=>((tl T t).size≠0/\(tl T t).zs=[.ptr, .sl]/\(tl T t).agg=true, .ptO (100+dst.getD 0) s.ck 0 0 0,[((100+dst.getD 0),some (s.ck, .bd t e []))])
  |_=>((tl T t).size≠0, .ptO (100+dst.getD 0) s.ck 0 0 0,[((100+dst.getD 0),some (s.ck, .box (tl T t).zav.cells))]))) dst all rest s K:=propext ⟨fun h=>h,fun h=>h⟩
theorem D_alloc (t:TypeId):awpOD P T all ⟨dst, .alloc t,type,pos,after,guard⟩ rest s acc KD=finOD P T ((match (tl T t).ty with
  | .bld e=>((tl T t).size≠0/\(tl T t).zs=[.ptr, .sl]/\(tl T t).agg=true, .ptO (100+dst.getD 0) s.ck 0 0 0,[((100+dst.getD 0),some (s.ck, .bd t e []))])
  |_=>((tl T t).size≠0, .ptO (100+dst.getD 0) s.ck 0 0 0,[((100+dst.getD 0),some (s.ck, .box (tl T t).zav.cells))]))) (((Op.operands (.alloc t)).toList.flatMap fun x=>ids3 (s.ev x))++[]) dst all rest s acc KD:=propext ⟨fun h=>h,fun h=>h⟩
theorem K_box (t:TypeId) (x:Operand):awpO P T all ⟨dst, .box t x,type,pos,after,guard⟩ rest s K=finO P T ((((s.ev x).cells.length=(tl T t).size/\∀c∈(s.ev x).cells,c.one=true/\c.noKid=true), .ptO (100+dst.getD 0) s.ck 0 0 0,[((100+dst.getD 0),some (s.ck, .box (s.ev x).cells))])) dst all rest s K:=propext ⟨fun h=>h,fun h=>h⟩
theorem D_box (t:TypeId) (x:Operand):awpOD P T all ⟨dst, .box t x,type,pos,after,guard⟩ rest s acc KD=finOD P T ((((s.ev x).cells.length=(tl T t).size/\∀c∈(s.ev x).cells,c.one=true/\c.noKid=true), .ptO (100+dst.getD 0) s.ck 0 0 0,[((100+dst.getD 0),some (s.ck, .box (s.ev x).cells))])) (((Op.operands (.box t x)).toList.flatMap fun x=>ids3 (s.ev x))++[]) dst all rest s acc KD:=propext ⟨fun h=>h,fun h=>h⟩
theorem K_build (t:TypeId) (ps:Array (Nat×Operand)):awpO P T all ⟨dst, .build t ps,type,pos,after,guard⟩ rest s K=finO P T ((match (tl T t).ty with
  | .struct fs=>
   (∀p∈ps.toList,p.1<fs.length/\(tl T (fs.getD p.1 (0,0)).2).size≠0/\(s.ev p.2).cells.length=(tl T (fs.getD p.1 (0,0)).2).size/\(fs.getD p.1 (0,0)).1+(tl T (fs.getD p.1 (0,0)).2).size<=(tl T t).size/\(∀c∈(s.ev p.2).cells,c.one=true),
    .agg (ps.toList.foldl (fun cs p=>splice cs (fs.getD p.1 (0,0)).1 (s.ev p.2).cells) ((tl T t).zs.map ZC.av)),[])
  | .array n el=>
   (ps.toList≠[]/\∀p∈ps.toList,p.1<n/\(tl T el).size≠0/\(s.ev p.2).cells.length=(tl T el).size/\p.1*(tl T el).size+(tl T el).size<=(tl T t).size/\(∀c∈(s.ev p.2).cells,c.one=true),
    .agg (ps.toList.foldl (fun cs p=>splice cs (p.1*(tl T el).size) (s.ev p.2).cells) ((tl T t).zs.map ZC.av)),[])
  |_=> .no)) dst all rest s K:=propext ⟨fun h=>h,fun h=>h⟩
theorem D_build (t:TypeId) (ps:Array (Nat×Operand)):awpOD P T all ⟨dst, .build t ps,type,pos,after,guard⟩ rest s acc KD=finOD P T ((match (tl T t).ty with
  | .struct fs=>
   (∀p∈ps.toList,p.1<fs.length/\(tl T (fs.getD p.1 (0,0)).2).size≠0/\(s.ev p.2).cells.length=(tl T (fs.getD p.1 (0,0)).2).size/\(fs.getD p.1 (0,0)).1+(tl T (fs.getD p.1 (0,0)).2).size<=(tl T t).size/\(∀c∈(s.ev p.2).cells,c.one=true),
    .agg (ps.toList.foldl (fun cs p=>splice cs (fs.getD p.1 (0,0)).1 (s.ev p.2).cells) ((tl T t).zs.map ZC.av)),[])
  | .array n el=>
   (ps.toList≠[]/\∀p∈ps.toList,p.1<n/\(tl T el).size≠0/\(s.ev p.2).cells.length=(tl T el).size/\p.1*(tl T el).size+(tl T el).size<=(tl T t).size/\(∀c∈(s.ev p.2).cells,c.one=true),
    .agg (ps.toList.foldl (fun cs p=>splice cs (p.1*(tl T el).size) (s.ev p.2).cells) ((tl T t).zs.map ZC.av)),[])
  |_=> .no)) (((Op.operands (.build t ps)).toList.flatMap fun x=>ids3 (s.ev x))++[]) dst all rest s acc KD:=propext ⟨fun h=>h,fun h=>h⟩
theorem K_convert (t u:TypeId) (x:Operand):awpO P T all ⟨dst, .convert t u x,type,pos,after,guard⟩ rest s K=finO P T ((match (tl T t).ty,(tl T u).ty,s.ev x with
  | .int _, .int k, .lit (.int _ n)=> .val True (.lit (.int k (k.wrap n)))
  | .str, .slice e, .lit (.string b)=>match (tl T e).ty with
   | .int .u8=>(b.data.toList.length<=9223372036854775807, .slO (100+dst.getD 0) s.ck 0 b.data.toList.length,[((100+dst.getD 0),some (s.ck, .own e 1 (b.data.toList.map byteE)))])
   |_=> .no
  | .slice e, .str,v=>match (tl T e).ty,srcE s.hp v with
   | .int .u8,some ys=>match bytesOf ys with
    |some bs=> .val (srcP s.hp v) (.lit (.string (strOf bs)))
    |none=> .no
   |_,_=> .no
  |_,_,_=> .no)) dst all rest s K:=propext ⟨fun h=>h,fun h=>h⟩
theorem D_convert (t u:TypeId) (x:Operand):awpOD P T all ⟨dst, .convert t u x,type,pos,after,guard⟩ rest s acc KD=finOD P T ((match (tl T t).ty,(tl T u).ty,s.ev x with
  | .int _, .int k, .lit (.int _ n)=> .val True (.lit (.int k (k.wrap n)))
  | .str, .slice e, .lit (.string b)=>match (tl T e).ty with
   | .int .u8=>(b.data.toList.length<=9223372036854775807, .slO (100+dst.getD 0) s.ck 0 b.data.toList.length,[((100+dst.getD 0),some (s.ck, .own e 1 (b.data.toList.map byteE)))])
   |_=> .no
  | .slice e, .str,v=>match (tl T e).ty,srcE s.hp v with
   | .int .u8,some ys=>match bytesOf ys with
    |some bs=> .val (srcP s.hp v) (.lit (.string (strOf bs)))
    |none=> .no
   |_,_=> .no
  |_,_,_=> .no)) (((Op.operands (.convert t u x)).toList.flatMap fun x=>ids3 (s.ev x))++[]) dst all rest s acc KD:=propext ⟨fun h=>h,fun h=>h⟩
theorem K_len (x:Operand) (t:TypeId):awpO P T all ⟨dst, .call {callee:= .builtin .len,args:=#[x],argTypes:=#[t]},type,pos,after,guard⟩ rest s K=finO P T (opLen T t s.hp (s.ev x)) dst all rest s K:=propext ⟨fun h=>h,fun h=>h⟩
theorem D_len (x:Operand) (t:TypeId):awpOD P T all ⟨dst, .call {callee:= .builtin .len,args:=#[x],argTypes:=#[t]},type,pos,after,guard⟩ rest s acc KD=finOD P T (opLen T t s.hp (s.ev x)) (((Op.operands (.call {callee:= .builtin .len,args:=#[x],argTypes:=#[t]})).toList.flatMap fun x=>ids3 (s.ev x))++[]) dst all rest s acc KD:=propext ⟨fun h=>h,fun h=>h⟩
theorem K_append (d x:Operand) (t u:TypeId):awpO P T all ⟨dst, .call {callee:= .builtin .append,args:=#[d,x],argTypes:=#[t,u]},type,pos,after,guard⟩ rest s K=finO P T ((match (tl T t).ty with| .slice _=>(u=t/\(opAppend T t (100+dst.getD 0) s.ck s.hp (s.ev d) (s.ev x)).1,(opAppend T t (100+dst.getD 0) s.ck s.hp (s.ev d) (s.ev x)).2)|_=> .no)) dst all rest s K:=propext ⟨fun h=>h,fun h=>h⟩
theorem D_append (d x:Operand) (t u:TypeId):awpOD P T all ⟨dst, .call {callee:= .builtin .append,args:=#[d,x],argTypes:=#[t,u]},type,pos,after,guard⟩ rest s acc KD=finOD P T ((match (tl T t).ty with| .slice _=>(u=t/\(opAppend T t (100+dst.getD 0) s.ck s.hp (s.ev d) (s.ev x)).1,(opAppend T t (100+dst.getD 0) s.ck s.hp (s.ev d) (s.ev x)).2)|_=> .no)) (((Op.operands (.call {callee:= .builtin .append,args:=#[d,x],argTypes:=#[t,u]})).toList.flatMap fun x=>ids3 (s.ev x))++srcR s.hp (s.ev x)) dst all rest s acc KD:=propext ⟨fun h=>h,fun h=>h⟩
theorem K_copy (d x:Operand) (t u:TypeId):awpO P T all ⟨dst, .call {callee:= .builtin .copy,args:=#[d,x],argTypes:=#[t,u]},type,pos,after,guard⟩ rest s K=finO P T (opCopy T t s.hp (s.ev d) (s.ev x)) dst all rest s K:=propext ⟨fun h=>h,fun h=>h⟩
theorem D_copy (d x:Operand) (t u:TypeId):awpOD P T all ⟨dst, .call {callee:= .builtin .copy,args:=#[d,x],argTypes:=#[t,u]},type,pos,after,guard⟩ rest s acc KD=finOD P T (opCopy T t s.hp (s.ev d) (s.ev x)) (((Op.operands (.call {callee:= .builtin .copy,args:=#[d,x],argTypes:=#[t,u]})).toList.flatMap fun x=>ids3 (s.ev x))++[]) dst all rest s acc KD:=propext ⟨fun h=>h,fun h=>h⟩
theorem K_clear (d:Operand) (t:TypeId):awpO P T all ⟨dst, .call {callee:= .builtin .clear,args:=#[d],argTypes:=#[t]},type,pos,after,guard⟩ rest s K=finO P T (opClear T t s.hp (s.ev d)) dst all rest s K:=propext ⟨fun h=>h,fun h=>h⟩
theorem D_clear (d:Operand) (t:TypeId):awpOD P T all ⟨dst, .call {callee:= .builtin .clear,args:=#[d],argTypes:=#[t]},type,pos,after,guard⟩ rest s acc KD=finOD P T (opClear T t s.hp (s.ev d)) (((Op.operands (.call {callee:= .builtin .clear,args:=#[d],argTypes:=#[t]})).toList.flatMap fun x=>ids3 (s.ev x))++[]) dst all rest s acc KD:=propext ⟨fun h=>h,fun h=>h⟩
theorem K_min (d x:Operand) (t u:TypeId):awpO P T all ⟨dst, .call {callee:= .builtin .min,args:=#[d,x],argTypes:=#[t,u]},type,pos,after,guard⟩ rest s K=finO P T ((match s.ev d,s.ev x with| .lit (.int k a), .lit (.int _ b)=> .val True (.lit (.int k (if b<a then b else a)))|_,_=> .no)) dst all rest s K:=propext ⟨fun h=>h,fun h=>h⟩
theorem D_min (d x:Operand) (t u:TypeId):awpOD P T all ⟨dst, .call {callee:= .builtin .min,args:=#[d,x],argTypes:=#[t,u]},type,pos,after,guard⟩ rest s acc KD=finOD P T ((match s.ev d,s.ev x with| .lit (.int k a), .lit (.int _ b)=> .val True (.lit (.int k (if b<a then b else a)))|_,_=> .no)) (((Op.operands (.call {callee:= .builtin .min,args:=#[d,x],argTypes:=#[t,u]})).toList.flatMap fun x=>ids3 (s.ev x))++[]) dst all rest s acc KD:=propext ⟨fun h=>h,fun h=>h⟩
theorem K_max (d x:Operand) (t u:TypeId):awpO P T all ⟨dst, .call {callee:= .builtin .max,args:=#[d,x],argTypes:=#[t,u]},type,pos,after,guard⟩ rest s K=finO P T ((match s.ev d,s.ev x with| .lit (.int k a), .lit (.int _ b)=> .val True (.lit (.int k (if a<b then b else a)))|_,_=> .no)) dst all rest s K:=propext ⟨fun h=>h,fun h=>h⟩
theorem D_max (d x:Operand) (t u:TypeId):awpOD P T all ⟨dst, .call {callee:= .builtin .max,args:=#[d,x],argTypes:=#[t,u]},type,pos,after,guard⟩ rest s acc KD=finOD P T ((match s.ev d,s.ev x with| .lit (.int k a), .lit (.int _ b)=> .val True (.lit (.int k (if a<b then b else a)))|_,_=> .no)) (((Op.operands (.call {callee:= .builtin .max,args:=#[d,x],argTypes:=#[t,u]})).toList.flatMap fun x=>ids3 (s.ev x))++[]) dst all rest s acc KD:=propext ⟨fun h=>h,fun h=>h⟩
theorem K_assignV (t:Nat):awpO P T all ⟨dst, .assign (.tmp t),type,pos,after,guard⟩ rest s K=finO P T (.val True (s.ev (.tmp t))) dst all rest s K:=propext ⟨fun h=>h,fun h=>h⟩
theorem D_assignV (t:Nat):awpOD P T all ⟨dst, .assign (.tmp t),type,pos,after,guard⟩ rest s acc KD=finOD P T (.val True (s.ev (.tmp t))) (((Op.operands (.assign (.tmp t))).toList.flatMap fun x=>ids3 (s.ev x))++[]) dst all rest s acc KD:=propext ⟨fun h=>h,fun h=>h⟩
theorem K_assignF (t:Nat):awpO P T all ⟨dst, .assign (.func t),type,pos,after,guard⟩ rest s K=finO P T (.val True (s.ev (.func t))) dst all rest s K:=propext ⟨fun h=>h,fun h=>h⟩
theorem K_assignC (v:Value):awpO P T all ⟨dst, .assign (.const v),type,pos,after,guard⟩ rest s K=
  finO P T (match Operand.const v,(tl T type).ty with
  | .const (.slice none 0 0), .slice e=>((tl T e).size≠0, .slO (100+dst.getD 0) s.ck 0 0,[((100+dst.getD 0),some (s.ck, .own e (tl T e).size []))])
  |_,_=> .val True (s.ev (.const v))) dst all rest s K:=propext ⟨fun h=>h,fun h=>h⟩
theorem D_assignC (v:Value):awpOD P T all ⟨dst, .assign (.const v),type,pos,after,guard⟩ rest s acc KD=
  finOD P T (match Operand.const v,(tl T type).ty with
  | .const (.slice none 0 0), .slice e=>((tl T e).size≠0, .slO (100+dst.getD 0) s.ck 0 0,[((100+dst.getD 0),some (s.ck, .own e (tl T e).size []))])
  |_,_=> .val True (s.ev (.const v))) (((Op.operands (.assign (.const v))).toList.flatMap fun x=>ids3 (s.ev x))++[]) dst all rest s acc KD:=propext ⟨fun h=>h,fun h=>h⟩
theorem K_call (f:FuncId) (args:Array Operand) (at_:Array TypeId):awpO P T all ⟨dst, .call {callee:= .value (.func f),args:=args,argTypes:=at_},type,pos,after,guard⟩ rest s K=
  CallO P T f s.ck s.hp (args.toList.map s.ev) dst all rest s K:=by
 simp only[awpO,CallO,opK,St.ev,evs,fnArgs,List.append_nil]
theorem K_callV (t:Nat) (args:Array Operand) (at_:Array TypeId):awpO P T all ⟨dst, .call {callee:= .value (.tmp t),args:=args,argTypes:=at_},type,pos,after,guard⟩ rest s K=
  CallVO P T (s.ev (.tmp t)) s.ck s.hp (args.toList.map s.ev) dst all rest s K:=by
 simp only[awpO,CallVO,CallO,opK,evs]<;>(cases s.ev (.tmp t)<;>rfl)
theorem D_call (f:FuncId) (args:Array Operand) (at_:Array TypeId):awpOD P T all ⟨dst, .call {callee:= .value (.func f),args:=args,argTypes:=at_},type,pos,after,guard⟩ rest s acc KD=
  CallOD P T f s.ck s.hp (args.toList.map s.ev) dst all rest s acc KD:=by
 simp only[awpOD,CallOD,opKD,St.ev,fnArgs,List.append_nil]
theorem D_callV (t:Nat) (args:Array Operand) (at_:Array TypeId):awpOD P T all ⟨dst, .call {callee:= .value (.tmp t),args:=args,argTypes:=at_},type,pos,after,guard⟩ rest s acc KD=
  CallVOD P T (s.ev (.tmp t)) s.ck s.hp (args.toList.map s.ev) dst all rest s acc KD:=by
 simp only[awpOD,CallVOD,CallOD,opKD]<;>(cases s.ev (.tmp t)<;>rfl)
theorem put_some {tm:List (Nat×AV)} {hp:Hp} {ck d:Nat} {v:AV} {ups:List Up}:St.put ⟨tm,hp,ck⟩ (some d) v ups=⟨(d,v)::tm,ups++hp,ck+1⟩:=rfl
theorem put_none {tm:List (Nat×AV)} {hp:Hp} {ck:Nat} {v:AV} {ups:List Up}:St.put ⟨tm,hp,ck⟩ none v ups=⟨tm,ups++hp,ck+1⟩:=rfl
theorem ev_tmp {tm:List (Nat×AV)} {hp:Hp} {ck t:Nat}:St.ev ⟨tm,hp,ck⟩ (.tmp t)=tget tm t:=rfl
theorem ev_const {s:St} {v:Value}:St.ev s (.const v)=ofV v:=rfl
theorem ev_global {s:St} {n:Nat}:St.ev s (.global n)= .gl n:=rfl
theorem ev_func {s:St} {f:Nat}:St.ev s (.func f)= .fn f []:=rfl
theorem ofV_int {k:IntKind} {n:Int}:ofV (.int k n)= .lit (.int k n):=rfl
theorem ofV_bool {b:Bool}:ofV (.bool b)= .lit (.bool b):=rfl
theorem ofV_str {b:ByteArray}:ofV (.string b)= .lit (.string b):=rfl
theorem ofV_nilI:ofV .nilIface= .lit .nilIface:=rfl
theorem ofV_nil:ofV (.slice none 0 0)= .sl [] true:=rfl
theorem ofV_ptr:ofV (.pointer none)= .lit (.pointer none):=rfl
theorem ops_nil:awpOps P T all [] s K=K s:=propext ⟨fun h=>h,fun h=>h⟩
theorem ops_cons {op:Op}:awpOps P T all (⟨dst,op,type,pos,after,none⟩::rest) s K=awpO P T all ⟨dst,op,type,pos,after,none⟩ rest s K:=propext ⟨fun h=>h,fun h=>h⟩
theorem ops_guard {op:Op} {j:Nat} {want:Bool}:awpOps P T all (⟨dst,op,type,pos,after,some (j,want)⟩::rest) s K=
  GO P T (gv s.tm (dstOf all j)) want all ⟨dst,op,type,pos,after,some (j,want)⟩ rest s K:=by
 rw[<-gv_eq];rfl
theorem opsD_nil:awpDr P T all [] s acc KD=KD s acc:=by simp only[awpDr,awpD,List.append_nil]
theorem opsD_cons {op:Op}:awpDr P T all (⟨dst,op,type,pos,after,none⟩::rest) s acc KD=awpOD P T all ⟨dst,op,type,pos,after,none⟩ rest s acc KD:=by
 simp only[awpDr,awpOD,awpD,List.append_assoc,List.singleton_append]
theorem opsD_guard {op:Op} {j:Nat} {want:Bool}:awpDr P T all (⟨dst,op,type,pos,after,some (j,want)⟩::rest) s acc KD=
  GOD P T (gv s.tm (dstOf all j)) want all ⟨dst,op,type,pos,after,some (j,want)⟩ rest s acc KD:=by
 simp only[<-gv_eq,GOD,awpDr,awpOD,awpD,List.append_assoc,List.singleton_append]
end
open Go Go.Great
theorem cells_lit (v:Value):AV.cells (.lit v)=[.lit v]:=rfl
theorem cells_sl (es:List AV) (b:Bool):AV.cells (.sl es b)=[.sl es b]:=rfl
theorem cells_kid (t k:Nat) (es:List AV):AV.cells (.kid t k es)=[.kid t k es]:=rfl
theorem cells_ptI (cs:List AV):AV.cells (.ptI cs)=[.ptI cs]:=rfl
theorem cells_gl (n:Nat):AV.cells (.gl n)=[.gl n]:=rfl
theorem cells_bad:AV.cells (.bad)=[.bad]:=rfl
theorem cells_slO (id g off len:Nat):AV.cells (.slO id g off len)=[.slO id g off len]:=rfl
theorem cells_ptO (id g n i off:Nat):AV.cells (.ptO id g n i off)=[.ptO id g n i off]:=rfl
theorem cells_fn (f:FuncId) (cs:List AV):AV.cells (.fn f cs)=[.fn f cs]:=rfl
theorem cells_agg (cs:List AV):AV.cells (.agg cs)=cs:=rfl
theorem cells_tup (vs:List AV):AV.cells (.tup vs)=[.tup vs]:=rfl
theorem cells_ifn:AV.cells (.ifn)=[.ifn]:=rfl
theorem cells_bfn (f:FuncId) (cs:List AV):AV.cells (.bfn f cs)=[.bfn f cs]:=rfl
theorem cells_mpO (id g:Nat):AV.cells (.mpO id g)=[.mpO id g]:=rfl
theorem one_lit (v:Value):AV.one (.lit v)=true:=rfl
theorem noKid_lit (v:Value):AV.noKid (.lit v)=true:=rfl
theorem one_sl (es:List AV) (b:Bool):AV.one (.sl es b)=true:=rfl
theorem noKid_sl (es:List AV) (b:Bool):AV.noKid (.sl es b)=true:=rfl
theorem one_kid (t k:Nat) (es:List AV):AV.one (.kid t k es)=true:=rfl
theorem noKid_kid (t k:Nat) (es:List AV):AV.noKid (.kid t k es)=false:=rfl
theorem one_ptI (cs:List AV):AV.one (.ptI cs)=true:=rfl
theorem noKid_ptI (cs:List AV):AV.noKid (.ptI cs)=true:=rfl
theorem one_gl (n:Nat):AV.one (.gl n)=true:=rfl
theorem noKid_gl (n:Nat):AV.noKid (.gl n)=true:=rfl
theorem one_bad:AV.one (.bad)=false:=rfl
theorem noKid_bad:AV.noKid (.bad)=true:=rfl
theorem one_slO (id g off len:Nat):AV.one (.slO id g off len)=true:=rfl
theorem noKid_slO (id g off len:Nat):AV.noKid (.slO id g off len)=true:=rfl
theorem one_ptO (id g n i off:Nat):AV.one (.ptO id g n i off)=true:=rfl
theorem noKid_ptO (id g n i off:Nat):AV.noKid (.ptO id g n i off)=true:=rfl
theorem one_fn (f:FuncId) (cs:List AV):AV.one (.fn f cs)=true:=rfl
theorem noKid_fn (f:FuncId) (cs:List AV):AV.noKid (.fn f cs)=true:=rfl
theorem one_agg (cs:List AV):AV.one (.agg cs)=false:=rfl
theorem noKid_agg (cs:List AV):AV.noKid (.agg cs)=true:=rfl
theorem one_tup (vs:List AV):AV.one (.tup vs)=false:=rfl
theorem noKid_tup (vs:List AV):AV.noKid (.tup vs)=true:=rfl
theorem one_ifn:AV.one (.ifn)=true:=rfl
theorem noKid_ifn:AV.noKid (.ifn)=true:=rfl
theorem one_bfn (f:FuncId) (cs:List AV):AV.one (.bfn f cs)=true:=rfl
theorem noKid_bfn (f:FuncId) (cs:List AV):AV.noKid (.bfn f cs)=true:=rfl
theorem one_mpO (id g:Nat):AV.one (.mpO id g)=true:=rfl
theorem noKid_mpO (id g:Nat):AV.noKid (.mpO id g)=true:=rfl
theorem mapc_lit (f':AV->AV) (v:Value):mapc f' (.lit v)=f' (.lit v):=rfl
theorem mapc_sl (f':AV->AV) (es:List AV) (b:Bool):mapc f' (.sl es b)=f' (.sl es b):=rfl
theorem mapc_kid (f':AV->AV) (t k:Nat) (es:List AV):mapc f' (.kid t k es)=f' (.kid t k es):=rfl
theorem mapc_ptI (f':AV->AV) (cs:List AV):mapc f' (.ptI cs)=f' (.ptI cs):=rfl
theorem mapc_gl (f':AV->AV) (n:Nat):mapc f' (.gl n)=f' (.gl n):=rfl
theorem mapc_bad (f':AV->AV):mapc f' (.bad)=f' (.bad):=rfl
theorem mapc_slO (f':AV->AV) (id g off len:Nat):mapc f' (.slO id g off len)=f' (.slO id g off len):=rfl
theorem mapc_ptO (f':AV->AV) (id g n i off:Nat):mapc f' (.ptO id g n i off)=f' (.ptO id g n i off):=rfl
theorem mapc_fn (f':AV->AV) (f:FuncId) (cs:List AV):mapc f' (.fn f cs)=f' (.fn f cs):=rfl
theorem mapc_agg (f':AV->AV) (cs:List AV):mapc f' (.agg cs)= .agg (cs.map f'):=rfl
theorem mapc_tup (f':AV->AV) (vs:List AV):mapc f' (.tup vs)=f' (.tup vs):=rfl
theorem mapc_ifn (f':AV->AV):mapc f' (.ifn)=f' (.ifn):=rfl
theorem mapc_bfn (f':AV->AV) (f:FuncId) (cs:List AV):mapc f' (.bfn f cs)=f' (.bfn f cs):=rfl
theorem mapc_mpO (f':AV->AV) (id g:Nat):mapc f' (.mpO id g)=f' (.mpO id g):=rfl
theorem fz0_lit (hp:Hp) (v:Value):fz 0 hp (.lit v)= .lit v:=rfl
theorem fzP0_lit (hp:Hp) (v:Value):fzP 0 hp (.lit v)=True:=rfl
theorem fzR0_lit (hp:Hp) (v:Value):fzR 0 hp (.lit v)=[]:=rfl
theorem fz0_sl (hp:Hp) (es:List AV) (b:Bool):fz 0 hp (.sl es b)= .sl es false:=rfl
theorem fzP0_sl (hp:Hp) (es:List AV) (b:Bool):fzP 0 hp (.sl es b)=True:=rfl
theorem fzR0_sl (hp:Hp) (es:List AV) (b:Bool):fzR 0 hp (.sl es b)=[]:=rfl
theorem fz0_kid (hp:Hp) (t k:Nat) (es:List AV):fz 0 hp (.kid t k es)= .sl es false:=rfl
theorem fzP0_kid (hp:Hp) (t k:Nat) (es:List AV):fzP 0 hp (.kid t k es)=True:=rfl
theorem fzR0_kid (hp:Hp) (t k:Nat) (es:List AV):fzR 0 hp (.kid t k es)=[]:=rfl
theorem fz0_ptI (hp:Hp) (cs:List AV):fz 0 hp (.ptI cs)= .ptI cs:=rfl
theorem fzP0_ptI (hp:Hp) (cs:List AV):fzP 0 hp (.ptI cs)=True:=rfl
theorem fzR0_ptI (hp:Hp) (cs:List AV):fzR 0 hp (.ptI cs)=[]:=rfl
theorem fz0_gl (hp:Hp) (n:Nat):fz 0 hp (.gl n)= .gl n:=rfl
theorem fzP0_gl (hp:Hp) (n:Nat):fzP 0 hp (.gl n)=True:=rfl
theorem fzR0_gl (hp:Hp) (n:Nat):fzR 0 hp (.gl n)=[]:=rfl
theorem fz0_bad (hp:Hp):fz 0 hp (.bad)= .bad:=rfl
theorem fzP0_bad (hp:Hp):fzP 0 hp (.bad)=False:=rfl
theorem fzR0_bad (hp:Hp):fzR 0 hp (.bad)=[]:=rfl
theorem fz0_slO (hp:Hp) (id g off len:Nat):fz 0 hp (.slO id g off len)= .slO id g off len:=rfl
theorem fzP0_slO (hp:Hp) (id g off len:Nat):fzP 0 hp (.slO id g off len)=False:=rfl
theorem fzR0_slO (hp:Hp) (id g off len:Nat):fzR 0 hp (.slO id g off len)=[]:=rfl
theorem fz0_ptO (hp:Hp) (id g n i off:Nat):fz 0 hp (.ptO id g n i off)= .ptO id g n i off:=rfl
theorem fzP0_ptO (hp:Hp) (id g n i off:Nat):fzP 0 hp (.ptO id g n i off)=False:=rfl
theorem fzR0_ptO (hp:Hp) (id g n i off:Nat):fzR 0 hp (.ptO id g n i off)=[]:=rfl
theorem fz0_fn (hp:Hp) (f:FuncId) (cs:List AV):fz 0 hp (.fn f cs)= .fn f cs:=rfl
theorem fzP0_fn (hp:Hp) (f:FuncId) (cs:List AV):fzP 0 hp (.fn f cs)=False:=rfl
theorem fzR0_fn (hp:Hp) (f:FuncId) (cs:List AV):fzR 0 hp (.fn f cs)=[]:=rfl
theorem fz0_agg (hp:Hp) (cs:List AV):fz 0 hp (.agg cs)= .agg cs:=rfl
theorem fzP0_agg (hp:Hp) (cs:List AV):fzP 0 hp (.agg cs)=False:=rfl
theorem fzR0_agg (hp:Hp) (cs:List AV):fzR 0 hp (.agg cs)=[]:=rfl
theorem fz0_tup (hp:Hp) (vs:List AV):fz 0 hp (.tup vs)= .tup vs:=rfl
theorem fzP0_tup (hp:Hp) (vs:List AV):fzP 0 hp (.tup vs)=False:=rfl
theorem fzR0_tup (hp:Hp) (vs:List AV):fzR 0 hp (.tup vs)=[]:=rfl
theorem fz0_ifn (hp:Hp):fz 0 hp (.ifn)= .ifn:=rfl
theorem fzP0_ifn (hp:Hp):fzP 0 hp (.ifn)=True:=rfl
theorem fzR0_ifn (hp:Hp):fzR 0 hp (.ifn)=[]:=rfl
theorem fz0_bfn (hp:Hp) (f:FuncId) (cs:List AV):fz 0 hp (.bfn f cs)= .bfn f cs:=rfl
theorem fzP0_bfn (hp:Hp) (f:FuncId) (cs:List AV):fzP 0 hp (.bfn f cs)=False:=rfl
theorem fzR0_bfn (hp:Hp) (f:FuncId) (cs:List AV):fzR 0 hp (.bfn f cs)=[]:=rfl
theorem fz0_mpO (hp:Hp) (id g:Nat):fz 0 hp (.mpO id g)= .mpO id g:=rfl
theorem fzP0_mpO (hp:Hp) (id g:Nat):fzP 0 hp (.mpO id g)=False:=rfl
theorem fzR0_mpO (hp:Hp) (id g:Nat):fzR 0 hp (.mpO id g)=[]:=rfl
theorem fz1_lit (hp:Hp) (v:Value):fz 1 hp (.lit v)= .lit v:=rfl
theorem fzP1_lit (hp:Hp) (v:Value):fzP 1 hp (.lit v)=True:=rfl
theorem fzR1_lit (hp:Hp) (v:Value):fzR 1 hp (.lit v)=[]:=rfl
theorem fz1_sl (hp:Hp) (es:List AV) (b:Bool):fz 1 hp (.sl es b)= .sl es false:=rfl
theorem fzP1_sl (hp:Hp) (es:List AV) (b:Bool):fzP 1 hp (.sl es b)=True:=rfl
theorem fzR1_sl (hp:Hp) (es:List AV) (b:Bool):fzR 1 hp (.sl es b)=[]:=rfl
theorem fz1_kid (hp:Hp) (t k:Nat) (es:List AV):fz 1 hp (.kid t k es)= .sl es false:=rfl
theorem fzP1_kid (hp:Hp) (t k:Nat) (es:List AV):fzP 1 hp (.kid t k es)=True:=rfl
theorem fzR1_kid (hp:Hp) (t k:Nat) (es:List AV):fzR 1 hp (.kid t k es)=[]:=rfl
theorem fz1_ptI (hp:Hp) (cs:List AV):fz 1 hp (.ptI cs)= .ptI cs:=rfl
theorem fzP1_ptI (hp:Hp) (cs:List AV):fzP 1 hp (.ptI cs)=True:=rfl
theorem fzR1_ptI (hp:Hp) (cs:List AV):fzR 1 hp (.ptI cs)=[]:=rfl
theorem fz1_gl (hp:Hp) (n:Nat):fz 1 hp (.gl n)= .gl n:=rfl
theorem fzP1_gl (hp:Hp) (n:Nat):fzP 1 hp (.gl n)=True:=rfl
theorem fzR1_gl (hp:Hp) (n:Nat):fzR 1 hp (.gl n)=[]:=rfl
theorem fz1_bad (hp:Hp):fz 1 hp (.bad)= .bad:=rfl
theorem fzP1_bad (hp:Hp):fzP 1 hp (.bad)=False:=rfl
theorem fzR1_bad (hp:Hp):fzR 1 hp (.bad)=[]:=rfl
theorem fz1_slO (hp:Hp) (id g off len:Nat):fz 1 hp (.slO id g off len)=(match hp.get id with|some (_, .own _ _ es)=> .sl ((es.drop off).map (mapc (fz 0 hp))) false|_=> .bad):=rfl
theorem fzP1_slO (hp:Hp) (id g off len:Nat):fzP 1 hp (.slO id g off len)=(match hp.get id with|some (g', .own _ _ es)=>g'=g/\es.length=off+len/\∀e∈es,∀c∈e.cells,fzP 0 hp c|_=>False):=rfl
theorem fzR1_slO (hp:Hp) (id g off len:Nat):fzR 1 hp (.slO id g off len)=(id::match hp.get id with|some (_, .own _ _ es)=>es.flatMap fun e=>e.cells.flatMap (fzR 0 hp)|_=>[]):=rfl
theorem fz1_ptO (hp:Hp) (id g n i off:Nat):fz 1 hp (.ptO id g n i off)=(match hp.get id with|some (_, .box cs)=> .ptI ((cs.drop off).map (fz 0 hp))|some (_, .own _ _ es)=> .ptI (((es.getD i .bad).cells.drop off).map (fz 0 hp))|_=> .bad):=rfl
theorem fzP1_ptO (hp:Hp) (id g n i off:Nat):fzP 1 hp (.ptO id g n i off)=(match hp.get id with|some (g', .box cs)=>g'=g/\n=0/\i=0/\∀c∈cs,fzP 0 hp c|some (g', .own _ _ es)=>g'=g/\n=es.length/\i<es.length/\∀c∈(es.getD i .bad).cells,fzP 0 hp c|_=>False):=rfl
theorem fzR1_ptO (hp:Hp) (id g n i off:Nat):fzR 1 hp (.ptO id g n i off)=(id::match hp.get id with|some (_, .box cs)=>cs.flatMap (fzR 0 hp)|some (_, .own _ _ es)=>(es.getD i .bad).cells.flatMap (fzR 0 hp)|_=>[]):=rfl
theorem fz1_fn (hp:Hp) (f:FuncId) (cs:List AV):fz 1 hp (.fn f cs)= .fn f (cs.map (fz 0 hp)):=rfl
theorem fzP1_fn (hp:Hp) (f:FuncId) (cs:List AV):fzP 1 hp (.fn f cs)=(∀c∈cs,fzP 0 hp c):=rfl
theorem fzR1_fn (hp:Hp) (f:FuncId) (cs:List AV):fzR 1 hp (.fn f cs)=cs.flatMap (fzR 0 hp):=rfl
theorem fz1_agg (hp:Hp) (cs:List AV):fz 1 hp (.agg cs)= .agg cs:=rfl
theorem fzP1_agg (hp:Hp) (cs:List AV):fzP 1 hp (.agg cs)=False:=rfl
theorem fzR1_agg (hp:Hp) (cs:List AV):fzR 1 hp (.agg cs)=[]:=rfl
theorem fz1_tup (hp:Hp) (vs:List AV):fz 1 hp (.tup vs)= .tup vs:=rfl
theorem fzP1_tup (hp:Hp) (vs:List AV):fzP 1 hp (.tup vs)=False:=rfl
theorem fzR1_tup (hp:Hp) (vs:List AV):fzR 1 hp (.tup vs)=[]:=rfl
theorem fz1_ifn (hp:Hp):fz 1 hp (.ifn)= .ifn:=rfl
theorem fzP1_ifn (hp:Hp):fzP 1 hp (.ifn)=True:=rfl
theorem fzR1_ifn (hp:Hp):fzR 1 hp (.ifn)=[]:=rfl
theorem fz1_bfn (hp:Hp) (f:FuncId) (cs:List AV):fz 1 hp (.bfn f cs)= .bfn f cs:=rfl
theorem fzP1_bfn (hp:Hp) (f:FuncId) (cs:List AV):fzP 1 hp (.bfn f cs)=False:=rfl
theorem fzR1_bfn (hp:Hp) (f:FuncId) (cs:List AV):fzR 1 hp (.bfn f cs)=[]:=rfl
theorem fz1_mpO (hp:Hp) (id g:Nat):fz 1 hp (.mpO id g)= .mpO id g:=rfl
theorem fzP1_mpO (hp:Hp) (id g:Nat):fzP 1 hp (.mpO id g)=False:=rfl
theorem fzR1_mpO (hp:Hp) (id g:Nat):fzR 1 hp (.mpO id g)=[]:=rfl
theorem fz2_lit (hp:Hp) (v:Value):fz 2 hp (.lit v)= .lit v:=rfl
theorem fzP2_lit (hp:Hp) (v:Value):fzP 2 hp (.lit v)=True:=rfl
theorem fzR2_lit (hp:Hp) (v:Value):fzR 2 hp (.lit v)=[]:=rfl
theorem fz2_sl (hp:Hp) (es:List AV) (b:Bool):fz 2 hp (.sl es b)= .sl es false:=rfl
theorem fzP2_sl (hp:Hp) (es:List AV) (b:Bool):fzP 2 hp (.sl es b)=True:=rfl
theorem fzR2_sl (hp:Hp) (es:List AV) (b:Bool):fzR 2 hp (.sl es b)=[]:=rfl
theorem fz2_kid (hp:Hp) (t k:Nat) (es:List AV):fz 2 hp (.kid t k es)= .sl es false:=rfl
theorem fzP2_kid (hp:Hp) (t k:Nat) (es:List AV):fzP 2 hp (.kid t k es)=True:=rfl
theorem fzR2_kid (hp:Hp) (t k:Nat) (es:List AV):fzR 2 hp (.kid t k es)=[]:=rfl
theorem fz2_ptI (hp:Hp) (cs:List AV):fz 2 hp (.ptI cs)= .ptI cs:=rfl
theorem fzP2_ptI (hp:Hp) (cs:List AV):fzP 2 hp (.ptI cs)=True:=rfl
theorem fzR2_ptI (hp:Hp) (cs:List AV):fzR 2 hp (.ptI cs)=[]:=rfl
theorem fz2_gl (hp:Hp) (n:Nat):fz 2 hp (.gl n)= .gl n:=rfl
theorem fzP2_gl (hp:Hp) (n:Nat):fzP 2 hp (.gl n)=True:=rfl
theorem fzR2_gl (hp:Hp) (n:Nat):fzR 2 hp (.gl n)=[]:=rfl
theorem fz2_bad (hp:Hp):fz 2 hp (.bad)= .bad:=rfl
theorem fzP2_bad (hp:Hp):fzP 2 hp (.bad)=False:=rfl
theorem fzR2_bad (hp:Hp):fzR 2 hp (.bad)=[]:=rfl
theorem fz2_slO (hp:Hp) (id g off len:Nat):fz 2 hp (.slO id g off len)=(match hp.get id with|some (_, .own _ _ es)=> .sl ((es.drop off).map (mapc (fz 1 hp))) false|_=> .bad):=rfl
theorem fzP2_slO (hp:Hp) (id g off len:Nat):fzP 2 hp (.slO id g off len)=(match hp.get id with|some (g', .own _ _ es)=>g'=g/\es.length=off+len/\∀e∈es,∀c∈e.cells,fzP 1 hp c|_=>False):=rfl
theorem fzR2_slO (hp:Hp) (id g off len:Nat):fzR 2 hp (.slO id g off len)=(id::match hp.get id with|some (_, .own _ _ es)=>es.flatMap fun e=>e.cells.flatMap (fzR 1 hp)|_=>[]):=rfl
theorem fz2_ptO (hp:Hp) (id g n i off:Nat):fz 2 hp (.ptO id g n i off)=(match hp.get id with|some (_, .box cs)=> .ptI ((cs.drop off).map (fz 1 hp))|some (_, .own _ _ es)=> .ptI (((es.getD i .bad).cells.drop off).map (fz 1 hp))|_=> .bad):=rfl
theorem fzP2_ptO (hp:Hp) (id g n i off:Nat):fzP 2 hp (.ptO id g n i off)=(match hp.get id with|some (g', .box cs)=>g'=g/\n=0/\i=0/\∀c∈cs,fzP 1 hp c|some (g', .own _ _ es)=>g'=g/\n=es.length/\i<es.length/\∀c∈(es.getD i .bad).cells,fzP 1 hp c|_=>False):=rfl
theorem fzR2_ptO (hp:Hp) (id g n i off:Nat):fzR 2 hp (.ptO id g n i off)=(id::match hp.get id with|some (_, .box cs)=>cs.flatMap (fzR 1 hp)|some (_, .own _ _ es)=>(es.getD i .bad).cells.flatMap (fzR 1 hp)|_=>[]):=rfl
theorem fz2_fn (hp:Hp) (f:FuncId) (cs:List AV):fz 2 hp (.fn f cs)= .fn f (cs.map (fz 1 hp)):=rfl
theorem fzP2_fn (hp:Hp) (f:FuncId) (cs:List AV):fzP 2 hp (.fn f cs)=(∀c∈cs,fzP 1 hp c):=rfl
theorem fzR2_fn (hp:Hp) (f:FuncId) (cs:List AV):fzR 2 hp (.fn f cs)=cs.flatMap (fzR 1 hp):=rfl
theorem fz2_agg (hp:Hp) (cs:List AV):fz 2 hp (.agg cs)= .agg cs:=rfl
theorem fzP2_agg (hp:Hp) (cs:List AV):fzP 2 hp (.agg cs)=False:=rfl
theorem fzR2_agg (hp:Hp) (cs:List AV):fzR 2 hp (.agg cs)=[]:=rfl
theorem fz2_tup (hp:Hp) (vs:List AV):fz 2 hp (.tup vs)= .tup vs:=rfl
theorem fzP2_tup (hp:Hp) (vs:List AV):fzP 2 hp (.tup vs)=False:=rfl
theorem fzR2_tup (hp:Hp) (vs:List AV):fzR 2 hp (.tup vs)=[]:=rfl
theorem fz2_ifn (hp:Hp):fz 2 hp (.ifn)= .ifn:=rfl
theorem fzP2_ifn (hp:Hp):fzP 2 hp (.ifn)=True:=rfl
theorem fzR2_ifn (hp:Hp):fzR 2 hp (.ifn)=[]:=rfl
theorem fz2_bfn (hp:Hp) (f:FuncId) (cs:List AV):fz 2 hp (.bfn f cs)= .bfn f cs:=rfl
theorem fzP2_bfn (hp:Hp) (f:FuncId) (cs:List AV):fzP 2 hp (.bfn f cs)=False:=rfl
theorem fzR2_bfn (hp:Hp) (f:FuncId) (cs:List AV):fzR 2 hp (.bfn f cs)=[]:=rfl
theorem fz2_mpO (hp:Hp) (id g:Nat):fz 2 hp (.mpO id g)= .mpO id g:=rfl
theorem fzP2_mpO (hp:Hp) (id g:Nat):fzP 2 hp (.mpO id g)=False:=rfl
theorem fzR2_mpO (hp:Hp) (id g:Nat):fzR 2 hp (.mpO id g)=[]:=rfl
theorem fz3_lit (hp:Hp) (v:Value):fz 3 hp (.lit v)= .lit v:=rfl
theorem fzP3_lit (hp:Hp) (v:Value):fzP 3 hp (.lit v)=True:=rfl
theorem fzR3_lit (hp:Hp) (v:Value):fzR 3 hp (.lit v)=[]:=rfl
theorem fz3_sl (hp:Hp) (es:List AV) (b:Bool):fz 3 hp (.sl es b)= .sl es false:=rfl
theorem fzP3_sl (hp:Hp) (es:List AV) (b:Bool):fzP 3 hp (.sl es b)=True:=rfl
theorem fzR3_sl (hp:Hp) (es:List AV) (b:Bool):fzR 3 hp (.sl es b)=[]:=rfl
theorem fz3_kid (hp:Hp) (t k:Nat) (es:List AV):fz 3 hp (.kid t k es)= .sl es false:=rfl
theorem fzP3_kid (hp:Hp) (t k:Nat) (es:List AV):fzP 3 hp (.kid t k es)=True:=rfl
theorem fzR3_kid (hp:Hp) (t k:Nat) (es:List AV):fzR 3 hp (.kid t k es)=[]:=rfl
theorem fz3_ptI (hp:Hp) (cs:List AV):fz 3 hp (.ptI cs)= .ptI cs:=rfl
theorem fzP3_ptI (hp:Hp) (cs:List AV):fzP 3 hp (.ptI cs)=True:=rfl
theorem fzR3_ptI (hp:Hp) (cs:List AV):fzR 3 hp (.ptI cs)=[]:=rfl
theorem fz3_gl (hp:Hp) (n:Nat):fz 3 hp (.gl n)= .gl n:=rfl
theorem fzP3_gl (hp:Hp) (n:Nat):fzP 3 hp (.gl n)=True:=rfl
theorem fzR3_gl (hp:Hp) (n:Nat):fzR 3 hp (.gl n)=[]:=rfl
theorem fz3_bad (hp:Hp):fz 3 hp (.bad)= .bad:=rfl
theorem fzP3_bad (hp:Hp):fzP 3 hp (.bad)=False:=rfl
theorem fzR3_bad (hp:Hp):fzR 3 hp (.bad)=[]:=rfl
theorem fz3_slO (hp:Hp) (id g off len:Nat):fz 3 hp (.slO id g off len)=(match hp.get id with|some (_, .own _ _ es)=> .sl ((es.drop off).map (mapc (fz 2 hp))) false|_=> .bad):=rfl
theorem fzP3_slO (hp:Hp) (id g off len:Nat):fzP 3 hp (.slO id g off len)=(match hp.get id with|some (g', .own _ _ es)=>g'=g/\es.length=off+len/\∀e∈es,∀c∈e.cells,fzP 2 hp c|_=>False):=rfl
theorem fzR3_slO (hp:Hp) (id g off len:Nat):fzR 3 hp (.slO id g off len)=(id::match hp.get id with|some (_, .own _ _ es)=>es.flatMap fun e=>e.cells.flatMap (fzR 2 hp)|_=>[]):=rfl
theorem fz3_ptO (hp:Hp) (id g n i off:Nat):fz 3 hp (.ptO id g n i off)=(match hp.get id with|some (_, .box cs)=> .ptI ((cs.drop off).map (fz 2 hp))|some (_, .own _ _ es)=> .ptI (((es.getD i .bad).cells.drop off).map (fz 2 hp))|_=> .bad):=rfl
theorem fzP3_ptO (hp:Hp) (id g n i off:Nat):fzP 3 hp (.ptO id g n i off)=(match hp.get id with|some (g', .box cs)=>g'=g/\n=0/\i=0/\∀c∈cs,fzP 2 hp c|some (g', .own _ _ es)=>g'=g/\n=es.length/\i<es.length/\∀c∈(es.getD i .bad).cells,fzP 2 hp c|_=>False):=rfl
theorem fzR3_ptO (hp:Hp) (id g n i off:Nat):fzR 3 hp (.ptO id g n i off)=(id::match hp.get id with|some (_, .box cs)=>cs.flatMap (fzR 2 hp)|some (_, .own _ _ es)=>(es.getD i .bad).cells.flatMap (fzR 2 hp)|_=>[]):=rfl
theorem fz3_fn (hp:Hp) (f:FuncId) (cs:List AV):fz 3 hp (.fn f cs)= .fn f (cs.map (fz 2 hp)):=rfl
theorem fzP3_fn (hp:Hp) (f:FuncId) (cs:List AV):fzP 3 hp (.fn f cs)=(∀c∈cs,fzP 2 hp c):=rfl
theorem fzR3_fn (hp:Hp) (f:FuncId) (cs:List AV):fzR 3 hp (.fn f cs)=cs.flatMap (fzR 2 hp):=rfl
theorem fz3_agg (hp:Hp) (cs:List AV):fz 3 hp (.agg cs)= .agg cs:=rfl
theorem fzP3_agg (hp:Hp) (cs:List AV):fzP 3 hp (.agg cs)=False:=rfl
theorem fzR3_agg (hp:Hp) (cs:List AV):fzR 3 hp (.agg cs)=[]:=rfl
theorem fz3_tup (hp:Hp) (vs:List AV):fz 3 hp (.tup vs)= .tup vs:=rfl
theorem fzP3_tup (hp:Hp) (vs:List AV):fzP 3 hp (.tup vs)=False:=rfl
theorem fzR3_tup (hp:Hp) (vs:List AV):fzR 3 hp (.tup vs)=[]:=rfl
theorem fz3_ifn (hp:Hp):fz 3 hp (.ifn)= .ifn:=rfl
theorem fzP3_ifn (hp:Hp):fzP 3 hp (.ifn)=True:=rfl
theorem fzR3_ifn (hp:Hp):fzR 3 hp (.ifn)=[]:=rfl
theorem fz3_bfn (hp:Hp) (f:FuncId) (cs:List AV):fz 3 hp (.bfn f cs)= .bfn f cs:=rfl
theorem fzP3_bfn (hp:Hp) (f:FuncId) (cs:List AV):fzP 3 hp (.bfn f cs)=False:=rfl
theorem fzR3_bfn (hp:Hp) (f:FuncId) (cs:List AV):fzR 3 hp (.bfn f cs)=[]:=rfl
theorem fz3_mpO (hp:Hp) (id g:Nat):fz 3 hp (.mpO id g)= .mpO id g:=rfl
theorem fzP3_mpO (hp:Hp) (id g:Nat):fzP 3 hp (.mpO id g)=False:=rfl
theorem fzR3_mpO (hp:Hp) (id g:Nat):fzR 3 hp (.mpO id g)=[]:=rfl
theorem fz4_lit (hp:Hp) (v:Value):fz 4 hp (.lit v)= .lit v:=rfl
theorem fzP4_lit (hp:Hp) (v:Value):fzP 4 hp (.lit v)=True:=rfl
theorem fzR4_lit (hp:Hp) (v:Value):fzR 4 hp (.lit v)=[]:=rfl
theorem fz4_sl (hp:Hp) (es:List AV) (b:Bool):fz 4 hp (.sl es b)= .sl es false:=rfl
theorem fzP4_sl (hp:Hp) (es:List AV) (b:Bool):fzP 4 hp (.sl es b)=True:=rfl
theorem fzR4_sl (hp:Hp) (es:List AV) (b:Bool):fzR 4 hp (.sl es b)=[]:=rfl
theorem fz4_kid (hp:Hp) (t k:Nat) (es:List AV):fz 4 hp (.kid t k es)= .sl es false:=rfl
theorem fzP4_kid (hp:Hp) (t k:Nat) (es:List AV):fzP 4 hp (.kid t k es)=True:=rfl
theorem fzR4_kid (hp:Hp) (t k:Nat) (es:List AV):fzR 4 hp (.kid t k es)=[]:=rfl
theorem fz4_ptI (hp:Hp) (cs:List AV):fz 4 hp (.ptI cs)= .ptI cs:=rfl
theorem fzP4_ptI (hp:Hp) (cs:List AV):fzP 4 hp (.ptI cs)=True:=rfl
theorem fzR4_ptI (hp:Hp) (cs:List AV):fzR 4 hp (.ptI cs)=[]:=rfl
theorem fz4_gl (hp:Hp) (n:Nat):fz 4 hp (.gl n)= .gl n:=rfl
theorem fzP4_gl (hp:Hp) (n:Nat):fzP 4 hp (.gl n)=True:=rfl
theorem fzR4_gl (hp:Hp) (n:Nat):fzR 4 hp (.gl n)=[]:=rfl
theorem fz4_bad (hp:Hp):fz 4 hp (.bad)= .bad:=rfl
theorem fzP4_bad (hp:Hp):fzP 4 hp (.bad)=False:=rfl
theorem fzR4_bad (hp:Hp):fzR 4 hp (.bad)=[]:=rfl
theorem fz4_slO (hp:Hp) (id g off len:Nat):fz 4 hp (.slO id g off len)=(match hp.get id with|some (_, .own _ _ es)=> .sl ((es.drop off).map (mapc (fz 3 hp))) false|_=> .bad):=rfl
theorem fzP4_slO (hp:Hp) (id g off len:Nat):fzP 4 hp (.slO id g off len)=(match hp.get id with|some (g', .own _ _ es)=>g'=g/\es.length=off+len/\∀e∈es,∀c∈e.cells,fzP 3 hp c|_=>False):=rfl
theorem fzR4_slO (hp:Hp) (id g off len:Nat):fzR 4 hp (.slO id g off len)=(id::match hp.get id with|some (_, .own _ _ es)=>es.flatMap fun e=>e.cells.flatMap (fzR 3 hp)|_=>[]):=rfl
theorem fz4_ptO (hp:Hp) (id g n i off:Nat):fz 4 hp (.ptO id g n i off)=(match hp.get id with|some (_, .box cs)=> .ptI ((cs.drop off).map (fz 3 hp))|some (_, .own _ _ es)=> .ptI (((es.getD i .bad).cells.drop off).map (fz 3 hp))|_=> .bad):=rfl
theorem fzP4_ptO (hp:Hp) (id g n i off:Nat):fzP 4 hp (.ptO id g n i off)=(match hp.get id with|some (g', .box cs)=>g'=g/\n=0/\i=0/\∀c∈cs,fzP 3 hp c|some (g', .own _ _ es)=>g'=g/\n=es.length/\i<es.length/\∀c∈(es.getD i .bad).cells,fzP 3 hp c|_=>False):=rfl
theorem fzR4_ptO (hp:Hp) (id g n i off:Nat):fzR 4 hp (.ptO id g n i off)=(id::match hp.get id with|some (_, .box cs)=>cs.flatMap (fzR 3 hp)|some (_, .own _ _ es)=>(es.getD i .bad).cells.flatMap (fzR 3 hp)|_=>[]):=rfl
theorem fz4_fn (hp:Hp) (f:FuncId) (cs:List AV):fz 4 hp (.fn f cs)= .fn f (cs.map (fz 3 hp)):=rfl
theorem fzP4_fn (hp:Hp) (f:FuncId) (cs:List AV):fzP 4 hp (.fn f cs)=(∀c∈cs,fzP 3 hp c):=rfl
theorem fzR4_fn (hp:Hp) (f:FuncId) (cs:List AV):fzR 4 hp (.fn f cs)=cs.flatMap (fzR 3 hp):=rfl
theorem fz4_agg (hp:Hp) (cs:List AV):fz 4 hp (.agg cs)= .agg cs:=rfl
theorem fzP4_agg (hp:Hp) (cs:List AV):fzP 4 hp (.agg cs)=False:=rfl
theorem fzR4_agg (hp:Hp) (cs:List AV):fzR 4 hp (.agg cs)=[]:=rfl
theorem fz4_tup (hp:Hp) (vs:List AV):fz 4 hp (.tup vs)= .tup vs:=rfl
theorem fzP4_tup (hp:Hp) (vs:List AV):fzP 4 hp (.tup vs)=False:=rfl
theorem fzR4_tup (hp:Hp) (vs:List AV):fzR 4 hp (.tup vs)=[]:=rfl
theorem fz4_ifn (hp:Hp):fz 4 hp (.ifn)= .ifn:=rfl
theorem fzP4_ifn (hp:Hp):fzP 4 hp (.ifn)=True:=rfl
theorem fzR4_ifn (hp:Hp):fzR 4 hp (.ifn)=[]:=rfl
theorem fz4_bfn (hp:Hp) (f:FuncId) (cs:List AV):fz 4 hp (.bfn f cs)= .bfn f cs:=rfl
theorem fzP4_bfn (hp:Hp) (f:FuncId) (cs:List AV):fzP 4 hp (.bfn f cs)=False:=rfl
theorem fzR4_bfn (hp:Hp) (f:FuncId) (cs:List AV):fzR 4 hp (.bfn f cs)=[]:=rfl
theorem fz4_mpO (hp:Hp) (id g:Nat):fz 4 hp (.mpO id g)= .mpO id g:=rfl
theorem fzP4_mpO (hp:Hp) (id g:Nat):fzP 4 hp (.mpO id g)=False:=rfl
theorem fzR4_mpO (hp:Hp) (id g:Nat):fzR 4 hp (.mpO id g)=[]:=rfl
theorem fzk_lit (hp:Hp) (v:Value):fzk hp (.lit v)=fz 3 hp (.lit v):=rfl
theorem fzkP_lit (hp:Hp) (v:Value):fzkP hp (.lit v)=fzP 3 hp (.lit v):=rfl
theorem fzkR_lit (hp:Hp) (v:Value):fzkR hp (.lit v)=fzR 3 hp (.lit v):=rfl
theorem fzk_sl (hp:Hp) (es:List AV) (b:Bool):fzk hp (.sl es b)=fz 3 hp (.sl es b):=rfl
theorem fzkP_sl (hp:Hp) (es:List AV) (b:Bool):fzkP hp (.sl es b)=fzP 3 hp (.sl es b):=rfl
theorem fzkR_sl (hp:Hp) (es:List AV) (b:Bool):fzkR hp (.sl es b)=fzR 3 hp (.sl es b):=rfl
theorem fzk_kid (hp:Hp) (t k:Nat) (es:List AV):fzk hp (.kid t k es)= .kid t k es:=rfl
theorem fzkP_kid (hp:Hp) (t k:Nat) (es:List AV):fzkP hp (.kid t k es)=True:=rfl
theorem fzkR_kid (hp:Hp) (t k:Nat) (es:List AV):fzkR hp (.kid t k es)=[]:=rfl
theorem fzk_ptI (hp:Hp) (cs:List AV):fzk hp (.ptI cs)=fz 3 hp (.ptI cs):=rfl
theorem fzkP_ptI (hp:Hp) (cs:List AV):fzkP hp (.ptI cs)=fzP 3 hp (.ptI cs):=rfl
theorem fzkR_ptI (hp:Hp) (cs:List AV):fzkR hp (.ptI cs)=fzR 3 hp (.ptI cs):=rfl
theorem fzk_gl (hp:Hp) (n:Nat):fzk hp (.gl n)=fz 3 hp (.gl n):=rfl
theorem fzkP_gl (hp:Hp) (n:Nat):fzkP hp (.gl n)=fzP 3 hp (.gl n):=rfl
theorem fzkR_gl (hp:Hp) (n:Nat):fzkR hp (.gl n)=fzR 3 hp (.gl n):=rfl
theorem fzk_bad (hp:Hp):fzk hp (.bad)=fz 3 hp (.bad):=rfl
theorem fzkP_bad (hp:Hp):fzkP hp (.bad)=fzP 3 hp (.bad):=rfl
theorem fzkR_bad (hp:Hp):fzkR hp (.bad)=fzR 3 hp (.bad):=rfl
theorem fzk_slO (hp:Hp) (id g off len:Nat):fzk hp (.slO id g off len)=fz 3 hp (.slO id g off len):=rfl
theorem fzkP_slO (hp:Hp) (id g off len:Nat):fzkP hp (.slO id g off len)=fzP 3 hp (.slO id g off len):=rfl
theorem fzkR_slO (hp:Hp) (id g off len:Nat):fzkR hp (.slO id g off len)=fzR 3 hp (.slO id g off len):=rfl
theorem fzk_ptO (hp:Hp) (id g n i off:Nat):fzk hp (.ptO id g n i off)=fz 3 hp (.ptO id g n i off):=rfl
theorem fzkP_ptO (hp:Hp) (id g n i off:Nat):fzkP hp (.ptO id g n i off)=fzP 3 hp (.ptO id g n i off):=rfl
theorem fzkR_ptO (hp:Hp) (id g n i off:Nat):fzkR hp (.ptO id g n i off)=fzR 3 hp (.ptO id g n i off):=rfl
theorem fzk_fn (hp:Hp) (f:FuncId) (cs:List AV):fzk hp (.fn f cs)=fz 3 hp (.fn f cs):=rfl
theorem fzkP_fn (hp:Hp) (f:FuncId) (cs:List AV):fzkP hp (.fn f cs)=fzP 3 hp (.fn f cs):=rfl
theorem fzkR_fn (hp:Hp) (f:FuncId) (cs:List AV):fzkR hp (.fn f cs)=fzR 3 hp (.fn f cs):=rfl
theorem fzk_agg (hp:Hp) (cs:List AV):fzk hp (.agg cs)=fz 3 hp (.agg cs):=rfl
theorem fzkP_agg (hp:Hp) (cs:List AV):fzkP hp (.agg cs)=fzP 3 hp (.agg cs):=rfl
theorem fzkR_agg (hp:Hp) (cs:List AV):fzkR hp (.agg cs)=fzR 3 hp (.agg cs):=rfl
theorem fzk_tup (hp:Hp) (vs:List AV):fzk hp (.tup vs)=fz 3 hp (.tup vs):=rfl
theorem fzkP_tup (hp:Hp) (vs:List AV):fzkP hp (.tup vs)=fzP 3 hp (.tup vs):=rfl
theorem fzkR_tup (hp:Hp) (vs:List AV):fzkR hp (.tup vs)=fzR 3 hp (.tup vs):=rfl
theorem fzk_ifn (hp:Hp):fzk hp (.ifn)=fz 3 hp (.ifn):=rfl
theorem fzkP_ifn (hp:Hp):fzkP hp (.ifn)=fzP 3 hp (.ifn):=rfl
theorem fzkR_ifn (hp:Hp):fzkR hp (.ifn)=fzR 3 hp (.ifn):=rfl
theorem fzk_bfn (hp:Hp) (f:FuncId) (cs:List AV):fzk hp (.bfn f cs)=fz 3 hp (.bfn f cs):=rfl
theorem fzkP_bfn (hp:Hp) (f:FuncId) (cs:List AV):fzkP hp (.bfn f cs)=fzP 3 hp (.bfn f cs):=rfl
theorem fzkR_bfn (hp:Hp) (f:FuncId) (cs:List AV):fzkR hp (.bfn f cs)=fzR 3 hp (.bfn f cs):=rfl
theorem fzk_mpO (hp:Hp) (id g:Nat):fzk hp (.mpO id g)=fz 3 hp (.mpO id g):=rfl
theorem fzkP_mpO (hp:Hp) (id g:Nat):fzkP hp (.mpO id g)=fzP 3 hp (.mpO id g):=rfl
theorem fzkR_mpO (hp:Hp) (id g:Nat):fzkR hp (.mpO id g)=fzR 3 hp (.mpO id g):=rfl
theorem fzt_lit (hp:Hp) (v:Value):fzt hp (.lit v)=mapc (fz 4 hp) (.lit v):=rfl
theorem fztP_lit (hp:Hp) (v:Value):fztP hp (.lit v)=(∀c∈AV.cells (.lit v),fzP 4 hp c):=rfl
theorem fztR_lit (hp:Hp) (v:Value):fztR hp (.lit v)=(AV.cells (.lit v)).flatMap (fzR 4 hp):=rfl
theorem fzt_sl (hp:Hp) (es:List AV) (b:Bool):fzt hp (.sl es b)=mapc (fz 4 hp) (.sl es b):=rfl
theorem fztP_sl (hp:Hp) (es:List AV) (b:Bool):fztP hp (.sl es b)=(∀c∈AV.cells (.sl es b),fzP 4 hp c):=rfl
theorem fztR_sl (hp:Hp) (es:List AV) (b:Bool):fztR hp (.sl es b)=(AV.cells (.sl es b)).flatMap (fzR 4 hp):=rfl
theorem fzt_kid (hp:Hp) (t k:Nat) (es:List AV):fzt hp (.kid t k es)=mapc (fz 4 hp) (.kid t k es):=rfl
theorem fztP_kid (hp:Hp) (t k:Nat) (es:List AV):fztP hp (.kid t k es)=(∀c∈AV.cells (.kid t k es),fzP 4 hp c):=rfl
theorem fztR_kid (hp:Hp) (t k:Nat) (es:List AV):fztR hp (.kid t k es)=(AV.cells (.kid t k es)).flatMap (fzR 4 hp):=rfl
theorem fzt_ptI (hp:Hp) (cs:List AV):fzt hp (.ptI cs)=mapc (fz 4 hp) (.ptI cs):=rfl
theorem fztP_ptI (hp:Hp) (cs:List AV):fztP hp (.ptI cs)=(∀c∈AV.cells (.ptI cs),fzP 4 hp c):=rfl
theorem fztR_ptI (hp:Hp) (cs:List AV):fztR hp (.ptI cs)=(AV.cells (.ptI cs)).flatMap (fzR 4 hp):=rfl
theorem fzt_gl (hp:Hp) (n:Nat):fzt hp (.gl n)=mapc (fz 4 hp) (.gl n):=rfl
theorem fztP_gl (hp:Hp) (n:Nat):fztP hp (.gl n)=(∀c∈AV.cells (.gl n),fzP 4 hp c):=rfl
theorem fztR_gl (hp:Hp) (n:Nat):fztR hp (.gl n)=(AV.cells (.gl n)).flatMap (fzR 4 hp):=rfl
theorem fzt_bad (hp:Hp):fzt hp (.bad)=mapc (fz 4 hp) (.bad):=rfl
theorem fztP_bad (hp:Hp):fztP hp (.bad)=(∀c∈AV.cells (.bad),fzP 4 hp c):=rfl
theorem fztR_bad (hp:Hp):fztR hp (.bad)=(AV.cells (.bad)).flatMap (fzR 4 hp):=rfl
theorem fzt_slO (hp:Hp) (id g off len:Nat):fzt hp (.slO id g off len)=mapc (fz 4 hp) (.slO id g off len):=rfl
theorem fztP_slO (hp:Hp) (id g off len:Nat):fztP hp (.slO id g off len)=(∀c∈AV.cells (.slO id g off len),fzP 4 hp c):=rfl
theorem fztR_slO (hp:Hp) (id g off len:Nat):fztR hp (.slO id g off len)=(AV.cells (.slO id g off len)).flatMap (fzR 4 hp):=rfl
theorem fzt_ptO (hp:Hp) (id g n i off:Nat):fzt hp (.ptO id g n i off)=mapc (fz 4 hp) (.ptO id g n i off):=rfl
theorem fztP_ptO (hp:Hp) (id g n i off:Nat):fztP hp (.ptO id g n i off)=(∀c∈AV.cells (.ptO id g n i off),fzP 4 hp c):=rfl
theorem fztR_ptO (hp:Hp) (id g n i off:Nat):fztR hp (.ptO id g n i off)=(AV.cells (.ptO id g n i off)).flatMap (fzR 4 hp):=rfl
theorem fzt_fn (hp:Hp) (f:FuncId) (cs:List AV):fzt hp (.fn f cs)=mapc (fz 4 hp) (.fn f cs):=rfl
theorem fztP_fn (hp:Hp) (f:FuncId) (cs:List AV):fztP hp (.fn f cs)=(∀c∈AV.cells (.fn f cs),fzP 4 hp c):=rfl
theorem fztR_fn (hp:Hp) (f:FuncId) (cs:List AV):fztR hp (.fn f cs)=(AV.cells (.fn f cs)).flatMap (fzR 4 hp):=rfl
theorem fzt_agg (hp:Hp) (cs:List AV):fzt hp (.agg cs)=mapc (fz 4 hp) (.agg cs):=rfl
theorem fztP_agg (hp:Hp) (cs:List AV):fztP hp (.agg cs)=(∀c∈AV.cells (.agg cs),fzP 4 hp c):=rfl
theorem fztR_agg (hp:Hp) (cs:List AV):fztR hp (.agg cs)=(AV.cells (.agg cs)).flatMap (fzR 4 hp):=rfl
theorem fzt_tup (hp:Hp) (vs:List AV):fzt hp (.tup vs)= .tup (vs.map (mapc (fz 4 hp))):=rfl
theorem fztP_tup (hp:Hp) (vs:List AV):fztP hp (.tup vs)=(∀v∈vs,∀c∈v.cells,fzP 4 hp c):=rfl
theorem fztR_tup (hp:Hp) (vs:List AV):fztR hp (.tup vs)=(vs.flatMap fun v=>v.cells.flatMap (fzR 4 hp)):=rfl
theorem fzt_ifn (hp:Hp):fzt hp (.ifn)=mapc (fz 4 hp) (.ifn):=rfl
theorem fztP_ifn (hp:Hp):fztP hp (.ifn)=(∀c∈AV.cells (.ifn),fzP 4 hp c):=rfl
theorem fztR_ifn (hp:Hp):fztR hp (.ifn)=(AV.cells (.ifn)).flatMap (fzR 4 hp):=rfl
theorem fzt_bfn (hp:Hp) (f:FuncId) (cs:List AV):fzt hp (.bfn f cs)=mapc (fz 4 hp) (.bfn f cs):=rfl
theorem fztP_bfn (hp:Hp) (f:FuncId) (cs:List AV):fztP hp (.bfn f cs)=(∀c∈AV.cells (.bfn f cs),fzP 4 hp c):=rfl
theorem fztR_bfn (hp:Hp) (f:FuncId) (cs:List AV):fztR hp (.bfn f cs)=(AV.cells (.bfn f cs)).flatMap (fzR 4 hp):=rfl
theorem fzt_mpO (hp:Hp) (id g:Nat):fzt hp (.mpO id g)=mapc (fz 4 hp) (.mpO id g):=rfl
theorem fztP_mpO (hp:Hp) (id g:Nat):fztP hp (.mpO id g)=(∀c∈AV.cells (.mpO id g),fzP 4 hp c):=rfl
theorem fztR_mpO (hp:Hp) (id g:Nat):fztR hp (.mpO id g)=(AV.cells (.mpO id g)).flatMap (fzR 4 hp):=rfl
theorem att_lit (hp:Hp) (v:Value):att hp (.lit v)= .lit v:=rfl
theorem attP_lit (hp:Hp) (v:Value):attP hp (.lit v)=True:=rfl
theorem attR_lit (v:Value):attR (.lit v)=[]:=rfl
theorem att_sl (hp:Hp) (es:List AV) (b:Bool):att hp (.sl es b)= .sl es b:=rfl
theorem attP_sl (hp:Hp) (es:List AV) (b:Bool):attP hp (.sl es b)=True:=rfl
theorem attR_sl (es:List AV) (b:Bool):attR (.sl es b)=[]:=rfl
theorem att_kid (hp:Hp) (t k:Nat) (es:List AV):att hp (.kid t k es)= .kid t k es:=rfl
theorem attP_kid (hp:Hp) (t k:Nat) (es:List AV):attP hp (.kid t k es)=False:=rfl
theorem attR_kid (t k:Nat) (es:List AV):attR (.kid t k es)=[]:=rfl
theorem att_ptI (hp:Hp) (cs:List AV):att hp (.ptI cs)= .ptI cs:=rfl
theorem attP_ptI (hp:Hp) (cs:List AV):attP hp (.ptI cs)=True:=rfl
theorem attR_ptI (cs:List AV):attR (.ptI cs)=[]:=rfl
theorem att_gl (hp:Hp) (n:Nat):att hp (.gl n)= .gl n:=rfl
theorem attP_gl (hp:Hp) (n:Nat):attP hp (.gl n)=True:=rfl
theorem attR_gl (n:Nat):attR (.gl n)=[]:=rfl
theorem att_bad (hp:Hp):att hp (.bad)= .bad:=rfl
theorem attP_bad (hp:Hp):attP hp (.bad)=False:=rfl
theorem attR_bad:attR (.bad)=[]:=rfl
theorem att_slO (hp:Hp) (id g off len:Nat):att hp (.slO id g off len)=(match hp.get id with|some (_, .own t k es)=>if off=0 then .kid t k (es.map (mapc (fz 0 hp))) else fz 1 hp (.slO id g off len)|_=> .bad):=rfl
theorem attP_slO (hp:Hp) (id g off len:Nat):attP hp (.slO id g off len)=fzP 1 hp (.slO id g off len):=rfl
theorem attR_slO (id g off len:Nat):attR (.slO id g off len)=[id]:=rfl
theorem att_ptO (hp:Hp) (id g n i off:Nat):att hp (.ptO id g n i off)= .ptO id g n i off:=rfl
theorem attP_ptO (hp:Hp) (id g n i off:Nat):attP hp (.ptO id g n i off)=True:=rfl
theorem attR_ptO (id g n i off:Nat):attR (.ptO id g n i off)=[]:=rfl
theorem att_fn (hp:Hp) (f:FuncId) (cs:List AV):att hp (.fn f cs)= .fn f cs:=rfl
theorem attP_fn (hp:Hp) (f:FuncId) (cs:List AV):attP hp (.fn f cs)=True:=rfl
theorem attR_fn (f:FuncId) (cs:List AV):attR (.fn f cs)=[]:=rfl
theorem att_agg (hp:Hp) (cs:List AV):att hp (.agg cs)= .agg cs:=rfl
theorem attP_agg (hp:Hp) (cs:List AV):attP hp (.agg cs)=False:=rfl
theorem attR_agg (cs:List AV):attR (.agg cs)=[]:=rfl
theorem att_tup (hp:Hp) (vs:List AV):att hp (.tup vs)= .tup vs:=rfl
theorem attP_tup (hp:Hp) (vs:List AV):attP hp (.tup vs)=False:=rfl
theorem attR_tup (vs:List AV):attR (.tup vs)=[]:=rfl
theorem att_ifn (hp:Hp):att hp (.ifn)= .ifn:=rfl
theorem attP_ifn (hp:Hp):attP hp (.ifn)=True:=rfl
theorem attR_ifn:attR (.ifn)=[]:=rfl
theorem att_bfn (hp:Hp) (f:FuncId) (cs:List AV):att hp (.bfn f cs)= .bfn f cs:=rfl
theorem attP_bfn (hp:Hp) (f:FuncId) (cs:List AV):attP hp (.bfn f cs)=True:=rfl
theorem attR_bfn (f:FuncId) (cs:List AV):attR (.bfn f cs)=[]:=rfl
theorem att_mpO (hp:Hp) (id g:Nat):att hp (.mpO id g)= .mpO id g:=rfl
theorem attP_mpO (hp:Hp) (id g:Nat):attP hp (.mpO id g)=True:=rfl
theorem attR_mpO (id g:Nat):attR (.mpO id g)=[]:=rfl
theorem srcE_lit (hp:Hp) (v:Value):srcE hp (.lit v)=none:=rfl
theorem srcP_lit (hp:Hp) (v:Value):srcP hp (.lit v)=False:=rfl
theorem srcR_lit (hp:Hp) (v:Value):srcR hp (.lit v)=[]:=rfl
theorem srcE_sl (hp:Hp) (es:List AV) (b:Bool):srcE hp (.sl es b)=some es:=rfl
theorem srcP_sl (hp:Hp) (es:List AV) (b:Bool):srcP hp (.sl es b)=True:=rfl
theorem srcR_sl (hp:Hp) (es:List AV) (b:Bool):srcR hp (.sl es b)=esR es:=rfl
theorem srcE_kid (hp:Hp) (t k:Nat) (es:List AV):srcE hp (.kid t k es)=none:=rfl
theorem srcP_kid (hp:Hp) (t k:Nat) (es:List AV):srcP hp (.kid t k es)=False:=rfl
theorem srcR_kid (hp:Hp) (t k:Nat) (es:List AV):srcR hp (.kid t k es)=[]:=rfl
theorem srcE_ptI (hp:Hp) (cs:List AV):srcE hp (.ptI cs)=none:=rfl
theorem srcP_ptI (hp:Hp) (cs:List AV):srcP hp (.ptI cs)=False:=rfl
theorem srcR_ptI (hp:Hp) (cs:List AV):srcR hp (.ptI cs)=[]:=rfl
theorem srcE_gl (hp:Hp) (n:Nat):srcE hp (.gl n)=none:=rfl
theorem srcP_gl (hp:Hp) (n:Nat):srcP hp (.gl n)=False:=rfl
theorem srcR_gl (hp:Hp) (n:Nat):srcR hp (.gl n)=[]:=rfl
theorem srcE_bad (hp:Hp):srcE hp (.bad)=none:=rfl
theorem srcP_bad (hp:Hp):srcP hp (.bad)=False:=rfl
theorem srcR_bad (hp:Hp):srcR hp (.bad)=[]:=rfl
theorem srcE_slO (hp:Hp) (id g off len:Nat):srcE hp (.slO id g off len)=(match hp.get id with|some (_, .own _ _ es)=>some (es.drop off)|_=>none):=rfl
theorem srcP_slO (hp:Hp) (id g off len:Nat):srcP hp (.slO id g off len)=(match hp.get id with|some (g', .own _ _ es)=>g'=g/\es.length=off+len|_=>False):=rfl
theorem srcR_slO (hp:Hp) (id g off len:Nat):srcR hp (.slO id g off len)=(match (match hp.get id with|some (_, .own _ _ es)=>some (es.drop off)|_=>none) with|some ys=>esR ys|none=>[]):=rfl
theorem srcE_ptO (hp:Hp) (id g n i off:Nat):srcE hp (.ptO id g n i off)=none:=rfl
theorem srcP_ptO (hp:Hp) (id g n i off:Nat):srcP hp (.ptO id g n i off)=False:=rfl
theorem srcR_ptO (hp:Hp) (id g n i off:Nat):srcR hp (.ptO id g n i off)=[]:=rfl
theorem srcE_fn (hp:Hp) (f:FuncId) (cs:List AV):srcE hp (.fn f cs)=none:=rfl
theorem srcP_fn (hp:Hp) (f:FuncId) (cs:List AV):srcP hp (.fn f cs)=False:=rfl
theorem srcR_fn (hp:Hp) (f:FuncId) (cs:List AV):srcR hp (.fn f cs)=[]:=rfl
theorem srcE_agg (hp:Hp) (cs:List AV):srcE hp (.agg cs)=none:=rfl
theorem srcP_agg (hp:Hp) (cs:List AV):srcP hp (.agg cs)=False:=rfl
theorem srcR_agg (hp:Hp) (cs:List AV):srcR hp (.agg cs)=[]:=rfl
theorem srcE_tup (hp:Hp) (vs:List AV):srcE hp (.tup vs)=none:=rfl
theorem srcP_tup (hp:Hp) (vs:List AV):srcP hp (.tup vs)=False:=rfl
theorem srcR_tup (hp:Hp) (vs:List AV):srcR hp (.tup vs)=[]:=rfl
theorem srcE_ifn (hp:Hp):srcE hp (.ifn)=none:=rfl
theorem srcP_ifn (hp:Hp):srcP hp (.ifn)=False:=rfl
theorem srcR_ifn (hp:Hp):srcR hp (.ifn)=[]:=rfl
theorem srcE_bfn (hp:Hp) (f:FuncId) (cs:List AV):srcE hp (.bfn f cs)=none:=rfl
theorem srcP_bfn (hp:Hp) (f:FuncId) (cs:List AV):srcP hp (.bfn f cs)=False:=rfl
theorem srcR_bfn (hp:Hp) (f:FuncId) (cs:List AV):srcR hp (.bfn f cs)=[]:=rfl
theorem srcE_mpO (hp:Hp) (id g:Nat):srcE hp (.mpO id g)=none:=rfl
theorem srcP_mpO (hp:Hp) (id g:Nat):srcP hp (.mpO id g)=False:=rfl
theorem srcR_mpO (hp:Hp) (id g:Nat):srcR hp (.mpO id g)=[]:=rfl
theorem ids3_lit (v:Value):ids3 (.lit v)=[]:=rfl
theorem ids2_lit (v:Value):ids2 (.lit v)=[]:=rfl
theorem ids1_lit (v:Value):ids1 (.lit v)=[]:=rfl
theorem ids0_lit (v:Value):ids0 (.lit v)=[]:=rfl
theorem ids3_sl (es:List AV) (b:Bool):ids3 (.sl es b)=[]:=rfl
theorem ids2_sl (es:List AV) (b:Bool):ids2 (.sl es b)=[]:=rfl
theorem ids1_sl (es:List AV) (b:Bool):ids1 (.sl es b)=[]:=rfl
theorem ids0_sl (es:List AV) (b:Bool):ids0 (.sl es b)=[]:=rfl
theorem ids3_kid (t k:Nat) (es:List AV):ids3 (.kid t k es)=[]:=rfl
theorem ids2_kid (t k:Nat) (es:List AV):ids2 (.kid t k es)=[]:=rfl
theorem ids1_kid (t k:Nat) (es:List AV):ids1 (.kid t k es)=[]:=rfl
theorem ids0_kid (t k:Nat) (es:List AV):ids0 (.kid t k es)=[]:=rfl
theorem ids3_ptI (cs:List AV):ids3 (.ptI cs)=[]:=rfl
theorem ids2_ptI (cs:List AV):ids2 (.ptI cs)=[]:=rfl
theorem ids1_ptI (cs:List AV):ids1 (.ptI cs)=[]:=rfl
theorem ids0_ptI (cs:List AV):ids0 (.ptI cs)=[]:=rfl
theorem ids3_gl (n:Nat):ids3 (.gl n)=[]:=rfl
theorem ids2_gl (n:Nat):ids2 (.gl n)=[]:=rfl
theorem ids1_gl (n:Nat):ids1 (.gl n)=[]:=rfl
theorem ids0_gl (n:Nat):ids0 (.gl n)=[]:=rfl
theorem ids3_bad:ids3 (.bad)=[]:=rfl
theorem ids2_bad:ids2 (.bad)=[]:=rfl
theorem ids1_bad:ids1 (.bad)=[]:=rfl
theorem ids0_bad:ids0 (.bad)=[]:=rfl
theorem ids3_slO (id g off len:Nat):ids3 (.slO id g off len)=[id]:=rfl
theorem ids2_slO (id g off len:Nat):ids2 (.slO id g off len)=[id]:=rfl
theorem ids1_slO (id g off len:Nat):ids1 (.slO id g off len)=[id]:=rfl
theorem ids0_slO (id g off len:Nat):ids0 (.slO id g off len)=[id]:=rfl
theorem ids3_ptO (id g n i off:Nat):ids3 (.ptO id g n i off)=[id]:=rfl
theorem ids2_ptO (id g n i off:Nat):ids2 (.ptO id g n i off)=[id]:=rfl
theorem ids1_ptO (id g n i off:Nat):ids1 (.ptO id g n i off)=[id]:=rfl
theorem ids0_ptO (id g n i off:Nat):ids0 (.ptO id g n i off)=[id]:=rfl
theorem ids3_fn (f:FuncId) (cs:List AV):ids3 (.fn f cs)=cs.flatMap ids0:=rfl
theorem ids2_fn (f:FuncId) (cs:List AV):ids2 (.fn f cs)=cs.flatMap ids0:=rfl
theorem ids1_fn (f:FuncId) (cs:List AV):ids1 (.fn f cs)=cs.flatMap ids0:=rfl
theorem ids3_agg (cs:List AV):ids3 (.agg cs)=cs.flatMap ids1:=rfl
theorem ids2_agg (cs:List AV):ids2 (.agg cs)=cs.flatMap ids1:=rfl
theorem ids3_tup (vs:List AV):ids3 (.tup vs)=vs.flatMap ids2:=rfl
theorem ids3_ifn:ids3 (.ifn)=[]:=rfl
theorem ids2_ifn:ids2 (.ifn)=[]:=rfl
theorem ids1_ifn:ids1 (.ifn)=[]:=rfl
theorem ids0_ifn:ids0 (.ifn)=[]:=rfl
theorem ids3_bfn (f:FuncId) (cs:List AV):ids3 (.bfn f cs)=cs.flatMap ids0:=rfl
theorem ids2_bfn (f:FuncId) (cs:List AV):ids2 (.bfn f cs)=cs.flatMap ids0:=rfl
theorem ids1_bfn (f:FuncId) (cs:List AV):ids1 (.bfn f cs)=cs.flatMap ids0:=rfl
theorem ids3_mpO (id g:Nat):ids3 (.mpO id g)=[id]:=rfl
theorem ids2_mpO (id g:Nat):ids2 (.mpO id g)=[id]:=rfl
theorem ids1_mpO (id g:Nat):ids1 (.mpO id g)=[id]:=rfl
theorem ids0_mpO (id g:Nat):ids0 (.mpO id g)=[id]:=rfl
theorem rnAT_lit (τ:Nm) (hp:Hp) (v:Value):rnA true τ hp (.lit v)=fz 4 hp (.lit v):=rfl
theorem rnAPT_lit (τ:Nm) (hp:Hp) (v:Value):rnAP true τ hp (.lit v)=fzP 4 hp (.lit v):=rfl
theorem rnART_lit (τ:Nm) (hp:Hp) (v:Value):rnAR true τ hp (.lit v)=fzR 4 hp (.lit v):=rfl
theorem rnBT_lit (τ:Nm) (hp:Hp) (v:Value):rnB true τ hp (.lit v)=rnA true τ hp (.lit v):=rfl
theorem rnBPT_lit (τ:Nm) (hp:Hp) (v:Value):rnBP true τ hp (.lit v)=rnAP true τ hp (.lit v):=rfl
theorem rnBRT_lit (τ:Nm) (hp:Hp) (v:Value):rnBR true τ hp (.lit v)=rnAR true τ hp (.lit v):=rfl
theorem rnKT_lit (τ:Nm) (hp:Hp) (v:Value):rnK true τ hp (.lit v)=rnB true τ hp (.lit v):=rfl
theorem rnKPT_lit (τ:Nm) (hp:Hp) (v:Value):rnKP true τ hp (.lit v)=rnBP true τ hp (.lit v):=rfl
theorem rnKRT_lit (τ:Nm) (hp:Hp) (v:Value):rnKR true τ hp (.lit v)=rnBR true τ hp (.lit v):=rfl
theorem rntT_lit (τ:Nm) (hp:Hp) (v:Value):rnt true τ hp (.lit v)=mapc (rnB true τ hp) (.lit v):=rfl
theorem rntPT_lit (τ:Nm) (hp:Hp) (v:Value):rntP true τ hp (.lit v)=(∀c∈AV.cells (.lit v),rnBP true τ hp c):=rfl
theorem rntRT_lit (τ:Nm) (hp:Hp) (v:Value):rntR true τ hp (.lit v)=(AV.cells (.lit v)).flatMap (rnBR true τ hp):=rfl
theorem rnAT_sl (τ:Nm) (hp:Hp) (es:List AV) (b:Bool):rnA true τ hp (.sl es b)=fz 4 hp (.sl es b):=rfl
theorem rnAPT_sl (τ:Nm) (hp:Hp) (es:List AV) (b:Bool):rnAP true τ hp (.sl es b)=fzP 4 hp (.sl es b):=rfl
theorem rnART_sl (τ:Nm) (hp:Hp) (es:List AV) (b:Bool):rnAR true τ hp (.sl es b)=fzR 4 hp (.sl es b):=rfl
theorem rnBT_sl (τ:Nm) (hp:Hp) (es:List AV) (b:Bool):rnB true τ hp (.sl es b)=rnA true τ hp (.sl es b):=rfl
theorem rnBPT_sl (τ:Nm) (hp:Hp) (es:List AV) (b:Bool):rnBP true τ hp (.sl es b)=rnAP true τ hp (.sl es b):=rfl
theorem rnBRT_sl (τ:Nm) (hp:Hp) (es:List AV) (b:Bool):rnBR true τ hp (.sl es b)=rnAR true τ hp (.sl es b):=rfl
theorem rnKT_sl (τ:Nm) (hp:Hp) (es:List AV) (b:Bool):rnK true τ hp (.sl es b)=rnB true τ hp (.sl es b):=rfl
theorem rnKPT_sl (τ:Nm) (hp:Hp) (es:List AV) (b:Bool):rnKP true τ hp (.sl es b)=rnBP true τ hp (.sl es b):=rfl
theorem rnKRT_sl (τ:Nm) (hp:Hp) (es:List AV) (b:Bool):rnKR true τ hp (.sl es b)=rnBR true τ hp (.sl es b):=rfl
theorem rntT_sl (τ:Nm) (hp:Hp) (es:List AV) (b:Bool):rnt true τ hp (.sl es b)=mapc (rnB true τ hp) (.sl es b):=rfl
theorem rntPT_sl (τ:Nm) (hp:Hp) (es:List AV) (b:Bool):rntP true τ hp (.sl es b)=(∀c∈AV.cells (.sl es b),rnBP true τ hp c):=rfl
theorem rntRT_sl (τ:Nm) (hp:Hp) (es:List AV) (b:Bool):rntR true τ hp (.sl es b)=(AV.cells (.sl es b)).flatMap (rnBR true τ hp):=rfl
theorem rnAT_kid (τ:Nm) (hp:Hp) (t k:Nat) (es:List AV):rnA true τ hp (.kid t k es)=fz 4 hp (.kid t k es):=rfl
theorem rnAPT_kid (τ:Nm) (hp:Hp) (t k:Nat) (es:List AV):rnAP true τ hp (.kid t k es)=fzP 4 hp (.kid t k es):=rfl
theorem rnART_kid (τ:Nm) (hp:Hp) (t k:Nat) (es:List AV):rnAR true τ hp (.kid t k es)=fzR 4 hp (.kid t k es):=rfl
theorem rnBT_kid (τ:Nm) (hp:Hp) (t k:Nat) (es:List AV):rnB true τ hp (.kid t k es)=rnA true τ hp (.kid t k es):=rfl
theorem rnBPT_kid (τ:Nm) (hp:Hp) (t k:Nat) (es:List AV):rnBP true τ hp (.kid t k es)=rnAP true τ hp (.kid t k es):=rfl
theorem rnBRT_kid (τ:Nm) (hp:Hp) (t k:Nat) (es:List AV):rnBR true τ hp (.kid t k es)=rnAR true τ hp (.kid t k es):=rfl
theorem rnKT_kid (τ:Nm) (hp:Hp) (t k:Nat) (es:List AV):rnK true τ hp (.kid t k es)= .kid t k es:=rfl
theorem rnKPT_kid (τ:Nm) (hp:Hp) (t k:Nat) (es:List AV):rnKP true τ hp (.kid t k es)=True:=rfl
theorem rnKRT_kid (τ:Nm) (hp:Hp) (t k:Nat) (es:List AV):rnKR true τ hp (.kid t k es)=[]:=rfl
theorem rntT_kid (τ:Nm) (hp:Hp) (t k:Nat) (es:List AV):rnt true τ hp (.kid t k es)=mapc (rnB true τ hp) (.kid t k es):=rfl
theorem rntPT_kid (τ:Nm) (hp:Hp) (t k:Nat) (es:List AV):rntP true τ hp (.kid t k es)=(∀c∈AV.cells (.kid t k es),rnBP true τ hp c):=rfl
theorem rntRT_kid (τ:Nm) (hp:Hp) (t k:Nat) (es:List AV):rntR true τ hp (.kid t k es)=(AV.cells (.kid t k es)).flatMap (rnBR true τ hp):=rfl
theorem rnAT_ptI (τ:Nm) (hp:Hp) (cs:List AV):rnA true τ hp (.ptI cs)=fz 4 hp (.ptI cs):=rfl
theorem rnAPT_ptI (τ:Nm) (hp:Hp) (cs:List AV):rnAP true τ hp (.ptI cs)=fzP 4 hp (.ptI cs):=rfl
theorem rnART_ptI (τ:Nm) (hp:Hp) (cs:List AV):rnAR true τ hp (.ptI cs)=fzR 4 hp (.ptI cs):=rfl
theorem rnBT_ptI (τ:Nm) (hp:Hp) (cs:List AV):rnB true τ hp (.ptI cs)=rnA true τ hp (.ptI cs):=rfl
theorem rnBPT_ptI (τ:Nm) (hp:Hp) (cs:List AV):rnBP true τ hp (.ptI cs)=rnAP true τ hp (.ptI cs):=rfl
theorem rnBRT_ptI (τ:Nm) (hp:Hp) (cs:List AV):rnBR true τ hp (.ptI cs)=rnAR true τ hp (.ptI cs):=rfl
theorem rnKT_ptI (τ:Nm) (hp:Hp) (cs:List AV):rnK true τ hp (.ptI cs)=rnB true τ hp (.ptI cs):=rfl
theorem rnKPT_ptI (τ:Nm) (hp:Hp) (cs:List AV):rnKP true τ hp (.ptI cs)=rnBP true τ hp (.ptI cs):=rfl
theorem rnKRT_ptI (τ:Nm) (hp:Hp) (cs:List AV):rnKR true τ hp (.ptI cs)=rnBR true τ hp (.ptI cs):=rfl
theorem rntT_ptI (τ:Nm) (hp:Hp) (cs:List AV):rnt true τ hp (.ptI cs)=mapc (rnB true τ hp) (.ptI cs):=rfl
theorem rntPT_ptI (τ:Nm) (hp:Hp) (cs:List AV):rntP true τ hp (.ptI cs)=(∀c∈AV.cells (.ptI cs),rnBP true τ hp c):=rfl
theorem rntRT_ptI (τ:Nm) (hp:Hp) (cs:List AV):rntR true τ hp (.ptI cs)=(AV.cells (.ptI cs)).flatMap (rnBR true τ hp):=rfl
theorem rnAT_gl (τ:Nm) (hp:Hp) (n:Nat):rnA true τ hp (.gl n)=fz 4 hp (.gl n):=rfl
theorem rnAPT_gl (τ:Nm) (hp:Hp) (n:Nat):rnAP true τ hp (.gl n)=fzP 4 hp (.gl n):=rfl
theorem rnART_gl (τ:Nm) (hp:Hp) (n:Nat):rnAR true τ hp (.gl n)=fzR 4 hp (.gl n):=rfl
theorem rnBT_gl (τ:Nm) (hp:Hp) (n:Nat):rnB true τ hp (.gl n)=rnA true τ hp (.gl n):=rfl
theorem rnBPT_gl (τ:Nm) (hp:Hp) (n:Nat):rnBP true τ hp (.gl n)=rnAP true τ hp (.gl n):=rfl
theorem rnBRT_gl (τ:Nm) (hp:Hp) (n:Nat):rnBR true τ hp (.gl n)=rnAR true τ hp (.gl n):=rfl
theorem rnKT_gl (τ:Nm) (hp:Hp) (n:Nat):rnK true τ hp (.gl n)=rnB true τ hp (.gl n):=rfl
theorem rnKPT_gl (τ:Nm) (hp:Hp) (n:Nat):rnKP true τ hp (.gl n)=rnBP true τ hp (.gl n):=rfl
theorem rnKRT_gl (τ:Nm) (hp:Hp) (n:Nat):rnKR true τ hp (.gl n)=rnBR true τ hp (.gl n):=rfl
theorem rntT_gl (τ:Nm) (hp:Hp) (n:Nat):rnt true τ hp (.gl n)=mapc (rnB true τ hp) (.gl n):=rfl
theorem rntPT_gl (τ:Nm) (hp:Hp) (n:Nat):rntP true τ hp (.gl n)=(∀c∈AV.cells (.gl n),rnBP true τ hp c):=rfl
theorem rntRT_gl (τ:Nm) (hp:Hp) (n:Nat):rntR true τ hp (.gl n)=(AV.cells (.gl n)).flatMap (rnBR true τ hp):=rfl
theorem rnAT_bad (τ:Nm) (hp:Hp):rnA true τ hp (.bad)=fz 4 hp (.bad):=rfl
theorem rnAPT_bad (τ:Nm) (hp:Hp):rnAP true τ hp (.bad)=fzP 4 hp (.bad):=rfl
theorem rnART_bad (τ:Nm) (hp:Hp):rnAR true τ hp (.bad)=fzR 4 hp (.bad):=rfl
theorem rnBT_bad (τ:Nm) (hp:Hp):rnB true τ hp (.bad)=rnA true τ hp (.bad):=rfl
theorem rnBPT_bad (τ:Nm) (hp:Hp):rnBP true τ hp (.bad)=rnAP true τ hp (.bad):=rfl
theorem rnBRT_bad (τ:Nm) (hp:Hp):rnBR true τ hp (.bad)=rnAR true τ hp (.bad):=rfl
theorem rnKT_bad (τ:Nm) (hp:Hp):rnK true τ hp (.bad)=rnB true τ hp (.bad):=rfl
theorem rnKPT_bad (τ:Nm) (hp:Hp):rnKP true τ hp (.bad)=rnBP true τ hp (.bad):=rfl
theorem rnKRT_bad (τ:Nm) (hp:Hp):rnKR true τ hp (.bad)=rnBR true τ hp (.bad):=rfl
theorem rntT_bad (τ:Nm) (hp:Hp):rnt true τ hp (.bad)=mapc (rnB true τ hp) (.bad):=rfl
theorem rntPT_bad (τ:Nm) (hp:Hp):rntP true τ hp (.bad)=(∀c∈AV.cells (.bad),rnBP true τ hp c):=rfl
theorem rntRT_bad (τ:Nm) (hp:Hp):rntR true τ hp (.bad)=(AV.cells (.bad)).flatMap (rnBR true τ hp):=rfl
theorem rnAT_slO (τ:Nm) (hp:Hp) (id g off len:Nat):rnA true τ hp (.slO id g off len)=(match lk τ id with|some (i',gi,ga)=>if g=ga then .slO i' gi off len else .bad|none=>fz 4 hp (.slO id g off len)):=rfl
theorem rnAPT_slO (τ:Nm) (hp:Hp) (id g off len:Nat):rnAP true τ hp (.slO id g off len)=(match lk τ id with|some (_,_,ga)=>g=ga|none=>fzP 4 hp (.slO id g off len)):=rfl
theorem rnART_slO (τ:Nm) (hp:Hp) (id g off len:Nat):rnAR true τ hp (.slO id g off len)=(match lk τ id with|some _=>[]|none=>fzR 4 hp (.slO id g off len)):=rfl
theorem rnBT_slO (τ:Nm) (hp:Hp) (id g off len:Nat):rnB true τ hp (.slO id g off len)=rnA true τ hp (.slO id g off len):=rfl
theorem rnBPT_slO (τ:Nm) (hp:Hp) (id g off len:Nat):rnBP true τ hp (.slO id g off len)=rnAP true τ hp (.slO id g off len):=rfl
theorem rnBRT_slO (τ:Nm) (hp:Hp) (id g off len:Nat):rnBR true τ hp (.slO id g off len)=rnAR true τ hp (.slO id g off len):=rfl
theorem rnKT_slO (τ:Nm) (hp:Hp) (id g off len:Nat):rnK true τ hp (.slO id g off len)=rnB true τ hp (.slO id g off len):=rfl
theorem rnKPT_slO (τ:Nm) (hp:Hp) (id g off len:Nat):rnKP true τ hp (.slO id g off len)=rnBP true τ hp (.slO id g off len):=rfl
theorem rnKRT_slO (τ:Nm) (hp:Hp) (id g off len:Nat):rnKR true τ hp (.slO id g off len)=rnBR true τ hp (.slO id g off len):=rfl
theorem rntT_slO (τ:Nm) (hp:Hp) (id g off len:Nat):rnt true τ hp (.slO id g off len)=mapc (rnB true τ hp) (.slO id g off len):=rfl
theorem rntPT_slO (τ:Nm) (hp:Hp) (id g off len:Nat):rntP true τ hp (.slO id g off len)=(∀c∈AV.cells (.slO id g off len),rnBP true τ hp c):=rfl
theorem rntRT_slO (τ:Nm) (hp:Hp) (id g off len:Nat):rntR true τ hp (.slO id g off len)=(AV.cells (.slO id g off len)).flatMap (rnBR true τ hp):=rfl
theorem rnAT_ptO (τ:Nm) (hp:Hp) (id g n i off:Nat):rnA true τ hp (.ptO id g n i off)=(match lk τ id with|some (i',gi,ga)=>if g=ga then .ptO i' gi n i off else .bad|none=>fz 4 hp (.ptO id g n i off)):=rfl
theorem rnAPT_ptO (τ:Nm) (hp:Hp) (id g n i off:Nat):rnAP true τ hp (.ptO id g n i off)=(match lk τ id with|some (_,_,ga)=>g=ga|none=>fzP 4 hp (.ptO id g n i off)):=rfl
theorem rnART_ptO (τ:Nm) (hp:Hp) (id g n i off:Nat):rnAR true τ hp (.ptO id g n i off)=(match lk τ id with|some _=>[]|none=>fzR 4 hp (.ptO id g n i off)):=rfl
theorem rnBT_ptO (τ:Nm) (hp:Hp) (id g n i off:Nat):rnB true τ hp (.ptO id g n i off)=rnA true τ hp (.ptO id g n i off):=rfl
theorem rnBPT_ptO (τ:Nm) (hp:Hp) (id g n i off:Nat):rnBP true τ hp (.ptO id g n i off)=rnAP true τ hp (.ptO id g n i off):=rfl
theorem rnBRT_ptO (τ:Nm) (hp:Hp) (id g n i off:Nat):rnBR true τ hp (.ptO id g n i off)=rnAR true τ hp (.ptO id g n i off):=rfl
theorem rnKT_ptO (τ:Nm) (hp:Hp) (id g n i off:Nat):rnK true τ hp (.ptO id g n i off)=rnB true τ hp (.ptO id g n i off):=rfl
theorem rnKPT_ptO (τ:Nm) (hp:Hp) (id g n i off:Nat):rnKP true τ hp (.ptO id g n i off)=rnBP true τ hp (.ptO id g n i off):=rfl
theorem rnKRT_ptO (τ:Nm) (hp:Hp) (id g n i off:Nat):rnKR true τ hp (.ptO id g n i off)=rnBR true τ hp (.ptO id g n i off):=rfl
theorem rntT_ptO (τ:Nm) (hp:Hp) (id g n i off:Nat):rnt true τ hp (.ptO id g n i off)=mapc (rnB true τ hp) (.ptO id g n i off):=rfl
theorem rntPT_ptO (τ:Nm) (hp:Hp) (id g n i off:Nat):rntP true τ hp (.ptO id g n i off)=(∀c∈AV.cells (.ptO id g n i off),rnBP true τ hp c):=rfl
theorem rntRT_ptO (τ:Nm) (hp:Hp) (id g n i off:Nat):rntR true τ hp (.ptO id g n i off)=(AV.cells (.ptO id g n i off)).flatMap (rnBR true τ hp):=rfl
theorem rnAT_fn (τ:Nm) (hp:Hp) (f:FuncId) (cs:List AV):rnA true τ hp (.fn f cs)=fz 4 hp (.fn f cs):=rfl
theorem rnAPT_fn (τ:Nm) (hp:Hp) (f:FuncId) (cs:List AV):rnAP true τ hp (.fn f cs)=fzP 4 hp (.fn f cs):=rfl
theorem rnART_fn (τ:Nm) (hp:Hp) (f:FuncId) (cs:List AV):rnAR true τ hp (.fn f cs)=fzR 4 hp (.fn f cs):=rfl
theorem rnBT_fn (τ:Nm) (hp:Hp) (f:FuncId) (cs:List AV):rnB true τ hp (.fn f cs)= .fn f (cs.map (rnA true τ hp)):=rfl
theorem rnBPT_fn (τ:Nm) (hp:Hp) (f:FuncId) (cs:List AV):rnBP true τ hp (.fn f cs)=(∀c∈cs,rnAP true τ hp c):=rfl
theorem rnBRT_fn (τ:Nm) (hp:Hp) (f:FuncId) (cs:List AV):rnBR true τ hp (.fn f cs)=cs.flatMap (rnAR true τ hp):=rfl
theorem rnKT_fn (τ:Nm) (hp:Hp) (f:FuncId) (cs:List AV):rnK true τ hp (.fn f cs)=rnB true τ hp (.fn f cs):=rfl
theorem rnKPT_fn (τ:Nm) (hp:Hp) (f:FuncId) (cs:List AV):rnKP true τ hp (.fn f cs)=rnBP true τ hp (.fn f cs):=rfl
theorem rnKRT_fn (τ:Nm) (hp:Hp) (f:FuncId) (cs:List AV):rnKR true τ hp (.fn f cs)=rnBR true τ hp (.fn f cs):=rfl
theorem rntT_fn (τ:Nm) (hp:Hp) (f:FuncId) (cs:List AV):rnt true τ hp (.fn f cs)=mapc (rnB true τ hp) (.fn f cs):=rfl
theorem rntPT_fn (τ:Nm) (hp:Hp) (f:FuncId) (cs:List AV):rntP true τ hp (.fn f cs)=(∀c∈AV.cells (.fn f cs),rnBP true τ hp c):=rfl
theorem rntRT_fn (τ:Nm) (hp:Hp) (f:FuncId) (cs:List AV):rntR true τ hp (.fn f cs)=(AV.cells (.fn f cs)).flatMap (rnBR true τ hp):=rfl
theorem rnAT_agg (τ:Nm) (hp:Hp) (cs:List AV):rnA true τ hp (.agg cs)=fz 4 hp (.agg cs):=rfl
theorem rnAPT_agg (τ:Nm) (hp:Hp) (cs:List AV):rnAP true τ hp (.agg cs)=fzP 4 hp (.agg cs):=rfl
theorem rnART_agg (τ:Nm) (hp:Hp) (cs:List AV):rnAR true τ hp (.agg cs)=fzR 4 hp (.agg cs):=rfl
theorem rnBT_agg (τ:Nm) (hp:Hp) (cs:List AV):rnB true τ hp (.agg cs)=rnA true τ hp (.agg cs):=rfl
theorem rnBPT_agg (τ:Nm) (hp:Hp) (cs:List AV):rnBP true τ hp (.agg cs)=rnAP true τ hp (.agg cs):=rfl
theorem rnBRT_agg (τ:Nm) (hp:Hp) (cs:List AV):rnBR true τ hp (.agg cs)=rnAR true τ hp (.agg cs):=rfl
theorem rnKT_agg (τ:Nm) (hp:Hp) (cs:List AV):rnK true τ hp (.agg cs)=rnB true τ hp (.agg cs):=rfl
theorem rnKPT_agg (τ:Nm) (hp:Hp) (cs:List AV):rnKP true τ hp (.agg cs)=rnBP true τ hp (.agg cs):=rfl
theorem rnKRT_agg (τ:Nm) (hp:Hp) (cs:List AV):rnKR true τ hp (.agg cs)=rnBR true τ hp (.agg cs):=rfl
theorem rntT_agg (τ:Nm) (hp:Hp) (cs:List AV):rnt true τ hp (.agg cs)=mapc (rnB true τ hp) (.agg cs):=rfl
theorem rntPT_agg (τ:Nm) (hp:Hp) (cs:List AV):rntP true τ hp (.agg cs)=(∀c∈AV.cells (.agg cs),rnBP true τ hp c):=rfl
theorem rntRT_agg (τ:Nm) (hp:Hp) (cs:List AV):rntR true τ hp (.agg cs)=(AV.cells (.agg cs)).flatMap (rnBR true τ hp):=rfl
theorem rnAT_tup (τ:Nm) (hp:Hp) (vs:List AV):rnA true τ hp (.tup vs)=fz 4 hp (.tup vs):=rfl
theorem rnAPT_tup (τ:Nm) (hp:Hp) (vs:List AV):rnAP true τ hp (.tup vs)=fzP 4 hp (.tup vs):=rfl
theorem rnART_tup (τ:Nm) (hp:Hp) (vs:List AV):rnAR true τ hp (.tup vs)=fzR 4 hp (.tup vs):=rfl
theorem rnBT_tup (τ:Nm) (hp:Hp) (vs:List AV):rnB true τ hp (.tup vs)=rnA true τ hp (.tup vs):=rfl
theorem rnBPT_tup (τ:Nm) (hp:Hp) (vs:List AV):rnBP true τ hp (.tup vs)=rnAP true τ hp (.tup vs):=rfl
theorem rnBRT_tup (τ:Nm) (hp:Hp) (vs:List AV):rnBR true τ hp (.tup vs)=rnAR true τ hp (.tup vs):=rfl
theorem rnKT_tup (τ:Nm) (hp:Hp) (vs:List AV):rnK true τ hp (.tup vs)=rnB true τ hp (.tup vs):=rfl
theorem rnKPT_tup (τ:Nm) (hp:Hp) (vs:List AV):rnKP true τ hp (.tup vs)=rnBP true τ hp (.tup vs):=rfl
theorem rnKRT_tup (τ:Nm) (hp:Hp) (vs:List AV):rnKR true τ hp (.tup vs)=rnBR true τ hp (.tup vs):=rfl
theorem rntT_tup (τ:Nm) (hp:Hp) (vs:List AV):rnt true τ hp (.tup vs)= .tup (vs.map (fun v=>mapc (rnB true τ hp) v)):=rfl
theorem rntPT_tup (τ:Nm) (hp:Hp) (vs:List AV):rntP true τ hp (.tup vs)=(∀v∈vs,∀c∈v.cells,rnBP true τ hp c):=rfl
theorem rntRT_tup (τ:Nm) (hp:Hp) (vs:List AV):rntR true τ hp (.tup vs)=(vs.flatMap fun v=>v.cells.flatMap (rnBR true τ hp)):=rfl
theorem rnAT_ifn (τ:Nm) (hp:Hp):rnA true τ hp (.ifn)=fz 4 hp (.ifn):=rfl
theorem rnAPT_ifn (τ:Nm) (hp:Hp):rnAP true τ hp (.ifn)=fzP 4 hp (.ifn):=rfl
theorem rnART_ifn (τ:Nm) (hp:Hp):rnAR true τ hp (.ifn)=fzR 4 hp (.ifn):=rfl
theorem rnBT_ifn (τ:Nm) (hp:Hp):rnB true τ hp (.ifn)=rnA true τ hp (.ifn):=rfl
theorem rnBPT_ifn (τ:Nm) (hp:Hp):rnBP true τ hp (.ifn)=rnAP true τ hp (.ifn):=rfl
theorem rnBRT_ifn (τ:Nm) (hp:Hp):rnBR true τ hp (.ifn)=rnAR true τ hp (.ifn):=rfl
theorem rnKT_ifn (τ:Nm) (hp:Hp):rnK true τ hp (.ifn)=rnB true τ hp (.ifn):=rfl
theorem rnKPT_ifn (τ:Nm) (hp:Hp):rnKP true τ hp (.ifn)=rnBP true τ hp (.ifn):=rfl
theorem rnKRT_ifn (τ:Nm) (hp:Hp):rnKR true τ hp (.ifn)=rnBR true τ hp (.ifn):=rfl
theorem rntT_ifn (τ:Nm) (hp:Hp):rnt true τ hp (.ifn)=mapc (rnB true τ hp) (.ifn):=rfl
theorem rntPT_ifn (τ:Nm) (hp:Hp):rntP true τ hp (.ifn)=(∀c∈AV.cells (.ifn),rnBP true τ hp c):=rfl
theorem rntRT_ifn (τ:Nm) (hp:Hp):rntR true τ hp (.ifn)=(AV.cells (.ifn)).flatMap (rnBR true τ hp):=rfl
theorem rnAT_bfn (τ:Nm) (hp:Hp) (f:FuncId) (cs:List AV):rnA true τ hp (.bfn f cs)=fz 4 hp (.bfn f cs):=rfl
theorem rnAPT_bfn (τ:Nm) (hp:Hp) (f:FuncId) (cs:List AV):rnAP true τ hp (.bfn f cs)=fzP 4 hp (.bfn f cs):=rfl
theorem rnART_bfn (τ:Nm) (hp:Hp) (f:FuncId) (cs:List AV):rnAR true τ hp (.bfn f cs)=fzR 4 hp (.bfn f cs):=rfl
theorem rnBT_bfn (τ:Nm) (hp:Hp) (f:FuncId) (cs:List AV):rnB true τ hp (.bfn f cs)=rnA true τ hp (.bfn f cs):=rfl
theorem rnBPT_bfn (τ:Nm) (hp:Hp) (f:FuncId) (cs:List AV):rnBP true τ hp (.bfn f cs)=rnAP true τ hp (.bfn f cs):=rfl
theorem rnBRT_bfn (τ:Nm) (hp:Hp) (f:FuncId) (cs:List AV):rnBR true τ hp (.bfn f cs)=rnAR true τ hp (.bfn f cs):=rfl
theorem rnKT_bfn (τ:Nm) (hp:Hp) (f:FuncId) (cs:List AV):rnK true τ hp (.bfn f cs)=rnB true τ hp (.bfn f cs):=rfl
theorem rnKPT_bfn (τ:Nm) (hp:Hp) (f:FuncId) (cs:List AV):rnKP true τ hp (.bfn f cs)=rnBP true τ hp (.bfn f cs):=rfl
theorem rnKRT_bfn (τ:Nm) (hp:Hp) (f:FuncId) (cs:List AV):rnKR true τ hp (.bfn f cs)=rnBR true τ hp (.bfn f cs):=rfl
theorem rntT_bfn (τ:Nm) (hp:Hp) (f:FuncId) (cs:List AV):rnt true τ hp (.bfn f cs)=mapc (rnB true τ hp) (.bfn f cs):=rfl
theorem rntPT_bfn (τ:Nm) (hp:Hp) (f:FuncId) (cs:List AV):rntP true τ hp (.bfn f cs)=(∀c∈AV.cells (.bfn f cs),rnBP true τ hp c):=rfl
theorem rntRT_bfn (τ:Nm) (hp:Hp) (f:FuncId) (cs:List AV):rntR true τ hp (.bfn f cs)=(AV.cells (.bfn f cs)).flatMap (rnBR true τ hp):=rfl
theorem rnAT_mpO (τ:Nm) (hp:Hp) (id g:Nat):rnA true τ hp (.mpO id g)=fz 4 hp (.mpO id g):=rfl
theorem rnAPT_mpO (τ:Nm) (hp:Hp) (id g:Nat):rnAP true τ hp (.mpO id g)=fzP 4 hp (.mpO id g):=rfl
theorem rnART_mpO (τ:Nm) (hp:Hp) (id g:Nat):rnAR true τ hp (.mpO id g)=fzR 4 hp (.mpO id g):=rfl
theorem rnBT_mpO (τ:Nm) (hp:Hp) (id g:Nat):rnB true τ hp (.mpO id g)=rnA true τ hp (.mpO id g):=rfl
theorem rnBPT_mpO (τ:Nm) (hp:Hp) (id g:Nat):rnBP true τ hp (.mpO id g)=rnAP true τ hp (.mpO id g):=rfl
theorem rnBRT_mpO (τ:Nm) (hp:Hp) (id g:Nat):rnBR true τ hp (.mpO id g)=rnAR true τ hp (.mpO id g):=rfl
theorem rnKT_mpO (τ:Nm) (hp:Hp) (id g:Nat):rnK true τ hp (.mpO id g)=rnB true τ hp (.mpO id g):=rfl
theorem rnKPT_mpO (τ:Nm) (hp:Hp) (id g:Nat):rnKP true τ hp (.mpO id g)=rnBP true τ hp (.mpO id g):=rfl
theorem rnKRT_mpO (τ:Nm) (hp:Hp) (id g:Nat):rnKR true τ hp (.mpO id g)=rnBR true τ hp (.mpO id g):=rfl
theorem rntT_mpO (τ:Nm) (hp:Hp) (id g:Nat):rnt true τ hp (.mpO id g)=mapc (rnB true τ hp) (.mpO id g):=rfl
theorem rntPT_mpO (τ:Nm) (hp:Hp) (id g:Nat):rntP true τ hp (.mpO id g)=(∀c∈AV.cells (.mpO id g),rnBP true τ hp c):=rfl
theorem rntRT_mpO (τ:Nm) (hp:Hp) (id g:Nat):rntR true τ hp (.mpO id g)=(AV.cells (.mpO id g)).flatMap (rnBR true τ hp):=rfl
theorem rnAF_lit (τ:Nm) (hp:Hp) (v:Value):rnA false τ hp (.lit v)= .lit v:=rfl
theorem rnAPF_lit (τ:Nm) (hp:Hp) (v:Value):rnAP false τ hp (.lit v)=fzP 0 hp (.lit v):=rfl
theorem rnARF_lit (τ:Nm) (hp:Hp) (v:Value):rnAR false τ hp (.lit v)=[]:=rfl
theorem rnBF_lit (τ:Nm) (hp:Hp) (v:Value):rnB false τ hp (.lit v)=rnA false τ hp (.lit v):=rfl
theorem rnBPF_lit (τ:Nm) (hp:Hp) (v:Value):rnBP false τ hp (.lit v)=rnAP false τ hp (.lit v):=rfl
theorem rnBRF_lit (τ:Nm) (hp:Hp) (v:Value):rnBR false τ hp (.lit v)=rnAR false τ hp (.lit v):=rfl
theorem rnKF_lit (τ:Nm) (hp:Hp) (v:Value):rnK false τ hp (.lit v)=rnB false τ hp (.lit v):=rfl
theorem rnKPF_lit (τ:Nm) (hp:Hp) (v:Value):rnKP false τ hp (.lit v)=rnBP false τ hp (.lit v):=rfl
theorem rnKRF_lit (τ:Nm) (hp:Hp) (v:Value):rnKR false τ hp (.lit v)=rnBR false τ hp (.lit v):=rfl
theorem rntF_lit (τ:Nm) (hp:Hp) (v:Value):rnt false τ hp (.lit v)=mapc (rnB false τ hp) (.lit v):=rfl
theorem rntPF_lit (τ:Nm) (hp:Hp) (v:Value):rntP false τ hp (.lit v)=(∀c∈AV.cells (.lit v),rnBP false τ hp c):=rfl
theorem rntRF_lit (τ:Nm) (hp:Hp) (v:Value):rntR false τ hp (.lit v)=(AV.cells (.lit v)).flatMap (rnBR false τ hp):=rfl
theorem rnAF_sl (τ:Nm) (hp:Hp) (es:List AV) (b:Bool):rnA false τ hp (.sl es b)= .sl es b:=rfl
theorem rnAPF_sl (τ:Nm) (hp:Hp) (es:List AV) (b:Bool):rnAP false τ hp (.sl es b)=fzP 0 hp (.sl es b):=rfl
theorem rnARF_sl (τ:Nm) (hp:Hp) (es:List AV) (b:Bool):rnAR false τ hp (.sl es b)=[]:=rfl
theorem rnBF_sl (τ:Nm) (hp:Hp) (es:List AV) (b:Bool):rnB false τ hp (.sl es b)=rnA false τ hp (.sl es b):=rfl
theorem rnBPF_sl (τ:Nm) (hp:Hp) (es:List AV) (b:Bool):rnBP false τ hp (.sl es b)=rnAP false τ hp (.sl es b):=rfl
theorem rnBRF_sl (τ:Nm) (hp:Hp) (es:List AV) (b:Bool):rnBR false τ hp (.sl es b)=rnAR false τ hp (.sl es b):=rfl
theorem rnKF_sl (τ:Nm) (hp:Hp) (es:List AV) (b:Bool):rnK false τ hp (.sl es b)=rnB false τ hp (.sl es b):=rfl
theorem rnKPF_sl (τ:Nm) (hp:Hp) (es:List AV) (b:Bool):rnKP false τ hp (.sl es b)=rnBP false τ hp (.sl es b):=rfl
theorem rnKRF_sl (τ:Nm) (hp:Hp) (es:List AV) (b:Bool):rnKR false τ hp (.sl es b)=rnBR false τ hp (.sl es b):=rfl
theorem rntF_sl (τ:Nm) (hp:Hp) (es:List AV) (b:Bool):rnt false τ hp (.sl es b)=mapc (rnB false τ hp) (.sl es b):=rfl
theorem rntPF_sl (τ:Nm) (hp:Hp) (es:List AV) (b:Bool):rntP false τ hp (.sl es b)=(∀c∈AV.cells (.sl es b),rnBP false τ hp c):=rfl
theorem rntRF_sl (τ:Nm) (hp:Hp) (es:List AV) (b:Bool):rntR false τ hp (.sl es b)=(AV.cells (.sl es b)).flatMap (rnBR false τ hp):=rfl
theorem rnAF_kid (τ:Nm) (hp:Hp) (t k:Nat) (es:List AV):rnA false τ hp (.kid t k es)= .kid t k es:=rfl
theorem rnAPF_kid (τ:Nm) (hp:Hp) (t k:Nat) (es:List AV):rnAP false τ hp (.kid t k es)=fzP 0 hp (.kid t k es):=rfl
theorem rnARF_kid (τ:Nm) (hp:Hp) (t k:Nat) (es:List AV):rnAR false τ hp (.kid t k es)=[]:=rfl
theorem rnBF_kid (τ:Nm) (hp:Hp) (t k:Nat) (es:List AV):rnB false τ hp (.kid t k es)=rnA false τ hp (.kid t k es):=rfl
theorem rnBPF_kid (τ:Nm) (hp:Hp) (t k:Nat) (es:List AV):rnBP false τ hp (.kid t k es)=rnAP false τ hp (.kid t k es):=rfl
theorem rnBRF_kid (τ:Nm) (hp:Hp) (t k:Nat) (es:List AV):rnBR false τ hp (.kid t k es)=rnAR false τ hp (.kid t k es):=rfl
theorem rnKF_kid (τ:Nm) (hp:Hp) (t k:Nat) (es:List AV):rnK false τ hp (.kid t k es)= .kid t k es:=rfl
theorem rnKPF_kid (τ:Nm) (hp:Hp) (t k:Nat) (es:List AV):rnKP false τ hp (.kid t k es)=True:=rfl
theorem rnKRF_kid (τ:Nm) (hp:Hp) (t k:Nat) (es:List AV):rnKR false τ hp (.kid t k es)=[]:=rfl
theorem rntF_kid (τ:Nm) (hp:Hp) (t k:Nat) (es:List AV):rnt false τ hp (.kid t k es)=mapc (rnB false τ hp) (.kid t k es):=rfl
theorem rntPF_kid (τ:Nm) (hp:Hp) (t k:Nat) (es:List AV):rntP false τ hp (.kid t k es)=(∀c∈AV.cells (.kid t k es),rnBP false τ hp c):=rfl
theorem rntRF_kid (τ:Nm) (hp:Hp) (t k:Nat) (es:List AV):rntR false τ hp (.kid t k es)=(AV.cells (.kid t k es)).flatMap (rnBR false τ hp):=rfl
theorem rnAF_ptI (τ:Nm) (hp:Hp) (cs:List AV):rnA false τ hp (.ptI cs)= .ptI cs:=rfl
theorem rnAPF_ptI (τ:Nm) (hp:Hp) (cs:List AV):rnAP false τ hp (.ptI cs)=fzP 0 hp (.ptI cs):=rfl
theorem rnARF_ptI (τ:Nm) (hp:Hp) (cs:List AV):rnAR false τ hp (.ptI cs)=[]:=rfl
theorem rnBF_ptI (τ:Nm) (hp:Hp) (cs:List AV):rnB false τ hp (.ptI cs)=rnA false τ hp (.ptI cs):=rfl
theorem rnBPF_ptI (τ:Nm) (hp:Hp) (cs:List AV):rnBP false τ hp (.ptI cs)=rnAP false τ hp (.ptI cs):=rfl
theorem rnBRF_ptI (τ:Nm) (hp:Hp) (cs:List AV):rnBR false τ hp (.ptI cs)=rnAR false τ hp (.ptI cs):=rfl
theorem rnKF_ptI (τ:Nm) (hp:Hp) (cs:List AV):rnK false τ hp (.ptI cs)=rnB false τ hp (.ptI cs):=rfl
theorem rnKPF_ptI (τ:Nm) (hp:Hp) (cs:List AV):rnKP false τ hp (.ptI cs)=rnBP false τ hp (.ptI cs):=rfl
theorem rnKRF_ptI (τ:Nm) (hp:Hp) (cs:List AV):rnKR false τ hp (.ptI cs)=rnBR false τ hp (.ptI cs):=rfl
theorem rntF_ptI (τ:Nm) (hp:Hp) (cs:List AV):rnt false τ hp (.ptI cs)=mapc (rnB false τ hp) (.ptI cs):=rfl
theorem rntPF_ptI (τ:Nm) (hp:Hp) (cs:List AV):rntP false τ hp (.ptI cs)=(∀c∈AV.cells (.ptI cs),rnBP false τ hp c):=rfl
theorem rntRF_ptI (τ:Nm) (hp:Hp) (cs:List AV):rntR false τ hp (.ptI cs)=(AV.cells (.ptI cs)).flatMap (rnBR false τ hp):=rfl
theorem rnAF_gl (τ:Nm) (hp:Hp) (n:Nat):rnA false τ hp (.gl n)= .gl n:=rfl
theorem rnAPF_gl (τ:Nm) (hp:Hp) (n:Nat):rnAP false τ hp (.gl n)=fzP 0 hp (.gl n):=rfl
theorem rnARF_gl (τ:Nm) (hp:Hp) (n:Nat):rnAR false τ hp (.gl n)=[]:=rfl
theorem rnBF_gl (τ:Nm) (hp:Hp) (n:Nat):rnB false τ hp (.gl n)=rnA false τ hp (.gl n):=rfl
theorem rnBPF_gl (τ:Nm) (hp:Hp) (n:Nat):rnBP false τ hp (.gl n)=rnAP false τ hp (.gl n):=rfl
theorem rnBRF_gl (τ:Nm) (hp:Hp) (n:Nat):rnBR false τ hp (.gl n)=rnAR false τ hp (.gl n):=rfl
theorem rnKF_gl (τ:Nm) (hp:Hp) (n:Nat):rnK false τ hp (.gl n)=rnB false τ hp (.gl n):=rfl
theorem rnKPF_gl (τ:Nm) (hp:Hp) (n:Nat):rnKP false τ hp (.gl n)=rnBP false τ hp (.gl n):=rfl
theorem rnKRF_gl (τ:Nm) (hp:Hp) (n:Nat):rnKR false τ hp (.gl n)=rnBR false τ hp (.gl n):=rfl
theorem rntF_gl (τ:Nm) (hp:Hp) (n:Nat):rnt false τ hp (.gl n)=mapc (rnB false τ hp) (.gl n):=rfl
theorem rntPF_gl (τ:Nm) (hp:Hp) (n:Nat):rntP false τ hp (.gl n)=(∀c∈AV.cells (.gl n),rnBP false τ hp c):=rfl
theorem rntRF_gl (τ:Nm) (hp:Hp) (n:Nat):rntR false τ hp (.gl n)=(AV.cells (.gl n)).flatMap (rnBR false τ hp):=rfl
theorem rnAF_bad (τ:Nm) (hp:Hp):rnA false τ hp (.bad)= .bad:=rfl
theorem rnAPF_bad (τ:Nm) (hp:Hp):rnAP false τ hp (.bad)=fzP 0 hp (.bad):=rfl
theorem rnARF_bad (τ:Nm) (hp:Hp):rnAR false τ hp (.bad)=[]:=rfl
theorem rnBF_bad (τ:Nm) (hp:Hp):rnB false τ hp (.bad)=rnA false τ hp (.bad):=rfl
theorem rnBPF_bad (τ:Nm) (hp:Hp):rnBP false τ hp (.bad)=rnAP false τ hp (.bad):=rfl
theorem rnBRF_bad (τ:Nm) (hp:Hp):rnBR false τ hp (.bad)=rnAR false τ hp (.bad):=rfl
theorem rnKF_bad (τ:Nm) (hp:Hp):rnK false τ hp (.bad)=rnB false τ hp (.bad):=rfl
theorem rnKPF_bad (τ:Nm) (hp:Hp):rnKP false τ hp (.bad)=rnBP false τ hp (.bad):=rfl
theorem rnKRF_bad (τ:Nm) (hp:Hp):rnKR false τ hp (.bad)=rnBR false τ hp (.bad):=rfl
theorem rntF_bad (τ:Nm) (hp:Hp):rnt false τ hp (.bad)=mapc (rnB false τ hp) (.bad):=rfl
theorem rntPF_bad (τ:Nm) (hp:Hp):rntP false τ hp (.bad)=(∀c∈AV.cells (.bad),rnBP false τ hp c):=rfl
theorem rntRF_bad (τ:Nm) (hp:Hp):rntR false τ hp (.bad)=(AV.cells (.bad)).flatMap (rnBR false τ hp):=rfl
theorem rnAF_slO (τ:Nm) (hp:Hp) (id g off len:Nat):rnA false τ hp (.slO id g off len)=(match lk τ id with|some (i',gi,ga)=>if g=ga then .slO i' gi off len else .bad|none=>fz 4 hp (.slO id g off len)):=rfl
theorem rnAPF_slO (τ:Nm) (hp:Hp) (id g off len:Nat):rnAP false τ hp (.slO id g off len)=(match lk τ id with|some (_,_,ga)=>g=ga|none=>fzP 4 hp (.slO id g off len)):=rfl
theorem rnARF_slO (τ:Nm) (hp:Hp) (id g off len:Nat):rnAR false τ hp (.slO id g off len)=(match lk τ id with|some _=>[]|none=>fzR 4 hp (.slO id g off len)):=rfl
theorem rnBF_slO (τ:Nm) (hp:Hp) (id g off len:Nat):rnB false τ hp (.slO id g off len)=rnA false τ hp (.slO id g off len):=rfl
theorem rnBPF_slO (τ:Nm) (hp:Hp) (id g off len:Nat):rnBP false τ hp (.slO id g off len)=rnAP false τ hp (.slO id g off len):=rfl
theorem rnBRF_slO (τ:Nm) (hp:Hp) (id g off len:Nat):rnBR false τ hp (.slO id g off len)=rnAR false τ hp (.slO id g off len):=rfl
theorem rnKF_slO (τ:Nm) (hp:Hp) (id g off len:Nat):rnK false τ hp (.slO id g off len)=rnB false τ hp (.slO id g off len):=rfl
theorem rnKPF_slO (τ:Nm) (hp:Hp) (id g off len:Nat):rnKP false τ hp (.slO id g off len)=rnBP false τ hp (.slO id g off len):=rfl
theorem rnKRF_slO (τ:Nm) (hp:Hp) (id g off len:Nat):rnKR false τ hp (.slO id g off len)=rnBR false τ hp (.slO id g off len):=rfl
theorem rntF_slO (τ:Nm) (hp:Hp) (id g off len:Nat):rnt false τ hp (.slO id g off len)=mapc (rnB false τ hp) (.slO id g off len):=rfl
theorem rntPF_slO (τ:Nm) (hp:Hp) (id g off len:Nat):rntP false τ hp (.slO id g off len)=(∀c∈AV.cells (.slO id g off len),rnBP false τ hp c):=rfl
theorem rntRF_slO (τ:Nm) (hp:Hp) (id g off len:Nat):rntR false τ hp (.slO id g off len)=(AV.cells (.slO id g off len)).flatMap (rnBR false τ hp):=rfl
theorem rnAF_ptO (τ:Nm) (hp:Hp) (id g n i off:Nat):rnA false τ hp (.ptO id g n i off)=(match lk τ id with|some (i',gi,ga)=>if g=ga then .ptO i' gi n i off else .bad|none=>fz 4 hp (.ptO id g n i off)):=rfl
theorem rnAPF_ptO (τ:Nm) (hp:Hp) (id g n i off:Nat):rnAP false τ hp (.ptO id g n i off)=(match lk τ id with|some (_,_,ga)=>g=ga|none=>fzP 4 hp (.ptO id g n i off)):=rfl
theorem rnARF_ptO (τ:Nm) (hp:Hp) (id g n i off:Nat):rnAR false τ hp (.ptO id g n i off)=(match lk τ id with|some _=>[]|none=>fzR 4 hp (.ptO id g n i off)):=rfl
theorem rnBF_ptO (τ:Nm) (hp:Hp) (id g n i off:Nat):rnB false τ hp (.ptO id g n i off)=rnA false τ hp (.ptO id g n i off):=rfl
theorem rnBPF_ptO (τ:Nm) (hp:Hp) (id g n i off:Nat):rnBP false τ hp (.ptO id g n i off)=rnAP false τ hp (.ptO id g n i off):=rfl
theorem rnBRF_ptO (τ:Nm) (hp:Hp) (id g n i off:Nat):rnBR false τ hp (.ptO id g n i off)=rnAR false τ hp (.ptO id g n i off):=rfl
theorem rnKF_ptO (τ:Nm) (hp:Hp) (id g n i off:Nat):rnK false τ hp (.ptO id g n i off)=rnB false τ hp (.ptO id g n i off):=rfl
theorem rnKPF_ptO (τ:Nm) (hp:Hp) (id g n i off:Nat):rnKP false τ hp (.ptO id g n i off)=rnBP false τ hp (.ptO id g n i off):=rfl
theorem rnKRF_ptO (τ:Nm) (hp:Hp) (id g n i off:Nat):rnKR false τ hp (.ptO id g n i off)=rnBR false τ hp (.ptO id g n i off):=rfl
theorem rntF_ptO (τ:Nm) (hp:Hp) (id g n i off:Nat):rnt false τ hp (.ptO id g n i off)=mapc (rnB false τ hp) (.ptO id g n i off):=rfl
theorem rntPF_ptO (τ:Nm) (hp:Hp) (id g n i off:Nat):rntP false τ hp (.ptO id g n i off)=(∀c∈AV.cells (.ptO id g n i off),rnBP false τ hp c):=rfl
theorem rntRF_ptO (τ:Nm) (hp:Hp) (id g n i off:Nat):rntR false τ hp (.ptO id g n i off)=(AV.cells (.ptO id g n i off)).flatMap (rnBR false τ hp):=rfl
theorem rnAF_fn (τ:Nm) (hp:Hp) (f:FuncId) (cs:List AV):rnA false τ hp (.fn f cs)= .fn f cs:=rfl
theorem rnAPF_fn (τ:Nm) (hp:Hp) (f:FuncId) (cs:List AV):rnAP false τ hp (.fn f cs)=fzP 0 hp (.fn f cs):=rfl
theorem rnARF_fn (τ:Nm) (hp:Hp) (f:FuncId) (cs:List AV):rnAR false τ hp (.fn f cs)=[]:=rfl
theorem rnBF_fn (τ:Nm) (hp:Hp) (f:FuncId) (cs:List AV):rnB false τ hp (.fn f cs)= .fn f (cs.map (rnA false τ hp)):=rfl
theorem rnBPF_fn (τ:Nm) (hp:Hp) (f:FuncId) (cs:List AV):rnBP false τ hp (.fn f cs)=(∀c∈cs,rnAP false τ hp c):=rfl
theorem rnBRF_fn (τ:Nm) (hp:Hp) (f:FuncId) (cs:List AV):rnBR false τ hp (.fn f cs)=cs.flatMap (rnAR false τ hp):=rfl
theorem rnKF_fn (τ:Nm) (hp:Hp) (f:FuncId) (cs:List AV):rnK false τ hp (.fn f cs)=rnB false τ hp (.fn f cs):=rfl
theorem rnKPF_fn (τ:Nm) (hp:Hp) (f:FuncId) (cs:List AV):rnKP false τ hp (.fn f cs)=rnBP false τ hp (.fn f cs):=rfl
theorem rnKRF_fn (τ:Nm) (hp:Hp) (f:FuncId) (cs:List AV):rnKR false τ hp (.fn f cs)=rnBR false τ hp (.fn f cs):=rfl
theorem rntF_fn (τ:Nm) (hp:Hp) (f:FuncId) (cs:List AV):rnt false τ hp (.fn f cs)=mapc (rnB false τ hp) (.fn f cs):=rfl
theorem rntPF_fn (τ:Nm) (hp:Hp) (f:FuncId) (cs:List AV):rntP false τ hp (.fn f cs)=(∀c∈AV.cells (.fn f cs),rnBP false τ hp c):=rfl
theorem rntRF_fn (τ:Nm) (hp:Hp) (f:FuncId) (cs:List AV):rntR false τ hp (.fn f cs)=(AV.cells (.fn f cs)).flatMap (rnBR false τ hp):=rfl
theorem rnAF_agg (τ:Nm) (hp:Hp) (cs:List AV):rnA false τ hp (.agg cs)= .agg cs:=rfl
theorem rnAPF_agg (τ:Nm) (hp:Hp) (cs:List AV):rnAP false τ hp (.agg cs)=fzP 0 hp (.agg cs):=rfl
theorem rnARF_agg (τ:Nm) (hp:Hp) (cs:List AV):rnAR false τ hp (.agg cs)=[]:=rfl
theorem rnBF_agg (τ:Nm) (hp:Hp) (cs:List AV):rnB false τ hp (.agg cs)=rnA false τ hp (.agg cs):=rfl
theorem rnBPF_agg (τ:Nm) (hp:Hp) (cs:List AV):rnBP false τ hp (.agg cs)=rnAP false τ hp (.agg cs):=rfl
theorem rnBRF_agg (τ:Nm) (hp:Hp) (cs:List AV):rnBR false τ hp (.agg cs)=rnAR false τ hp (.agg cs):=rfl
theorem rnKF_agg (τ:Nm) (hp:Hp) (cs:List AV):rnK false τ hp (.agg cs)=rnB false τ hp (.agg cs):=rfl
theorem rnKPF_agg (τ:Nm) (hp:Hp) (cs:List AV):rnKP false τ hp (.agg cs)=rnBP false τ hp (.agg cs):=rfl
theorem rnKRF_agg (τ:Nm) (hp:Hp) (cs:List AV):rnKR false τ hp (.agg cs)=rnBR false τ hp (.agg cs):=rfl
theorem rntF_agg (τ:Nm) (hp:Hp) (cs:List AV):rnt false τ hp (.agg cs)=mapc (rnB false τ hp) (.agg cs):=rfl
theorem rntPF_agg (τ:Nm) (hp:Hp) (cs:List AV):rntP false τ hp (.agg cs)=(∀c∈AV.cells (.agg cs),rnBP false τ hp c):=rfl
theorem rntRF_agg (τ:Nm) (hp:Hp) (cs:List AV):rntR false τ hp (.agg cs)=(AV.cells (.agg cs)).flatMap (rnBR false τ hp):=rfl
theorem rnAF_tup (τ:Nm) (hp:Hp) (vs:List AV):rnA false τ hp (.tup vs)= .tup vs:=rfl
theorem rnAPF_tup (τ:Nm) (hp:Hp) (vs:List AV):rnAP false τ hp (.tup vs)=fzP 0 hp (.tup vs):=rfl
theorem rnARF_tup (τ:Nm) (hp:Hp) (vs:List AV):rnAR false τ hp (.tup vs)=[]:=rfl
theorem rnBF_tup (τ:Nm) (hp:Hp) (vs:List AV):rnB false τ hp (.tup vs)=rnA false τ hp (.tup vs):=rfl
theorem rnBPF_tup (τ:Nm) (hp:Hp) (vs:List AV):rnBP false τ hp (.tup vs)=rnAP false τ hp (.tup vs):=rfl
theorem rnBRF_tup (τ:Nm) (hp:Hp) (vs:List AV):rnBR false τ hp (.tup vs)=rnAR false τ hp (.tup vs):=rfl
theorem rnKF_tup (τ:Nm) (hp:Hp) (vs:List AV):rnK false τ hp (.tup vs)=rnB false τ hp (.tup vs):=rfl
theorem rnKPF_tup (τ:Nm) (hp:Hp) (vs:List AV):rnKP false τ hp (.tup vs)=rnBP false τ hp (.tup vs):=rfl
theorem rnKRF_tup (τ:Nm) (hp:Hp) (vs:List AV):rnKR false τ hp (.tup vs)=rnBR false τ hp (.tup vs):=rfl
theorem rntF_tup (τ:Nm) (hp:Hp) (vs:List AV):rnt false τ hp (.tup vs)= .tup (vs.map (fun v=>mapc (rnB false τ hp) v)):=rfl
theorem rntPF_tup (τ:Nm) (hp:Hp) (vs:List AV):rntP false τ hp (.tup vs)=(∀v∈vs,∀c∈v.cells,rnBP false τ hp c):=rfl
theorem rntRF_tup (τ:Nm) (hp:Hp) (vs:List AV):rntR false τ hp (.tup vs)=(vs.flatMap fun v=>v.cells.flatMap (rnBR false τ hp)):=rfl
theorem rnAF_ifn (τ:Nm) (hp:Hp):rnA false τ hp (.ifn)= .ifn:=rfl
theorem rnAPF_ifn (τ:Nm) (hp:Hp):rnAP false τ hp (.ifn)=fzP 0 hp (.ifn):=rfl
theorem rnARF_ifn (τ:Nm) (hp:Hp):rnAR false τ hp (.ifn)=[]:=rfl
theorem rnBF_ifn (τ:Nm) (hp:Hp):rnB false τ hp (.ifn)=rnA false τ hp (.ifn):=rfl
theorem rnBPF_ifn (τ:Nm) (hp:Hp):rnBP false τ hp (.ifn)=rnAP false τ hp (.ifn):=rfl
theorem rnBRF_ifn (τ:Nm) (hp:Hp):rnBR false τ hp (.ifn)=rnAR false τ hp (.ifn):=rfl
theorem rnKF_ifn (τ:Nm) (hp:Hp):rnK false τ hp (.ifn)=rnB false τ hp (.ifn):=rfl
theorem rnKPF_ifn (τ:Nm) (hp:Hp):rnKP false τ hp (.ifn)=rnBP false τ hp (.ifn):=rfl
theorem rnKRF_ifn (τ:Nm) (hp:Hp):rnKR false τ hp (.ifn)=rnBR false τ hp (.ifn):=rfl
theorem rntF_ifn (τ:Nm) (hp:Hp):rnt false τ hp (.ifn)=mapc (rnB false τ hp) (.ifn):=rfl
theorem rntPF_ifn (τ:Nm) (hp:Hp):rntP false τ hp (.ifn)=(∀c∈AV.cells (.ifn),rnBP false τ hp c):=rfl
theorem rntRF_ifn (τ:Nm) (hp:Hp):rntR false τ hp (.ifn)=(AV.cells (.ifn)).flatMap (rnBR false τ hp):=rfl
theorem rnAF_bfn (τ:Nm) (hp:Hp) (f:FuncId) (cs:List AV):rnA false τ hp (.bfn f cs)= .bfn f cs:=rfl
theorem rnAPF_bfn (τ:Nm) (hp:Hp) (f:FuncId) (cs:List AV):rnAP false τ hp (.bfn f cs)=fzP 0 hp (.bfn f cs):=rfl
theorem rnARF_bfn (τ:Nm) (hp:Hp) (f:FuncId) (cs:List AV):rnAR false τ hp (.bfn f cs)=[]:=rfl
theorem rnBF_bfn (τ:Nm) (hp:Hp) (f:FuncId) (cs:List AV):rnB false τ hp (.bfn f cs)=rnA false τ hp (.bfn f cs):=rfl
theorem rnBPF_bfn (τ:Nm) (hp:Hp) (f:FuncId) (cs:List AV):rnBP false τ hp (.bfn f cs)=rnAP false τ hp (.bfn f cs):=rfl
theorem rnBRF_bfn (τ:Nm) (hp:Hp) (f:FuncId) (cs:List AV):rnBR false τ hp (.bfn f cs)=rnAR false τ hp (.bfn f cs):=rfl
theorem rnKF_bfn (τ:Nm) (hp:Hp) (f:FuncId) (cs:List AV):rnK false τ hp (.bfn f cs)=rnB false τ hp (.bfn f cs):=rfl
theorem rnKPF_bfn (τ:Nm) (hp:Hp) (f:FuncId) (cs:List AV):rnKP false τ hp (.bfn f cs)=rnBP false τ hp (.bfn f cs):=rfl
theorem rnKRF_bfn (τ:Nm) (hp:Hp) (f:FuncId) (cs:List AV):rnKR false τ hp (.bfn f cs)=rnBR false τ hp (.bfn f cs):=rfl
theorem rntF_bfn (τ:Nm) (hp:Hp) (f:FuncId) (cs:List AV):rnt false τ hp (.bfn f cs)=mapc (rnB false τ hp) (.bfn f cs):=rfl
theorem rntPF_bfn (τ:Nm) (hp:Hp) (f:FuncId) (cs:List AV):rntP false τ hp (.bfn f cs)=(∀c∈AV.cells (.bfn f cs),rnBP false τ hp c):=rfl
theorem rntRF_bfn (τ:Nm) (hp:Hp) (f:FuncId) (cs:List AV):rntR false τ hp (.bfn f cs)=(AV.cells (.bfn f cs)).flatMap (rnBR false τ hp):=rfl
theorem rnAF_mpO (τ:Nm) (hp:Hp) (id g:Nat):rnA false τ hp (.mpO id g)= .mpO id g:=rfl
theorem rnAPF_mpO (τ:Nm) (hp:Hp) (id g:Nat):rnAP false τ hp (.mpO id g)=fzP 0 hp (.mpO id g):=rfl
theorem rnARF_mpO (τ:Nm) (hp:Hp) (id g:Nat):rnAR false τ hp (.mpO id g)=[]:=rfl
theorem rnBF_mpO (τ:Nm) (hp:Hp) (id g:Nat):rnB false τ hp (.mpO id g)=rnA false τ hp (.mpO id g):=rfl
theorem rnBPF_mpO (τ:Nm) (hp:Hp) (id g:Nat):rnBP false τ hp (.mpO id g)=rnAP false τ hp (.mpO id g):=rfl
theorem rnBRF_mpO (τ:Nm) (hp:Hp) (id g:Nat):rnBR false τ hp (.mpO id g)=rnAR false τ hp (.mpO id g):=rfl
theorem rnKF_mpO (τ:Nm) (hp:Hp) (id g:Nat):rnK false τ hp (.mpO id g)=rnB false τ hp (.mpO id g):=rfl
theorem rnKPF_mpO (τ:Nm) (hp:Hp) (id g:Nat):rnKP false τ hp (.mpO id g)=rnBP false τ hp (.mpO id g):=rfl
theorem rnKRF_mpO (τ:Nm) (hp:Hp) (id g:Nat):rnKR false τ hp (.mpO id g)=rnBR false τ hp (.mpO id g):=rfl
theorem rntF_mpO (τ:Nm) (hp:Hp) (id g:Nat):rnt false τ hp (.mpO id g)=mapc (rnB false τ hp) (.mpO id g):=rfl
theorem rntPF_mpO (τ:Nm) (hp:Hp) (id g:Nat):rntP false τ hp (.mpO id g)=(∀c∈AV.cells (.mpO id g),rnBP false τ hp c):=rfl
theorem rntRF_mpO (τ:Nm) (hp:Hp) (id g:Nat):rntR false τ hp (.mpO id g)=(AV.cells (.mpO id g)).flatMap (rnBR false τ hp):=rfl
theorem trT_lit (L:List Nat) (v:Value):trA true L (.lit v)=True:=by simp[trA]
theorem trtT_lit (L:List Nat) (v:Value):trt true L (.lit v)=(∀c∈AV.cells (.lit v),trA true L c):=rfl
theorem trT_sl (L:List Nat) (es:List AV) (b:Bool):trA true L (.sl es b)=(es=[]/\b=true):=by simp[trA]
theorem trtT_sl (L:List Nat) (es:List AV) (b:Bool):trt true L (.sl es b)=(∀c∈AV.cells (.sl es b),trA true L c):=rfl
theorem trT_kid (L:List Nat) (t k:Nat) (es:List AV):trA true L (.kid t k es)=(∀e∈es,∀c∈e.cells,isLit c):=by simp[trA]
theorem trtT_kid (L:List Nat) (t k:Nat) (es:List AV):trt true L (.kid t k es)=(∀c∈AV.cells (.kid t k es),trA true L c):=rfl
theorem trT_ptI (L:List Nat) (cs:List AV):trA true L (.ptI cs)=False:=by simp[trA]
theorem trtT_ptI (L:List Nat) (cs:List AV):trt true L (.ptI cs)=(∀c∈AV.cells (.ptI cs),trA true L c):=rfl
theorem trT_gl (L:List Nat) (n:Nat):trA true L (.gl n)=True:=by simp[trA]
theorem trtT_gl (L:List Nat) (n:Nat):trt true L (.gl n)=(∀c∈AV.cells (.gl n),trA true L c):=rfl
theorem trT_bad (L:List Nat):trA true L (.bad)=True:=by simp[trA]
theorem trtT_bad (L:List Nat):trt true L (.bad)=(∀c∈AV.cells (.bad),trA true L c):=rfl
theorem trT_slO (L:List Nat) (id g off len:Nat):trA true L (.slO id g off len)=(id∈L):=by simp[trA]
theorem trtT_slO (L:List Nat) (id g off len:Nat):trt true L (.slO id g off len)=(∀c∈AV.cells (.slO id g off len),trA true L c):=rfl
theorem trT_ptO (L:List Nat) (id g n i off:Nat):trA true L (.ptO id g n i off)=(id∈L):=by simp[trA]
theorem trtT_ptO (L:List Nat) (id g n i off:Nat):trt true L (.ptO id g n i off)=(∀c∈AV.cells (.ptO id g n i off),trA true L c):=rfl
theorem trT_fn (L:List Nat) (f:FuncId) (cs:List AV):trA true L (.fn f cs)=False:=by simp[trA]
theorem trtT_fn (L:List Nat) (f:FuncId) (cs:List AV):trt true L (.fn f cs)=(∀c∈AV.cells (.fn f cs),trA true L c):=rfl
theorem trT_agg (L:List Nat) (cs:List AV):trA true L (.agg cs)=False:=by simp[trA]
theorem trtT_agg (L:List Nat) (cs:List AV):trt true L (.agg cs)=(∀c∈AV.cells (.agg cs),trA true L c):=rfl
theorem trT_tup (L:List Nat) (vs:List AV):trA true L (.tup vs)=False:=by simp[trA]
theorem trtT_tup (L:List Nat) (vs:List AV):trt true L (.tup vs)=(∀v∈vs,∀c∈v.cells,trA true L c):=rfl
theorem trT_ifn (L:List Nat):trA true L (.ifn)=True:=by simp[trA]
theorem trtT_ifn (L:List Nat):trt true L (.ifn)=(∀c∈AV.cells (.ifn),trA true L c):=rfl
theorem trT_bfn (L:List Nat) (f:FuncId) (cs:List AV):trA true L (.bfn f cs)=False:=by simp[trA]
theorem trtT_bfn (L:List Nat) (f:FuncId) (cs:List AV):trt true L (.bfn f cs)=(∀c∈AV.cells (.bfn f cs),trA true L c):=rfl
theorem trT_mpO (L:List Nat) (id g:Nat):trA true L (.mpO id g)=False:=by simp[trA]
theorem trtT_mpO (L:List Nat) (id g:Nat):trt true L (.mpO id g)=(∀c∈AV.cells (.mpO id g),trA true L c):=rfl
theorem trF_lit (L:List Nat) (v:Value):trA false L (.lit v)=True:=by simp[trA]
theorem trtF_lit (L:List Nat) (v:Value):trt false L (.lit v)=(∀c∈AV.cells (.lit v),trA false L c):=rfl
theorem trF_sl (L:List Nat) (es:List AV) (b:Bool):trA false L (.sl es b)=True:=by simp[trA]
theorem trtF_sl (L:List Nat) (es:List AV) (b:Bool):trt false L (.sl es b)=(∀c∈AV.cells (.sl es b),trA false L c):=rfl
theorem trF_kid (L:List Nat) (t k:Nat) (es:List AV):trA false L (.kid t k es)=True:=by simp[trA]
theorem trtF_kid (L:List Nat) (t k:Nat) (es:List AV):trt false L (.kid t k es)=(∀c∈AV.cells (.kid t k es),trA false L c):=rfl
theorem trF_ptI (L:List Nat) (cs:List AV):trA false L (.ptI cs)=True:=by simp[trA]
theorem trtF_ptI (L:List Nat) (cs:List AV):trt false L (.ptI cs)=(∀c∈AV.cells (.ptI cs),trA false L c):=rfl
theorem trF_gl (L:List Nat) (n:Nat):trA false L (.gl n)=True:=by simp[trA]
theorem trtF_gl (L:List Nat) (n:Nat):trt false L (.gl n)=(∀c∈AV.cells (.gl n),trA false L c):=rfl
theorem trF_bad (L:List Nat):trA false L (.bad)=True:=by simp[trA]
theorem trtF_bad (L:List Nat):trt false L (.bad)=(∀c∈AV.cells (.bad),trA false L c):=rfl
theorem trF_slO (L:List Nat) (id g off len:Nat):trA false L (.slO id g off len)=(id∈L):=by simp[trA]
theorem trtF_slO (L:List Nat) (id g off len:Nat):trt false L (.slO id g off len)=(∀c∈AV.cells (.slO id g off len),trA false L c):=rfl
theorem trF_ptO (L:List Nat) (id g n i off:Nat):trA false L (.ptO id g n i off)=(id∈L):=by simp[trA]
theorem trtF_ptO (L:List Nat) (id g n i off:Nat):trt false L (.ptO id g n i off)=(∀c∈AV.cells (.ptO id g n i off),trA false L c):=rfl
theorem trF_fn (L:List Nat) (f:FuncId) (cs:List AV):trA false L (.fn f cs)=(∀c∈cs,match c with| .slO id _ _ _=>id∈L| .ptO id _ _ _ _=>id∈L| .lit _| .sl _ _| .ptI _| .gl _=>True|_=>False):=propext ⟨fun h=>h.2,fun h=>⟨rfl,h⟩⟩
theorem trtF_fn (L:List Nat) (f:FuncId) (cs:List AV):trt false L (.fn f cs)=(∀c∈AV.cells (.fn f cs),trA false L c):=rfl
theorem trF_agg (L:List Nat) (cs:List AV):trA false L (.agg cs)=False:=by simp[trA]
theorem trtF_agg (L:List Nat) (cs:List AV):trt false L (.agg cs)=(∀c∈AV.cells (.agg cs),trA false L c):=rfl
theorem trF_tup (L:List Nat) (vs:List AV):trA false L (.tup vs)=False:=by simp[trA]
theorem trtF_tup (L:List Nat) (vs:List AV):trt false L (.tup vs)=(∀v∈vs,∀c∈v.cells,trA false L c):=rfl
theorem trF_ifn (L:List Nat):trA false L (.ifn)=True:=by simp[trA]
theorem trtF_ifn (L:List Nat):trt false L (.ifn)=(∀c∈AV.cells (.ifn),trA false L c):=rfl
theorem trF_bfn (L:List Nat) (f:FuncId) (cs:List AV):trA false L (.bfn f cs)=False:=by simp[trA]
theorem trtF_bfn (L:List Nat) (f:FuncId) (cs:List AV):trt false L (.bfn f cs)=(∀c∈AV.cells (.bfn f cs),trA false L c):=rfl
theorem trF_mpO (L:List Nat) (id g:Nat):trA false L (.mpO id g)=False:=by simp[trA]
theorem trtF_mpO (L:List Nat) (id g:Nat):trt false L (.mpO id g)=(∀c∈AV.cells (.mpO id g),trA false L c):=rfl
theorem rnO_own (m:Bool) (τ:Nm) (hp:Hp) (t k:Nat) (es:List AV):rnO m τ hp (.own t k es)= .own t k (es.map (mapc (rnK m τ hp))):=rfl
theorem rnO_box (m:Bool) (τ:Nm) (hp:Hp) (cs:List AV):rnO m τ hp (.box cs)= .box (cs.map (rnB m τ hp)):=rfl
theorem rnOP_own (m:Bool) (τ:Nm) (hp:Hp) (t k:Nat) (es:List AV):rnOP m τ hp (.own t k es)=(∀e∈es,∀c∈e.cells,rnKP m τ hp c):=rfl
theorem rnOP_box (m:Bool) (τ:Nm) (hp:Hp) (cs:List AV):rnOP m τ hp (.box cs)=(∀c∈cs,rnBP m τ hp c):=rfl
theorem rnOR_own (m:Bool) (τ:Nm) (hp:Hp) (t k:Nat) (es:List AV):rnOR m τ hp (.own t k es)=(es.flatMap fun e=>e.cells.flatMap (rnKR m τ hp)):=rfl
theorem rnOR_box (m:Bool) (τ:Nm) (hp:Hp) (cs:List AV):rnOR m τ hp (.box cs)=cs.flatMap (rnBR m τ hp):=rfl
theorem trO_own (k':Bool) (L:List Nat) (t k:Nat) (es:List AV):trO k' L (.own t k es)=(∀e∈es,∀c∈e.cells,trA k' L c):=rfl
theorem trO_box (k':Bool) (L:List Nat) (cs:List AV):trO k' L (.box cs)=(∀c∈cs,trA k' L c):=rfl
theorem trH_nil (k':Bool) (L:List Nat):trH k' L []=True:=rfl
theorem trH_some (k':Bool) (L:List Nat) (i g:Nat) (ob:Ob) (h:Hp):trH k' L ((i,some (g,ob))::h)=(trO k' L ob/\trH k' L h):=rfl
theorem trH_none (k':Bool) (L:List Nat) (i:Nat) (h:Hp):trH k' L ((i,none)::h)=trH k' L h:=rfl
theorem rnH_def (m:Bool) (τ:Nm) (hp:Hp):rnH m τ hp=τ.map fun q=>(q.1,(hp.get q.2.2.1).map fun x=>(q.2.1,rnO m τ hp x.2)):=rfl
theorem isNil_tmp (n:Nat):isNil (.tmp n)=false:=rfl
theorem isNil_int (k:IntKind) (n:Int):isNil (.const (.int k n))=false:=rfl
theorem isNil_bool (b:Bool):isNil (.const (.bool b))=false:=rfl
theorem isNil_string (s:ByteArray):isNil (.const (.string s))=false:=rfl
theorem isNil_nil:isNil (.const (.slice none 0 0))=true:=rfl
theorem isNilI_tmp (n:Nat):isNilI (.tmp n)=false:=rfl
theorem isNilI_int (k:IntKind) (n:Int):isNilI (.const (.int k n))=false:=rfl
theorem isNilI_bool (b:Bool):isNilI (.const (.bool b))=false:=rfl
theorem isNilI_string (s:ByteArray):isNilI (.const (.string s))=false:=rfl
theorem isNilI_slice (a:Option Addr) (n m:Nat):isNilI (.const (.slice a n m))=false:=rfl
theorem isNilI_nil:isNilI (.const .nilIface)=true:=rfl
theorem bopI_f (op:BinOp) (ti:TI) (x:AV) (r:R):bopI false op ti x r=r:=rfl
theorem bopI_eql (ti:TI) (r:R):bopI true .eql ti .ifn r=(match ti.ty with| .iface=> .val True (.lit (.bool false))|_=> .no):=by unfold bopI;cases ti.ty<;>rfl
theorem bopI_eqlN (ti:TI) (r:R):bopI true .eql ti (.lit .nilIface) r=(match ti.ty with| .iface=> .val True (.lit (.bool true))|_=> .no):=by unfold bopI;cases ti.ty<;>rfl
theorem bopI_neq (ti:TI) (r:R):bopI true .neq ti .ifn r=(match ti.ty with| .iface=> .val True (.lit (.bool true))|_=> .no):=by unfold bopI;cases ti.ty<;>rfl
theorem bopI_neqN (ti:TI) (r:R):bopI true .neq ti (.lit .nilIface) r=(match ti.ty with| .iface=> .val True (.lit (.bool false))|_=> .no):=by unfold bopI;cases ti.ty<;>rfl
theorem bopB_f (op:BinOp) (ti:TI) (x y:AV):bopB false op ti x y=bop op ti x y:=rfl
theorem bopB_eql (ti:TI) (es:List AV) (f:Bool) (y:AV):bopB true .eql ti (.sl es f) y=(match ti.ty with| .slice _=> .val (0<es.length) (.lit (.bool false))|_=> .no):=by unfold bopB;cases ti.ty<;>rfl
theorem bopB_neq (ti:TI) (es:List AV) (f:Bool) (y:AV):bopB true .neq ti (.sl es f) y=(match ti.ty with| .slice _=> .val (0<es.length) (.lit (.bool true))|_=> .no):=by unfold bopB;cases ti.ty<;>rfl
theorem glob_gl (T:Tab) (n:Nat):glob T (.gl n)=(match glu T.gl n with|some cs=> .ptI cs|none=> .gl n):=rfl
theorem glob_lit (T:Tab) (v:Value):glob T (.lit v)= .lit v:=rfl
theorem glob_sl (T:Tab) (es:List AV) (b:Bool):glob T (.sl es b)= .sl es b:=rfl
theorem glob_kid (T:Tab) (t k:Nat) (es:List AV):glob T (.kid t k es)= .kid t k es:=rfl
theorem glob_ptI (T:Tab) (cs:List AV):glob T (.ptI cs)= .ptI cs:=rfl
theorem glob_bad (T:Tab):glob T (.bad)= .bad:=rfl
theorem glob_slO (T:Tab) (id g off len:Nat):glob T (.slO id g off len)= .slO id g off len:=rfl
theorem glob_ptO (T:Tab) (id g n i off:Nat):glob T (.ptO id g n i off)= .ptO id g n i off:=rfl
theorem glob_fn (T:Tab) (f:FuncId) (cs:List AV):glob T (.fn f cs)= .fn f cs:=rfl
theorem glob_agg (T:Tab) (cs:List AV):glob T (.agg cs)= .agg cs:=rfl
theorem glob_tup (T:Tab) (vs:List AV):glob T (.tup vs)= .tup vs:=rfl
theorem glob_ifn (T:Tab):glob T (.ifn)= .ifn:=rfl
theorem glob_bfn (T:Tab) (f:FuncId) (cs:List AV):glob T (.bfn f cs)= .bfn f cs:=rfl
theorem glob_mpO (T:Tab) (id g:Nat):glob T (.mpO id g)= .mpO id g:=rfl
theorem setc_lit (off:Nat) (u:AV) (v:Value):setc (.lit v) off u=u:=rfl
theorem setc_sl (off:Nat) (u:AV) (es:List AV) (b:Bool):setc (.sl es b) off u=u:=rfl
theorem setc_kid (off:Nat) (u:AV) (t k:Nat) (es:List AV):setc (.kid t k es) off u=u:=rfl
theorem setc_ptI (off:Nat) (u:AV) (cs:List AV):setc (.ptI cs) off u=u:=rfl
theorem setc_gl (off:Nat) (u:AV) (n:Nat):setc (.gl n) off u=u:=rfl
theorem setc_bad (off:Nat) (u:AV):setc (.bad) off u=u:=rfl
theorem setc_slO (off:Nat) (u:AV) (id g off len:Nat):setc (.slO id g off len) off u=u:=rfl
theorem setc_ptO (off:Nat) (u:AV) (id g n i off:Nat):setc (.ptO id g n i off) off u=u:=rfl
theorem setc_fn (off:Nat) (u:AV) (f:FuncId) (cs:List AV):setc (.fn f cs) off u=u:=rfl
theorem setc_agg (off:Nat) (u:AV) (cs:List AV):setc (.agg cs) off u= .agg (cs.set off u):=rfl
theorem setc_tup (off:Nat) (u:AV) (vs:List AV):setc (.tup vs) off u=u:=rfl
theorem setc_ifn (off:Nat) (u:AV):setc (.ifn) off u=u:=rfl
theorem setc_bfn (off:Nat) (u:AV) (f:FuncId) (cs:List AV):setc (.bfn f cs) off u=u:=rfl
theorem setc_mpO (off:Nat) (u:AV) (id g:Nat):setc (.mpO id g) off u=u:=rfl
theorem pe_fz0 {es:List AV} (h:PE es) (hp:Hp):es.map (mapc (fz 0 hp))=es:=h.fz 0 hp
theorem pe_fzP0 {es:List AV} (h:PE es) (hp:Hp):(∀e∈es,∀c∈e.cells,fzP 0 hp c)=True:=eq_true (h.fzP 0 hp)
theorem pe_fzR0 {es:List AV} (h:PE es) (hp:Hp):(es.flatMap fun e=>e.cells.flatMap (fzR 0 hp))=[]:=h.fzR 0 hp
theorem pe_fz1 {es:List AV} (h:PE es) (hp:Hp):es.map (mapc (fz 1 hp))=es:=h.fz 1 hp
theorem pe_fzP1 {es:List AV} (h:PE es) (hp:Hp):(∀e∈es,∀c∈e.cells,fzP 1 hp c)=True:=eq_true (h.fzP 1 hp)
theorem pe_fzR1 {es:List AV} (h:PE es) (hp:Hp):(es.flatMap fun e=>e.cells.flatMap (fzR 1 hp))=[]:=h.fzR 1 hp
theorem pe_fz2 {es:List AV} (h:PE es) (hp:Hp):es.map (mapc (fz 2 hp))=es:=h.fz 2 hp
theorem pe_fzP2 {es:List AV} (h:PE es) (hp:Hp):(∀e∈es,∀c∈e.cells,fzP 2 hp c)=True:=eq_true (h.fzP 2 hp)
theorem pe_fzR2 {es:List AV} (h:PE es) (hp:Hp):(es.flatMap fun e=>e.cells.flatMap (fzR 2 hp))=[]:=h.fzR 2 hp
theorem pe_fz3 {es:List AV} (h:PE es) (hp:Hp):es.map (mapc (fz 3 hp))=es:=h.fz 3 hp
theorem pe_fzP3 {es:List AV} (h:PE es) (hp:Hp):(∀e∈es,∀c∈e.cells,fzP 3 hp c)=True:=eq_true (h.fzP 3 hp)
theorem pe_fzR3 {es:List AV} (h:PE es) (hp:Hp):(es.flatMap fun e=>e.cells.flatMap (fzR 3 hp))=[]:=h.fzR 3 hp
theorem pe_fz4 {es:List AV} (h:PE es) (hp:Hp):es.map (mapc (fz 4 hp))=es:=h.fz 4 hp
theorem pe_fzP4 {es:List AV} (h:PE es) (hp:Hp):(∀e∈es,∀c∈e.cells,fzP 4 hp c)=True:=eq_true (h.fzP 4 hp)
theorem pe_fzR4 {es:List AV} (h:PE es) (hp:Hp):(es.flatMap fun e=>e.cells.flatMap (fzR 4 hp))=[]:=h.fzR 4 hp
theorem pe_fzk {es:List AV} (h:PE es) (hp:Hp):es.map (mapc (fzk hp))=es:=h.fzk hp
theorem pe_att {es:List AV} (h:PE es) (hp:Hp):es.map (mapc (att hp))=es:=h.att hp
theorem pe_attP {es:List AV} (h:PE es) (hp:Hp):(∀e∈es,∀c∈e.cells,attP hp c)=True:=eq_true (h.attP hp)
theorem pe_esR {es:List AV} (h:PE es):esR es=[]:=h.esR
theorem pe_rnKT {es:List AV} (h:PE es) (τ:Nm) (hp:Hp):es.map (mapc (rnK true τ hp))=es:=h.rnK true τ hp
theorem pe_rnKPT {es:List AV} (h:PE es) (τ:Nm) (hp:Hp):(∀e∈es,∀c∈e.cells,rnKP true τ hp c)=True:=eq_true (h.rnKP true τ hp)
theorem pe_rnKRT {es:List AV} (h:PE es) (τ:Nm) (hp:Hp):(es.flatMap fun e=>e.cells.flatMap (rnKR true τ hp))=[]:=h.rnKR true τ hp
theorem pe_rnKF {es:List AV} (h:PE es) (τ:Nm) (hp:Hp):es.map (mapc (rnK false τ hp))=es:=h.rnK false τ hp
theorem pe_rnKPF {es:List AV} (h:PE es) (τ:Nm) (hp:Hp):(∀e∈es,∀c∈e.cells,rnKP false τ hp c)=True:=eq_true (h.rnKP false τ hp)
theorem pe_rnKRF {es:List AV} (h:PE es) (τ:Nm) (hp:Hp):(es.flatMap fun e=>e.cells.flatMap (rnKR false τ hp))=[]:=h.rnKR false τ hp
theorem pe_tr {es:List AV} (h:PE es) (L:List Nat):(∀e∈es,∀c∈e.cells,trA false L c)=True:=eq_true (h.tr L)
theorem esR_nil:esR []=[]:=rfl
theorem esR_cons (e:AV) (es:List AV):esR (e::es)=e.cells.flatMap attR++esR es:=rfl
theorem isLit_lit (v:Value):isLit (.lit v)=True:=rfl
theorem lits_ints (l:List Int):(∀e∈ints l,∀c∈e.cells,isLit c)=True:=by
 refine eq_true fun e he c hc=>?_
 simp only[ints,List.mem_map] at he
 obtain⟨x,_,rfl⟩:=he
 simp only[AV.cells,List.mem_singleton] at hc
 subst hc;trivial
theorem trT_ints (L:List Nat) (l:List Int):(∀e∈ints l,∀c∈e.cells,trA true L c)=True:=by
 refine eq_true fun e he c hc=>?_
 simp only[ints,List.mem_map] at he
 obtain⟨x,_,rfl⟩:=he
 simp only[AV.cells,List.mem_singleton] at hc
 subst hc;trivial
theorem parts_0:partsOk 0 []=true:=rfl
theorem parts_1 (x0:Operand):partsOk 1 [(0,x0)]=true:=rfl
theorem parts_2 (x0 x1:Operand):partsOk 2 [(0,x0),(1,x1)]=true:=rfl
theorem parts_3 (x0 x1 x2:Operand):partsOk 3 [(0,x0),(1,x1),(2,x2)]=true:=rfl
theorem parts_4 (x0 x1 x2 x3:Operand):partsOk 4 [(0,x0),(1,x1),(2,x2),(3,x3)]=true:=rfl
theorem parts_5 (x0 x1 x2 x3 x4:Operand):partsOk 5 [(0,x0),(1,x1),(2,x2),(3,x3),(4,x4)]=true:=rfl
theorem parts_6 (x0 x1 x2 x3 x4 x5:Operand):partsOk 6 [(0,x0),(1,x1),(2,x2),(3,x3),(4,x4),(5,x5)]=true:=rfl
theorem parts_7 (x0 x1 x2 x3 x4 x5 x6:Operand):partsOk 7 [(0,x0),(1,x1),(2,x2),(3,x3),(4,x4),(5,x5),(6,x6)]=true:=rfl
theorem parts_8 (x0 x1 x2 x3 x4 x5 x6 x7:Operand):partsOk 8 [(0,x0),(1,x1),(2,x2),(3,x3),(4,x4),(5,x5),(6,x6),(7,x7)]=true:=rfl
theorem parts_9 (x0 x1 x2 x3 x4 x5 x6 x7 x8:Operand):partsOk 9 [(0,x0),(1,x1),(2,x2),(3,x3),(4,x4),(5,x5),(6,x6),(7,x7),(8,x8)]=true:=rfl
theorem parts_10 (x0 x1 x2 x3 x4 x5 x6 x7 x8 x9:Operand):partsOk 10 [(0,x0),(1,x1),(2,x2),(3,x3),(4,x4),(5,x5),(6,x6),(7,x7),(8,x8),(9,x9)]=true:=rfl
theorem parts_11 (x0 x1 x2 x3 x4 x5 x6 x7 x8 x9 x10:Operand):partsOk 11 [(0,x0),(1,x1),(2,x2),(3,x3),(4,x4),(5,x5),(6,x6),(7,x7),(8,x8),(9,x9),(10,x10)]=true:=rfl
theorem parts_12 (x0 x1 x2 x3 x4 x5 x6 x7 x8 x9 x10 x11:Operand):partsOk 12 [(0,x0),(1,x1),(2,x2),(3,x3),(4,x4),(5,x5),(6,x6),(7,x7),(8,x8),(9,x9),(10,x10),(11,x11)]=true:=rfl
theorem parts_13 (x0 x1 x2 x3 x4 x5 x6 x7 x8 x9 x10 x11 x12:Operand):partsOk 13 [(0,x0),(1,x1),(2,x2),(3,x3),(4,x4),(5,x5),(6,x6),(7,x7),(8,x8),(9,x9),(10,x10),(11,x11),(12,x12)]=true:=rfl
theorem parts_14 (x0 x1 x2 x3 x4 x5 x6 x7 x8 x9 x10 x11 x12 x13:Operand):partsOk 14 [(0,x0),(1,x1),(2,x2),(3,x3),(4,x4),(5,x5),(6,x6),(7,x7),(8,x8),(9,x9),(10,x10),(11,x11),(12,x12),(13,x13)]=true:=rfl
theorem parts_15 (x0 x1 x2 x3 x4 x5 x6 x7 x8 x9 x10 x11 x12 x13 x14:Operand):partsOk 15 [(0,x0),(1,x1),(2,x2),(3,x3),(4,x4),(5,x5),(6,x6),(7,x7),(8,x8),(9,x9),(10,x10),(11,x11),(12,x12),(13,x13),(14,x14)]=true:=rfl
theorem parts_16 (x0 x1 x2 x3 x4 x5 x6 x7 x8 x9 x10 x11 x12 x13 x14 x15:Operand):partsOk 16 [(0,x0),(1,x1),(2,x2),(3,x3),(4,x4),(5,x5),(6,x6),(7,x7),(8,x8),(9,x9),(10,x10),(11,x11),(12,x12),(13,x13),(14,x14),(15,x15)]=true:=rfl
theorem parts_17 (x0 x1 x2 x3 x4 x5 x6 x7 x8 x9 x10 x11 x12 x13 x14 x15 x16:Operand):partsOk 17 [(0,x0),(1,x1),(2,x2),(3,x3),(4,x4),(5,x5),(6,x6),(7,x7),(8,x8),(9,x9),(10,x10),(11,x11),(12,x12),(13,x13),(14,x14),(15,x15),(16,x16)]=true:=rfl
theorem parts_18 (x0 x1 x2 x3 x4 x5 x6 x7 x8 x9 x10 x11 x12 x13 x14 x15 x16 x17:Operand):partsOk 18 [(0,x0),(1,x1),(2,x2),(3,x3),(4,x4),(5,x5),(6,x6),(7,x7),(8,x8),(9,x9),(10,x10),(11,x11),(12,x12),(13,x13),(14,x14),(15,x15),(16,x16),(17,x17)]=true:=rfl
theorem parts_19 (x0 x1 x2 x3 x4 x5 x6 x7 x8 x9 x10 x11 x12 x13 x14 x15 x16 x17 x18:Operand):partsOk 19 [(0,x0),(1,x1),(2,x2),(3,x3),(4,x4),(5,x5),(6,x6),(7,x7),(8,x8),(9,x9),(10,x10),(11,x11),(12,x12),(13,x13),(14,x14),(15,x15),(16,x16),(17,x17),(18,x18)]=true:=rfl
theorem parts_20 (x0 x1 x2 x3 x4 x5 x6 x7 x8 x9 x10 x11 x12 x13 x14 x15 x16 x17 x18 x19:Operand):partsOk 20 [(0,x0),(1,x1),(2,x2),(3,x3),(4,x4),(5,x5),(6,x6),(7,x7),(8,x8),(9,x9),(10,x10),(11,x11),(12,x12),(13,x13),(14,x14),(15,x15),(16,x16),(17,x17),(18,x18),(19,x19)]=true:=rfl
theorem parts_21 (x0 x1 x2 x3 x4 x5 x6 x7 x8 x9 x10 x11 x12 x13 x14 x15 x16 x17 x18 x19 x20:Operand):partsOk 21 [(0,x0),(1,x1),(2,x2),(3,x3),(4,x4),(5,x5),(6,x6),(7,x7),(8,x8),(9,x9),(10,x10),(11,x11),(12,x12),(13,x13),(14,x14),(15,x15),(16,x16),(17,x17),(18,x18),(19,x19),(20,x20)]=true:=rfl
theorem parts_22 (x0 x1 x2 x3 x4 x5 x6 x7 x8 x9 x10 x11 x12 x13 x14 x15 x16 x17 x18 x19 x20 x21:Operand):partsOk 22 [(0,x0),(1,x1),(2,x2),(3,x3),(4,x4),(5,x5),(6,x6),(7,x7),(8,x8),(9,x9),(10,x10),(11,x11),(12,x12),(13,x13),(14,x14),(15,x15),(16,x16),(17,x17),(18,x18),(19,x19),(20,x20),(21,x21)]=true:=rfl
theorem parts_23 (x0 x1 x2 x3 x4 x5 x6 x7 x8 x9 x10 x11 x12 x13 x14 x15 x16 x17 x18 x19 x20 x21 x22:Operand):partsOk 23 [(0,x0),(1,x1),(2,x2),(3,x3),(4,x4),(5,x5),(6,x6),(7,x7),(8,x8),(9,x9),(10,x10),(11,x11),(12,x12),(13,x13),(14,x14),(15,x15),(16,x16),(17,x17),(18,x18),(19,x19),(20,x20),(21,x21),(22,x22)]=true:=rfl
theorem parts_24 (x0 x1 x2 x3 x4 x5 x6 x7 x8 x9 x10 x11 x12 x13 x14 x15 x16 x17 x18 x19 x20 x21 x22 x23:Operand):partsOk 24 [(0,x0),(1,x1),(2,x2),(3,x3),(4,x4),(5,x5),(6,x6),(7,x7),(8,x8),(9,x9),(10,x10),(11,x11),(12,x12),(13,x13),(14,x14),(15,x15),(16,x16),(17,x17),(18,x18),(19,x19),(20,x20),(21,x21),(22,x22),(23,x23)]=true:=rfl
theorem parts_25 (x0 x1 x2 x3 x4 x5 x6 x7 x8 x9 x10 x11 x12 x13 x14 x15 x16 x17 x18 x19 x20 x21 x22 x23 x24:Operand):partsOk 25 [(0,x0),(1,x1),(2,x2),(3,x3),(4,x4),(5,x5),(6,x6),(7,x7),(8,x8),(9,x9),(10,x10),(11,x11),(12,x12),(13,x13),(14,x14),(15,x15),(16,x16),(17,x17),(18,x18),(19,x19),(20,x20),(21,x21),(22,x22),(23,x23),(24,x24)]=true:=rfl
theorem all_cons {α:Type} {p:α->Prop} {x:α} {l:List α}:(∀y∈x::l,p y)=(p x/\∀y∈l,p y):=by simp
theorem all_nil {α:Type} {p:α->Prop}:(∀y∈([]:List α),p y)=True:=by simp
theorem mem_natC {a b:Nat} {l:List Nat}:(a∈b::l)=(a=b\/a∈l):=by simp
theorem mem_natN {a:Nat}:(a∈([]:List Nat))=False:=by simp
theorem all_ints {l:List Int}:(∀y∈ints l,y.cells.length=1)=True:=eq_true ints_cells
theorem all_rows {l:List (List Int)}:(∀y∈rows l,y.cells.length=1)=True:=eq_true rows_cells
theorem all_app {α:Type} {p:α->Prop} {l r:List α}:(∀y∈l++r,p y)=((∀y∈l,p y)/\∀y∈r,p y):=by
 apply propext;simp only[List.mem_append];constructor
 ·intro h;exact⟨fun y hy=>h y (.inl hy),fun y hy=>h y (.inr hy)⟩
 ·rintro⟨h1,h2⟩ y (hy|hy)
  ·exact h1 y hy
  ·exact h2 y hy
theorem PE_nilT:PE []=True:=eq_true PE_nil
theorem PE_intsT (l:List Int):PE (ints l)=True:=eq_true (PE_ints l)
theorem PE_rowsT (l:List (List Int)):PE (rows l)=True:=eq_true (PE_rows l)
theorem PC_lit (v:Value):PC (.lit v)=True:=rfl
theorem PC_gl (n:Nat):PC (.gl n)=True:=rfl
theorem PC_slF (es:List AV):PC (.sl es false)=True:=eq_true rfl
theorem PE_consT (e:AV) (es:List AV):PE (e::es)=((∀c∈e.cells,PC c)/\PE es):=propext PE_cons
theorem PE_appendT (es fs:List AV):PE (es++fs)=(PE es/\PE fs):=propext PE_append
theorem PE_dropT (es:List AV) (n:Nat) (h:PE es):PE (es.drop n)=True:=eq_true (h.drop n)
theorem PE_takeT (es:List AV) (n:Nat) (h:PE es):PE (es.take n)=True:=eq_true (h.take n)
theorem ints_set {l:List Int} {j:Nat} {v:Int}:(ints l).set j (.lit (.int .i64 v))=ints (l.set j v):=by simp[ints,List.map_set,I]
theorem ints_snoc {l:List Int} {v:Int}:ints l++[.lit (.int .i64 v)]=ints (l++[v]):=by simp[ints]
theorem ints_take {l:List Int} {n:Nat}:(ints l).take n=ints (l.take n):=by simp[ints]
theorem rows_snoc {l:List (List Int)} {v:List Int}:rows l++[.sl (ints v) false]=rows (l++[v]):=by simp[rows]
section
variable {C:Cx} {T:Tab} {s:St} {r:AV}
theorem awp_region_drawR {id:Nat} {l:List Oper} {Q:Exit->St->Prop} (hC:COk C T) (hm:C.P.follows .mixedOrders=true)
  (hs:slotOk l=true) (hd:(l.all fun o=>decide (o.dst.getD 0<C.N))=true)
  (h:∀K:St->Prop,(∀s',Q .normal s'->K s')->awpDr C.P T l l s [] (fun s' rs=>conf (masks l []) rs=true/\K s')):awp C (.region id l.toArray true) Q s:=
 awp_region_draw hC hm hs hd h
theorem condT {c:Operand} {x y:Code} {Q:Exit->St->Prop} (hc:s.ev c= .lit (.bool true)) (ht:awp C x Q s):awp C (.cond c x y) Q s:=
 awp_cond true hc (fun _=>ht) (fun h=>by cases h)
theorem condF {c:Operand} {x y:Code} {Q:Exit->St->Prop} (hc:s.ev c= .lit (.bool false)) (ht:awp C y Q s):awp C (.cond c x y) Q s:=
 awp_cond false hc (fun h=>by cases h) (fun _=>ht)
theorem nm_nil:NmOk []:=⟨List.nodup_nil,List.nodup_nil⟩
theorem ret1 {a:Nat} (h1:rntP true [] s.hp (tget s.tm a)) (h2:rnt true [] s.hp (tget s.tm a)=r):∃σ D,RetG T [.tmp a] σ D [] r s:=
 ⟨[],_,trivial,nm_nil,nofun,trivial,nofun,h1,fun _ h=>h,fun _ _=>rfl,h2,rfl⟩
theorem retN {rs:List ResultVar} (h0:(retAV T s rs).1) (h1:rntP true [] s.hp (retAV T s rs).2) (h2:rnt true [] s.hp (retAV T s rs).2=r):∃σ D,RetG T rs σ D [] r s:=
 ⟨[],_,h0,nm_nil,nofun,trivial,nofun,h1,fun _ h=>h,fun _ _=>rfl,h2,rfl⟩
theorem retG {rs:List ResultVar} {hp':Hp} (σ:Nm) (h0:(retAV T s rs).1) (hn1:(σ.map (·.1)).Nodup) (hn2:(σ.map (·.2.2.1)).Nodup) (hg:∀q∈σ,(q.2.1=0/\q.2.2.1=q.1/\q.2.2.2=0)\/q.2.1=1)
  (hP:rnHP true σ s.hp σ) (h1:rntP true σ s.hp (retAV T s rs).2) (hd:∀d∈rnHR true σ s.hp σ++rntR true σ s.hp (retAV T s rs).2,lk σ d=none)
  (h2:rnt true σ s.hp (retAV T s rs).2=r) (h3:rnH true σ s.hp=hp'):∃σ D,RetG T rs σ D hp' r s:=
 ⟨σ,_,h0,⟨hn1,hn2⟩,hg,hP,fun _ h=>List.mem_append_left _ h,h1,fun _ h=>List.mem_append_right _ h,hd,h2,h3⟩
section
variable {P:Program} {f:FuncId} {g:Nat} {hp:Hp} {vs:List AV} {rc:AV} {K:AV->List Up->List Nat->Prop}
def ShP (τ:Nm) (hp:Hp):List AV->Prop
 |[]=>True
 |v::vs=>rntP true τ hp v/\ShP τ hp vs
theorem ShP.all {τ:Nm} {hp:Hp}:∀{vs:List AV},ShP τ hp vs->∀v∈vs,rntP true τ hp v
 |[],_,v,hv=>by cases hv
 |u::us,h,v,hv=>by
  rcases List.mem_cons.1 hv with rfl|hv
  ·exact h.1
  ·exact ShP.all h.2 v hv
theorem callG (τ σ:Nm) (keep:Bool) {hp1:Hp} (hn1:(τ.map (·.1)).Nodup) (hn2:(τ.map (·.2.2.1)).Nodup) (hg:∀q∈τ,q.2.1=0) (hP:rnHP true τ hp τ) (hs:ShP τ hp vs)
  (hd:∀d∈rnHR true τ hp τ++vs.flatMap (rntR true τ hp),lk τ d=none) (h:SatG P T f (rnH true τ hp) (vs.map (rnt true τ hp)) hp1 rc)
  (hm1:(σ.map (·.1)).Nodup) (hm2:(σ.map (·.2.2.1)).Nodup) (hgs:∀q∈σ,(q.2.2.2=0/\(q.2.2.1,0,q.1,q.2.1)∈τ)\/(q.2.2.2=1/\q.2.1=g))
  (hbP:rnHP false σ hp1 σ) (hbR:rnHR false σ hp1 σ=[]) (hrP:rntP false σ hp1 rc) (hrR:rntR false σ hp1 rc=[])
  (ht1:trH keep (touched τ σ (rnHR true τ hp τ++vs.flatMap (rntR true τ hp)) keep) (rnH false σ hp1)) (ht2:trt keep (touched τ σ (rnHR true τ hp τ++vs.flatMap (rntR true τ hp)) keep) (rnt false σ hp1 rc))
  (hK:K (rnt false σ hp1 rc) (rnH false σ hp1++drops ((touched τ σ (rnHR true τ hp τ++vs.flatMap (rntR true τ hp)) keep).filter fun i=>!(σ.map (·.1)).contains i)) (τ.map (·.2.2.1)++(rnHR true τ hp τ++vs.flatMap (rntR true τ hp)))):CallK P T f g hp vs K:=
 ⟨τ,σ,_,keep,hp1,rc,⟨⟨hn1,hn2⟩,hg,hP,fun _ h=>List.mem_append_left _ h,hs.all,fun v hv d hd=>List.mem_append_right _ (List.mem_flatMap.2 ⟨v,hv,hd⟩),hd,h,⟨hm1,hm2⟩,hgs,hbP,
  fun d hd=>(by rw[hbR] at hd;cases hd),hrP,fun d hd=>(by rw[hrR] at hd;cases hd),ht1,ht2⟩,hK⟩
theorem callF (hs:ShP [] hp vs) (h:SatG P T f [] (vs.map (rnt true [] hp)) [] rc) (hrP:rntP false [] [] rc) (hrR:rntR false [] [] rc=[]) (ht:trt true [] (rnt false [] [] rc))
  (hK:K (rnt false [] [] rc) [] (vs.flatMap (rntR true [] hp))):CallK P T f g hp vs K:=
 callG [] [] true List.nodup_nil List.nodup_nil nofun trivial hs (fun _ _=>rfl) h List.nodup_nil List.nodup_nil nofun trivial rfl hrP hrR trivial ht hK
theorem filter_all (l:List Nat):(l.filter fun i=>!([]:List Nat).contains i)=l:=by simp
theorem callP (hs:ShP [] hp vs) (h:SatG P T f [] (vs.map (rnt true [] hp)) [] rc) (hrP:rntP false [] [] rc) (hrR:rntR false [] [] rc=[]) (ht:trt false (vs.flatMap (rntR true [] hp)) (rnt false [] [] rc))
  (hK:K (rnt false [] [] rc) (drops (vs.flatMap (rntR true [] hp))) (vs.flatMap (rntR true [] hp))):CallK P T f g hp vs K:=
 callG [] [] false List.nodup_nil List.nodup_nil nofun trivial hs (fun _ _=>rfl) h List.nodup_nil List.nodup_nil nofun trivial rfl hrP hrR trivial ht (by
  have e1:(touched [] [] (rnHR true [] hp []++vs.flatMap (rntR true [] hp)) false).filter (fun i=>!(([]:Nm).map (·.1)).contains i)=vs.flatMap (rntR true [] hp):=filter_all _
  rw[e1]
  exact hK)
theorem callL {id ga:Nat} {cs cs':List AV} (hg:hp.get id=some (ga, .box cs))
  (h:SatG P T f [(0,some (0, .box (cs.map (rnB true [(0,0,id,ga)] hp))))] (.ptO 0 0 0 0 0::vs.map (rnt true [(0,0,id,ga)] hp)) [(0,some (0, .box cs'))] rc)
  (hs:(∀c∈cs,rnBP true [(0,0,id,ga)] hp c)/\ShP [(0,0,id,ga)] hp vs)
  (hd:∀d∈cs.flatMap (rnBR true [(0,0,id,ga)] hp)++vs.flatMap (rntR true [(0,0,id,ga)] hp),id≠d)
  (hb:(∀c∈cs',rnBP false [(id,ga,0,0)] [(0,some (0, .box cs'))] c)/\rntP false [(id,ga,0,0)] [(0,some (0, .box cs'))] rc)
  (hr:cs'.flatMap (rnBR false [(id,ga,0,0)] [(0,some (0, .box cs'))])=[]/\rntR false [(id,ga,0,0)] [(0,some (0, .box cs'))] rc=[])
  (ht:(∀c∈cs'.map (rnB false [(id,ga,0,0)] [(0,some (0, .box cs'))]),trA false [id] c)/\trt false [id] (rnt false [(id,ga,0,0)] [(0,some (0, .box cs'))] rc))
  (hK:K (rnt false [(id,ga,0,0)] [(0,some (0, .box cs'))] rc) ((id,some (ga, .box (cs'.map (rnB false [(id,ga,0,0)] [(0,some (0, .box cs'))]))))::drops (cs.flatMap (rnBR true [(0,0,id,ga)] hp)++vs.flatMap (rntR true [(0,0,id,ga)] hp)))
   (id::(cs.flatMap (rnBR true [(0,0,id,ga)] hp)++vs.flatMap (rntR true [(0,0,id,ga)] hp)))):CallK P T f g hp (.ptO id ga 0 0 0::vs) K:=by
 have e1:rnHR true [(0,0,id,ga)] hp [(0,0,id,ga)]=cs.flatMap (rnBR true [(0,0,id,ga)] hp):=by simp only[rnHR,hg,rnOR,List.append_nil]
 have e2:rntR true [(0,0,id,ga)] hp (.ptO id ga 0 0 0)=[]:=by simp[rntR,rnvR,AV.cells,rnBR,rnAR,lk]
 have e3:rnt true [(0,0,id,ga)] hp (.ptO id ga 0 0 0)= .ptO 0 0 0 0 0:=by simp[rnt,rnv,mapc,rnB,rnA,lk]
 have e4:rnH true [(0,0,id,ga)] hp=[(0,some (0, .box (cs.map (rnB true [(0,0,id,ga)] hp))))]:=by simp[rnH,hg,rnO]
 have e5:rnH false [(id,ga,0,0)] [(0,some (0, .box cs'))]=[(id,some (ga, .box (cs'.map (rnB false [(id,ga,0,0)] [(0,some (0, .box cs'))]))))]:=by simp[rnH,Hp.get,rnO]
 have e6:rnHR false [(id,ga,0,0)] [(0,some (0, .box cs'))] [(id,ga,0,0)]=[]:=by simp only[rnHR,Hp.get,if_true,rnOR,hr.1,List.append_nil]
 generalize hD:cs.flatMap (rnBR true [(0,0,id,ga)] hp)++vs.flatMap (rntR true [(0,0,id,ga)] hp)=D at hd hK
 have e7:rnHR true [(0,0,id,ga)] hp [(0,0,id,ga)]++(AV.ptO id ga 0 0 0::vs).flatMap (rntR true [(0,0,id,ga)] hp)=D:=by rw[List.flatMap_cons,e1,e2,List.nil_append,hD]
 have e8:(touched [(0,0,id,ga)] [(id,ga,0,0)] D false).filter (fun i=>!(([(id,ga,0,0)]:Nm).map (·.1)).contains i)=D:=by
  simp only[touched,List.map_cons,List.map_nil,Bool.false_eq_true,if_false,List.cons_append,List.nil_append]
  have h1:∀d∈D,(!([id]:List Nat).contains d)=true:=fun d hd'=>by
   have:=hd d hd'
   simp[Ne.symm this]
  simp only[List.filter_cons]
  rw[List.filter_eq_self.2 h1]
  simp
 have tmono:∀c,trA false [id] c->trA false (touched [(0,0,id,ga)] [(id,ga,0,0)] D false) c:=by
  have hm:∀x,x∈[id]->x∈touched [(0,0,id,ga)] [(id,ga,0,0)] D false:=fun x hx=>by
   simp only[List.mem_singleton] at hx;subst hx;simp[touched]
  intro c h
  cases c with
  |slO=>exact hm _ h
  |ptO=>exact hm _ h
  |fn f cs=>
   refine⟨rfl,fun c hc=>?_⟩
   have:=h.2 c hc
   cases c with
   |slO=>exact hm _ this
   |ptO=>exact hm _ this
   |_=>exact this
  |_=>exact h
 refine callG [(0,0,id,ga)] [(id,ga,0,0)] false (hp1:=[(0,some (0, .box cs'))]) (by simp) (by simp) (by simp) ?_ ?_ ?_ ?_ (by simp) (by simp) (by simp) ?_ e6 hb.2 hr.2 ?_ ?_ ?_
 ·simp only[rnHP,hg,rnOP,and_true,true_and];exact hs.1
 ·refine⟨?_,hs.2⟩
  simp[rntP,rnvP,AV.cells,rnBP,rnAP,lk]
 ·rw[e7]
  intro d hd'
  simp only[lk,if_neg (hd d hd')]
 ·rw[e4,List.map_cons,e3];exact h
 ·simp only[rnHP,Hp.get,if_true,rnOP,and_true,true_and];exact hb.1
 ·rw[e7,e5]
  refine⟨fun c hc=>tmono c (ht.1 c hc),trivial⟩
 ·rw[e7]
  have h2:=ht.2
  generalize rnt false [(id,ga,0,0)] [(0,some (0,Ob.box cs'))] rc=v at h2
  cases v with
  |tup vs=>exact fun u hu c hc=>tmono c (h2 u hu c hc)
  |_=>exact fun c hc=>tmono c (h2 c hc)
 ·rw[e7,e5,e8];exact hK
theorem retB1 {a:Nat} {cs cs':List AV} (hg:s.hp.get 0=some (0, .box cs)) (h1:(∀c∈cs,rnBP true [(0,0,0,0)] s.hp c)/\rntP true [(0,0,0,0)] s.hp (tget s.tm a))
  (hd:∀d∈cs.flatMap (rnBR true [(0,0,0,0)] s.hp)++rntR true [(0,0,0,0)] s.hp (tget s.tm a),0≠d) (h2:rnt true [(0,0,0,0)] s.hp (tget s.tm a)=r) (h3:cs.map (rnB true [(0,0,0,0)] s.hp)=cs'):
  ∃σ D,RetG T [.tmp a] σ D [(0,some (0, .box cs'))] r s:=by
 have e1:rnHR true [(0,0,0,0)] s.hp [(0,0,0,0)]=cs.flatMap (rnBR true [(0,0,0,0)] s.hp):=by simp only[rnHR,hg,rnOR,List.append_nil]
 have e4:rnH true [(0,0,0,0)] s.hp=[(0,some (0, .box (cs.map (rnB true [(0,0,0,0)] s.hp))))]:=by simp[rnH,hg,rnO]
 refine retG [(0,0,0,0)] trivial (by simp) (by simp) (by simp) ?_ h1.2 ?_ h2 (by rw[e4,h3])
 ·simp only[rnHP,hg,rnOP,and_true,true_and];exact h1.1
 ·rw[e1]
  intro d hd'
  have:=hd d hd'
  simp only[lk,if_neg this]
end
end
attribute [go_sem] cells_lit cells_sl cells_kid cells_ptI cells_gl cells_bad cells_slO cells_ptO cells_fn cells_agg cells_tup cells_ifn cells_bfn cells_mpO one_lit noKid_lit one_sl noKid_sl one_kid noKid_kid one_ptI noKid_ptI one_gl noKid_gl one_bad noKid_bad one_slO noKid_slO one_ptO noKid_ptO one_fn noKid_fn one_agg noKid_agg one_tup noKid_tup one_ifn noKid_ifn one_bfn noKid_bfn one_mpO noKid_mpO mapc_lit mapc_sl mapc_kid mapc_ptI mapc_gl mapc_bad mapc_slO mapc_ptO mapc_fn mapc_agg mapc_tup mapc_ifn mapc_bfn mapc_mpO fz0_lit fzP0_lit fzR0_lit fz0_sl fzP0_sl fzR0_sl fz0_kid fzP0_kid fzR0_kid fz0_ptI fzP0_ptI fzR0_ptI fz0_gl fzP0_gl fzR0_gl fz0_bad fzP0_bad fzR0_bad fz0_slO fzP0_slO fzR0_slO fz0_ptO fzP0_ptO fzR0_ptO fz0_fn fzP0_fn fzR0_fn fz0_agg fzP0_agg fzR0_agg fz0_tup fzP0_tup fzR0_tup fz0_ifn fzP0_ifn fzR0_ifn fz0_bfn fzP0_bfn fzR0_bfn fz0_mpO fzP0_mpO fzR0_mpO fz1_lit fzP1_lit fzR1_lit fz1_sl fzP1_sl fzR1_sl fz1_kid fzP1_kid fzR1_kid fz1_ptI fzP1_ptI fzR1_ptI fz1_gl fzP1_gl fzR1_gl fz1_bad fzP1_bad fzR1_bad fz1_slO fzP1_slO fzR1_slO fz1_ptO fzP1_ptO fzR1_ptO fz1_fn fzP1_fn fzR1_fn fz1_agg fzP1_agg fzR1_agg fz1_tup fzP1_tup fzR1_tup fz1_ifn fzP1_ifn fzR1_ifn fz1_bfn fzP1_bfn fzR1_bfn fz1_mpO fzP1_mpO fzR1_mpO fz2_lit fzP2_lit fzR2_lit fz2_sl fzP2_sl fzR2_sl fz2_kid fzP2_kid fzR2_kid fz2_ptI fzP2_ptI fzR2_ptI fz2_gl fzP2_gl fzR2_gl fz2_bad fzP2_bad fzR2_bad fz2_slO fzP2_slO fzR2_slO fz2_ptO fzP2_ptO fzR2_ptO fz2_fn fzP2_fn fzR2_fn fz2_agg fzP2_agg fzR2_agg fz2_tup fzP2_tup fzR2_tup fz2_ifn fzP2_ifn fzR2_ifn fz2_bfn fzP2_bfn fzR2_bfn fz2_mpO fzP2_mpO fzR2_mpO fz3_lit fzP3_lit fzR3_lit fz3_sl fzP3_sl fzR3_sl fz3_kid fzP3_kid fzR3_kid fz3_ptI fzP3_ptI fzR3_ptI fz3_gl fzP3_gl fzR3_gl fz3_bad fzP3_bad fzR3_bad fz3_slO fzP3_slO fzR3_slO fz3_ptO fzP3_ptO fzR3_ptO fz3_fn fzP3_fn fzR3_fn fz3_agg fzP3_agg fzR3_agg fz3_tup fzP3_tup fzR3_tup fz3_ifn fzP3_ifn fzR3_ifn fz3_bfn fzP3_bfn fzR3_bfn fz3_mpO fzP3_mpO fzR3_mpO fz4_lit fzP4_lit fzR4_lit fz4_sl fzP4_sl fzR4_sl fz4_kid fzP4_kid fzR4_kid fz4_ptI fzP4_ptI fzR4_ptI fz4_gl fzP4_gl fzR4_gl fz4_bad fzP4_bad fzR4_bad fz4_slO fzP4_slO fzR4_slO fz4_ptO fzP4_ptO fzR4_ptO fz4_fn fzP4_fn fzR4_fn fz4_agg fzP4_agg fzR4_agg fz4_tup fzP4_tup fzR4_tup fz4_ifn fzP4_ifn fzR4_ifn fz4_bfn fzP4_bfn fzR4_bfn fz4_mpO fzP4_mpO fzR4_mpO fzk_lit fzkP_lit fzkR_lit fzk_sl fzkP_sl fzkR_sl fzk_kid fzkP_kid fzkR_kid fzk_ptI fzkP_ptI fzkR_ptI fzk_gl fzkP_gl fzkR_gl fzk_bad fzkP_bad fzkR_bad fzk_slO fzkP_slO fzkR_slO fzk_ptO fzkP_ptO fzkR_ptO fzk_fn fzkP_fn fzkR_fn fzk_agg fzkP_agg fzkR_agg fzk_tup fzkP_tup fzkR_tup fzk_ifn fzkP_ifn fzkR_ifn fzk_bfn fzkP_bfn fzkR_bfn fzk_mpO fzkP_mpO fzkR_mpO fzt_lit fztP_lit fztR_lit fzt_sl fztP_sl fztR_sl fzt_kid fztP_kid fztR_kid fzt_ptI fztP_ptI fztR_ptI fzt_gl fztP_gl fztR_gl fzt_bad fztP_bad fztR_bad fzt_slO fztP_slO fztR_slO fzt_ptO fztP_ptO fztR_ptO fzt_fn fztP_fn fztR_fn fzt_agg fztP_agg fztR_agg fzt_tup fztP_tup fztR_tup fzt_ifn fztP_ifn fztR_ifn fzt_bfn fztP_bfn fztR_bfn fzt_mpO fztP_mpO fztR_mpO att_lit attP_lit attR_lit att_sl attP_sl attR_sl att_kid attP_kid attR_kid att_ptI attP_ptI attR_ptI att_gl attP_gl attR_gl att_bad attP_bad attR_bad att_slO attP_slO attR_slO att_ptO attP_ptO attR_ptO att_fn attP_fn attR_fn att_agg attP_agg attR_agg att_tup attP_tup attR_tup att_ifn attP_ifn attR_ifn att_bfn attP_bfn attR_bfn att_mpO attP_mpO attR_mpO srcE_lit srcP_lit srcR_lit srcE_sl srcP_sl srcR_sl srcE_kid srcP_kid srcR_kid srcE_ptI srcP_ptI srcR_ptI srcE_gl srcP_gl srcR_gl srcE_bad srcP_bad srcR_bad srcE_slO srcP_slO srcR_slO srcE_ptO srcP_ptO srcR_ptO srcE_fn srcP_fn srcR_fn srcE_agg srcP_agg srcR_agg srcE_tup srcP_tup srcR_tup srcE_ifn srcP_ifn srcR_ifn srcE_bfn srcP_bfn srcR_bfn srcE_mpO srcP_mpO srcR_mpO ids3_lit ids2_lit ids1_lit ids0_lit ids3_sl ids2_sl ids1_sl ids0_sl ids3_kid ids2_kid ids1_kid ids0_kid ids3_ptI ids2_ptI ids1_ptI ids0_ptI ids3_gl ids2_gl ids1_gl ids0_gl ids3_bad ids2_bad ids1_bad ids0_bad ids3_slO ids2_slO ids1_slO ids0_slO ids3_ptO ids2_ptO ids1_ptO ids0_ptO ids3_fn ids2_fn ids1_fn ids3_agg ids2_agg ids3_tup ids3_ifn ids2_ifn ids1_ifn ids0_ifn ids3_bfn ids2_bfn ids1_bfn ids3_mpO ids2_mpO ids1_mpO ids0_mpO rnAT_lit rnAPT_lit rnART_lit rnBT_lit rnBPT_lit rnBRT_lit rnKT_lit rnKPT_lit rnKRT_lit rntT_lit rntPT_lit rntRT_lit rnAT_sl rnAPT_sl rnART_sl rnBT_sl rnBPT_sl rnBRT_sl rnKT_sl rnKPT_sl rnKRT_sl rntT_sl rntPT_sl rntRT_sl rnAT_kid rnAPT_kid rnART_kid rnBT_kid rnBPT_kid rnBRT_kid rnKT_kid rnKPT_kid rnKRT_kid rntT_kid rntPT_kid rntRT_kid rnAT_ptI rnAPT_ptI rnART_ptI rnBT_ptI rnBPT_ptI rnBRT_ptI rnKT_ptI rnKPT_ptI rnKRT_ptI rntT_ptI rntPT_ptI rntRT_ptI rnAT_gl rnAPT_gl rnART_gl rnBT_gl rnBPT_gl rnBRT_gl rnKT_gl rnKPT_gl rnKRT_gl rntT_gl rntPT_gl rntRT_gl rnAT_bad rnAPT_bad rnART_bad rnBT_bad rnBPT_bad rnBRT_bad rnKT_bad rnKPT_bad rnKRT_bad rntT_bad rntPT_bad rntRT_bad rnAT_slO rnAPT_slO rnART_slO rnBT_slO rnBPT_slO rnBRT_slO rnKT_slO rnKPT_slO rnKRT_slO rntT_slO rntPT_slO rntRT_slO rnAT_ptO rnAPT_ptO rnART_ptO rnBT_ptO rnBPT_ptO rnBRT_ptO rnKT_ptO rnKPT_ptO rnKRT_ptO rntT_ptO rntPT_ptO rntRT_ptO rnAT_fn rnAPT_fn rnART_fn rnBT_fn rnBPT_fn rnBRT_fn rnKT_fn rnKPT_fn rnKRT_fn rntT_fn rntPT_fn rntRT_fn rnAT_agg rnAPT_agg rnART_agg rnBT_agg rnBPT_agg rnBRT_agg rnKT_agg rnKPT_agg rnKRT_agg rntT_agg rntPT_agg rntRT_agg rnAT_tup rnAPT_tup rnART_tup rnBT_tup rnBPT_tup rnBRT_tup rnKT_tup rnKPT_tup rnKRT_tup rntT_tup rntPT_tup rntRT_tup rnAT_ifn rnAPT_ifn rnART_ifn rnBT_ifn rnBPT_ifn rnBRT_ifn rnKT_ifn rnKPT_ifn rnKRT_ifn rntT_ifn rntPT_ifn rntRT_ifn rnAT_bfn rnAPT_bfn rnART_bfn rnBT_bfn rnBPT_bfn rnBRT_bfn rnKT_bfn rnKPT_bfn rnKRT_bfn rntT_bfn rntPT_bfn rntRT_bfn rnAT_mpO rnAPT_mpO rnART_mpO rnBT_mpO rnBPT_mpO rnBRT_mpO rnKT_mpO rnKPT_mpO rnKRT_mpO rntT_mpO rntPT_mpO rntRT_mpO rnAF_lit rnAPF_lit rnARF_lit rnBF_lit rnBPF_lit rnBRF_lit rnKF_lit rnKPF_lit rnKRF_lit rntF_lit rntPF_lit rntRF_lit rnAF_sl rnAPF_sl rnARF_sl rnBF_sl rnBPF_sl rnBRF_sl rnKF_sl rnKPF_sl rnKRF_sl rntF_sl rntPF_sl rntRF_sl rnAF_kid rnAPF_kid rnARF_kid rnBF_kid rnBPF_kid rnBRF_kid rnKF_kid rnKPF_kid rnKRF_kid rntF_kid rntPF_kid rntRF_kid rnAF_ptI rnAPF_ptI rnARF_ptI rnBF_ptI rnBPF_ptI rnBRF_ptI rnKF_ptI rnKPF_ptI rnKRF_ptI rntF_ptI rntPF_ptI rntRF_ptI rnAF_gl rnAPF_gl rnARF_gl rnBF_gl rnBPF_gl rnBRF_gl rnKF_gl rnKPF_gl rnKRF_gl rntF_gl rntPF_gl rntRF_gl rnAF_bad rnAPF_bad rnARF_bad rnBF_bad rnBPF_bad rnBRF_bad rnKF_bad rnKPF_bad rnKRF_bad rntF_bad rntPF_bad rntRF_bad rnAF_slO rnAPF_slO rnARF_slO rnBF_slO rnBPF_slO rnBRF_slO rnKF_slO rnKPF_slO rnKRF_slO rntF_slO rntPF_slO rntRF_slO rnAF_ptO rnAPF_ptO rnARF_ptO rnBF_ptO rnBPF_ptO rnBRF_ptO rnKF_ptO rnKPF_ptO rnKRF_ptO rntF_ptO rntPF_ptO rntRF_ptO rnAF_fn rnAPF_fn rnARF_fn rnBF_fn rnBPF_fn rnBRF_fn rnKF_fn rnKPF_fn rnKRF_fn rntF_fn rntPF_fn rntRF_fn rnAF_agg rnAPF_agg rnARF_agg rnBF_agg rnBPF_agg rnBRF_agg rnKF_agg rnKPF_agg rnKRF_agg rntF_agg rntPF_agg rntRF_agg rnAF_tup rnAPF_tup rnARF_tup rnBF_tup rnBPF_tup rnBRF_tup rnKF_tup rnKPF_tup rnKRF_tup rntF_tup rntPF_tup rntRF_tup rnAF_ifn rnAPF_ifn rnARF_ifn rnBF_ifn rnBPF_ifn rnBRF_ifn rnKF_ifn rnKPF_ifn rnKRF_ifn rntF_ifn rntPF_ifn rntRF_ifn rnAF_bfn rnAPF_bfn rnARF_bfn rnBF_bfn rnBPF_bfn rnBRF_bfn rnKF_bfn rnKPF_bfn rnKRF_bfn rntF_bfn rntPF_bfn rntRF_bfn rnAF_mpO rnAPF_mpO rnARF_mpO rnBF_mpO rnBPF_mpO rnBRF_mpO rnKF_mpO rnKPF_mpO rnKRF_mpO rntF_mpO rntPF_mpO rntRF_mpO trT_lit trtT_lit trT_sl trtT_sl trT_kid trtT_kid trT_ptI trtT_ptI trT_gl trtT_gl trT_bad trtT_bad trT_slO trtT_slO trT_ptO trtT_ptO trT_fn trtT_fn trT_agg trtT_agg trT_tup trtT_tup trT_ifn trtT_ifn trT_bfn trtT_bfn trT_mpO trtT_mpO trF_lit trtF_lit trF_sl trtF_sl trF_kid trtF_kid trF_ptI trtF_ptI trF_gl trtF_gl trF_bad trtF_bad trF_slO trtF_slO trF_ptO trtF_ptO trF_fn trtF_fn trF_agg trtF_agg trF_tup trtF_tup trF_ifn trtF_ifn trF_bfn trtF_bfn trF_mpO trtF_mpO rnO_own rnO_box rnOP_own rnOP_box rnOR_own rnOR_box trO_own trO_box trH_nil trH_some trH_none rnH_def isNil_tmp isNil_int isNil_bool isNil_string isNil_nil isNilI_tmp isNilI_int isNilI_bool isNilI_string isNilI_slice isNilI_nil bopI_f bopI_eql bopI_eqlN bopI_neq bopI_neqN bopB_f bopB_eql bopB_neq glob_gl glob_lit glob_sl glob_kid glob_ptI glob_bad glob_slO glob_ptO glob_fn glob_agg glob_tup glob_ifn glob_bfn glob_mpO setc_lit setc_sl setc_kid setc_ptI setc_gl setc_bad setc_slO setc_ptO setc_fn setc_agg setc_tup setc_ifn setc_bfn setc_mpO pe_fz0 pe_fzP0 pe_fzR0 pe_fz1 pe_fzP1 pe_fzR1 pe_fz2 pe_fzP2 pe_fzR2 pe_fz3 pe_fzP3 pe_fzR3 pe_fz4 pe_fzP4 pe_fzR4 pe_fzk pe_att pe_attP pe_esR pe_rnKT pe_rnKPT pe_rnKRT pe_rnKF pe_rnKPF pe_rnKRF pe_tr esR_nil esR_cons isLit_lit lits_ints trT_ints parts_0 parts_1 parts_2 parts_3 parts_4 parts_5 parts_6 parts_7 parts_8 parts_9 parts_10 parts_11 parts_12 parts_13 parts_14 parts_15 parts_16 parts_17 parts_18 parts_19 parts_20 parts_21 parts_22 parts_23 parts_24 parts_25 mem_natC mem_natN forall_eq_or_imp forall_eq all_ints all_rows all_app PE_nilT PE_intsT PE_rowsT PC_lit PC_gl PC_slF PE_consT PE_appendT PE_dropT PE_takeT ints_set ints_snoc rows_snoc
attribute [go_sem ↓] all_cons all_nil
attribute [go_sem] all_cons all_nil
open Go
attribute [go_sem] opLoadB TI.zav ZC.val GO_tt GO_tf GO_ft GO_ff GO_tup GOD_tt GOD_tf GOD_ft GOD_ff GOD_tup finO_mk finOD_mk K_move K_pick K_binOp K_makeMap K_lookup K_mapUpdate K_lookup2 K_insert K_makeFunc1 D_lookup2 D_insert D_makeFunc1 CallVO_bfn CallVOD_bfn ofV_nilI opLookup2 opMapUpdS opSliceA isStrMap sget shas Bool.or_false Bool.false_or D_makeMap D_lookup D_mapUpdate opLookup opMapUpd K_not K_neg K_nilCheck K_extract K_load K_store K_indexAddr K_fieldAddr K_field K_index K_slice K_makeFunc K_makeSlice K_buildSlice K_alloc K_box K_build K_convert K_len K_append K_copy K_clear K_min K_max D_move D_pick D_binOp D_not D_neg D_nilCheck D_extract D_load D_store D_indexAddr D_fieldAddr D_field D_index D_slice D_makeFunc D_makeSlice D_buildSlice D_alloc D_box D_build D_convert D_len D_append D_copy D_clear D_min D_max K_assignV D_assignV K_assignF K_assignC D_assignC K_call K_callV CallVO_fn D_call D_callV CallVOD_fn ev_global put_some put_none ev_tmp ev_const ev_func ofV_int ofV_bool ofV_str ofV_nil ofV_ptr ops_nil ops_cons ops_guard opsD_nil opsD_cons opsD_guard finO_mk finOD_mk gv_some GO_tt GO_tf GO_ft GO_ff GO_tup GOD_tt GOD_tf GOD_ft GOD_ff GOD_tup drops gv_some R.val tget Value.oneCell' bop bopInt bopShift bopBool bopStr bopAgg eqCs eqC arith opLen opIndexAddr opLoad ldCells opFieldAddr opField opIndex Sym.elemOf opSlice opSliceS opSliceStr opStore opAppend opCopy opClear Hp.get Hp.has lk bw glu stc dstOf QThen QBlock Option.map_some Option.map_none Option.getD_some Option.getD_none Option.bind_some List.getElem?_cons_zero List.getElem?_cons_succ List.length_cons List.length_nil List.length_map List.getD_cons_zero List.getD_cons_succ List.map_cons List.map_nil List.flatMap_cons List.flatMap_nil List.append_nil List.nil_append List.singleton_append List.cons_append Nat.le_refl if_true if_false true_and and_true Bool.false_eq_true not_false_eq_true not_true_eq_false eq_self ints_length rows_length Int.toNat_natCast evs List.take_succ_cons List.take_zero List.drop_zero List.drop_succ_cons List.drop_nil Nat.add_zero Nat.zero_add decide_true decide_false Bool.not_true Bool.not_false List.length_range List.length_set List.length_append List.length_replicate List.foldl_cons List.foldl_nil ZC.av splice List.set_cons_zero List.set_cons_succ ShP
open Go Go.Great
theorem opKD_of {P:Program} {T:Tab} {o:Oper} {s:St} {K:St->Prop} {K':AV->List Up->List Nat->Prop} (h:opK P T o s K) (hK:∀v ups acc,K (s.put o.dst v ups)->K' v ups acc):opKD P T o s K':=by
 unfold opK at h
 unfold opKD
 split at h
 ·rename_i f args at_ heq
  first|(rw[heq];simp only)|skip
  split at h
  ·rename_i fid vs hf
   obtain⟨τ,σ,D,keep,hp1,rc,h1,h2⟩:=h
   have hf':fnArgs (s.ev f) (args.toList.map s.ev)=some (fid,vs):=by simpa[evs] using hf
   rw[hf']
   exact⟨τ,σ,D,keep,hp1,rc,h1,hK _ _ _ h2⟩
  ·exact h.elim
 ·rename_i hne
  first
  |exact⟨h.1,hK _ _ _ h.2⟩
  |(split
    ·rename_i f args at_ heq
     exact(hne _ _ _ heq).elim
    ·exact⟨h.1,hK _ _ _ h.2⟩)
def tot:List Rec->Nat
 |[]=>0
 |r::rs=>r.1.length+tot rs
theorem tot_zero:∀{rs:List Rec},tot rs=0->rs.all (fun r=>r.1.isEmpty)=true
 |[],_=>rfl
 |r::rs,h=>by
  simp only[tot] at h
  rw[List.all_cons,tot_zero (by omega)]
  simp[show r.1=[] from List.length_eq_zero_iff.1 (by omega)]
theorem put_len (s:St) (d:Option Nat) (v:AV) (ups:List Up):(s.put d v ups).hp.length=ups.length+s.hp.length:=by simp[St.put]
theorem awpD_of_ops {P:Program} {T:Tab} {all:List Oper} {K:St->Prop}:∀(rest:List Oper) (s:St) (K':St->List Rec->Prop),awpOps P T all rest s K->
  (∀s' rs,s'.hp.length=s.hp.length+tot rs->K s'->K' s' rs)->awpD P T all rest s K'
 |[],s,K',h,hK=>hK s [] rfl h
 |o::rest,s,K',h,hK=>by
  unfold awpOps at h
  unfold awpD
  have step:∀v ups (acc:List Nat),awpOps P T all rest (s.put o.dst v ups) K->awpD P T all rest (s.put o.dst v ups) fun s' rs=>K' s' ((ups.map (·.1),acc)::rs):=fun v ups acc h'=>
   awpD_of_ops rest _ _ h' fun s' rs h1 h2=>hK s' _ (by rw[h1,put_len];simp[tot];omega) h2
  cases hg:o.guard with
  |none=>
   rw[hg] at h
   exact opKD_of h step
  |some q=>
   obtain⟨j,want⟩:=q
   rw[hg] at h
   simp only[GM] at h ⊢
   split at h
   ·rename_i b heq
    exact⟨fun hb=>opKD_of (h.1 hb) step,fun hb=>awpD_of_ops rest _ _ (h.2 hb) fun s' rs h1 h2=>hK s' _ (by rw[h1,put_len];simp[tot]) h2⟩
   ·rename_i heq
    exact awpD_of_ops rest _ _ h fun s' rs h1 h2=>hK s' _ (by rw[h1,put_len];simp[tot]) h2
   ·exact h.elim
theorem awp_region_still {C:Cx} {T:Tab} {id:Nat} {l:List Oper} {Q:Exit->St->Prop} {s:St} (hC:COk C T) (hm:C.P.follows .mixedOrders=true)
  (hs:slotOk l=true) (hd:(l.all fun o=>decide (o.dst.getD 0<C.N))=true)
  (h:∀K:St->Prop,(∀s',Q .normal s'->K s')->awpOps C.P T l l s (fun s'=>s'.hp.length=s.hp.length/\K s')):awp C (.region id l.toArray true) Q s:=
 awp_region_draw hC hm hs hd fun K hK=>awpD_of_ops l s _ (h K hK) fun s' rs h1 ⟨h2,h3⟩=>⟨by
  unfold conf
  rw[tot_zero (by omega),Bool.true_or],h3⟩
open Go
theorem awp_merge {C:Cx} {ι:Type} {c d:Code} {Q:Exit->St->Prop} {s:St} (inv:ι->St) (ok:ι->Prop)
  (h1:awp C c (QThen (fun s'=>∃i,ok i/\Weak s' (inv i)) Q) s) (h2:∀i,ok i->awp C d Q (inv i)):awp C c (QThen (awp C d Q) Q) s:=by
 refine awp_mono h1 fun e s' h=>?_
 cases e with
 |normal=>obtain⟨i,hi,hw⟩:=h;exact awp_weak hw (h2 i hi)
 |_=>exact h
open Go
section
variable {T:Tab} {s:St} {r:AV}
theorem retBs {rs:List ResultVar} {cs cs':List AV} (h0:(retAV T s rs).1) (hg:s.hp.get 0=some (0, .box cs)) (h1:(∀c∈cs,rnBP true [(0,0,0,0)] s.hp c)/\rntP true [(0,0,0,0)] s.hp (retAV T s rs).2)
  (hd:∀d∈cs.flatMap (rnBR true [(0,0,0,0)] s.hp)++rntR true [(0,0,0,0)] s.hp (retAV T s rs).2,0≠d) (h2:rnt true [(0,0,0,0)] s.hp (retAV T s rs).2=r) (h3:cs.map (rnB true [(0,0,0,0)] s.hp)=cs'):
  ∃σ D,RetG T rs σ D [(0,some (0, .box cs'))] r s:=by
 have e1:rnHR true [(0,0,0,0)] s.hp [(0,0,0,0)]=cs.flatMap (rnBR true [(0,0,0,0)] s.hp):=by simp only[rnHR,hg,rnOR,List.append_nil]
 have e4:rnH true [(0,0,0,0)] s.hp=[(0,some (0, .box (cs.map (rnB true [(0,0,0,0)] s.hp))))]:=by simp[rnH,hg,rnO]
 refine retG [(0,0,0,0)] h0 (by simp) (by simp) (by simp) ?_ h1.2 ?_ h2 (by rw[e4,h3])
 ·simp only[rnHP,hg,rnOP,and_true,true_and];exact h1.1
 ·rw[e1]
  intro d hd'
  have:=hd d hd'
  simp only[lk,if_neg this]
end
inductive BW (hp hp':Hp):List AV->List AV->Prop
 |nil:BW hp hp' [] []
 |same {c:AV} {cs cs':List AV}:BW hp hp' cs cs'->BW hp hp' (c::cs) (c::cs')
 |frz {c c':AV} {cs cs':List AV}:fzP 4 hp c->c'=fz 4 hp c->(∀i∈fzR 4 hp c,hp'.get i=none)->BW hp hp' cs cs'->BW hp hp' (c::cs) (c'::cs')
theorem BW.ok {hp hp':Hp} {cs cs':List AV} (h:BW hp hp' cs cs'):cs'.length=cs.length/\∀j (h:j<cs.length) (h':j<cs'.length),cs'[j]=cs[j]\/(fzP 4 hp cs[j]/\cs'[j]=fz 4 hp cs[j]/\∀i∈fzR 4 hp cs[j],hp'.get i=none):=by
 induction h with
 |nil=>exact⟨rfl,fun j h=>by simp at h⟩
 |same _ ih=>
  refine⟨by simp[ih.1],fun j h h'=>?_⟩
  cases j with
  |zero=>exact .inl rfl
  |succ j=>exact ih.2 j (by simpa using h) (by simpa using h')
 |frz h1 h2 h3 _ ih=>
  refine⟨by simp[ih.1],fun j h h'=>?_⟩
  cases j with
  |zero=>exact .inr ⟨h1,h2,h3⟩
  |succ j=>exact ih.2 j (by simpa using h) (by simpa using h')
theorem ObW.ofBW {hp hp':Hp} {cs cs':List AV} (h:BW hp hp' cs cs'):ObW hp hp' (.box cs) (.box cs'):= .box _ _ h.ok.1 h.ok.2
open Go
section
variable {t:Nat} {l:List (List Int)}
theorem krows_length:(krows t l).length=l.length:=by simp[krows]
theorem krows_snoc {r:List Int}:krows t l++[.kid t 1 (ints r)]=krows t (l++[r]):=by simp[krows]
theorem krows_set {i:Nat} {r:List Int}:(krows t l).set i (.kid t 1 (ints r))=krows t (l.set i r):=by simp[krows,List.map_set]
theorem all_krows:(∀y∈krows t l,y.cells.length=1)=True:=by
 refine eq_true fun e he=>?_
 obtain⟨x,_,rfl⟩:=List.mem_map.1 he
 rfl
theorem krows_map {f:AV->AV} {g:List Int->AV} (h:∀r,f (.kid t 1 (ints r))=g r):(krows t l).map (mapc f)=l.map g:=by
 simp only[krows,List.map_map]
 exact List.map_congr_left fun x _=>h x
theorem krows_all {f:AV->Prop} (h:∀r,f (.kid t 1 (ints r))):(∀e∈krows t l,∀c∈e.cells,f c)=True:=by
 refine eq_true fun e he c hc=>?_
 obtain⟨x,_,rfl⟩:=List.mem_map.1 he
 simp only[AV.cells,List.mem_singleton] at hc
 subst hc;exact h x
theorem krows_fm {f:AV->List Nat} (h:∀r,f (.kid t 1 (ints r))=[]):((krows t l).flatMap fun e=>e.cells.flatMap f)=[]:=by
 rw[List.flatMap_eq_nil_iff]
 intro e he
 obtain⟨x,_,rfl⟩:=List.mem_map.1 he
 simp[AV.cells,h x]
theorem krows_fz (n:Nat) (hp:Hp):(krows t l).map (mapc (fz n hp))=rows l:=krows_map fun r=>by cases n<;>rfl
theorem krows_fzP (n:Nat) (hp:Hp):(∀e∈krows t l,∀c∈e.cells,fzP n hp c)=True:=krows_all fun r=>by cases n<;>trivial
theorem krows_fzR (n:Nat) (hp:Hp):((krows t l).flatMap fun e=>e.cells.flatMap (fzR n hp))=[]:=krows_fm fun r=>by cases n<;>rfl
theorem krows_fzk (hp:Hp):(krows t l).map (mapc (fzk hp))=krows t l:=krows_map fun r=>rfl
theorem krows_rnKT (τ:Nm) (hp:Hp):(krows t l).map (mapc (rnK true τ hp))=krows t l:=krows_map fun r=>rfl
theorem krows_rnKF (τ:Nm) (hp:Hp):(krows t l).map (mapc (rnK false τ hp))=krows t l:=krows_map fun r=>rfl
theorem krows_rnKPT (τ:Nm) (hp:Hp):(∀e∈krows t l,∀c∈e.cells,rnKP true τ hp c)=True:=krows_all fun r=>trivial
theorem krows_rnKPF (τ:Nm) (hp:Hp):(∀e∈krows t l,∀c∈e.cells,rnKP false τ hp c)=True:=krows_all fun r=>trivial
theorem krows_rnKRT (τ:Nm) (hp:Hp):((krows t l).flatMap fun e=>e.cells.flatMap (rnKR true τ hp))=[]:=krows_fm fun r=>rfl
theorem krows_rnKRF (τ:Nm) (hp:Hp):((krows t l).flatMap fun e=>e.cells.flatMap (rnKR false τ hp))=[]:=krows_fm fun r=>rfl
theorem krows_esR:esR (krows t l)=[]:=by
 unfold esR
 rw[List.flatMap_eq_nil_iff]
 intro e he
 obtain⟨x,_,rfl⟩:=List.mem_map.1 he
 rfl
theorem replicate_ints {n:Nat}:List.replicate n (AV.lit (.int .i64 0))=ints (List.replicate n 0):=by simp[ints]
end
attribute [go_sem] krows_length krows_snoc krows_set all_krows krows_fz krows_fzP krows_fzR krows_fzk krows_rnKT krows_rnKF krows_rnKPT krows_rnKPF krows_rnKRT krows_rnKRF krows_esR replicate_ints
open Go
def bls (l:List Bool):List AV:=l.map B
theorem bls_length (l:List Bool):(bls l).length=l.length:=by simp[bls]
theorem PE_bls (l:List Bool):PE (bls l)=True:=by
 refine eq_true fun e he c hc=>?_
 simp only[bls,List.mem_map] at he
 obtain⟨x,_,rfl⟩:=he
 simp only[AV.cells,List.mem_singleton] at hc
 subst hc;trivial
theorem all_bls {l:List Bool}:(∀y∈bls l,y.cells.length=1)=True:=by
 refine eq_true fun e he=>?_
 simp only[bls,List.mem_map] at he
 obtain⟨x,_,rfl⟩:=he
 rfl
theorem bls_snoc {l:List Bool} {b:Bool}:bls l++[.lit (.bool b)]=bls (l++[b]):=by simp[bls]
theorem bls_set {l:List Bool} {i:Nat} {b:Bool}:(bls l).set i (.lit (.bool b))=bls (l.set i b):=by simp[bls,List.map_set]
theorem lits_bls {l:List Bool}:(∀e∈bls l,∀c∈e.cells,isLit c)=True:=by
 refine eq_true fun e he c hc=>?_
 simp only[bls,List.mem_map] at he
 obtain⟨x,_,rfl⟩:=he
 simp only[AV.cells,List.mem_singleton] at hc
 subst hc;trivial
theorem replicate_bls {n:Nat}:List.replicate n (AV.lit (.bool false))=bls (List.replicate n false):=by simp[bls]
attribute [go_sem] bls_length PE_bls all_bls bls_snoc bls_set lits_bls replicate_bls
open Go
attribute [go_sem] ne_eq or_false false_or false_imp_iff implies_true List.nodup_cons List.nodup_nil
theorem uI {a b:Prop} (h:a) (h2:b):a/\b:=⟨h,h2⟩
structure Hld (p:Prop):Prop where
 out:p
theorem uW {p q:Prop} (k:p) (h:Hld p->q:=by intro k;(repeat first|refine awp_seq ?_|refine awp_skip ?_|refine awp_block ?_);exact k.out):q:=h ⟨k⟩
theorem uS {p q:Prop} (k:p) (h:Hld p->q:=by intro k;simp only[go_sem,Nat.reduceAdd,Nat.reduceSub,Nat.reduceMul,Nat.reduceLT,Nat.reduceEqDiff,Nat.reduceBEq,Nat.reduceLeDiff,Int.reduceToNat,↓reduceIte,Int.reduceEq,Int.reduceLT,Int.reduceLE,Int.reduceAdd,Int.reduceSub,Int.reduceNeg,reduceCtorEq];exact k.out):q:=h ⟨k⟩
theorem uS1 {f p q:Prop} (z:f) (k:p) (h:f->Hld p->q:=by intro z k;simp only[go_sem,Nat.reduceAdd,Nat.reduceSub,Nat.reduceMul,Nat.reduceLT,Nat.reduceEqDiff,Nat.reduceBEq,Nat.reduceLeDiff,Int.reduceToNat,↓reduceIte,Int.reduceEq,Int.reduceLT,Int.reduceLE,Int.reduceAdd,Int.reduceSub,Int.reduceNeg,reduceCtorEq,z];exact k.out):q:=h z ⟨k⟩
theorem uRT {p:Prop} (h:p:=by simp only[go_sem,Nat.reduceAdd,Nat.reduceSub,Nat.reduceMul,Nat.reduceLT,Nat.reduceEqDiff,Nat.reduceBEq,Nat.reduceLeDiff,Int.reduceToNat,↓reduceIte,Int.reduceEq,Int.reduceLT,Int.reduceLE,Int.reduceAdd,Int.reduceSub,Int.reduceNeg,reduceCtorEq]<;>trivial):p:=h
theorem uX {p:Prop} (h:p:=by simp only[go_sem,Nat.reduceAdd,Nat.reduceSub,Nat.reduceMul,Nat.reduceLT,Nat.reduceEqDiff,Nat.reduceBEq,Nat.reduceLeDiff,Int.reduceToNat,↓reduceIte,Int.reduceEq,Int.reduceLT,Int.reduceLE,Int.reduceAdd,Int.reduceSub,Int.reduceNeg,reduceCtorEq]):p:=h
theorem uX1 {f p:Prop} (z:f) (h:f->p:=by intro z;simp only[go_sem,Nat.reduceAdd,Nat.reduceSub,Nat.reduceMul,Nat.reduceLT,Nat.reduceEqDiff,Nat.reduceBEq,Nat.reduceLeDiff,Int.reduceToNat,↓reduceIte,Int.reduceEq,Int.reduceLT,Int.reduceLE,Int.reduceAdd,Int.reduceSub,Int.reduceNeg,reduceCtorEq,z]):p:=h z
theorem uR {p q:Prop} (k:p) (h:Hld p->q:=by intro k;(repeat first|refine awp_seq ?_|refine awp_skip ?_|refine awp_block ?_);refine awp_region hC rfl fun K hK=>?_;simp only[go_sem,Nat.reduceAdd,Nat.reduceSub,Nat.reduceMul,Nat.reduceLT,Nat.reduceEqDiff,Nat.reduceBEq,Nat.reduceLeDiff,Int.reduceToNat,↓reduceIte,Int.reduceEq,Int.reduceLT,Int.reduceLE,Int.reduceAdd,Int.reduceSub,Int.reduceNeg,reduceCtorEq];revert hK;revert K;exact k.out):q:=h ⟨k⟩
theorem uD {p q:Prop} (k:p) (h:Hld p->q:=by intro k;(repeat first|refine awp_seq ?_|refine awp_skip ?_|refine awp_block ?_);refine awp_region_drawR hC (by kernel_rfl) (by kernel_rfl) rfl fun K hK=>?_;simp only[go_sem,Nat.reduceAdd,Nat.reduceSub,Nat.reduceMul,Nat.reduceLT,Nat.reduceEqDiff,Nat.reduceBEq,Nat.reduceLeDiff,Int.reduceToNat,↓reduceIte,Int.reduceEq,Int.reduceLT,Int.reduceLE,Int.reduceAdd,Int.reduceSub,Int.reduceNeg,reduceCtorEq];revert hK;revert K;exact k.out):q:=h ⟨k⟩
theorem uE {p q:Prop} (k:p) (h:Hld p->q:=by intro k;(repeat first|refine awp_seq ?_|refine awp_skip ?_|refine awp_block ?_);refine awp_region_still hC (by kernel_rfl) (by kernel_rfl) rfl fun K hK=>?_;simp only[go_sem,Nat.reduceAdd,Nat.reduceSub,Nat.reduceMul,Nat.reduceLT,Nat.reduceEqDiff,Nat.reduceBEq,Nat.reduceLeDiff,Int.reduceToNat,↓reduceIte,Int.reduceEq,Int.reduceLT,Int.reduceLE,Int.reduceAdd,Int.reduceSub,Int.reduceNeg,reduceCtorEq];revert hK;revert K;exact k.out):q:=h ⟨k⟩
theorem uA {p q:Prop} (k:p) (h:Hld p->q:=by intro k;(repeat first|refine awp_seq ?_|refine awp_skip ?_|refine awp_block ?_);refine awp_region hC rfl fun K hK=>?_;simp only[go_sem,Nat.reduceAdd,Nat.reduceSub,Nat.reduceMul,Nat.reduceLT,Nat.reduceEqDiff,Nat.reduceBEq,Nat.reduceLeDiff,Int.reduceToNat,↓reduceIte,Int.reduceEq,Int.reduceLT,Int.reduceLE,Int.reduceAdd,Int.reduceSub,Int.reduceNeg,reduceCtorEq];(repeat ((with_reducible refine And.intro ?_ ?_);focus (((repeat' apply And.intro)<;>first|omega|(simp;done)|kernel_rfl))));refine hK _ ?_;clear hK K;exact k.out):q:=h ⟨k⟩
theorem uK {p q:Prop} (k:p) (h:Hld p->q:=by intro k;(repeat first|refine awp_seq ?_|refine awp_skip ?_|refine awp_block ?_);refine awp_region_still hC (by kernel_rfl) (by kernel_rfl) rfl fun K hK=>?_;simp only[go_sem,Nat.reduceAdd,Nat.reduceSub,Nat.reduceMul,Nat.reduceLT,Nat.reduceEqDiff,Nat.reduceBEq,Nat.reduceLeDiff,Int.reduceToNat,↓reduceIte,Int.reduceEq,Int.reduceLT,Int.reduceLE,Int.reduceAdd,Int.reduceSub,Int.reduceNeg,reduceCtorEq];(repeat ((with_reducible refine And.intro ?_ ?_);focus (((repeat' apply And.intro)<;>first|omega|(simp;done)|kernel_rfl))));refine hK _ ?_;clear hK K;exact k.out):q:=h ⟨k⟩
theorem uT {p q:Prop} (k:p) (h:Hld p->q:=by intro k;(repeat first|refine awp_seq ?_|refine awp_skip ?_|refine awp_block ?_);refine condT rfl ?_;exact k.out):q:=h ⟨k⟩
theorem uF {p q:Prop} (k:p) (h:Hld p->q:=by intro k;(repeat first|refine awp_seq ?_|refine awp_skip ?_|refine awp_block ?_);refine condF rfl ?_;exact k.out):q:=h ⟨k⟩
theorem uC {p q:Prop} (k:p) (h:Hld p->q:=by intro k;(repeat first|refine awp_seq ?_|refine awp_skip ?_|refine awp_block ?_);(first|refine condT rfl ?_|refine condF rfl ?_);exact k.out):q:=h ⟨k⟩
theorem uR1 {f p q:Prop} (z:f) (k:p) (h:f->Hld p->q:=by intro z k;(repeat first|refine awp_seq ?_|refine awp_skip ?_|refine awp_block ?_);refine awp_region hC rfl fun K hK=>?_;simp only[go_sem,Nat.reduceAdd,Nat.reduceSub,Nat.reduceMul,Nat.reduceLT,Nat.reduceEqDiff,Nat.reduceBEq,Nat.reduceLeDiff,Int.reduceToNat,↓reduceIte,Int.reduceEq,Int.reduceLT,Int.reduceLE,Int.reduceAdd,Int.reduceSub,Int.reduceNeg,reduceCtorEq,z];revert hK;revert K;exact k.out):q:=h z ⟨k⟩
theorem uD1 {f p q:Prop} (z:f) (k:p) (h:f->Hld p->q:=by intro z k;(repeat first|refine awp_seq ?_|refine awp_skip ?_|refine awp_block ?_);refine awp_region_drawR hC (by kernel_rfl) (by kernel_rfl) rfl fun K hK=>?_;simp only[go_sem,Nat.reduceAdd,Nat.reduceSub,Nat.reduceMul,Nat.reduceLT,Nat.reduceEqDiff,Nat.reduceBEq,Nat.reduceLeDiff,Int.reduceToNat,↓reduceIte,Int.reduceEq,Int.reduceLT,Int.reduceLE,Int.reduceAdd,Int.reduceSub,Int.reduceNeg,reduceCtorEq,z];revert hK;revert K;exact k.out):q:=h z ⟨k⟩
theorem uA1 {f p q:Prop} (z:f) (k:p) (h:f->Hld p->q:=by intro z k;(repeat first|refine awp_seq ?_|refine awp_skip ?_|refine awp_block ?_);refine awp_region hC rfl fun K hK=>?_;simp only[go_sem,Nat.reduceAdd,Nat.reduceSub,Nat.reduceMul,Nat.reduceLT,Nat.reduceEqDiff,Nat.reduceBEq,Nat.reduceLeDiff,Int.reduceToNat,↓reduceIte,Int.reduceEq,Int.reduceLT,Int.reduceLE,Int.reduceAdd,Int.reduceSub,Int.reduceNeg,reduceCtorEq,z];(repeat ((with_reducible refine And.intro ?_ ?_);focus (((repeat' apply And.intro)<;>first|omega|(simp;done)|kernel_rfl))));refine hK _ ?_;clear hK K;exact k.out):q:=h z ⟨k⟩
theorem uK1 {f p q:Prop} (z:f) (k:p) (h:f->Hld p->q:=by intro z k;(repeat first|refine awp_seq ?_|refine awp_skip ?_|refine awp_block ?_);refine awp_region_still hC (by kernel_rfl) (by kernel_rfl) rfl fun K hK=>?_;simp only[go_sem,Nat.reduceAdd,Nat.reduceSub,Nat.reduceMul,Nat.reduceLT,Nat.reduceEqDiff,Nat.reduceBEq,Nat.reduceLeDiff,Int.reduceToNat,↓reduceIte,Int.reduceEq,Int.reduceLT,Int.reduceLE,Int.reduceAdd,Int.reduceSub,Int.reduceNeg,reduceCtorEq,z];(repeat ((with_reducible refine And.intro ?_ ?_);focus (((repeat' apply And.intro)<;>first|omega|(simp;done)|kernel_rfl))));refine hK _ ?_;clear hK K;exact k.out):q:=h z ⟨k⟩
theorem uHN {p q:Prop} (k:p) (h:Hld p->q:=by intro k;(first|refine HOk.cons rfl ?_|refine HOk.gone ?_|refine HOk.opt rfl ?_|(refine HOk.cons ?_ ?_;(focus (simp only[go_sem,Nat.reduceAdd,Nat.reduceSub,Nat.reduceMul,Nat.reduceLT,Nat.reduceEqDiff,Nat.reduceBEq,Nat.reduceLeDiff,Int.reduceToNat,↓reduceIte,Int.reduceEq,Int.reduceLT,Int.reduceLE,Int.reduceAdd,Int.reduceSub,Int.reduceNeg,reduceCtorEq];done)))|(refine HOk.less rfl (ObW.ofBW ?_) ?_;(focus ((repeat (first|exact BW.nil|refine BW.same ?_|(refine BW.frz ?_ ?_ ?_ ?_;(focus (first|exact trivial|(simp only[go_sem,Nat.reduceAdd,Nat.reduceSub,Nat.reduceMul,Nat.reduceLT,Nat.reduceEqDiff,Nat.reduceBEq,Nat.reduceLeDiff,Int.reduceToNat,↓reduceIte,Int.reduceEq,Int.reduceLT,Int.reduceLE,Int.reduceAdd,Int.reduceSub,Int.reduceNeg,reduceCtorEq]<;>trivial)));(focus (first|rfl|((simp only[go_sem,Nat.reduceAdd,Nat.reduceSub,Nat.reduceMul,Nat.reduceLT,Nat.reduceEqDiff,Nat.reduceBEq,Nat.reduceLeDiff,Int.reduceToNat,↓reduceIte,Int.reduceEq,Int.reduceLT,Int.reduceLE,Int.reduceAdd,Int.reduceSub,Int.reduceNeg,reduceCtorEq]<;>rfl);done)));(focus (first|(simp only[go_sem,Nat.reduceAdd,Nat.reduceSub,Nat.reduceMul,Nat.reduceLT,Nat.reduceEqDiff,Nat.reduceBEq,Nat.reduceLeDiff,Int.reduceToNat,↓reduceIte,Int.reduceEq,Int.reduceLT,Int.reduceLE,Int.reduceAdd,Int.reduceSub,Int.reduceNeg,reduceCtorEq];done)|((simp only[go_sem,Nat.reduceAdd,Nat.reduceSub,Nat.reduceMul,Nat.reduceLT,Nat.reduceEqDiff,Nat.reduceBEq,Nat.reduceLeDiff,Int.reduceToNat,↓reduceIte,Int.reduceEq,Int.reduceLT,Int.reduceLE,Int.reduceAdd,Int.reduceSub,Int.reduceNeg,reduceCtorEq]<;>simp);done)|(simp;done)))))));done)));exact k.out):q:=h ⟨k⟩
theorem uHN1 {f p q:Prop} (z:f) (k:p) (h:f->Hld p->q:=by intro z k;(first|refine HOk.cons rfl ?_|refine HOk.gone ?_|refine HOk.opt rfl ?_|(refine HOk.cons ?_ ?_;(focus (simp only[go_sem,Nat.reduceAdd,Nat.reduceSub,Nat.reduceMul,Nat.reduceLT,Nat.reduceEqDiff,Nat.reduceBEq,Nat.reduceLeDiff,Int.reduceToNat,↓reduceIte,Int.reduceEq,Int.reduceLT,Int.reduceLE,Int.reduceAdd,Int.reduceSub,Int.reduceNeg,reduceCtorEq,z];done)))|(refine HOk.less rfl (ObW.ofBW ?_) ?_;(focus ((repeat (first|exact BW.nil|refine BW.same ?_|(refine BW.frz ?_ ?_ ?_ ?_;(focus (first|exact trivial|(simp only[go_sem,Nat.reduceAdd,Nat.reduceSub,Nat.reduceMul,Nat.reduceLT,Nat.reduceEqDiff,Nat.reduceBEq,Nat.reduceLeDiff,Int.reduceToNat,↓reduceIte,Int.reduceEq,Int.reduceLT,Int.reduceLE,Int.reduceAdd,Int.reduceSub,Int.reduceNeg,reduceCtorEq,z]<;>trivial)));(focus (first|rfl|((simp only[go_sem,Nat.reduceAdd,Nat.reduceSub,Nat.reduceMul,Nat.reduceLT,Nat.reduceEqDiff,Nat.reduceBEq,Nat.reduceLeDiff,Int.reduceToNat,↓reduceIte,Int.reduceEq,Int.reduceLT,Int.reduceLE,Int.reduceAdd,Int.reduceSub,Int.reduceNeg,reduceCtorEq,z]<;>rfl);done)));(focus (first|(simp only[go_sem,Nat.reduceAdd,Nat.reduceSub,Nat.reduceMul,Nat.reduceLT,Nat.reduceEqDiff,Nat.reduceBEq,Nat.reduceLeDiff,Int.reduceToNat,↓reduceIte,Int.reduceEq,Int.reduceLT,Int.reduceLE,Int.reduceAdd,Int.reduceSub,Int.reduceNeg,reduceCtorEq,z];done)|((simp only[go_sem,Nat.reduceAdd,Nat.reduceSub,Nat.reduceMul,Nat.reduceLT,Nat.reduceEqDiff,Nat.reduceBEq,Nat.reduceLeDiff,Int.reduceToNat,↓reduceIte,Int.reduceEq,Int.reduceLT,Int.reduceLE,Int.reduceAdd,Int.reduceSub,Int.reduceNeg,reduceCtorEq,z]<;>simp);done)|(simp;done)))))));done)));exact k.out):q:=h z ⟨k⟩
theorem uWN {p q:Prop} (k:p) (h:Hld p->q:=by intro k;(first|refine WOk.cons rfl ?_|(refine WOk.cons ?_ ?_;(focus (simp only[go_sem,Nat.reduceAdd,Nat.reduceSub,Nat.reduceMul,Nat.reduceLT,Nat.reduceEqDiff,Nat.reduceBEq,Nat.reduceLeDiff,Int.reduceToNat,↓reduceIte,Int.reduceEq,Int.reduceLT,Int.reduceLE,Int.reduceAdd,Int.reduceSub,Int.reduceNeg,reduceCtorEq];done)))|(refine WOk.snap ?_ ?_ ?_ ?_;(focus (first|exact trivial|(simp only[go_sem,Nat.reduceAdd,Nat.reduceSub,Nat.reduceMul,Nat.reduceLT,Nat.reduceEqDiff,Nat.reduceBEq,Nat.reduceLeDiff,Int.reduceToNat,↓reduceIte,Int.reduceEq,Int.reduceLT,Int.reduceLE,Int.reduceAdd,Int.reduceSub,Int.reduceNeg,reduceCtorEq]<;>trivial)));(focus (first|rfl|((simp only[go_sem,Nat.reduceAdd,Nat.reduceSub,Nat.reduceMul,Nat.reduceLT,Nat.reduceEqDiff,Nat.reduceBEq,Nat.reduceLeDiff,Int.reduceToNat,↓reduceIte,Int.reduceEq,Int.reduceLT,Int.reduceLE,Int.reduceAdd,Int.reduceSub,Int.reduceNeg,reduceCtorEq]<;>rfl);done)));(focus (first|(simp only[go_sem,Nat.reduceAdd,Nat.reduceSub,Nat.reduceMul,Nat.reduceLT,Nat.reduceEqDiff,Nat.reduceBEq,Nat.reduceLeDiff,Int.reduceToNat,↓reduceIte,Int.reduceEq,Int.reduceLT,Int.reduceLE,Int.reduceAdd,Int.reduceSub,Int.reduceNeg,reduceCtorEq];done)|((simp only[go_sem,Nat.reduceAdd,Nat.reduceSub,Nat.reduceMul,Nat.reduceLT,Nat.reduceEqDiff,Nat.reduceBEq,Nat.reduceLeDiff,Int.reduceToNat,↓reduceIte,Int.reduceEq,Int.reduceLT,Int.reduceLE,Int.reduceAdd,Int.reduceSub,Int.reduceNeg,reduceCtorEq]<;>simp);done)|(simp;done)))));exact k.out):q:=h ⟨k⟩
theorem uWN1 {f p q:Prop} (z:f) (k:p) (h:f->Hld p->q:=by intro z k;(first|refine WOk.cons rfl ?_|(refine WOk.cons ?_ ?_;(focus (simp only[go_sem,Nat.reduceAdd,Nat.reduceSub,Nat.reduceMul,Nat.reduceLT,Nat.reduceEqDiff,Nat.reduceBEq,Nat.reduceLeDiff,Int.reduceToNat,↓reduceIte,Int.reduceEq,Int.reduceLT,Int.reduceLE,Int.reduceAdd,Int.reduceSub,Int.reduceNeg,reduceCtorEq,z];done)))|(refine WOk.snap ?_ ?_ ?_ ?_;(focus (first|exact trivial|(simp only[go_sem,Nat.reduceAdd,Nat.reduceSub,Nat.reduceMul,Nat.reduceLT,Nat.reduceEqDiff,Nat.reduceBEq,Nat.reduceLeDiff,Int.reduceToNat,↓reduceIte,Int.reduceEq,Int.reduceLT,Int.reduceLE,Int.reduceAdd,Int.reduceSub,Int.reduceNeg,reduceCtorEq,z]<;>trivial)));(focus (first|rfl|((simp only[go_sem,Nat.reduceAdd,Nat.reduceSub,Nat.reduceMul,Nat.reduceLT,Nat.reduceEqDiff,Nat.reduceBEq,Nat.reduceLeDiff,Int.reduceToNat,↓reduceIte,Int.reduceEq,Int.reduceLT,Int.reduceLE,Int.reduceAdd,Int.reduceSub,Int.reduceNeg,reduceCtorEq,z]<;>rfl);done)));(focus (first|(simp only[go_sem,Nat.reduceAdd,Nat.reduceSub,Nat.reduceMul,Nat.reduceLT,Nat.reduceEqDiff,Nat.reduceBEq,Nat.reduceLeDiff,Int.reduceToNat,↓reduceIte,Int.reduceEq,Int.reduceLT,Int.reduceLE,Int.reduceAdd,Int.reduceSub,Int.reduceNeg,reduceCtorEq,z];done)|((simp only[go_sem,Nat.reduceAdd,Nat.reduceSub,Nat.reduceMul,Nat.reduceLT,Nat.reduceEqDiff,Nat.reduceBEq,Nat.reduceLeDiff,Int.reduceToNat,↓reduceIte,Int.reduceEq,Int.reduceLT,Int.reduceLE,Int.reduceAdd,Int.reduceSub,Int.reduceNeg,reduceCtorEq,z]<;>simp);done)|(simp;done)))));exact k.out):q:=h z ⟨k⟩
theorem uHF {s:St} {a b:Hp} (h:HOk s a b:=by repeat (first|exact HOk.nil|refine uHN ?_)):HOk s a b:=h
theorem uWF {s:St} {a:Hp} {b:List (Nat×AV)} (h:WOk s a b:=by repeat (first|exact WOk.nil|refine uWN ?_)):WOk s a b:=h
theorem uHF1 {s:St} {a b:Hp} {f:Prop} (z:f) (h:f->HOk s a b:=by intro z;repeat (first|exact HOk.nil|refine uHN1 z ?_)):HOk s a b:=h z
theorem uWF1 {s:St} {a:Hp} {b:List (Nat×AV)} {f:Prop} (z:f) (h:f->WOk s a b:=by intro z;repeat (first|exact WOk.nil|refine uWN1 z ?_)):WOk s a b:=h z
theorem uKF {s s':St} (hc:s.ck<=s'.ck:=by exact Nat.le_refl _) (hh:HOk s s'.hp s'.hp:=by exact uHF) (ht:WOk s s'.hp s'.tm:=by exact uWF):Weak s s':= .of hc hh ht
theorem uTS {p:Prop} (h:p:=by first|exact trivial|(simp only[go_sem,Nat.reduceAdd,Nat.reduceSub,Nat.reduceMul,Nat.reduceLT,Nat.reduceEqDiff,Nat.reduceBEq,Nat.reduceLeDiff,Int.reduceToNat,↓reduceIte,Int.reduceEq,Int.reduceLT,Int.reduceLE,Int.reduceAdd,Int.reduceSub,Int.reduceNeg,reduceCtorEq]<;>trivial)):p:=h
theorem uTE {p:Prop} (h:p:=by first|exact trivial|exact fun _ _=>rfl|(simp only[go_sem,Nat.reduceAdd,Nat.reduceSub,Nat.reduceMul,Nat.reduceLT,Nat.reduceEqDiff,Nat.reduceBEq,Nat.reduceLeDiff,Int.reduceToNat,↓reduceIte,Int.reduceEq,Int.reduceLT,Int.reduceLE,Int.reduceAdd,Int.reduceSub,Int.reduceNeg,reduceCtorEq,rnHP,rnHR,rnOP,rnOR,rnH,rnO,touched,drops,List.mem_cons,List.mem_append,List.not_mem_nil,List.mem_singleton,List.filter_cons,List.filter_nil,List.contains_cons,List.contains_nil,forall_eq_or_imp,forall_eq,and_true,Bool.or_false,beq_self_eq_true,List.append_assoc]<;>first|trivial|(simp;done)|omega)|(simp;done)):p:=h
theorem uTR {p:Prop} (h:p:=by first|rfl|(simp only[go_sem,Nat.reduceAdd,Nat.reduceSub,Nat.reduceMul,Nat.reduceLT,Nat.reduceEqDiff,Nat.reduceBEq,Nat.reduceLeDiff,Int.reduceToNat,↓reduceIte,Int.reduceEq,Int.reduceLT,Int.reduceLE,Int.reduceAdd,Int.reduceSub,Int.reduceNeg,reduceCtorEq,rnHP,rnHR,rnOP,rnOR,rnH,rnO,touched,drops,List.mem_cons,List.mem_append,List.not_mem_nil,List.mem_singleton,List.filter_cons,List.filter_nil,List.contains_cons,List.contains_nil,forall_eq_or_imp,forall_eq,and_true,Bool.or_false,beq_self_eq_true,List.append_assoc]<;>rfl)):p:=h
theorem uQS {p q:Prop} (k:p) (h:Hld p->q:=by intro k;simp only[go_sem,Nat.reduceAdd,Nat.reduceSub,Nat.reduceMul,Nat.reduceLT,Nat.reduceEqDiff,Nat.reduceBEq,Nat.reduceLeDiff,Int.reduceToNat,↓reduceIte,Int.reduceEq,Int.reduceLT,Int.reduceLE,Int.reduceAdd,Int.reduceSub,Int.reduceNeg,reduceCtorEq,rnHP,rnHR,rnOP,rnOR,rnH,rnO,touched,drops,List.mem_cons,List.mem_append,List.not_mem_nil,List.mem_singleton,List.filter_cons,List.filter_nil,List.contains_cons,List.contains_nil,forall_eq_or_imp,forall_eq,and_true,Bool.or_false,beq_self_eq_true,List.append_assoc];exact k.out):q:=h ⟨k⟩
theorem uH {p q:Prop} (k:p) (h:Hld p->q:=by intro k;(repeat ((with_reducible refine And.intro ?_ ?_);focus (((repeat' apply And.intro)<;>first|omega|(simp;done)|kernel_rfl))));exact k.out):q:=h ⟨k⟩
theorem uRN {p q:Prop} (k:p) (h:Hld p->q:=by intro k;refine(retN (by simp only[go_sem,Nat.reduceAdd,Nat.reduceSub,Nat.reduceMul,Nat.reduceLT,Nat.reduceEqDiff,Nat.reduceBEq,Nat.reduceLeDiff,Int.reduceToNat,↓reduceIte,Int.reduceEq,Int.reduceLT,Int.reduceLE,Int.reduceAdd,Int.reduceSub,Int.reduceNeg,reduceCtorEq,retAV,resV]<;>simp) (by simp only[go_sem,Nat.reduceAdd,Nat.reduceSub,Nat.reduceMul,Nat.reduceLT,Nat.reduceEqDiff,Nat.reduceBEq,Nat.reduceLeDiff,Int.reduceToNat,↓reduceIte,Int.reduceEq,Int.reduceLT,Int.reduceLE,Int.reduceAdd,Int.reduceSub,Int.reduceNeg,reduceCtorEq,retAV,resV]<;>trivial) ?_);simp only[go_sem,Nat.reduceAdd,Nat.reduceSub,Nat.reduceMul,Nat.reduceLT,Nat.reduceEqDiff,Nat.reduceBEq,Nat.reduceLeDiff,Int.reduceToNat,↓reduceIte,Int.reduceEq,Int.reduceLT,Int.reduceLE,Int.reduceAdd,Int.reduceSub,Int.reduceNeg,reduceCtorEq,retAV,resV];exact k.out):q:=h ⟨k⟩
theorem uTG {p:Prop} (h:p:=by first|exact trivial|(simp only[go_sem,Nat.reduceAdd,Nat.reduceSub,Nat.reduceMul,Nat.reduceLT,Nat.reduceEqDiff,Nat.reduceBEq,Nat.reduceLeDiff,Int.reduceToNat,↓reduceIte,Int.reduceEq,Int.reduceLT,Int.reduceLE,Int.reduceAdd,Int.reduceSub,Int.reduceNeg,reduceCtorEq,retAV,resV,rnHP,rnHR,rnOP,rnOR]<;>first|trivial|(simp;done))):p:=h
theorem uRM {p:Prop} (h:p:=by refine(retN (by simp only[go_sem,Nat.reduceAdd,Nat.reduceSub,Nat.reduceMul,Nat.reduceLT,Nat.reduceEqDiff,Nat.reduceBEq,Nat.reduceLeDiff,Int.reduceToNat,↓reduceIte,Int.reduceEq,Int.reduceLT,Int.reduceLE,Int.reduceAdd,Int.reduceSub,Int.reduceNeg,reduceCtorEq,retAV,resV]<;>simp) (by simp only[go_sem,Nat.reduceAdd,Nat.reduceSub,Nat.reduceMul,Nat.reduceLT,Nat.reduceEqDiff,Nat.reduceBEq,Nat.reduceLeDiff,Int.reduceToNat,↓reduceIte,Int.reduceEq,Int.reduceLT,Int.reduceLE,Int.reduceAdd,Int.reduceSub,Int.reduceNeg,reduceCtorEq,retAV,resV]<;>trivial) ?_);simp only[go_sem,Nat.reduceAdd,Nat.reduceSub,Nat.reduceMul,Nat.reduceLT,Nat.reduceEqDiff,Nat.reduceBEq,Nat.reduceLeDiff,Int.reduceToNat,↓reduceIte,Int.reduceEq,Int.reduceLT,Int.reduceLE,Int.reduceAdd,Int.reduceSub,Int.reduceNeg,reduceCtorEq,retAV,resV]):p:=h
theorem uTC {p:Prop} (h:p:=by first|exact trivial|(simp only[go_sem,Nat.reduceAdd,Nat.reduceSub,Nat.reduceMul,Nat.reduceLT,Nat.reduceEqDiff,Nat.reduceBEq,Nat.reduceLeDiff,Int.reduceToNat,↓reduceIte,Int.reduceEq,Int.reduceLT,Int.reduceLE,Int.reduceAdd,Int.reduceSub,Int.reduceNeg,reduceCtorEq,retAV,resV]<;>trivial)):p:=h
theorem uSC {p q:Prop} (k:p) (h:Hld p->q:=by intro k;simp only[go_sem,Nat.reduceAdd,Nat.reduceSub,Nat.reduceMul,Nat.reduceLT,Nat.reduceEqDiff,Nat.reduceBEq,Nat.reduceLeDiff,Int.reduceToNat,↓reduceIte,Int.reduceEq,Int.reduceLT,Int.reduceLE,Int.reduceAdd,Int.reduceSub,Int.reduceNeg,reduceCtorEq,retAV,resV];exact k.out):q:=h ⟨k⟩
theorem uXC {p:Prop} (h:p:=by simp only[go_sem,Nat.reduceAdd,Nat.reduceSub,Nat.reduceMul,Nat.reduceLT,Nat.reduceEqDiff,Nat.reduceBEq,Nat.reduceLeDiff,Int.reduceToNat,↓reduceIte,Int.reduceEq,Int.reduceLT,Int.reduceLE,Int.reduceAdd,Int.reduceSub,Int.reduceNeg,reduceCtorEq,retAV,resV]):p:=h
theorem uSG {p q:Prop} (k:p) (h:Hld p->q:=by intro k;simp only[go_sem,Nat.reduceAdd,Nat.reduceSub,Nat.reduceMul,Nat.reduceLT,Nat.reduceEqDiff,Nat.reduceBEq,Nat.reduceLeDiff,Int.reduceToNat,↓reduceIte,Int.reduceEq,Int.reduceLT,Int.reduceLE,Int.reduceAdd,Int.reduceSub,Int.reduceNeg,reduceCtorEq,retAV,resV,rnHP,rnHR,rnOP,rnOR,rnH,rnO];exact k.out):q:=h ⟨k⟩
theorem uXG {p:Prop} (h:p:=by simp only[go_sem,Nat.reduceAdd,Nat.reduceSub,Nat.reduceMul,Nat.reduceLT,Nat.reduceEqDiff,Nat.reduceBEq,Nat.reduceLeDiff,Int.reduceToNat,↓reduceIte,Int.reduceEq,Int.reduceLT,Int.reduceLE,Int.reduceAdd,Int.reduceSub,Int.reduceNeg,reduceCtorEq,retAV,resV,rnHP,rnHR,rnOP,rnOR,rnH,rnO]):p:=h
theorem uFN {a b p q:Prop} (hf:a) (hn:b) (k:p) (h:a->b->Hld p->q:=by intro hf hn k;refine SatG_of_awp (T:=tab) tab_ok hf rfl (by rfl) (by simp[hn]) ?_;intro w e X hX hC;clear hX;rw[hn];simp only[tm0,List.zipIdx,List.map];clear hf hn;revert hC;revert X e w;exact k.out):q:=h hf hn ⟨k⟩
theorem uRG {p:Prop} (h:p:=by simp only[go_sem,Nat.reduceAdd,Nat.reduceSub,Nat.reduceMul,Nat.reduceLT,Nat.reduceEqDiff,Nat.reduceBEq,Nat.reduceLeDiff,Int.reduceToNat,↓reduceIte,Int.reduceEq,Int.reduceLT,Int.reduceLE,Int.reduceAdd,Int.reduceSub,Int.reduceNeg,reduceCtorEq,retAV,resV]<;>trivial):p:=h
end Go.Sym
namespace Go.Proofs.YtokkbonoplbiaaaGreatDoor
open Go Go.Sym
def tabTy:List (Nat×TI):=
[
 (2,⟨.int .i64,false,1,8,[.int .i64],false⟩),
 (3,⟨.int .i64,false,1,8,[.int .i64],false⟩),
 (4,⟨.bool,false,1,1,[.bool],false⟩),
 (5,⟨.int .u8,false,1,1,[.int .u8],false⟩),
 (7,⟨.struct [(0,2),(1,3),(2,4),(3,6)],true,4,24,[.int .i64, .int .i64, .bool, .int .u8],true⟩),
 (9,⟨.str,false,1,16,[.str],false⟩),
 (12,⟨.int .u64,false,1,8,[.int .u64],false⟩),
 (13,⟨.struct [(0,9),(1,12)],true,2,24,[.str, .int .u64],false⟩),
 (15,⟨.ptr 210,false,1,8,[.ptr],false⟩),
 (16,⟨.ptr 213,false,1,8,[.ptr],false⟩),
 (17,⟨.ptr 220,false,1,8,[.ptr],false⟩),
 (18,⟨.struct [(0,17)],true,1,8,[.ptr],false⟩),
 (20,⟨.iface,false,1,16,[.iface],false⟩),
 (21,⟨.int .i32,false,1,4,[.int .i32],false⟩),
 (22,⟨.slice 79,false,1,24,[.sl],false⟩),
 (23,⟨.struct [(0,3),(1,3),(2,3)],true,3,24,[.int .i64, .int .i64, .int .i64],true⟩),
 (24,⟨.struct [(0,3),(1,3),(2,3)],true,3,24,[.int .i64, .int .i64, .int .i64],true⟩),
 (25,⟨.struct [(0,9),(1,3),(2,9),(3,3)],true,4,48,[.str, .int .i64, .str, .int .i64],true⟩),
 (26,⟨.struct [(0,9),(1,3),(2,9),(3,3)],true,4,48,[.str, .int .i64, .str, .int .i64],true⟩),
 (27,⟨.struct [(0,3),(1,3),(2,26)],true,6,64,[.int .i64, .int .i64, .str, .int .i64, .str, .int .i64],true⟩),
 (28,⟨.struct [(0,3),(1,3),(2,26)],true,6,64,[.int .i64, .int .i64, .str, .int .i64, .str, .int .i64],true⟩),
 (29,⟨.struct [(0,3),(1,22),(2,22),(3,4),(4,24),(7,3),(8,3),(9,4),(10,9),(11,28),(17,3),(18,3),(19,26)],true,23,256,[.int .i64, .sl, .sl, .bool, .int .i64, .int .i64, .int .i64, .int .i64, .int .i64, .bool, .str, .int .i64, .int .i64, .str, .int .i64, .str, .int .i64, .int .i64, .int .i64, .str, .int .i64, .str, .int .i64],false⟩),
 (30,⟨.struct [(0,3),(1,22),(2,22),(3,4),(4,24),(7,3),(8,3),(9,4),(10,9),(11,28),(17,3),(18,3),(19,26)],true,23,256,[.int .i64, .sl, .sl, .bool, .int .i64, .int .i64, .int .i64, .int .i64, .int .i64, .bool, .str, .int .i64, .int .i64, .str, .int .i64, .str, .int .i64, .int .i64, .int .i64, .str, .int .i64, .str, .int .i64],false⟩),
 (31,⟨.slice 3,false,1,24,[.sl],false⟩),
 (33,⟨.ptr 62,false,1,8,[.ptr],false⟩),
 (36,⟨.slice 9,false,1,24,[.sl],false⟩),
 (39,⟨.slice 30,false,1,24,[.sl],false⟩),
 (40,⟨.int .i64,false,1,8,[.int .i64],false⟩),
 (43,⟨.slice 5,false,1,24,[.sl],false⟩),
 (52,⟨.slice 39,false,1,24,[.sl],false⟩),
 (61,⟨.struct [(0,31),(1,3)],true,2,32,[.sl, .int .i64],false⟩),
 (62,⟨.struct [(0,31),(1,3)],true,2,32,[.sl, .int .i64],false⟩),
 (67,⟨.slice 115,false,1,24,[.sl],false⟩),
 (68,⟨.slice 119,false,1,24,[.sl],false⟩),
 (69,⟨.struct [(0,67),(1,68)],true,2,48,[.sl, .sl],false⟩),
 (70,⟨.struct [(0,67),(1,68)],true,2,48,[.sl, .sl],false⟩),
 (71,⟨.slice 113,false,1,24,[.sl],false⟩),
 (72,⟨.slice 118,false,1,24,[.sl],false⟩),
 (73,⟨.array 4 3,true,4,32,[.int .i64, .int .i64, .int .i64, .int .i64],false⟩),
 (74,⟨.struct [(0,70),(2,71),(3,72),(4,73),(8,3),(9,3),(10,3),(11,3)],true,12,160,[.sl, .sl, .sl, .sl, .int .i64, .int .i64, .int .i64, .int .i64, .int .i64, .int .i64, .int .i64, .int .i64],false⟩),
 (75,⟨.struct [(0,70),(2,71),(3,72),(4,73),(8,3),(9,3),(10,3),(11,3)],true,12,160,[.sl, .sl, .sl, .sl, .int .i64, .int .i64, .int .i64, .int .i64, .int .i64, .int .i64, .int .i64, .int .i64],false⟩),
 (78,⟨.struct [(0,3),(1,3),(2,3)],true,3,24,[.int .i64, .int .i64, .int .i64],true⟩),
 (79,⟨.struct [(0,3),(1,3),(2,3)],true,3,24,[.int .i64, .int .i64, .int .i64],true⟩),
 (81,⟨.ptr 83,false,1,8,[.ptr],false⟩),
 (82,⟨.struct [(0,36),(1,4)],true,2,32,[.sl, .bool],false⟩),
 (83,⟨.struct [(0,36),(1,4)],true,2,32,[.sl, .bool],false⟩),
 (91,⟨.ptr 94,false,1,8,[.ptr],false⟩),
 (93,⟨.struct [(0,9),(1,36),(2,4)],true,3,48,[.str, .sl, .bool],false⟩),
 (94,⟨.struct [(0,9),(1,36),(2,4)],true,3,48,[.str, .sl, .bool],false⟩),
 (95,⟨.other,false,1,8,[.fn],false⟩),
 (98,⟨.ptr 100,false,1,8,[.ptr],false⟩),
 (99,⟨.struct [(0,98),(1,43)],true,2,32,[.ptr, .sl],false⟩),
 (100,⟨.bld 5,true,2,32,[.ptr, .sl],false⟩),
 (101,⟨.iface,false,1,16,[.iface],false⟩),
 (102,⟨.iface,false,1,16,[.iface],false⟩),
 (112,⟨.struct [(0,26),(4,9),(5,3),(6,3),(7,3),(8,3),(9,3)],true,10,104,[.str, .int .i64, .str, .int .i64, .str, .int .i64, .int .i64, .int .i64, .int .i64, .int .i64],true⟩),
 (113,⟨.struct [(0,26),(4,9),(5,3),(6,3),(7,3),(8,3),(9,3)],true,10,104,[.str, .int .i64, .str, .int .i64, .str, .int .i64, .int .i64, .int .i64, .int .i64, .int .i64],true⟩),
 (114,⟨.struct [(0,9),(1,3),(2,3),(3,3),(4,31)],true,5,64,[.str, .int .i64, .int .i64, .int .i64, .sl],false⟩),
 (115,⟨.struct [(0,9),(1,3),(2,3),(3,3),(4,31)],true,5,64,[.str, .int .i64, .int .i64, .int .i64, .sl],false⟩),
 (116,⟨.slice 222,false,1,24,[.sl],false⟩),
 (117,⟨.struct [(0,3),(1,26),(5,3),(6,3),(7,3),(8,3),(9,3),(10,116)],true,11,120,[.int .i64, .str, .int .i64, .str, .int .i64, .int .i64, .int .i64, .int .i64, .int .i64, .int .i64, .sl],false⟩),
 (118,⟨.struct [(0,3),(1,26),(5,3),(6,3),(7,3),(8,3),(9,3),(10,116)],true,11,120,[.int .i64, .str, .int .i64, .str, .int .i64, .int .i64, .int .i64, .int .i64, .int .i64, .int .i64, .sl],false⟩),
 (119,⟨.struct [(0,3),(1,3),(2,3)],true,3,24,[.int .i64, .int .i64, .int .i64],true⟩),
 (124,⟨.array 13 9,true,13,208,[.str, .str, .str, .str, .str, .str, .str, .str, .str, .str, .str, .str, .str],false⟩),
 (134,⟨.map 9 95,false,1,8,[.map],false⟩),
 (143,⟨.ptr 5,false,1,8,[.ptr],false⟩),
 (144,⟨.array 7 9,true,7,112,[.str, .str, .str, .str, .str, .str, .str],false⟩),
 (145,⟨.array 10 5,true,10,10,[.int .u8, .int .u8, .int .u8, .int .u8, .int .u8, .int .u8, .int .u8, .int .u8, .int .u8, .int .u8],false⟩),
 (147,⟨.array 6 9,true,6,96,[.str, .str, .str, .str, .str, .str],false⟩),
 (161,⟨.int .u64,false,1,8,[.int .u64],false⟩),
 (168,⟨.int .u32,false,1,4,[.int .u32],false⟩),
 (173,⟨.int .u64,false,1,8,[.int .u64],false⟩),
 (176,⟨.array 256 5,true,256,256,[.int .u8, .int .u8, .int .u8, .int .u8, .int .u8, .int .u8, .int .u8, .int .u8, .int .u8, .int .u8, .int .u8, .int .u8, .int .u8, .int .u8, .int .u8, .int .u8, .int .u8, .int .u8, .int .u8, .int .u8, .int .u8, .int .u8, .int .u8, .int .u8, .int .u8, .int .u8, .int .u8, .int .u8, .int .u8, .int .u8, .int .u8, .int .u8, .int .u8, .int .u8, .int .u8, .int .u8, .int .u8, .int .u8, .int .u8, .int .u8, .int .u8, .int .u8, .int .u8, .int .u8, .int .u8, .int .u8, .int .u8, .int .u8, .int .u8, .int .u8, .int .u8, .int .u8, .int .u8, .int .u8, .int .u8, .int .u8, .int .u8, .int .u8, .int .u8, .int .u8, .int .u8, .int .u8, .int .u8, .int .u8, .int .u8, .int .u8, .int .u8, .int .u8, .int .u8, .int .u8, .int .u8, .int .u8, .int .u8, .int .u8, .int .u8, .int .u8, .int .u8, .int .u8, .int .u8, .int .u8, .int .u8, .int .u8, .int .u8, .int .u8, .int .u8, .int .u8, .int .u8, .int .u8, .int .u8, .int .u8, .int .u8, .int .u8, .int .u8, .int .u8, .int .u8, .int .u8, .int .u8, .int .u8, .int .u8, .int .u8, .int .u8, .int .u8, .int .u8, .int .u8, .int .u8, .int .u8, .int .u8, .int .u8, .int .u8, .int .u8, .int .u8, .int .u8, .int .u8, .int .u8, .int .u8, .int .u8, .int .u8, .int .u8, .int .u8, .int .u8, .int .u8, .int .u8, .int .u8, .int .u8, .int .u8, .int .u8, .int .u8, .int .u8, .int .u8, .int .u8, .int .u8, .int .u8, .int .u8, .int .u8, .int .u8, .int .u8, .int .u8, .int .u8, .int .u8, .int .u8, .int .u8, .int .u8, .int .u8, .int .u8, .int .u8, .int .u8, .int .u8, .int .u8, .int .u8, .int .u8, .int .u8, .int .u8, .int .u8, .int .u8, .int .u8, .int .u8, .int .u8, .int .u8, .int .u8, .int .u8, .int .u8, .int .u8, .int .u8, .int .u8, .int .u8, .int .u8, .int .u8, .int .u8, .int .u8, .int .u8, .int .u8, .int .u8, .int .u8, .int .u8, .int .u8, .int .u8, .int .u8, .int .u8, .int .u8, .int .u8, .int .u8, .int .u8, .int .u8, .int .u8, .int .u8, .int .u8, .int .u8, .int .u8, .int .u8, .int .u8, .int .u8, .int .u8, .int .u8, .int .u8, .int .u8, .int .u8, .int .u8, .int .u8, .int .u8, .int .u8, .int .u8, .int .u8, .int .u8, .int .u8, .int .u8, .int .u8, .int .u8, .int .u8, .int .u8, .int .u8, .int .u8, .int .u8, .int .u8, .int .u8, .int .u8, .int .u8, .int .u8, .int .u8, .int .u8, .int .u8, .int .u8, .int .u8, .int .u8, .int .u8, .int .u8, .int .u8, .int .u8, .int .u8, .int .u8, .int .u8, .int .u8, .int .u8, .int .u8, .int .u8, .int .u8, .int .u8, .int .u8, .int .u8, .int .u8, .int .u8, .int .u8, .int .u8, .int .u8, .int .u8, .int .u8, .int .u8, .int .u8, .int .u8, .int .u8, .int .u8, .int .u8, .int .u8, .int .u8, .int .u8, .int .u8, .int .u8],false⟩),
 (177,⟨.struct [(0,5),(1,5)],true,2,2,[.int .u8, .int .u8],true⟩),
 (178,⟨.struct [(0,5),(1,5)],true,2,2,[.int .u8, .int .u8],true⟩),
 (179,⟨.array 16 178,true,32,32,[.int .u8, .int .u8, .int .u8, .int .u8, .int .u8, .int .u8, .int .u8, .int .u8, .int .u8, .int .u8, .int .u8, .int .u8, .int .u8, .int .u8, .int .u8, .int .u8, .int .u8, .int .u8, .int .u8, .int .u8, .int .u8, .int .u8, .int .u8, .int .u8, .int .u8, .int .u8, .int .u8, .int .u8, .int .u8, .int .u8, .int .u8, .int .u8],false⟩),
 (181,⟨.array 24 5,true,24,24,[.int .u8, .int .u8, .int .u8, .int .u8, .int .u8, .int .u8, .int .u8, .int .u8, .int .u8, .int .u8, .int .u8, .int .u8, .int .u8, .int .u8, .int .u8, .int .u8, .int .u8, .int .u8, .int .u8, .int .u8, .int .u8, .int .u8, .int .u8, .int .u8],false⟩),
 (189,⟨.ptr 200,false,1,8,[.ptr],false⟩),
 (193,⟨.array 20 173,true,20,160,[.int .u64, .int .u64, .int .u64, .int .u64, .int .u64, .int .u64, .int .u64, .int .u64, .int .u64, .int .u64, .int .u64, .int .u64, .int .u64, .int .u64, .int .u64, .int .u64, .int .u64, .int .u64, .int .u64, .int .u64],false⟩),
 (194,⟨.array 65 5,true,65,65,[.int .u8, .int .u8, .int .u8, .int .u8, .int .u8, .int .u8, .int .u8, .int .u8, .int .u8, .int .u8, .int .u8, .int .u8, .int .u8, .int .u8, .int .u8, .int .u8, .int .u8, .int .u8, .int .u8, .int .u8, .int .u8, .int .u8, .int .u8, .int .u8, .int .u8, .int .u8, .int .u8, .int .u8, .int .u8, .int .u8, .int .u8, .int .u8, .int .u8, .int .u8, .int .u8, .int .u8, .int .u8, .int .u8, .int .u8, .int .u8, .int .u8, .int .u8, .int .u8, .int .u8, .int .u8, .int .u8, .int .u8, .int .u8, .int .u8, .int .u8, .int .u8, .int .u8, .int .u8, .int .u8, .int .u8, .int .u8, .int .u8, .int .u8, .int .u8, .int .u8, .int .u8, .int .u8, .int .u8, .int .u8, .int .u8],false⟩),
 (199,⟨.struct [(0,9),(1,9),(2,102)],true,3,48,[.str, .str, .iface],false⟩),
 (200,⟨.struct [(0,9),(1,9),(2,102)],true,3,48,[.str, .str, .iface],false⟩),
 (204,⟨.ptr 206,false,1,8,[.ptr],false⟩),
 (205,⟨.struct [(0,9)],true,1,16,[.str],true⟩),
 (206,⟨.struct [(0,9)],true,1,16,[.str],true⟩),
 (207,⟨.array 32 5,true,32,32,[.int .u8, .int .u8, .int .u8, .int .u8, .int .u8, .int .u8, .int .u8, .int .u8, .int .u8, .int .u8, .int .u8, .int .u8, .int .u8, .int .u8, .int .u8, .int .u8, .int .u8, .int .u8, .int .u8, .int .u8, .int .u8, .int .u8, .int .u8, .int .u8, .int .u8, .int .u8, .int .u8, .int .u8, .int .u8, .int .u8, .int .u8, .int .u8],false⟩),
 (208,⟨.array 64 5,true,64,64,[.int .u8, .int .u8, .int .u8, .int .u8, .int .u8, .int .u8, .int .u8, .int .u8, .int .u8, .int .u8, .int .u8, .int .u8, .int .u8, .int .u8, .int .u8, .int .u8, .int .u8, .int .u8, .int .u8, .int .u8, .int .u8, .int .u8, .int .u8, .int .u8, .int .u8, .int .u8, .int .u8, .int .u8, .int .u8, .int .u8, .int .u8, .int .u8, .int .u8, .int .u8, .int .u8, .int .u8, .int .u8, .int .u8, .int .u8, .int .u8, .int .u8, .int .u8, .int .u8, .int .u8, .int .u8, .int .u8, .int .u8, .int .u8, .int .u8, .int .u8, .int .u8, .int .u8, .int .u8, .int .u8, .int .u8, .int .u8, .int .u8, .int .u8, .int .u8, .int .u8, .int .u8, .int .u8, .int .u8, .int .u8],false⟩),
 (209,⟨.struct [(0,17),(1,17),(2,17),(3,9)],true,4,40,[.ptr, .ptr, .ptr, .str],false⟩),
 (219,⟨.struct [(0,12),(1,12),(2,168),(3,214),(4,5),(5,5),(6,215),(7,216),(8,143),(9,217),(10,218)],true,11,48,[.int .u64, .int .u64, .int .u32, .int .u8, .int .u8, .int .u8, .int .u8, .fn, .ptr, .int .i32, .int .i32],false⟩),
 (221,⟨.struct [(0,24),(3,3),(4,3)],true,5,40,[.int .i64, .int .i64, .int .i64, .int .i64, .int .i64],true⟩),
 (222,⟨.struct [(0,24),(3,3),(4,3)],true,5,40,[.int .i64, .int .i64, .int .i64, .int .i64, .int .i64],true⟩)]
def plainB:List ByteArray:=[⟨#[]⟩,⟨#[]⟩,⟨#[]⟩,⟨#[]⟩,⟨#[]⟩,⟨#[]⟩,⟨#[98,114,101,97,107]⟩,⟨#[114,101,112,97,105,114]⟩,⟨#[]⟩,⟨#[]⟩,⟨#[]⟩,⟨#[111,102,102,108,105,110,101]⟩,⟨#[111,110,108,105,110,101]⟩]
def faultsB:List ByteArray:=[⟨#[]⟩,⟨#[115,116,105,99,107]⟩,⟨#[115,108,105,100,101]⟩,⟨#[109,105,115,115]⟩,⟨#[103,104,111,115,116]⟩,⟨#[117,110,114,101,97,100]⟩,⟨#[119,114,111,110,103]⟩]
def revsB:List ByteArray:=[⟨#[]⟩,⟨#[100,101,108,97,121]⟩,⟨#[111,112,101,110,115]⟩,⟨#[115,116,97,110,100]⟩,⟨#[99,97,110,99,101,108]⟩,⟨#[114,101,115,116,111,114,101]⟩]
def pow10:List Int:=[1,10,100,1000,10000,100000,1000000,10000000,100000000,1000000000,10000000000,100000000000,1000000000000,10000000000000,100000000000000,1000000000000000,10000000000000000,100000000000000000,1000000000000000000,10000000000000000000]
def tabGl:List (Nat×List AV):=[(0,plainB.map S),(1,faultsB.map S),(2,revsB.map S),(3,[.anyI .i64]),(6,pow10.map fun n=> .lit (.int .u64 n)),(7,[.ifn]),(8,[.ifn])]
def tabFull:List (Nat×Array Value):=[(6,(pow10.map fun z=>Value.int .u64 z).toArray)]
def tab:Tab:=⟨tabTy,tabGl,tabFull⟩
theorem tab_ok:TOk Tryz.prog tab:=TOk_of (by kernel_rfl)
theorem tb_2:tl tab 2=⟨.int .i64,false,1,8,[.int .i64],false⟩:=rfl
theorem tb_3:tl tab 3=⟨.int .i64,false,1,8,[.int .i64],false⟩:=rfl
theorem tb_4:tl tab 4=⟨.bool,false,1,1,[.bool],false⟩:=rfl
theorem tb_5:tl tab 5=⟨.int .u8,false,1,1,[.int .u8],false⟩:=rfl
theorem tb_7:tl tab 7=⟨.struct [(0,2),(1,3),(2,4),(3,6)],true,4,24,[.int .i64, .int .i64, .bool, .int .u8],true⟩:=rfl
theorem tb_9:tl tab 9=⟨.str,false,1,16,[.str],false⟩:=rfl
theorem tb_12:tl tab 12=⟨.int .u64,false,1,8,[.int .u64],false⟩:=rfl
theorem tb_13:tl tab 13=⟨.struct [(0,9),(1,12)],true,2,24,[.str, .int .u64],false⟩:=rfl
theorem tb_15:tl tab 15=⟨.ptr 210,false,1,8,[.ptr],false⟩:=rfl
theorem tb_16:tl tab 16=⟨.ptr 213,false,1,8,[.ptr],false⟩:=rfl
theorem tb_17:tl tab 17=⟨.ptr 220,false,1,8,[.ptr],false⟩:=rfl
theorem tb_18:tl tab 18=⟨.struct [(0,17)],true,1,8,[.ptr],false⟩:=rfl
theorem tb_20:tl tab 20=⟨.iface,false,1,16,[.iface],false⟩:=rfl
theorem tb_21:tl tab 21=⟨.int .i32,false,1,4,[.int .i32],false⟩:=rfl
theorem tb_22:tl tab 22=⟨.slice 79,false,1,24,[.sl],false⟩:=rfl
theorem tb_23:tl tab 23=⟨.struct [(0,3),(1,3),(2,3)],true,3,24,[.int .i64, .int .i64, .int .i64],true⟩:=rfl
theorem tb_24:tl tab 24=⟨.struct [(0,3),(1,3),(2,3)],true,3,24,[.int .i64, .int .i64, .int .i64],true⟩:=rfl
theorem tb_25:tl tab 25=⟨.struct [(0,9),(1,3),(2,9),(3,3)],true,4,48,[.str, .int .i64, .str, .int .i64],true⟩:=rfl
theorem tb_26:tl tab 26=⟨.struct [(0,9),(1,3),(2,9),(3,3)],true,4,48,[.str, .int .i64, .str, .int .i64],true⟩:=rfl
theorem tb_27:tl tab 27=⟨.struct [(0,3),(1,3),(2,26)],true,6,64,[.int .i64, .int .i64, .str, .int .i64, .str, .int .i64],true⟩:=rfl
theorem tb_28:tl tab 28=⟨.struct [(0,3),(1,3),(2,26)],true,6,64,[.int .i64, .int .i64, .str, .int .i64, .str, .int .i64],true⟩:=rfl
theorem tb_29:tl tab 29=⟨.struct [(0,3),(1,22),(2,22),(3,4),(4,24),(7,3),(8,3),(9,4),(10,9),(11,28),(17,3),(18,3),(19,26)],true,23,256,[.int .i64, .sl, .sl, .bool, .int .i64, .int .i64, .int .i64, .int .i64, .int .i64, .bool, .str, .int .i64, .int .i64, .str, .int .i64, .str, .int .i64, .int .i64, .int .i64, .str, .int .i64, .str, .int .i64],false⟩:=rfl
theorem tb_30:tl tab 30=⟨.struct [(0,3),(1,22),(2,22),(3,4),(4,24),(7,3),(8,3),(9,4),(10,9),(11,28),(17,3),(18,3),(19,26)],true,23,256,[.int .i64, .sl, .sl, .bool, .int .i64, .int .i64, .int .i64, .int .i64, .int .i64, .bool, .str, .int .i64, .int .i64, .str, .int .i64, .str, .int .i64, .int .i64, .int .i64, .str, .int .i64, .str, .int .i64],false⟩:=rfl
theorem tb_31:tl tab 31=⟨.slice 3,false,1,24,[.sl],false⟩:=rfl
theorem tb_33:tl tab 33=⟨.ptr 62,false,1,8,[.ptr],false⟩:=rfl
theorem tb_36:tl tab 36=⟨.slice 9,false,1,24,[.sl],false⟩:=rfl
theorem tb_39:tl tab 39=⟨.slice 30,false,1,24,[.sl],false⟩:=rfl
theorem tb_40:tl tab 40=⟨.int .i64,false,1,8,[.int .i64],false⟩:=rfl
theorem tb_43:tl tab 43=⟨.slice 5,false,1,24,[.sl],false⟩:=rfl
theorem tb_52:tl tab 52=⟨.slice 39,false,1,24,[.sl],false⟩:=rfl
theorem tb_61:tl tab 61=⟨.struct [(0,31),(1,3)],true,2,32,[.sl, .int .i64],false⟩:=rfl
theorem tb_62:tl tab 62=⟨.struct [(0,31),(1,3)],true,2,32,[.sl, .int .i64],false⟩:=rfl
theorem tb_67:tl tab 67=⟨.slice 115,false,1,24,[.sl],false⟩:=rfl
theorem tb_68:tl tab 68=⟨.slice 119,false,1,24,[.sl],false⟩:=rfl
theorem tb_69:tl tab 69=⟨.struct [(0,67),(1,68)],true,2,48,[.sl, .sl],false⟩:=rfl
theorem tb_70:tl tab 70=⟨.struct [(0,67),(1,68)],true,2,48,[.sl, .sl],false⟩:=rfl
theorem tb_71:tl tab 71=⟨.slice 113,false,1,24,[.sl],false⟩:=rfl
theorem tb_72:tl tab 72=⟨.slice 118,false,1,24,[.sl],false⟩:=rfl
theorem tb_73:tl tab 73=⟨.array 4 3,true,4,32,[.int .i64, .int .i64, .int .i64, .int .i64],false⟩:=rfl
theorem tb_74:tl tab 74=⟨.struct [(0,70),(2,71),(3,72),(4,73),(8,3),(9,3),(10,3),(11,3)],true,12,160,[.sl, .sl, .sl, .sl, .int .i64, .int .i64, .int .i64, .int .i64, .int .i64, .int .i64, .int .i64, .int .i64],false⟩:=rfl
theorem tb_75:tl tab 75=⟨.struct [(0,70),(2,71),(3,72),(4,73),(8,3),(9,3),(10,3),(11,3)],true,12,160,[.sl, .sl, .sl, .sl, .int .i64, .int .i64, .int .i64, .int .i64, .int .i64, .int .i64, .int .i64, .int .i64],false⟩:=rfl
theorem tb_78:tl tab 78=⟨.struct [(0,3),(1,3),(2,3)],true,3,24,[.int .i64, .int .i64, .int .i64],true⟩:=rfl
theorem tb_79:tl tab 79=⟨.struct [(0,3),(1,3),(2,3)],true,3,24,[.int .i64, .int .i64, .int .i64],true⟩:=rfl
theorem tb_81:tl tab 81=⟨.ptr 83,false,1,8,[.ptr],false⟩:=rfl
theorem tb_82:tl tab 82=⟨.struct [(0,36),(1,4)],true,2,32,[.sl, .bool],false⟩:=rfl
theorem tb_83:tl tab 83=⟨.struct [(0,36),(1,4)],true,2,32,[.sl, .bool],false⟩:=rfl
theorem tb_91:tl tab 91=⟨.ptr 94,false,1,8,[.ptr],false⟩:=rfl
theorem tb_93:tl tab 93=⟨.struct [(0,9),(1,36),(2,4)],true,3,48,[.str, .sl, .bool],false⟩:=rfl
theorem tb_94:tl tab 94=⟨.struct [(0,9),(1,36),(2,4)],true,3,48,[.str, .sl, .bool],false⟩:=rfl
theorem tb_95:tl tab 95=⟨.other,false,1,8,[.fn],false⟩:=rfl
theorem tb_98:tl tab 98=⟨.ptr 100,false,1,8,[.ptr],false⟩:=rfl
theorem tb_99:tl tab 99=⟨.struct [(0,98),(1,43)],true,2,32,[.ptr, .sl],false⟩:=rfl
theorem tb_100:tl tab 100=⟨.bld 5,true,2,32,[.ptr, .sl],false⟩:=rfl
theorem tb_101:tl tab 101=⟨.iface,false,1,16,[.iface],false⟩:=rfl
theorem tb_102:tl tab 102=⟨.iface,false,1,16,[.iface],false⟩:=rfl
theorem tb_112:tl tab 112=⟨.struct [(0,26),(4,9),(5,3),(6,3),(7,3),(8,3),(9,3)],true,10,104,[.str, .int .i64, .str, .int .i64, .str, .int .i64, .int .i64, .int .i64, .int .i64, .int .i64],true⟩:=rfl
theorem tb_113:tl tab 113=⟨.struct [(0,26),(4,9),(5,3),(6,3),(7,3),(8,3),(9,3)],true,10,104,[.str, .int .i64, .str, .int .i64, .str, .int .i64, .int .i64, .int .i64, .int .i64, .int .i64],true⟩:=rfl
theorem tb_114:tl tab 114=⟨.struct [(0,9),(1,3),(2,3),(3,3),(4,31)],true,5,64,[.str, .int .i64, .int .i64, .int .i64, .sl],false⟩:=rfl
theorem tb_115:tl tab 115=⟨.struct [(0,9),(1,3),(2,3),(3,3),(4,31)],true,5,64,[.str, .int .i64, .int .i64, .int .i64, .sl],false⟩:=rfl
theorem tb_116:tl tab 116=⟨.slice 222,false,1,24,[.sl],false⟩:=rfl
theorem tb_117:tl tab 117=⟨.struct [(0,3),(1,26),(5,3),(6,3),(7,3),(8,3),(9,3),(10,116)],true,11,120,[.int .i64, .str, .int .i64, .str, .int .i64, .int .i64, .int .i64, .int .i64, .int .i64, .int .i64, .sl],false⟩:=rfl
theorem tb_118:tl tab 118=⟨.struct [(0,3),(1,26),(5,3),(6,3),(7,3),(8,3),(9,3),(10,116)],true,11,120,[.int .i64, .str, .int .i64, .str, .int .i64, .int .i64, .int .i64, .int .i64, .int .i64, .int .i64, .sl],false⟩:=rfl
theorem tb_119:tl tab 119=⟨.struct [(0,3),(1,3),(2,3)],true,3,24,[.int .i64, .int .i64, .int .i64],true⟩:=rfl
theorem tb_124:tl tab 124=⟨.array 13 9,true,13,208,[.str, .str, .str, .str, .str, .str, .str, .str, .str, .str, .str, .str, .str],false⟩:=rfl
theorem tb_134:tl tab 134=⟨.map 9 95,false,1,8,[.map],false⟩:=rfl
theorem tb_143:tl tab 143=⟨.ptr 5,false,1,8,[.ptr],false⟩:=rfl
theorem tb_144:tl tab 144=⟨.array 7 9,true,7,112,[.str, .str, .str, .str, .str, .str, .str],false⟩:=rfl
theorem tb_145:tl tab 145=⟨.array 10 5,true,10,10,[.int .u8, .int .u8, .int .u8, .int .u8, .int .u8, .int .u8, .int .u8, .int .u8, .int .u8, .int .u8],false⟩:=rfl
theorem tb_147:tl tab 147=⟨.array 6 9,true,6,96,[.str, .str, .str, .str, .str, .str],false⟩:=rfl
theorem tb_161:tl tab 161=⟨.int .u64,false,1,8,[.int .u64],false⟩:=rfl
theorem tb_168:tl tab 168=⟨.int .u32,false,1,4,[.int .u32],false⟩:=rfl
theorem tb_173:tl tab 173=⟨.int .u64,false,1,8,[.int .u64],false⟩:=rfl
theorem tb_176:tl tab 176=⟨.array 256 5,true,256,256,[.int .u8, .int .u8, .int .u8, .int .u8, .int .u8, .int .u8, .int .u8, .int .u8, .int .u8, .int .u8, .int .u8, .int .u8, .int .u8, .int .u8, .int .u8, .int .u8, .int .u8, .int .u8, .int .u8, .int .u8, .int .u8, .int .u8, .int .u8, .int .u8, .int .u8, .int .u8, .int .u8, .int .u8, .int .u8, .int .u8, .int .u8, .int .u8, .int .u8, .int .u8, .int .u8, .int .u8, .int .u8, .int .u8, .int .u8, .int .u8, .int .u8, .int .u8, .int .u8, .int .u8, .int .u8, .int .u8, .int .u8, .int .u8, .int .u8, .int .u8, .int .u8, .int .u8, .int .u8, .int .u8, .int .u8, .int .u8, .int .u8, .int .u8, .int .u8, .int .u8, .int .u8, .int .u8, .int .u8, .int .u8, .int .u8, .int .u8, .int .u8, .int .u8, .int .u8, .int .u8, .int .u8, .int .u8, .int .u8, .int .u8, .int .u8, .int .u8, .int .u8, .int .u8, .int .u8, .int .u8, .int .u8, .int .u8, .int .u8, .int .u8, .int .u8, .int .u8, .int .u8, .int .u8, .int .u8, .int .u8, .int .u8, .int .u8, .int .u8, .int .u8, .int .u8, .int .u8, .int .u8, .int .u8, .int .u8, .int .u8, .int .u8, .int .u8, .int .u8, .int .u8, .int .u8, .int .u8, .int .u8, .int .u8, .int .u8, .int .u8, .int .u8, .int .u8, .int .u8, .int .u8, .int .u8, .int .u8, .int .u8, .int .u8, .int .u8, .int .u8, .int .u8, .int .u8, .int .u8, .int .u8, .int .u8, .int .u8, .int .u8, .int .u8, .int .u8, .int .u8, .int .u8, .int .u8, .int .u8, .int .u8, .int .u8, .int .u8, .int .u8, .int .u8, .int .u8, .int .u8, .int .u8, .int .u8, .int .u8, .int .u8, .int .u8, .int .u8, .int .u8, .int .u8, .int .u8, .int .u8, .int .u8, .int .u8, .int .u8, .int .u8, .int .u8, .int .u8, .int .u8, .int .u8, .int .u8, .int .u8, .int .u8, .int .u8, .int .u8, .int .u8, .int .u8, .int .u8, .int .u8, .int .u8, .int .u8, .int .u8, .int .u8, .int .u8, .int .u8, .int .u8, .int .u8, .int .u8, .int .u8, .int .u8, .int .u8, .int .u8, .int .u8, .int .u8, .int .u8, .int .u8, .int .u8, .int .u8, .int .u8, .int .u8, .int .u8, .int .u8, .int .u8, .int .u8, .int .u8, .int .u8, .int .u8, .int .u8, .int .u8, .int .u8, .int .u8, .int .u8, .int .u8, .int .u8, .int .u8, .int .u8, .int .u8, .int .u8, .int .u8, .int .u8, .int .u8, .int .u8, .int .u8, .int .u8, .int .u8, .int .u8, .int .u8, .int .u8, .int .u8, .int .u8, .int .u8, .int .u8, .int .u8, .int .u8, .int .u8, .int .u8, .int .u8, .int .u8, .int .u8, .int .u8, .int .u8, .int .u8, .int .u8, .int .u8, .int .u8, .int .u8, .int .u8, .int .u8, .int .u8, .int .u8, .int .u8, .int .u8, .int .u8, .int .u8, .int .u8, .int .u8, .int .u8, .int .u8, .int .u8, .int .u8, .int .u8, .int .u8, .int .u8, .int .u8, .int .u8, .int .u8, .int .u8, .int .u8],false⟩:=rfl
theorem tb_177:tl tab 177=⟨.struct [(0,5),(1,5)],true,2,2,[.int .u8, .int .u8],true⟩:=rfl
theorem tb_178:tl tab 178=⟨.struct [(0,5),(1,5)],true,2,2,[.int .u8, .int .u8],true⟩:=rfl
theorem tb_179:tl tab 179=⟨.array 16 178,true,32,32,[.int .u8, .int .u8, .int .u8, .int .u8, .int .u8, .int .u8, .int .u8, .int .u8, .int .u8, .int .u8, .int .u8, .int .u8, .int .u8, .int .u8, .int .u8, .int .u8, .int .u8, .int .u8, .int .u8, .int .u8, .int .u8, .int .u8, .int .u8, .int .u8, .int .u8, .int .u8, .int .u8, .int .u8, .int .u8, .int .u8, .int .u8, .int .u8],false⟩:=rfl
theorem tb_181:tl tab 181=⟨.array 24 5,true,24,24,[.int .u8, .int .u8, .int .u8, .int .u8, .int .u8, .int .u8, .int .u8, .int .u8, .int .u8, .int .u8, .int .u8, .int .u8, .int .u8, .int .u8, .int .u8, .int .u8, .int .u8, .int .u8, .int .u8, .int .u8, .int .u8, .int .u8, .int .u8, .int .u8],false⟩:=rfl
theorem tb_189:tl tab 189=⟨.ptr 200,false,1,8,[.ptr],false⟩:=rfl
theorem tb_193:tl tab 193=⟨.array 20 173,true,20,160,[.int .u64, .int .u64, .int .u64, .int .u64, .int .u64, .int .u64, .int .u64, .int .u64, .int .u64, .int .u64, .int .u64, .int .u64, .int .u64, .int .u64, .int .u64, .int .u64, .int .u64, .int .u64, .int .u64, .int .u64],false⟩:=rfl
theorem tb_194:tl tab 194=⟨.array 65 5,true,65,65,[.int .u8, .int .u8, .int .u8, .int .u8, .int .u8, .int .u8, .int .u8, .int .u8, .int .u8, .int .u8, .int .u8, .int .u8, .int .u8, .int .u8, .int .u8, .int .u8, .int .u8, .int .u8, .int .u8, .int .u8, .int .u8, .int .u8, .int .u8, .int .u8, .int .u8, .int .u8, .int .u8, .int .u8, .int .u8, .int .u8, .int .u8, .int .u8, .int .u8, .int .u8, .int .u8, .int .u8, .int .u8, .int .u8, .int .u8, .int .u8, .int .u8, .int .u8, .int .u8, .int .u8, .int .u8, .int .u8, .int .u8, .int .u8, .int .u8, .int .u8, .int .u8, .int .u8, .int .u8, .int .u8, .int .u8, .int .u8, .int .u8, .int .u8, .int .u8, .int .u8, .int .u8, .int .u8, .int .u8, .int .u8, .int .u8],false⟩:=rfl
theorem tb_199:tl tab 199=⟨.struct [(0,9),(1,9),(2,102)],true,3,48,[.str, .str, .iface],false⟩:=rfl
theorem tb_200:tl tab 200=⟨.struct [(0,9),(1,9),(2,102)],true,3,48,[.str, .str, .iface],false⟩:=rfl
theorem tb_204:tl tab 204=⟨.ptr 206,false,1,8,[.ptr],false⟩:=rfl
theorem tb_205:tl tab 205=⟨.struct [(0,9)],true,1,16,[.str],true⟩:=rfl
theorem tb_206:tl tab 206=⟨.struct [(0,9)],true,1,16,[.str],true⟩:=rfl
theorem tb_207:tl tab 207=⟨.array 32 5,true,32,32,[.int .u8, .int .u8, .int .u8, .int .u8, .int .u8, .int .u8, .int .u8, .int .u8, .int .u8, .int .u8, .int .u8, .int .u8, .int .u8, .int .u8, .int .u8, .int .u8, .int .u8, .int .u8, .int .u8, .int .u8, .int .u8, .int .u8, .int .u8, .int .u8, .int .u8, .int .u8, .int .u8, .int .u8, .int .u8, .int .u8, .int .u8, .int .u8],false⟩:=rfl
theorem tb_208:tl tab 208=⟨.array 64 5,true,64,64,[.int .u8, .int .u8, .int .u8, .int .u8, .int .u8, .int .u8, .int .u8, .int .u8, .int .u8, .int .u8, .int .u8, .int .u8, .int .u8, .int .u8, .int .u8, .int .u8, .int .u8, .int .u8, .int .u8, .int .u8, .int .u8, .int .u8, .int .u8, .int .u8, .int .u8, .int .u8, .int .u8, .int .u8, .int .u8, .int .u8, .int .u8, .int .u8, .int .u8, .int .u8, .int .u8, .int .u8, .int .u8, .int .u8, .int .u8, .int .u8, .int .u8, .int .u8, .int .u8, .int .u8, .int .u8, .int .u8, .int .u8, .int .u8, .int .u8, .int .u8, .int .u8, .int .u8, .int .u8, .int .u8, .int .u8, .int .u8, .int .u8, .int .u8, .int .u8, .int .u8, .int .u8, .int .u8, .int .u8, .int .u8],false⟩:=rfl
theorem tb_209:tl tab 209=⟨.struct [(0,17),(1,17),(2,17),(3,9)],true,4,40,[.ptr, .ptr, .ptr, .str],false⟩:=rfl
theorem tb_219:tl tab 219=⟨.struct [(0,12),(1,12),(2,168),(3,214),(4,5),(5,5),(6,215),(7,216),(8,143),(9,217),(10,218)],true,11,48,[.int .u64, .int .u64, .int .u32, .int .u8, .int .u8, .int .u8, .int .u8, .fn, .ptr, .int .i32, .int .i32],false⟩:=rfl
theorem tb_221:tl tab 221=⟨.struct [(0,24),(3,3),(4,3)],true,5,40,[.int .i64, .int .i64, .int .i64, .int .i64, .int .i64],true⟩:=rfl
attribute [go_sem] tb_2 tb_3 tb_4 tb_5 tb_7 tb_9 tb_12 tb_13 tb_15 tb_16 tb_17 tb_18 tb_20 tb_21 tb_22 tb_23 tb_24 tb_25 tb_26 tb_27 tb_28 tb_29 tb_30 tb_31 tb_33 tb_36 tb_39 tb_40 tb_43 tb_52 tb_61 tb_62 tb_67 tb_68 tb_69 tb_70 tb_71 tb_72 tb_73 tb_74 tb_75 tb_78 tb_79 tb_81 tb_82 tb_83 tb_91 tb_93 tb_94 tb_95 tb_98 tb_99 tb_100 tb_101 tb_102 tb_112 tb_113 tb_114 tb_115 tb_116 tb_117 tb_118 tb_119 tb_124 tb_134 tb_143 tb_144 tb_145 tb_147 tb_161 tb_168 tb_173 tb_176 tb_177 tb_178 tb_179 tb_181 tb_189 tb_193 tb_194 tb_199 tb_200 tb_204 tb_205 tb_206 tb_207 tb_208 tb_209 tb_219 tb_221
end Go.Proofs.YtokkbonoplbiaaaGreatDoor
namespace Go.Sym
open Go Go.Great
section
variable {C:Cx} {T:Tab}
structure Rd (w1:World) (e0:Env) (L:Loop) (l:Nat) (hp:Hp) (W:World) (e':Env):Prop where
 hr:HRel W e' (Glt 1) hp
 ext:Ext w1 e0 (Glt 1) W e' (Glt 1)
 z:e'.z=e0.z
 own:∀b,OwnB e' b->w1.heap.size<=b\/OwnB e0 b
 os:W.os=w1.os
 tape:W.tape=w1.tape
 output:W.output=w1.output
 same:∀b,b<w1.heap.size->b≠l->¬OwnB e0 b->W.heap[b]?=w1.heap[b]?
 rec_:W.heap[l]?=some (.loop L)
end
open Go Go.Great
theorem krows_trF {t:Nat} {l:List (List Int)} (L:List Nat):(∀e∈krows t l,∀c∈e.cells,trA false L c)=True:=krows_all fun r=> .inl rfl
attribute [go_sem] krows_trF
section
variable {C:Cx} {T:Tab}
theorem VR.nil_inv {w:World} {e:Env} {G:Nat->Prop} {v:Value} (h:VR w (UE e) e G (.sl [] true) v):∃a,v= .slice a 0 0:=by
 obtain⟨a,cap,rfl,_,hc⟩:=h.slice_cap
 rw[hc rfl]
 exact⟨a,rfl⟩
theorem awp_nil0 {c:Code} {Q:Exit->St->Prop} {s:St} (nid bid gb t k j:Nat) {cs:List AV} (hk:0<k) (hb:s.hp.get bid=some (gb, .box cs)) (hj:cs.getD j .bad= .sl [] true) (hn:s.hp.get nid=none)
  (h:awp C c Q ⟨s.tm,(bid,some (gb, .box (cs.set j (.slO nid s.ck 0 0))))::(nid,some (s.ck, .own t k []))::s.hp,s.ck+1⟩):awp C c Q s:=by
 intro a w hr
 refine h a w ?_
 obtain⟨e,h1,hln,hv⟩:=hr.body
 have p:Pre C e (Glt s.ck) s.ck s.hp w:=⟨h1,hln,hr.frm,by simp[Glt]⟩
 have hne:bid≠nid:=by rintro rfl;rw[hn] at hb;cases hb
 have hjl:j<cs.length:=by
  by_cases hjl:j<cs.length
  ·exact hjl
  ·rw[List.getD_eq_getElem?_getD,List.getElem?_eq_none (by omega)] at hj;cases hj
 have hlit:∃av,∀(ee:EE) b c (vs:Array Value) t,e bid=some ee->ee.blk=some (b,c)->w.heap[b]?=some (.cells vs t (0,0))->vs.getD j undef= .slice av 0 0:=by
  obtain⟨ee,he,_,_,hbo⟩:=h1.live _ _ _ hb
  obtain⟨_,_,b,c',vs,t',hb2,hb3,hb4,hb5⟩:=hbo
  have e1:cs[j]= .sl [] true:=by rw[List.getD_eq_getElem?_getD,List.getElem?_eq_getElem hjl] at hj;exact hj
  have:=hb5 j hjl
  rw[e1] at this
  obtain⟨av,hav⟩:=this.nil_inv
  refine⟨av,fun ee1 b1 c1 vs1 t1 h1 h2 h3=>?_⟩
  rw[he] at h1;cases h1
  rw[hb2] at h2;cases h2
  rw[hb3] at h3;cases h3
  exact hav
 obtain⟨av,hav0⟩:=hlit
 have hok:=mk_obj (P:=True) (v:= .slO nid s.ck 0 0) (xv:= .slice av 0 0) p (Grow.refl w) (did:=nid) (ee:=⟨s.ck,none,k,0⟩) rfl (fun b c hb=>by cases hb) (ob:= .own t k []) ⟨rfl,rfl,hk,fun i hi=>by simp at hi,fun i hi=>by simp at hi,rfl⟩
  (.slO _ _ _ _ _ (.inr rfl) rfl fun ee he _=>by
   rw[eset_same] at he;cases he
   exact⟨Nat.le_refl _,fun _=>⟨rfl,rfl,av,rfl⟩⟩)
 obtain⟨nx,w',e',q1,q2,q3,q4,q5,q6⟩:=hok
 cases q1
 have hsl:VR w (UE e') e' (gadd (Glt s.ck) s.ck) (.slO nid s.ck 0 0) (.slice av 0 0):=by
  rcases q6 with ⟨xv,h3,h4⟩|⟨h3,_⟩
  ·cases h3;exact h4
  ·cases h3
 obtain⟨eb,hbe,hbg,hgb,hbo⟩:=q2.live bid gb (.box cs) (by rw[List.cons_append,List.nil_append,Hp.get_cons_other _ _ hne];exact hb)
 obtain⟨hbn,hb1,b,c',vs,t',hb2,hb3,hb4,hb5⟩:=hbo
 have gg:gadd (Glt s.ck) s.ck=Glt (s.ck+1):=gadd_Glt _
 have hav:vs.getD j undef= .slice av 0 0:=by
  have e1:cs[j]= .sl [] true:=by rw[List.getD_eq_getElem?_getD,List.getElem?_eq_getElem hjl] at hj;exact hj
  obtain⟨ee,he,hg0,_,hbo0⟩:=h1.live _ _ _ hb
  obtain⟨ee1,m1,m2,m3,m4⟩:=q3.ent bid eb hbe (by rw[hbg,<-hg0];exact h1.gen _ _ he)
  obtain⟨hn0,_⟩:=hbo0
  rw[he] at m1;cases m1
  rcases m4 with ⟨m4,m5⟩|m4
  ·exact hav0 _ b c' vs t' he (m5.trans hb2) hb3
  ·omega
 rw[gg] at q2 q3 q4 hb5 hsl
 have hr2:HRel w e' (Glt (s.ck+1)) ((bid,some (gb, .box (cs.set j (.slO nid s.ck 0 0))))::(nid,some (s.ck, .own t k []))::s.hp):=by
  refine q2.step (fun i=>i=bid) (Ext.refl _ _ _) rfl (fun i hi=>⟨rfl,Hp.get_cons_other _ _ hi⟩) (fun _ _ _ _ _ _ _=>⟨rfl,fun _ _ h=>⟨rfl,h⟩⟩) (fun i hi hn=>?_) (fun i g' ob hi hg=>?_) (fun i ee b1 c1 hi he hb1=>?_) q2.kl q2.ko q2.kk
  ·subst hi;rw[Hp.get_cons_same] at hn;cases hn
  ·subst hi
   rw[Hp.get_cons_same] at hg
   cases hg
   refine⟨eb,hbe,hbg,by rw[<-hbg];exact q2.gen _ _ hbe,hbn,fun i hi=>?_,b,c',vs,t',hb2,hb3,by simpa using hb4,fun i hi=>?_⟩
   ·rw[List.getElem_set]
    split
    ·rfl
    ·exact hb1 _ _
   ·have hi':i<cs.length:=by simpa using hi
    rw[List.getElem_set]
    split
    ·next hji=>subst hji;rw[hav];exact hsl
    ·exact hb5 i hi'
  ·exact⟨q2.lt _ _ _ _ he hb1,q2.nz _ _ _ _ he hb1,fun i' ee' c2 he' hb'=>by rw[hi] at*;exact q2.inj _ _ _ _ _ _ _ he' he hb' hb1⟩
 exact⟨hr.defers,hr.size,hr.frm,e',hr2,q4,fun t=>(hv t).ext q3⟩
theorem callE {P:Program} {T:Tab} {f:FuncId} {g:Nat} {hp:Hp} {vs:List AV} {K:AV->List Up->List Nat->Prop} {rc:AV} (τ σ:Nm) (keep:Bool) {hpA hp1:Hp} {as1:List AV} (h:SatG P T f hpA as1 hp1 rc)
  (e1:rnH true τ hp=hpA) (e2:vs.map (rnt true τ hp)=as1) (hn1:(τ.map (·.1)).Nodup) (hn2:(τ.map (·.2.2.1)).Nodup) (hg:∀q∈τ,q.2.1=0) (hP:rnHP true τ hp τ) (hs:ShP τ hp vs)
  (hd:∀d∈rnHR true τ hp τ++vs.flatMap (rntR true τ hp),lk τ d=none)
  (hm1:(σ.map (·.1)).Nodup) (hm2:(σ.map (·.2.2.1)).Nodup) (hgs:∀q∈σ,(q.2.2.2=0/\(q.2.2.1,0,q.1,q.2.1)∈τ)\/(q.2.2.2=1/\q.2.1=g))
  (hbP:rnHP false σ hp1 σ) (hbR:rnHR false σ hp1 σ=[]) (hrP:rntP false σ hp1 rc) (hrR:rntR false σ hp1 rc=[])
  (ht1:trH keep (touched τ σ (rnHR true τ hp τ++vs.flatMap (rntR true τ hp)) keep) (rnH false σ hp1)) (ht2:trt keep (touched τ σ (rnHR true τ hp τ++vs.flatMap (rntR true τ hp)) keep) (rnt false σ hp1 rc))
  (hK:K (rnt false σ hp1 rc) (rnH false σ hp1++drops ((touched τ σ (rnHR true τ hp τ++vs.flatMap (rntR true τ hp)) keep).filter fun i=>!(σ.map (·.1)).contains i)) (τ.map (·.2.2.1)++(rnHR true τ hp τ++vs.flatMap (rntR true τ hp)))):CallK P T f g hp vs K:=
 callG τ σ keep hn1 hn2 hg hP hs hd (by rw[e1,e2];exact h) hm1 hm2 hgs hbP hbR hrP hrR ht1 ht2 hK
end
open Go Go.Deep Go.ChangeShapes Go.WideShapes Go.ChangeAt Go.RowKit
section
variable {H:Type} {enc:TypeId×Value->H} {P:Program} {W W':World}
theorem trodAll_below (hl:laidOutB P=true) (hb:Below W.heap.size W W'):∀{ts:List TypeId} {vs:List Value} {ds:List (DataW H)} {ps:List MemPlace},(∀t∈ts,P.readableRec t=true/\t<P.types.size)->
  DataW.TrodAll enc P W 0 (fun _=>true) true ts vs ds ps->(∀x∈ps,x.block<W.heap.size)->DataW.TrodAll enc P W' 0 (fun b=>decide (b<W.heap.size)) true ts vs ds ps
 |[],vs,ds,ps,_,h,_=>by obtain⟨rfl,rfl,rfl⟩:=trodAll_nil h;exact trodAll_mk0
 |t::ts,vs,ds,ps,ht,h,hlt=>by
  obtain⟨v,vs',d,ds',p,q,rfl,rfl,rfl,h1,h2⟩:=trodAll_cons h
  have:=ht t (by simp)
  exact⟨p,q,Below.trod hl this.1 this.2 h1 hb fun x hx=>hlt x (by simp[hx]),trodAll_below hl hb (fun t' h'=>ht t' (by simp[h'])) h2 fun x hx=>hlt x (by simp[hx]),rfl⟩
theorem wf_i64 {a:Int} (h:(Lit.int .i64 a).wf=true):-9223372036854775808<=a/\a<=9223372036854775807:=by
 have h1:(decide (IntKind.min .i64<=a)&&decide (a<=IntKind.max .i64))=true:=h
 have e1:IntKind.min .i64=-9223372036854775808:=by decide
 have e2:IntKind.max .i64=9223372036854775807:=by decide
 rw[e1,e2] at h1
 simpa using h1
variable {U:Nat->Prop} {t e q:TypeId} {v:Value} {d:DataW H} {ps:List MemPlace}
theorem arg_int (ht:P.underlying t=some (.int .i64)) (hval:Value.okWide P W .any 0 t v) (hd:DataW.Trod enc P W 0 (fun _=>true) true t v d ps):∃n:Int,(-9223372036854775808<=n/\n<=9223372036854775807)/\VD W U (I n) v:=by
 obtain⟨n,rfl,_,_,hw⟩:=open_int ht hval hd
 exact⟨n,wf_i64 hw, .lit _ rfl⟩
theorem cell_spot {w:World} {a:Addr} {x:Value} (h:w.cell? a=some x):a=⟨a.block,a.off,none⟩/\a.block<w.heap.size:=by
 unfold World.cell? at h
 split at h
 ·rename_i c _ _ hb
  split at h
  ·cases h
  ·rename_i hs
   refine⟨?_,(Array.getElem?_eq_some_iff.1 hb).1⟩
   cases a with
   |mk b o s=>cases s<;>simp_all
 ·cases h
theorem VD.ints_mk (hU:∀b,U b) {a:Addr} {len cap:Nat} {zs:List Int} (hl:len<=cap) (hm:cap<=maxLen) (hz:zs.length=cap) (hc:∀i,i<cap->W.cell? (a.add i)=some (.int .i64 (zs.getD i 0))):
  VD W U (IS (zs.take len)) (.slice (some a) len cap):=by
 by_cases h0:cap=0
 ·obtain rfl:len=0:=by omega
  subst h0
  rw[List.take_zero]
  exact .nil _ _
 ·have h1:=cell_spot (hc 0 (by omega))
  have e:a=⟨a.block,a.off,none⟩:=h1.1
  have hlen:(zs.take len).length=len:=by simp;omega
  have:=VD.sl (w:=W) (U:=U) (ints (zs.take len)) false a.block a.off cap 1 (fun i=> .int .i64 (zs.getD i 0)) (hU _) h1.2 (by rw[ints_length,hlen];exact hl) hm (by simp) (by omega)
   (by intro i hi;simp[ints,AV.cells,I]) (by
    intro j hj
    rw[ints_length,hlen,Nat.mul_one] at hj
    have h2:=hc j (by omega)
    rw[e,add_plain] at h2
    exact h2) (by
    intro i hi j hj
    simp only[ints,List.getElem_map,I,AV.cells] at hj ⊢
    simp at hj;subst hj;rfl) (by
    intro i hi j hj
    rw[ints_length,hlen] at hi
    simp only[ints,List.getElem_map,I,AV.cells,List.getElem_take] at hj ⊢
    simp at hj;subst hj
    simp only[List.getElem_cons_zero,Nat.mul_one,Nat.add_zero]
    have:zs.getD i 0=zs[i]'(by omega):=by simp[show i<zs.length by omega]
    rw[this]
    exact .lit _ rfl)
  rw[ints_length,hlen] at this
  rw[<-e] at this
  exact this
theorem arg_ints (hU:∀b,U b) (ht:P.underlying t=some (.slice e)) (he:P.underlying e=some (.int .i64)) (hc:P.cellsOf e=1) (hval:Value.okWide P W .any 0 t v)
  (hd:DataW.Trod enc P W 0 (fun _=>true) true t v d ps):∃zs:List Int,zs.length<=9223372036854775807/\(∀x∈zs,-9223372036854775808<=x/\x<=9223372036854775807)/\VD W U (IS zs) v:=by
 obtain⟨a,len,cap,rfl⟩:=okWide_slice ht hval
 obtain⟨fuel,hf⟩:=hd
 rcases open_ints ht he hc hf with ⟨h1,_⟩|⟨a',len',cap',zs,h1,_,hl,hm,hz,_,hcell,hw⟩
 ·simp[Value.cells] at h1
  obtain⟨rfl,rfl,rfl⟩:=h1
  exact⟨[],by simp,by simp, .nil _ _⟩
 ·simp[Value.cells] at h1
  obtain⟨rfl,rfl,rfl⟩:=h1
  simp only[if_true] at hz
  have hm':cap<=9223372036854775807:=by unfold maxLen at hm;omega
  exact⟨zs.take len,by simp;omega,fun x hx=>wf_i64 (hw x (List.mem_of_mem_take hx)),VD.ints_mk hU hl hm hz fun i hi=>hcell i (by omega)⟩
def env0:Env:=⟨fun _=>none,fun _=>False,fun _=>none⟩
theorem own0 (b:Nat):¬OwnB env0 b:=by
 rintro(⟨id,ee,c,h,_⟩|⟨B,c,h,_⟩)<;>cases h
theorem UE_all (b:Nat):UE env0 b:=⟨fun h=>h,own0 b⟩
theorem HRel0 (w:World):HRel w env0 (Glt 1) [] where
 dead:=fun _ _=>rfl
 live:=fun id g ob h=>by simp[Hp.get] at h
 inj:=fun id id' ee ee' b c c' h=>by cases h
 lt:=fun id ee b c h=>by cases h
 nz:=fun id ee b c h=>by cases h
 kl:=fun b B c h=>by cases h
 ko:=fun b h=>rfl
 kk:=fun b B c h=>by cases h
theorem law_any {T:Tab} {f:FuncId} {as1:List AV} {vals:Array Value} (h:SatG P T f [] as1 [] (B true)) (hg:GOk T W (UE env0)) (hsz:as1.length=vals.size) (hv:∀i (hi:i<as1.length),VD W (UE env0) as1[i] (vals.getD i undef)):
  Calls P f vals W fun e W'=>e= .returned (.bool true)/\Below W.heap.size W W':=by
 have h:=h.2 W env0 vals (HRel0 W) (fun b hb=>hb.elim) hg hsz (fun i hi=> .dat _ _ (hv i hi))
 refine h.mono ?_
 rintro e W' ⟨v,e',rfl,_,hv,_,_,_,hf⟩
 cases hv with
 |dat _ _ hv=>
  cases hv with
  |lit _ _=>exact⟨rfl,hf.os,hf.tape,hf.output,hf.size,fun k hk=>hf.same k hk (own0 k)⟩
end
end Go.Sym
