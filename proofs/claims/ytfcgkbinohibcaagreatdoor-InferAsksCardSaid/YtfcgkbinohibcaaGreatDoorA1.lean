/- Lemmas towards inferAsks_card: no conditions of their own. -/
import Derived.WalkKit
import Derived.Laws.StructEq
import Derived.WalkSpells
import Derived.WalkLawsBesides
import Derived.Lib.Strings
import Derived.Great.BuildSlice
import Derived.Laws.IdiomCopy
import Derived.Laws.BytesString
set_option linter.all false
theorem Go.uDf (p : Prop) [Decidable p] (h : ¬ p := by omega) : decide p = false := decide_eq_false h
theorem Go.uDt (p : Prop) [Decidable p] (h : p := by omega) : decide p = true := decide_eq_true h
theorem Go.uO {p : Prop} (h : p := by simp only; omega) : p := h
theorem Go.oM {p : Prop} (h : p := by omega) : p := h
theorem Go.sM {p : Prop} (h : p := by simp) : p := h
theorem Go.kR {p : Prop} (h : p := by kernel_rfl) : p := h
theorem Go.dM {p : Prop} (h : p := by decide) : p := h
theorem Go.iN.{u} {c : Prop} {h : Decidable c} (n : ¬ c) {α : Sort u} {t e : α} : ite c t e = e := if_neg n
theorem Go.iP.{u} {c : Prop} {h : Decidable c} (n : c) {α : Sort u} {t e : α} : ite c t e = t := if_pos n
theorem Go.dF {p : Prop} [Decidable p] (h : ¬ p) : decide p = false := decide_eq_false h
theorem Go.dT {p : Prop} [Decidable p] (h : p) : decide p = true := decide_eq_true h
theorem Go.lR (n : Nat) : n ≤ n := Nat.le_refl n
theorem Go.zL (n : Nat) : 0 ≤ n := Nat.zero_le n
theorem Go.gE.{u} {α : Type u} {l : List α} {i : Nat} {a : α} : l.getD i a = l[i]?.getD a := List.getD_eq_getElem?_getD
theorem Go.gA.{u} {α : Type u} {xs : Array α} {i : Nat} {d : α} : xs.getD i d = xs[i]?.getD d := Array.getD_eq_getD_getElem?
theorem Go.gG.{u} {α : Type u} {l : List α} {i : Nat} (h : i < l.length) : l[i]? = some l[i] := List.getElem?_eq_getElem h
theorem Go.gM.{u} {α : Type u} {l : List α} {n : Nat} (h : n < l.length) : l[n]'h ∈ l := List.getElem_mem h
theorem Go.tL {n m k : Nat} (a : n < m) (b : m ≤ k) : n < k := Nat.lt_of_lt_of_le a b
theorem Go.mS.{u} {α : Type u} {a : α} {l : List α} : a ∈ a :: l := List.mem_cons_self
theorem Go.mC.{u} {α : Type u} (y : α) {a : α} {l : List α} (h : a ∈ l) : a ∈ y :: l := List.mem_cons_of_mem y h
theorem Go.oT {p : Prop} [Decidable p] (h : decide p = true) : p := of_decide_eq_true h
theorem Go.oF {p : Prop} [Decidable p] (h : decide p = false) : ¬ p := of_decide_eq_false h
theorem Go.nZ (n : Nat) : ¬ n < 0 := Nat.not_lt_zero n
theorem Go.aL.{u} {α : Type u} {xs ys : List α} : (xs ++ ys).length = xs.length + ys.length := List.length_append
theorem Go.vv0 {p:Prop} (h:p:=by simp only[Act.put,Act.eval,DE,Array.size_setIfInBounds,s1,s2,s3,s4,Nat.reduceEqDiff,Nat.reduceLT,false_and,true_and,and_self,if_false,if_true,reduceIte]):p:=h
theorem Go.vv1 {p:Prop} (h:p:=by decide+kernel):p:=h
theorem Go.vv2 {p:Prop} (h:p:=by simp;omega):p:=h
theorem Go.vv3 {p:Prop} (h:p:=by simp[Op.operands]):p:=h
theorem Go.vv4 {p:Prop} (h:p:=by repeat first|exact BA.nil|refine Jr ?_|(refine BA.cons ?_ ?_;(focus (simp only[go_sem,seval,-Int.reduceNatCast'];done)))):p:=h
theorem Go.vv5 {p:Prop} (h:p:=by simpa using hi):p:=h
theorem Go.vv6 {p:Prop} (h:p:=by simp only at Ah;omega):p:=h
theorem Go.vv7 {p:Prop} (h:p:=by rw[<-Array.mem_toList_iff,ha];simp):p:=h
theorem Go.vv8 {p:Prop} (h:p:=by simpa[Op.operands,Call.operands] using hx):p:=h
theorem Go.vv9 {p:Prop} (h:p:=by rw[List.length_take];omega):p:=h
theorem Go.vx0 {p:Prop} (h:p:=by cases h):p:=h
theorem Go.vx1 {p:Prop} (h:p:=by simp only[go_sem,seval,Bv,BK]<;>trivial):p:=h
theorem Go.vx2 {p:Prop} (h:p:=by simpa using hj):p:=h
theorem Go.vx3 {p:Prop} (h:p:=by intro c h;cases h):p:=h
theorem Go.vx4 {p:Prop} (h:p:=by have h:b<(((A6 w L).putObj (w.heap.size+1) (.loop L')).putObj w.heap.size (.deferred none)).heap.size:=hb;omega):p:=h
theorem Go.vx5 {p:Prop} (h:p:=by cases xm<;>simp_all [Cc]):p:=h
theorem Go.vx6 {p:Prop} (h:p:=by simp[B6,Fr,E5,E4]):p:=h
theorem Go.vx7 {p:Prop} (h:p:=by simp only[List.cons_append,List.nil_append];rw[Hp.get_cons_other _ _ hj]):p:=h
theorem Go.vx8 {p:Prop} (h:p:=by simp at hj;omega):p:=h
theorem Go.vx9 {p:Prop} (h:p:=by rw[hA];exact dT (Decidable.byContradiction (oF z0))):p:=h
theorem Go.vy0 {p:Prop} (h:p:=by simpa using h):p:=h
theorem Go.vy1 {p:Prop} (h:p:=by rintro b c ⟨⟩;exact⟨lR _,by rw[Hi];omega⟩):p:=h
theorem Go.vy2 {p:Prop} (h:p:=by simpa[Op.operands,Call.operands] using hd):p:=h
theorem Go.vy3 {p:Prop} (h:p:=by rw[show Op.maxDepth=9999+1 from rfl,Op.equalIn,Sem.run_bind,run_underlying hu];rfl):p:=h
theorem Go.vy4 {p:Prop} (h:p:=by cases xl<;>simp_all [Cc]):p:=h
theorem Go.vy5 {p:Prop} (h:p:=by rw[<-hG];exact grownCap_le_maxLen w _ _ _ (by unfold maxLen;omega)):p:=h
theorem Go.vy6 {p:Prop} (h:p:=by simp at hi):p:=h
theorem Go.vy7 {p:Prop} (h:p:=by rw[<-Array.toList_inj];exact ha):p:=h
theorem Go.vy8 {p:Prop} (h:p:=by rw[<-Array.toList_inj];exact ht):p:=h
theorem Go.vy9 {p:Prop} (h:p:=by simpa using h1):p:=h
theorem Go.vz0 {p:Prop} (h:p:=by simp at hi;omega):p:=h
theorem Go.vz1 {p:Prop} (h:p:=by rw[Dg,hA,dF (oT z0),Bool.false_and]):p:=h
theorem Go.vz2 {p:Prop} (h:p:=by cases xh<;>simp_all [Cc]):p:=h
theorem Go.vz3 {p:Prop} (h:p:=by simp at h):p:=h
theorem Go.vz4 {p:Prop} (h:p:=by rintro rfl;exact hb (by rw[epz];exact .inr (.inr rfl))):p:=h
theorem Go.vz5 {p:Prop} (h:p:=by simp only[List.length_nil];omega):p:=h
theorem Go.vz6 {p:Prop} (h:p:=by simp[AV.cells]):p:=h
theorem Go.vz7 {p:Prop} (h:p:=by simpa using h2):p:=h
theorem Go.vz8 {p:Prop} (h:p:=by cases m<;>simp only[go_sem]):p:=h
theorem Go.vz9 {p:Prop} (h:p:=by simp only[List.length_singleton] at ht;omega):p:=h
theorem Go.vq0 {p:Prop} (h:p:=by simp only[List.length_map];omega):p:=h
theorem Go.vq1 {p:Prop} (h:p:=by rw[Lib.cell_of_heap h.blk];rfl):p:=h
theorem Go.vq2 {p:Prop} (h:p:=by simp only[maxLen] at Fj;omega):p:=h
theorem Go.vq3 {p:Prop} (h:p:=by simpa using ha):p:=h
theorem Go.vq4 {p:Prop} (h:p:=by simp[Region.wanted,hg,hy,I3]):p:=h
theorem Go.vq5 {p:Prop} (h:p:=by simp[Builtin.len_,run_underlying hu]):p:=h
theorem Go.vq6 {p:Prop} (h:p:=by rw[Lib.cell_of_heap FE];rfl):p:=h
theorem Go.vq7 {p:Prop} (h:p:=by rw[Lib.cell_of_heap BX];rfl):p:=h
theorem Go.vq8 {p:Prop} (h:p:=by simp only[AT,hg,BM,List.append_nil]):p:=h
theorem Go.vq9 {p:Prop} (h:p:=by rw[List.length_drop];omega):p:=h
theorem Go.vw0 {p:Prop} (h:p:=by unfold EF;simp[c]):p:=h
theorem Go.vw1 {p:Prop} (h:p:=by rw[<-hG];exact grownCap_ge w _ _ _):p:=h
theorem Go.vw2 {p:Prop} (h:p:=by have:=oT c1;omega):p:=h
theorem Go.vw3 {p:Prop} (h:p:=by have:=oF c1;omega):p:=h
theorem Go.vw4 {p:Prop} (h:p:=by have:=oT c2;omega):p:=h
theorem Go.vw5 {p:Prop} (h:p:=by have:=oF c2;omega):p:=h
theorem Go.vw6 {p:Prop} (h:p:=by simp[As,AV.cells]):p:=h
theorem Go.vw7 {p:Prop} (h:p:=by unfold Plt.fmt;rw[c0];rfl):p:=h
theorem Go.vw8 {p:Prop} (h:p:=by rw[Hi];omega):p:=h
theorem Go.vw9 {p:Prop} (h:p:=by rw[DJ];exact Hz w.drew _):p:=h
theorem Go.vk0 {p:Prop} (h:p:=by simp[MapKept.IsKey]):p:=h
theorem Go.vk1 {p:Prop} (h:p:=by unfold maxLen;omega):p:=h
theorem Go.vk2 {p:Prop} (h:p:=by have:=List.mem_range.1 Ah;omega):p:=h
theorem Go.vk3 {p:Prop} (h:p:=by cases n<;>rfl):p:=h
theorem Go.vk4 {p:Prop} (h:p:=by rw[hp.sl];exact hn):p:=h
theorem Go.vk5 {p:Prop} (h:p:=by rw[fw id] at h;cases h):p:=h
theorem Go.vk6 {p:Prop} (h:p:=by rw[epz];exact .inr (.inr rfl)):p:=h
theorem Go.vk7 {p:Prop} (h:p:=by intro c;cases c<;>rfl):p:=h
theorem Go.vk8 {p:Prop} (h:p:=by rw[F1];exact Nat.zero_lt_one):p:=h
theorem Go.vk9 {p:Prop} (h:p:=by simpa using hx):p:=h
theorem Go.xv0 {p:Prop} (h:p:=by simp[Act.put,Act.eval,DE,t1]):p:=h
theorem Go.xv1 {p:Prop} (h:p:=by simpa using Dt):p:=h
theorem Go.xv2 {p:Prop} (h:p:=by simpa using BC):p:=h
theorem Go.xv3 {p:Prop} (h:p:=by simpa using hlen.symm):p:=h
theorem Go.xv4 {p:Prop} (h:p:=by rfl):p:=h
theorem Go.xv5 {p:Prop} (h:p:=by rw[h]):p:=h
theorem Go.xv6 {p:Prop} (h:p:=by simp[As]):p:=h
theorem Go.xv7 {p:Prop} (h:p:=by have:=hex i Aa;omega):p:=h
theorem Go.xv8 {p:Prop} (h:p:=by simp only;rw[hj];rfl):p:=h
theorem Go.xv9 {p:Prop} (h:p:=by simp[World.setCell]):p:=h
theorem Go.xx0 {p:Prop} (h:p:=by simp at h;omega):p:=h
theorem Go.xx1 {p:Prop} (h:p:=by unfold Az;omega):p:=h
theorem Go.xx2 {p:Prop} (h:p:=by simpa using hl):p:=h
theorem Go.xx3 {p:Prop} (h:p:=by simpa using q1):p:=h
theorem Go.xx4 {p:Prop} (h:p:=by simpa using Ar):p:=h
theorem Go.xx5 {p:Prop} (h:p:=by simpa using hn):p:=h
theorem Go.xx6 {p:Prop} (h:p:=by simpa using hb):p:=h
theorem Go.xx7 {p:Prop} (h:p:=by simp[Cu]):p:=h
namespace Go.Sym
open Go
inductive AV where
 |bad|lit (v:Value)|agg (cs:List AV)|tup (vs:List AV)|sl (es:List AV) (full:Bool)|kid (t k:Nat) (es:List AV)|l (id g off len:Nat)|P (cs:List AV)|p (id g n i off:Nat)|mpO (id g:Nat)|gl (g:Nat)|fn (f:FuncId) (caps:List AV)|bfn (f:FuncId) (first:List AV)
 |ifn|anyI (k:IntKind)
def AV.cells:AV->List AV
 | .agg cs=>cs|v=>[v]
def AV.one:AV->Bool
 | .bad| .agg _| .tup _=>false|_=>true
inductive Ob where
 |own (t k:Nat) (es:List AV)|box (cs:List AV)|mp (es:List (Int×Int))|ms (es:List (ByteArray×AV))|bd (t e:Nat) (bs:List UInt8)
inductive VD (w:World) (U:Nat->Prop):AV->Value->Prop
 |bad (v:Value):VD w U .bad v|lit (v:Value):v.oneCell'=true->VD w U (.lit v) v|agg (cs:List AV) (vs:Array Value):cs.length=vs.size->(∀i (h:i<cs.length),cs[i].one=true)->
   (∀i (h:i<cs.length),VD w U cs[i] (vs.getD i undef))->VD w U (.agg cs) (.agg vs)
 |tup (cs:List AV) (vs:Array Value):cs.length=vs.size->
   (∀i (h:i<cs.length),VD w U cs[i] (vs.getD i undef))->VD w U (.tup cs) (.tuple vs)
 |nil (full:Bool) (a:Option Addr):VD w U (.sl [] full) (.slice a 0 0)|sl (es:List AV) (full:Bool) (b off cap k:Nat) (f:Nat->Value):U b->b<w.heap.size->es.length<=cap->cap<=maxLen->(full=true->cap=es.length)->0<k->
   (∀i (h:i<es.length),es[i].cells.length=k)->
   (∀j,j<es.length*k->w.cell? ⟨b,off+j,none⟩=some (f j))->
   (∀i (h:i<es.length) j (h':j<es[i].cells.length),es[i].cells[j].one=true)->
   (∀i (h:i<es.length) j (h':j<es[i].cells.length),VD w U es[i].cells[j] (f (i*k+j)))->
   VD w U (.sl es full) (.slice (some ⟨b,off,none⟩) es.length cap)
 |P (cs:List AV) (b off:Nat) (f:Nat->Value):U b->b<w.heap.size->
   (∀j,j<cs.length->w.cell? ⟨b,off+j,none⟩=some (f j))->
   (∀j (h:j<cs.length),cs[j].one=true)->
   (∀j (h:j<cs.length),VD w U cs[j] (f j))->VD w U (.P cs) (.pointer (some ⟨b,off,none⟩))
 |gl (g:Nat):VD w U (.gl g) (.pointer (some ⟨g,0,none⟩))|fn (f:FuncId) (cs:List AV) (vs:Array Value):cs.length=vs.size->
   (∀i (h:i<cs.length),VD w U cs[i] (vs.getD i undef))->VD w U (.fn f cs) (.func (.func f) #[] vs)
 |ifn (t:Nat) (p:Value):VD w U .ifn (.iface t p)|anyI (k:IntKind) (n:Int):VD w U (.anyI k) (.int k n)
structure EE where
 g:Nat
 blk:Option (Nat×Nat)
 k:Nat
 n:Nat
structure An where
 m:Nat->Option EE
 z:Nat->Prop
 kid:Nat->Option (Nat×Nat)
instance:CoeFun An (fun _=>Nat->Option EE):=⟨An.m⟩
def BN (e:An) (b:Nat):Prop:=∃id ee c,e id=some ee/\ee.blk=some (b,c)
def AQ (e:An) (b:Nat):Prop:=BN e b\/∃B c,e.kid b=some (B,c)/\BN e B
def UE (e:An) (b:Nat):Prop:=¬e.z b/\¬AQ e b
def Ex (ee:EE) (off len:Nat) (v:Value):Prop:=
 match ee.blk with
 |none=>off=0/\len=0/\∃a,v= .slice a 0 0|some (b,bcap)=>∃cap,v= .slice (some ⟨b,off*ee.k,none⟩) len cap/\off+cap=bcap/\len<=cap
inductive VR (w:World) (U:Nat->Prop) (e:An) (G:Nat->Prop):AV->Value->Prop
 |dat (av:AV) (v:Value):VD w U av v->VR w U e G av v|agg (cs:List AV) (vs:Array Value):cs.length=vs.size->(∀i (h:i<cs.length),cs[i].one=true)->
   (∀i (h:i<cs.length),VR w U e G cs[i] (vs.getD i undef))->VR w U e G (.agg cs) (.agg vs)
 |tup (cs:List AV) (vs:Array Value):cs.length=vs.size->
   (∀i (h:i<cs.length),VR w U e G cs[i] (vs.getD i undef))->VR w U e G (.tup cs) (.tuple vs)
 |fn (f:FuncId) (cs:List AV) (vs:Array Value):cs.length=vs.size->
   (∀i (h:i<cs.length),VR w U e G cs[i] (vs.getD i undef))->VR w U e G (.fn f cs) (.func (.func f) #[] vs)
 |bfn (f:FuncId) (cs:List AV) (vs:Array Value):cs.length=vs.size->
   (∀i (h:i<cs.length),VR w U e G cs[i] (vs.getD i undef))->VR w U e G (.bfn f cs) (.func (.func f) vs #[])
 |l (id g off len:Nat) (v:Value):G g->v.oneCell'=true->
   (∀ee,e id=some ee->ee.g=g->off+len<=ee.n/\(ee.n=off+len->Ex ee off len v))->VR w U e G (.l id g off len) v
 |p (id g n i off:Nat) (v:Value):G g->v.oneCell'=true->
   (∀ee,e id=some ee->ee.g=g->n<=ee.n/\(ee.n=n->∀b c,ee.blk=some (b,c)->v= .pointer (some ⟨b,i*ee.k+off,none⟩)))->VR w U e G (.p id g n i off) v
 |mpO (id g:Nat) (v:Value):G g->v.oneCell'=true->
   (∀ee,e id=some ee->ee.g=g->ee.n=0->∀b c,ee.blk=some (b,c)->v= .map (some b))->VR w U e G (.mpO id g) v
structure AB (w:World) (e:An) (G:Nat->Prop) (w':World) (e':An) (G':Nat->Prop):Prop where
 size:w.heap.size<=w'.heap.size
 gs:∀g,G g->G' g
 un:∀b,b<w.heap.size->UE e b->UE e' b
 same:∀b,b<w.heap.size->UE e b->w'.heap[b]?=w.heap[b]?
 ent:∀id Au,e' id=some Au->G Au.g->∃ee,e id=some ee/\ee.g=Au.g/\ee.k=Au.k/\((ee.n=Au.n/\ee.blk=Au.blk)\/ee.n<Au.n)
theorem bB {w w':World} {b o:Nat} (h:w'.heap[b]?=w.heap[b]?):w'.cell? ⟨b,o,none⟩=w.cell? ⟨b,o,none⟩:=by simp[World.cell?,h]
theorem VD.mono {w w':World} {U U':Nat->Prop} (hs:w.heap.size<=w'.heap.size) (hU:∀b,b<w.heap.size->U b->U' b)
  (hh:∀b,b<w.heap.size->U b->w'.heap[b]?=w.heap[b]?) {av:AV} {v:Value} (h:VD w U av v):VD w' U' av v:=by
 induction h with
 |bad v=>exact .bad v|lit v h=>exact .lit v h|agg cs vs h1 h2 _ ih=>exact .agg cs vs h1 h2 ih|tup cs vs h1 _ ih=>exact .tup cs vs h1 ih|nil full a=>exact .nil full a|sl es full b off cap k f hb Aa h1 ET h2 h3 h4 h5 h6 _ ih=>exact .sl es full b off cap k f (hU b Aa hb) (tL Aa hs) h1 ET h2 h3 h4 (fun j hj=>(bB (hh b Aa hb)).trans (h5 j hj)) h6 ih|P cs b off f hb Aa h1 h2 _ ih=>exact .P cs b off f (hU b Aa hb) (tL Aa hs) (fun j hj=>(bB (hh b Aa hb)).trans (h1 j hj)) h2 ih|gl g=>exact .gl g|fn f cs vs h1 _ ih=>exact .fn f cs vs h1 ih|ifn t p=>exact .ifn t p|anyI k n=>exact .anyI k n
theorem VR.ext {w w':World} {e e':An} {G G':Nat->Prop} (x:AB w e G w' e' G') {av:AV} {v:Value}
  (h:VR w (UE e) e G av v):VR w' (UE e') e' G' av v:=by
 induction h with
 |dat av v h=>exact .dat av v (h.mono x.size x.un x.same)|agg cs vs h1 h2 _ ih=>exact .agg cs vs h1 h2 ih|tup cs vs h1 _ ih=>exact .tup cs vs h1 ih|fn f cs vs h1 _ ih=>exact .fn f cs vs h1 ih|bfn f cs vs h1 _ ih=>exact .bfn f cs vs h1 ih|l id g off len v hg h1 hi=>
  refine .l id g off len v (x.gs _ hg) h1 fun Au AP HB=>?_;obtain⟨ee,he,Bo,hk,hn⟩:=x.ent id Au AP (by rw[HB];exact hg);obtain⟨ha,hb⟩:=hi ee he oM;rcases hn with ⟨hn,Al⟩|hn
  .refine⟨oM,fun hl=>?_⟩;have:=hb oM;unfold Ex at this ⊢;rw[hk,Al] at this;exact this
  exact⟨oM,fun hl=>oM⟩
 |p id g n i off v hg h1 hi=>
  refine .p id g n i off v (x.gs _ hg) h1 fun Au AP HB=>?_;obtain⟨ee,he,Bo,hk,hn⟩:=x.ent id Au AP (by rw[HB];exact hg);obtain⟨ha,hb⟩:=hi ee he oM;rcases hn with ⟨hn,Al⟩|hn
  .exact⟨oM,fun hl b c hc=>by rw[<-hk];exact hb oM b c (Al.trans hc)⟩
  exact⟨oM,fun hl=>oM⟩
 |mpO id g v hg h1 hi=>
  refine .mpO id g v (x.gs _ hg) h1 fun Au AP HB C2 b c hb=>?_;obtain⟨ee,he,Bo,hk,hn⟩:=x.ent id Au AP (by rw[HB];exact hg);rcases hn with ⟨hn,Al⟩|hn
  .exact hi ee he oM oM b c (Al.trans hb)
  omega
theorem VD.oneCell {w:World} {U:Nat->Prop} {av:AV} {v:Value} (h:VD w U av v) (h1:av.one=true):v.oneCell'=true:=by cases h<;>first|assumption|rfl|cases h1
theorem VR.oneCell {w:World} {U:Nat->Prop} {e:An} {G:Nat->Prop} {av:AV} {v:Value} (h:VR w U e G av v) (h1:av.one=true):v.oneCell'=true:=by
 cases h with
 |dat _ _ h=>exact h.oneCell h1|agg=>cases h1
 |tup=>cases h1
 |fn=>rfl|bfn=>rfl|l=>assumption|p=>assumption|mpO=>assumption
def NF (fz:Nat×Nat) (n:Nat):Prop:=∀j,j<n->¬(fz.1<=j/\j<fz.2)
def Cl (w:World) (b:Nat) (cs:Array Value) (t:Nat):Prop:=∃fz,w.heap[b]?=some (.cells cs t fz)/\NF fz cs.size/\(fz=(0,0)\/t=5)
theorem NF.zero (n:Nat):NF (0,0) n:=fun j _ h=>vz3
theorem Cl.same {w w':World} {b t:Nat} {cs:Array Value} (h:Cl w b cs t) (k:w'.heap[b]?=w.heap[b]?):Cl w' b cs t:=by obtain⟨fz,h1,h2⟩:=h;exact⟨fz,k.trans h1,h2⟩
theorem Cl.of {w:World} {b t:Nat} {cs:Array Value} (h:w.heap[b]?=some (.cells cs t (0,0))):Cl w b cs t:=⟨_,h, .zero _, .inl rfl⟩
theorem Cl.cell {w:World} {b t:Nat} {cs:Array Value} (h:Cl w b cs t) (o:Nat):w.cell? ⟨b,o,none⟩=cs[o]?:=by obtain⟨fz,h1,_⟩:=h;simp[World.cell?,h1]
theorem Cl.frozen {w:World} {b t:Nat} {cs:Array Value} (h:Cl w b cs t) {o:Nat} (ho:o<cs.size):w.frozen? ⟨b,o,none⟩=false:=by obtain⟨fz,h1,h2⟩:=h;have:=h2.1 o ho;simp only[World.frozen?,h1];simpa using this
theorem Cl.cellD {w:World} {b t:Nat} {cs:Array Value} (h:Cl w b cs t) {o:Nat} (ho:o<cs.size):w.cell? ⟨b,o,none⟩=some (cs.getD o undef):=by rw[h.cell,gA,Array.getElem?_eq_getElem ho];rfl
theorem Cl.inj {w:World} {b t t':Nat} {cs AO:Array Value} (h:Cl w b cs t) (h':Cl w b AO t'):cs=AO/\t=t':=by
 obtain⟨fz,h1,_⟩:=h;obtain⟨fz',h2,_⟩:=h';rw[h1] at h2;cases h2
 exact⟨rfl,rfl⟩
inductive VC (w:World) (e:An) (G:Nat->Prop) (B c:Nat):AV->Value->Prop
 |val (av:AV) (v:Value):VR w (UE e) e G av v->VC w e G B c av v|kid0 (t k:Nat) (a:Option Addr):0<k->VC w e G B c (.kid t k []) (.slice a 0 0)|kid (t k:Nat) (es:List AV) (b cap:Nat) (cs:Array Value):e.kid b=some (B,c)->Cl w b cs t->cs.size=cap*k->0<k->es.length<=cap->cap<=maxLen->
   (∀i (h:i<es.length),es[i].cells.length=k)->
   (∀i (h:i<es.length) j (h':j<es[i].cells.length),es[i].cells[j].one=true)->
   (∀i (h:i<es.length) j (h':j<es[i].cells.length),VD w (UE e) es[i].cells[j] (cs.getD (i*k+j) undef))->
   VC w e G B c (.kid t k es) (.slice (some ⟨b,0,none⟩) es.length cap)
theorem VC.ext {w w':World} {e e':An} {G G':Nat->Prop} (x:AB w e G w' e' G') {B B' c:Nat} {av:AV} {v:Value} (h:VC w e G B c av v)
  (hk:∀b,e.kid b=some (B,c)->w'.heap[b]?=w.heap[b]?/\e'.kid b=some (B',c)):VC w' e' G' B' c av v:=by
 cases h with
 |val _ _ h=>exact .val _ _ (h.ext x)|kid0 t k a h=>exact .kid0 t k a h|kid t k es b cap cs h1 h2 h3 h4 h5 h6 h7 h8 h9=>obtain⟨k1,k2⟩:=hk b h1;exact .kid t k es b cap cs k2 (h2.same k1) h3 h4 h5 h6 h7 h8 fun i hi j hj=>(h9 i hi j hj).mono x.size x.un x.same
def Pz (w:World) (e:An) (b el:Nat) (bs:List UInt8) (v:Value):Prop:=
 (v= .slice none 0 0/\bs=[])\/∃(g cap:Nat) (cur:Array Value) (fz:Nat×Nat),v= .slice (some ⟨g,0,none⟩) bs.length cap/\e.kid g=some (b,1)/\w.heap[g]?=some (.cells cur el fz)/\
  fz.2<=bs.length/\bs.length<=cap/\cap<=maxLen/\cur.size=cap/\cur.toList.take bs.length=bs.map (fun b=>Value.int .u8 b.toNat)/\bs≠[]
def Gh (w:World) (e:An) (G:Nat->Prop):Ob->EE->Prop
 | .own t k es,ee=>ee.k=k/\ee.n=es.length/\0<k/\(∀i (h:i<es.length),es[i].cells.length=k)/\
   (∀i (h:i<es.length) j (h':j<es[i].cells.length),es[i].cells[j].one=true)/\
   match ee.blk with
   |none=>es=[]|some (b,bcap)=>bcap<=maxLen/\es.length<=bcap/\∃cs,Cl w b cs t/\cs.size=bcap*k/\
     ∀i (h:i<es.length) j (h':j<es[i].cells.length),VC w e G b (i*k+j) es[i].cells[j] (cs.getD (i*k+j) undef)
 | .box cs,ee=>ee.n=0/\(∀j (h:j<cs.length),cs[j].one=true)/\∃b c vs t,ee.blk=some (b,c)/\w.heap[b]?=some (.cells vs t (0,0))/\vs.size=cs.length/\
   ∀j (h:j<cs.length),VR w (UE e) e G cs[j] (vs.getD j undef)
 | .mp es,ee=>ee.n=0/\∃(b c:Nat) (vs:Array MapEntry) (cl:Nat),ee.blk=some (b,c)/\w.heap[b]?=some (.map vs cl)/\vs.toList.map (fun m=>(m.key,m.val))=es.map (fun p=>(Value.int .i64 p.1,Value.int .i64 p.2))| .ms es,ee=>ee.n=0/\∃(b c:Nat) (vs:Array MapEntry) (cl:Nat),ee.blk=some (b,c)/\w.heap[b]?=some (.map vs cl)/\vs.size=es.length/\
   ∀(i:Nat) (m:MapEntry) (p:ByteArray×AV),vs[i]?=some m->es[i]?=some p->m.key= .string p.1/\p.2.one=true/\VR w (UE e) e G p.2 m.val
 | .bd t el bs,ee=>ee.n=0/\∃(b c:Nat) (p v:Value),ee.blk=some (b,c)/\w.heap[b]?=some (.cells #[p,v] t (0,0))/\(p= .pointer none\/p= .pointer (some ⟨b,0,none⟩))/\Pz w e b el bs v
theorem Pz.ext {w w':World} {e e':An} {b b' el:Nat} {bs:List UInt8} {v:Value} (h:Pz w e b el bs v)
  (hk:∀g,e.kid g=some (b,1)->w'.heap[g]?=w.heap[g]?/\e'.kid g=some (b',1)):Pz w' e' b' el bs v:=by
 rcases h with h|⟨g,cap,cur,fz,h1,h2,h3,h4⟩
 .exact .inl h
 obtain⟨k1,k2⟩:=hk g h2;exact .inr ⟨g,cap,cur,fz,h1,k2,k1.trans h3,h4⟩
theorem Gh.ext {w w':World} {e e':An} {G G':Nat->Prop} (x:AB w e G w' e' G') {ob:Ob} {ee:EE} (h:Gh w e G ob ee)
  (hb:∀b c,ee.blk=some (b,c)->w'.heap[b]?=w.heap[b]?/\∀b' c',e.kid b'=some (b,c')->w'.heap[b']?=w.heap[b']?/\e'.kid b'=some (b,c')):Gh w' e' G' ob ee:=by
 cases ob with
 |own t k es=>
  obtain⟨h1,h2,h3,h4,h5,h6⟩:=h;refine⟨h1,h2,h3,h4,h5,?_⟩;cases Al:ee.blk with
  |none=>rw[Al] at h6;exact h6|some p=>obtain⟨b,bcap⟩:=p;rw[Al] at h6;obtain⟨h7,h8,cs,h9,C8,C9⟩:=h6;obtain⟨k1,k2⟩:=hb b bcap Al;exact⟨h7,h8,cs,h9.same k1,C8,fun i hi j hj=>(C9 i hi j hj).ext x fun b' CO=>k2 b' _ CO⟩
 |box cs=>obtain⟨h1,h2,b,c,vs,t,h3,h4,h5,h6⟩:=h;exact⟨h1,h2,b,c,vs,t,h3,(hb b c h3).1.trans h4,h5,fun j hj=>(h6 j hj).ext x⟩
 |mp es=>obtain⟨h1,b,c,vs,cl,h3,h4,h5⟩:=h;exact⟨h1,b,c,vs,cl,h3,(hb b c h3).1.trans h4,h5⟩
 |ms es=>obtain⟨h1,b,c,vs,cl,h3,h4,h5,h6⟩:=h;exact⟨h1,b,c,vs,cl,h3,(hb b c h3).1.trans h4,h5,fun i m p hm hp=>⟨(h6 i m p hm hp).1,(h6 i m p hm hp).2.1,(h6 i m p hm hp).2.2.ext x⟩⟩
 |bd t el bs=>obtain⟨h1,b,c,p,v,h3,h4,h5,h6⟩:=h;exact⟨h1,b,c,p,v,h3,(hb b c h3).1.trans h4,h5,h6.ext fun g hg=>(hb b c h3).2 g 1 hg⟩
open Go
abbrev Hp:=List (Nat×Option (Nat×Ob))
def Hp.get:Hp->Nat->Option (Nat×Ob)
 |[],_=>none|(i,x)::h,n=>if i=n then x else Hp.get h n
def AC:List (Nat×AV)->Nat->AV
 |[],_=> .bad|(i,x)::h,n=>if i=n then x else AC h n
structure St where
 tm:List (Nat×AV)
 hp:Hp
 ck:Nat
structure AU (w:World) (e:An) (G:Nat->Prop) (hp:Hp):Prop where
 dead:∀id,hp.get id=none->e id=none
 live:∀id g ob,hp.get id=some (g,ob)->∃ee,e id=some ee/\ee.g=g/\G g/\Gh w e G ob ee
 inj:∀id Br ee Au b c c',e id=some ee->e Br=some Au->ee.blk=some (b,c)->Au.blk=some (b,c')->id=Br
 lt:∀id ee b c,e id=some ee->ee.blk=some (b,c)->b<w.heap.size
 nz:∀id ee b c,e id=some ee->ee.blk=some (b,c)->¬e.z b
 kl:∀b B c,e.kid b=some (B,c)->b<w.heap.size/\B<w.heap.size/\¬e.z b
 ko:∀b,BN e b->e.kid b=none
 kk:∀b B c,e.kid b=some (B,c)->e.kid B=none
def Ed (e:An) (id:Nat) (x:Option EE):An:=⟨fun i=>if i=id then x else e i,e.z,e.kid⟩
theorem Hq (e:An) (id:Nat) (x:Option EE):Ed e id x id=x:=by simp[Ed]
theorem Ir (e:An) {id i:Nat} (x:Option EE) (h:i≠id):Ed e id x i=e i:=by simp[Ed,h]
theorem Hp.get_cons_same (h:Hp) (id:Nat) (x:Option (Nat×Ob)):Hp.get ((id,x)::h) id=x:=by simp[Hp.get]
theorem Hp.get_cons_other (h:Hp) {id i:Nat} (x:Option (Nat×Ob)) (Bj:i≠id):Hp.get ((id,x)::h) i=h.get i:=by simp[Hp.get,Ne.symm Bj]
theorem BN.of {e:An} {id:Nat} {ee:EE} {b c:Nat} (he:e id=some ee) (hb:ee.blk=some (b,c)):BN e b:=⟨id,ee,c,he,hb⟩
theorem AU.obj_lt {w:World} {e:An} {G:Nat->Prop} {hp:Hp} (h:AU w e G hp) {b:Nat} (hb:BN e b):b<w.heap.size:=by obtain⟨id,ee,c,h1,h2⟩:=hb;exact h.lt id ee b c h1 h2
theorem AU.obj_nz {w:World} {e:An} {G:Nat->Prop} {hp:Hp} (h:AU w e G hp) {b:Nat} (hb:BN e b):¬e.z b:=by obtain⟨id,ee,c,h1,h2⟩:=hb;exact h.nz id ee b c h1 h2
theorem AU.own_lt {w:World} {e:An} {G:Nat->Prop} {hp:Hp} (h:AU w e G hp) {b:Nat} (hb:AQ e b):b<w.heap.size:=by
 rcases hb with hb|⟨B,c,hk,_⟩
 .exact h.obj_lt hb
 exact(h.kl b B c hk).1
theorem AU.own_nz {w:World} {e:An} {G:Nat->Prop} {hp:Hp} (h:AU w e G hp) {b:Nat} (hb:AQ e b):¬e.z b:=by
 rcases hb with hb|⟨B,c,hk,_⟩
 .exact h.obj_nz hb
 exact(h.kl b B c hk).2.2
theorem AU.gen {w:World} {e:An} {G:Nat->Prop} {hp:Hp} (h:AU w e G hp):∀id ee,e id=some ee->G ee.g:=by
 intro id ee he;cases hx:hp.get id with
 |none=>rw[h.dead id hx] at he;cases he
 |some p=>obtain⟨g,ob⟩:=p;obtain⟨Au,h1,h2,h3,_⟩:=h.live id g ob hx;rw[h1] at he;cases he;rw[h2];exact h3
theorem AU.step {w w':World} {e e':An} {G G':Nat->Prop} {hp hp':Hp} (tch:Nat->Prop) (h:AU w e G hp) (x:AB w e G w' e' G') (hz:e'.z=e.z)
  (J0:∀id,¬tch id->e' id=e id/\hp'.get id=hp.get id)
  (R9:∀id ee b c,¬tch id->e id=some ee->ee.blk=some (b,c)->w'.heap[b]?=w.heap[b]?/\∀b' c',e.kid b'=some (b,c')->w'.heap[b']?=w.heap[b']?/\e'.kid b'=some (b,c'))
  (hd:∀id,tch id->hp'.get id=none->e' id=none)
  (hl:∀id g ob,tch id->hp'.get id=some (g,ob)->∃ee,e' id=some ee/\ee.g=g/\G' g/\Gh w' e' G' ob ee)
  (hb:∀id ee b c,tch id->e' id=some ee->ee.blk=some (b,c)->b<w'.heap.size/\¬e.z b/\∀Br Au c',e' Br=some Au->Au.blk=some (b,c')->Br=id)
  (hk:∀b B c,e'.kid b=some (B,c)->b<w'.heap.size/\B<w'.heap.size/\¬e.z b) (OI:∀b,BN e' b->e'.kid b=none)
  (Ia:∀b B c,e'.kid b=some (B,c)->e'.kid B=none):AU w' e' G' hp':=by
 have hs:=x.size;constructor
 .intro id hid;by_cases ht:tch id
  .exact hd id ht hid
  obtain⟨h1,h2⟩:=J0 id ht;rw[h1];exact h.dead id (h2.symm.trans hid)
 .intro id g ob hid;by_cases ht:tch id
  .exact hl id g ob ht hid
  obtain⟨h1,h2⟩:=J0 id ht;obtain⟨ee,q1,q2,q3,q4⟩:=h.live id g ob (h2.symm.trans hid);exact⟨ee,h1.trans q1,q2,x.gs _ q3,q4.ext x fun b c Al=>R9 id ee b c ht q1 Al⟩
 .intro i j ei ej b c c' hi hj Ht BG;by_cases h1:tch i
  .exact((hb i ei b c h1 hi Ht).2.2 j ej c' hj BG).symm
  by_cases h2:tch j
  .exact(hb j ej b c' h2 hj BG).2.2 i ei c hi Ht
  rw[(J0 i h1).1] at hi;rw[(J0 j h2).1] at hj;exact h.inj i j ei ej b c c' hi hj Ht BG
 .intro i ei b c hi Ht;by_cases h1:tch i
  .exact(hb i ei b c h1 hi Ht).1
  rw[(J0 i h1).1] at hi;exact tL (h.lt i ei b c hi Ht) hs
 .intro i ei b c hi Ht;rw[hz];by_cases h1:tch i
  .exact(hb i ei b c h1 hi Ht).2.1
  rw[(J0 i h1).1] at hi;exact h.nz i ei b c hi Ht
 .rw[hz];exact hk
 .exact OI
 exact Ia
theorem AB.mk' {w w':World} {e e':An} {G G':Nat->Prop} (hs:w.heap.size<=w'.heap.size) (hg:∀g,G g->G' g) (hz:e'.z=e.z)
  (ho:∀b,b<w.heap.size->AQ e' b->AQ e b) (Qr:∀b,b<w.heap.size->¬AQ e b->w'.heap[b]?=w.heap[b]?)
  (RZ:∀id Au,e' id=some Au->G Au.g->∃ee,e id=some ee/\ee.g=Au.g/\ee.k=Au.k/\((ee.n=Au.n/\ee.blk=Au.blk)\/ee.n<Au.n)):AB w e G w' e' G':=
 ⟨hs,hg,fun b hb hu=>⟨by rw[hz];exact hu.1,fun h=>hu.2 (ho b hb h)⟩,fun b hb hu=>Qr b hb hu.2,RZ⟩
theorem AB.refl (w:World) (e:An) (G:Nat->Prop):AB w e G w e G:=
 ⟨lR _,fun _ h=>h,fun _ _ h=>h,fun _ _ _=>rfl,fun _ Au h _=>⟨Au,h,rfl,rfl, .inl ⟨rfl,rfl⟩⟩⟩
theorem AB.trans {w w' w'':World} {e e' e'':An} {G G' G'':Nat->Prop} (x:AB w e G w' e' G') (y:AB w' e' G' w'' e'' G''):AB w e G w'' e'' G'':=by
 refine⟨Nat.le_trans x.size y.size,fun g h=>y.gs _ (x.gs _ h),fun b hb hu=>y.un b (tL hb x.size) (x.un b hb hu),
  fun b hb hu=>(y.same b (tL hb x.size) (x.un b hb hu)).trans (x.same b hb hu),?_⟩
 intro id ee'' he hg;obtain⟨Au,h1,h2,h3,h4⟩:=y.ent id ee'' he (x.gs _ hg);obtain⟨ee,k1,k2,k3,k4⟩:=x.ent id Au h1 (by rw[h2];exact hg);refine⟨ee,k1,k2.trans h2,k3.trans h3,?_⟩;rcases h4 with ⟨h4,h5⟩|h4<;>rcases k4 with ⟨k4,k5⟩|k4
 .exact .inl ⟨k4.trans h4,k5.trans h5⟩
 .exact .inr oM
 .exact .inr oM
 exact .inr oM
structure Cx where
 P:Program
 N:Nat
 w0:World
 e0:An
 rd:Option Nat
 df:List Deferred
 esc:Act->World->Prop
structure HU (C:Cx) (w:World):Prop where
 os:w.os=C.w0.os
 tape:w.tape=C.w0.tape
 output:w.output=C.w0.output
 size:C.w0.heap.size<=w.heap.size
 same:∀b,b<C.w0.heap.size->¬AQ C.e0 b->w.heap[b]?=C.w0.heap[b]?
 drawn:C.w0.drawn<=w.drawn
def Az (n:Nat):Nat->Prop:=fun g=>g<n
structure Ew (C:Cx) (w:World) (e:An) (G:Nat->Prop):Prop where
 zeq:e.z=C.e0.z
 zlt:∀b,C.e0.z b->b<C.w0.heap.size
 ext:AB C.w0 C.e0 (Az 1) w e G
 mine:∀b,AQ e b->C.w0.heap.size<=b\/AQ C.e0 b
structure GJ (C:Cx) (G:Nat->Prop) (tm:List (Nat×AV)) (hp:Hp) (a:Act) (w:World):Prop where
 defers:a.defers=C.df
 size:a.tmps.size=C.N
 frm:HU C w
 body:∃e,AU w e G hp/\Ew C w e G/\∀t,VR w (UE e) e G (AC tm t) (a.tmps.getD t undef)
theorem Ew.step {C:Cx} {w w':World} {e e':An} {G G':Nat->Prop} (h:Ew C w e G) (hs:C.w0.heap.size<=w.heap.size) (x:AB w e G w' e' G') (hz:e'.z=e.z)
  (ho:∀b,b<w.heap.size->AQ e' b->AQ e b):Ew C w' e' G':=by
 refine⟨hz.trans h.zeq,h.zlt,h.ext.trans x,fun b hb=>?_⟩;by_cases Aa:b<w.heap.size
 .exact h.mine b (ho b Aa hb)
 exact .inl oM
theorem HU.step {C:Cx} {w w':World} {e:An} {G:Nat->Prop} (h:HU C w) (hl:Ew C w e G) (h1:w'.os=w.os) (h2:w'.tape=w.tape) (h3:w'.output=w.output) (hs:w.heap.size<=w'.heap.size)
  (Qr:∀b,b<w.heap.size->¬AQ e b->w'.heap[b]?=w.heap[b]?) (hd:w.drawn<=w'.drawn:=by exact lR _):HU C w':=by
 refine⟨h1.trans h.os,h2.trans h.tape,h3.trans h.output,Nat.le_trans h.size hs,fun b hb hn=>?_,Nat.le_trans h.drawn hd⟩;rw[Qr b (tL hb h.size) ?_]
 .exact h.same b hb hn
 intro ho;rcases hl.mine b ho with h4|h4
 .omega
 exact hn h4
theorem iL {C:Cx} {w:World} {e:An} {G:Nat->Prop} (h:Ew C w e G) (f:HU C w) {b:Nat} (hb:w.heap.size<=b):¬e.z b:=by rw[h.zeq];intro hz;have:=h.zlt b hz;have:=f.size;omega
def edrop (e:An) (ids:List Nat):An:=⟨fun i=>if i∈ids then none else e i,e.z,e.kid⟩
theorem Lb {e:An} {ids:List Nat} {i:Nat} {ee:EE} (h:edrop e ids i=some ee):i∉ids/\e i=some ee:=by
 simp only[edrop] at h;split at h
 .cases h
 exact⟨by assumption,h⟩
theorem Rl {e:An} {ids:List Nat} {i:Nat} (h:i∉ids):edrop e ids i=e i:=by simp[edrop,h]
theorem BN.edrop {e:An} {ids:List Nat} {b:Nat} (h:BN (edrop e ids) b):BN e b:=by obtain⟨id,ee,c,h1,h2⟩:=h;exact⟨id,ee,c,(Lb h1).2,h2⟩
theorem AQ.edrop {e:An} {ids:List Nat} {b:Nat} (h:AQ (edrop e ids) b):AQ e b:=by
 rcases h with h|⟨B,c,h1,h2⟩
 .exact .inl h.edrop
 exact .inr ⟨B,c,h1,h2.edrop⟩
theorem AB.drops (w:World) (e:An) (G:Nat->Prop) (ids:List Nat):AB w e G w (edrop e ids) G:=
 AB.mk' (lR _) (fun _ h=>h) rfl (fun _ _ h=>h.edrop) (fun _ _ _=>rfl) fun _ Au h _=>⟨Au,(Lb h).2,rfl,rfl, .inl ⟨rfl,rfl⟩⟩
theorem Nl (ids:List Nat) (hp:Hp) (i:Nat):Hp.get ((ids.map fun j=>(j,none))++hp) i=if i∈ids then none else hp.get i:=by
 induction ids with
 |nil=>simp|cons j ids ih=>
  simp only[List.map_cons,List.cons_append,Hp.get,ih,List.mem_cons];by_cases h:j=i
  .subst h;simp
  simp[h,Ne.symm h]
theorem AU.drops {w:World} {e:An} {G:Nat->Prop} {hp:Hp} (h:AU w e G hp) (ids:List Nat):AU w (edrop e ids) G ((ids.map fun j=>(j,none))++hp):=by
 refine h.step (fun i=>i∈ids) (AB.drops w e G ids) rfl (fun i hi=>⟨Rl hi,by rw[Nl,iN hi]⟩) (fun _ _ _ _ _ _ _=>⟨rfl,fun _ _ h=>⟨rfl,h⟩⟩)
  (fun i hi _=>by simp[edrop,hi]) (fun i g ob hi hg=>by rw[Nl,iP hi] at hg;cases hg) (fun i ee b c hi he _=>absurd hi (Lb he).1) h.kl (fun b hb=>h.ko b hb.edrop) h.kk
theorem Ew.drops {C:Cx} {w:World} {e:An} {G:Nat->Prop} (h:Ew C w e G) (ids:List Nat):Ew C w (edrop e ids) G:=
 ⟨h.zeq,h.zlt,h.ext.trans (AB.drops w e G ids),fun b hb=>h.mine b hb.edrop⟩
theorem UE.dropped {w:World} {e:An} {G:Nat->Prop} {hp:Hp} (hr:AU w e G hp) {id:Nat} {ee:EE} {b c:Nat} (he:e id=some ee) (hb:ee.blk=some (b,c)) {ids:List Nat} (hi:id∈ids):UE (edrop e ids) b:=by
 have wa:¬BN (Sym.edrop e ids) b:=by rintro⟨Br,Au,c',h1,h2⟩;obtain⟨h3,h4⟩:=Lb h1;have:=hr.inj id Br ee Au b c c' he h4 hb h2;subst this;exact h3 hi
 refine⟨hr.nz id ee b c he hb,?_⟩;rintro(h|⟨B,c',hk,_⟩)
 .exact wa h
 rw[show(Sym.edrop e ids).kid=e.kid from rfl,hr.ko b ⟨id,ee,c,he,hb⟩] at hk;cases hk
theorem UE.dropped_kid {w:World} {e:An} {G:Nat->Prop} {hp:Hp} (hr:AU w e G hp) {id:Nat} {ee:EE} {b c:Nat} (he:e id=some ee) (hb:ee.blk=some (b,c)) {ids:List Nat} (hi:id∈ids)
  {b' c':Nat} (hk:e.kid b'=some (b,c')):UE (edrop e ids) b':=by
 refine⟨(hr.kl _ _ _ hk).2.2,?_⟩;rintro(h|⟨B,c'',CV,ho⟩)
 .have:=hr.ko b' h.edrop;rw[hk] at this;cases this
 have e1:e.kid b'=some (B,c''):=CV;rw[hk] at e1;cases e1
 exact(UE.dropped hr he hb hi).2 (.inl ho)
theorem LH {i n k j:Nat} (hi:i<n) (hj:j<k):i*k+j<n*k:=
 calc i*k+j<i*k+k:=oM
  _=(i+1)*k:=by rw[Nat.succ_mul]
  _<=n*k:=Nat.mul_le_mul_right _ oM
theorem Oe {i j k:Nat} (hj:j<k):(i*k+j) / k=i/\(i*k+j) % k=j:=by
 have hk:0<k:=oM;refine⟨?_,?_⟩
 .rw[Nat.mul_comm,Nat.mul_add_div hk,Nat.div_eq_of_lt hj,Nat.add_zero]
 rw[Nat.mul_comm,Nat.mul_add_mod,Nat.mod_eq_of_lt hj]
open Go
inductive ZC where
 |int (k:IntKind)|bool|str|sl|ptr|map|fn|iface
def ZC.val:ZC->Value
 | .int k=> .int k 0| .bool=> .bool false| .str=> .string ByteArray.empty| .sl=> .slice none 0 0| .ptr=> .pointer none| .map=> .map none| .fn=> .nilFunc| .iface=> .nilIface
def ZC.av:ZC->AV
 | .sl=> .sl [] true|z=> .lit z.val
inductive Ty where
 |int (k:IntKind)|bool|str|slice (e:Nat)|array (n e:Nat)|struct (fs:List (Nat×Nat))|ptr (e:Nat)|map (k e:Nat)|iface|bld (e:Nat)|other
structure TI where
 ty:Ty
 agg:Bool
 size:Nat
 bytes:Nat
 zs:List ZC
 eq:Bool:=false
structure AE where
 ty:List (Nat×TI)
 gl:List (Nat×List AV)
 full:List (Nat×Array Value)
def TI.none:TI:=⟨.other,false,0,0,[],false⟩
def S7:List (Nat×TI)->Nat->TI
 |[],_=> .none|(i,x)::h,n=>if i=n then x else S7 h n
def tl (T:AE) (n:Nat):TI:=S7 T.ty n
def JE:List (Nat×List AV)->Nat->Option (List AV)
 |[],_=>none|(i,x)::h,n=>if i=n then some x else JE h n
def glob (T:AE):AV->AV
 | .gl g=>match JE T.gl g with|some cs=> .P cs|none=> .gl g
 |v=>v
def TI.zval (ti:TI):Value:=
 if ti.agg then .agg (ti.zs.map ZC.val).toArray else(match ti.zs with|[z]=>z.val|_=>undef)
def TI.zav (ti:TI):AV:=
 if ti.agg then .agg (ti.zs.map ZC.av) else(match ti.zs with|[z]=>z.av|_=> .bad)
def Ty.fits:Ty->TypeDesc->Prop
 | .int k,d=>d= .int k| .bool,d=>d= .bool| .str,d=>d= .string| .slice e,d=>d= .slice e| .array n e,d=>d= .array n e| .struct fs,d=>∃a,d= .struct a/\a.toList.map (fun f=>(f.offset,f.type))=fs| .ptr e,d=>d= .pointer e| .map k e,d=>d= .map k e| .iface,d=>∃m,d= .interface m| .bld _,_=>True| .other,_=>True
def ZC.eqs:ZC->TypeDesc->Prop
 | .int _,d=>∃k,d= .int k| .bool,d=>d= .bool| .str,d=>d= .string|_,_=>False
inductive Im (P:Program):Nat->Nat->List Field->List ZC->Prop
 |nil (n o:Nat):Im P n o [] []|one (n o:Nat) (f:Field) (fs:List Field) (z:ZC) (zs:List ZC) (d:TypeDesc):f.name≠ "_" ->f.offset=o->P.underlying f.type=some d->z.eqs d->Im P n (o+1) fs zs->Im P n o (f::fs) (z::zs)|sub (n o:Nat) (f:Field) (fs:List Field) (z1 z2:List ZC) (i:TypeInfo):f.name≠ "_" ->f.offset=o->P.underlying f.type=some (.struct (P.fieldsOf f.type))->P.stoodInHeld f.type=false->
   P.info? f.type=some i->i.size=z1.length->Im P n 0 (P.fieldsOf f.type).toList z1->Im P (n+1) (o+z1.length) fs z2->Im P (n+1) o (f::fs) (z1++z2)
def aa (P:Program) (t:Nat) (zs:List ZC):Prop:=
 P.underlying t=some (.struct (P.fieldsOf t))/\P.stoodInHeld t=false/\P.eqGuardType P.depth t=false/\Im P 9998 0 (P.fieldsOf t).toList zs
structure Di (P:Program) (t:Nat) (ti:TI):Prop where
 info:∃i,P.info? t=some i/\i.size=ti.size/\i.bytes=ti.bytes/\i.zero=some ti.zval
 desc:∃d,P.underlying t=some d/\ti.ty.fits d/\(ti.agg=match d with| .struct _| .array _ _=>true|_=>false)
 len:ti.zs.length=ti.size
 flds:∀a,P.underlying t=some (.struct a)->∀f∈a,(P.info? f.type).isSome=true
 one:ti.agg=false->ti.size=1
 eqs:ti.eq=true->aa P t ti.zs
def B4 (P:Program) (T:AE):Prop:=∀t,tl T t= .none\/Di P t (tl T t)
def AH (f:AV->AV):AV->AV
 | .agg cs=> .agg (cs.map f)|v=>f v
def fz:Nat->Hp->AV->AV
 |_,_, .kid _ _ xs=> .sl xs false|_,_, .sl es _=> .sl es false|n+1,hp, .l id _ off _=>match hp.get id with
  |some (_, .own _ _ es)=> .sl ((es.drop off).map (AH (fz n hp))) false|_=> .bad
 |n+1,hp, .p id _ _ i off=>match hp.get id with
  |some (_, .box cs)=> .P ((cs.drop off).map (fz n hp))|some (_, .own _ _ es)=> .P (((es.getD i .bad).cells.drop off).map (fz n hp))|_=> .bad
 |n+1,hp, .fn f cs=> .fn f (cs.map (fz n hp))|_,_,v=>v
def fzP:Nat->Hp->AV->Prop
 |_,_, .kid _ _ _|_,_, .lit _|_,_, .sl _ _|_,_, .P _|_,_, .gl _|_,_, .ifn|_,_, .anyI _=>True|n+1,hp, .l id g off len=>match hp.get id with
  |some (g', .own _ _ es)=>g'=g/\es.length=off+len/\∀e∈es,∀c∈e.cells,fzP n hp c|_=>False
 |n+1,hp, .p id g m i _=>match hp.get id with
  |some (g', .box cs)=>g'=g/\m=0/\i=0/\∀c∈cs,fzP n hp c|some (g', .own _ _ es)=>g'=g/\m=es.length/\i<es.length/\∀c∈(es.getD i .bad).cells,fzP n hp c|_=>False
 |n+1,hp, .fn _ cs=>∀c∈cs,fzP n hp c|_,_,_=>False
def fzR:Nat->Hp->AV->List Nat
 |n+1,hp, .l id _ _ _=>id::match hp.get id with
  |some (_, .own _ _ es)=>es.flatMap fun e=>e.cells.flatMap (fzR n hp)|_=>[]
 |n+1,hp, .p id _ _ i _=>id::match hp.get id with
  |some (_, .box cs)=>cs.flatMap (fzR n hp)|some (_, .own _ _ es)=>(es.getD i .bad).cells.flatMap (fzR n hp)|_=>[]
 |n+1,hp, .fn _ cs=>cs.flatMap (fzR n hp)|_,_,_=>[]
def WK (hp:Hp) (v:AV):AV:=AH (fz 4 hp) v
def WL (hp:Hp) (v:AV):Prop:=∀c∈v.cells,fzP 4 hp c
def WM (hp:Hp) (v:AV):List Nat:=v.cells.flatMap (fzR 4 hp)
def Ni (hp:Hp):AV->AV
 | .tup vs=> .tup (vs.map (WK hp))|v=>WK hp v
def Nj (hp:Hp):AV->Prop
 | .tup vs=>∀v∈vs,WL hp v|v=>WL hp v
def P3 (hp:Hp):AV->List Nat
 | .tup vs=>vs.flatMap (WM hp)|v=>WM hp v
def att (hp:Hp):AV->AV
 | .l id g off len=>match hp.get id with
  |some (_, .own t k es)=>if off=0 then .kid t k (es.map (AH (fz 0 hp))) else fz 1 hp (.l id g off len)|_=> .bad
 |v=>v
def attP (hp:Hp):AV->Prop
 | .l id g off len=>fzP 1 hp (.l id g off len)| .bad| .agg _| .tup _| .kid _ _ _=>False|_=>True
def Dj:AV->List Nat
 | .l id _ _ _=>[id]|_=>[]
def ofC:Value->AV
 | .slice none 0 0=> .sl [] true|v=>if v.oneCell' then .lit v else .bad
def ofV:Value->AV
 | .agg cs=>if cs.toList.all (fun c=>(ofC c).one) then .agg (cs.toList.map ofC) else .bad|v=>ofC v
def St.ev (s:St):Operand->AV
 | .tmp t=>AC s.tm t| .const v=>ofV v| .func f=> .fn f []| .global g=> .gl g
abbrev Up:=Nat×Option (Nat×Ob)
abbrev R:=Prop×AV×List Up
def R.no:R:=(False, .bad,[])
def R.val (ob:Prop) (v:AV):R:=(ob,v,[])
def LZ (k:IntKind) (r:Int):R:=
 match k with
 | .i64=> .val (-9223372036854775808<=r/\r<=9223372036854775807) (.lit (.int .i64 r))|k=> .val True (.lit (.int k (k.wrap r)))
def Tr (k:IntKind) (a b:Int):Int:=k.wrap (BitVec.ofInt k.bits a &&& BitVec.ofInt k.bits b).toNat
def i8 (k:IntKind) (a b:Int):Int:=k.wrap (BitVec.ofInt k.bits a ||| BitVec.ofInt k.bits b).toNat
def Qhb (k:IntKind) (a b:Int):Int:=k.wrap (BitVec.ofInt k.bits a ^^^ BitVec.ofInt k.bits b).toNat
def nr (k:IntKind) (a b:Int):Int:=k.wrap (BitVec.ofInt k.bits a &&& ~~~ BitVec.ofInt k.bits b).toNat
def jU (k:IntKind) (a b:Int):Int:=k.wrap (a*2^(min b.toNat k.bits))
def Vg (k:IntKind) (a b:Int):Int:=a.fdiv (2^(min b.toNat k.bits))
def Rb (op:BinOp) (k:IntKind) (a b:Int):R:=
 match op with
 | .add=>LZ k (a+b)| .sub=>LZ k (a - b)| .mul=>LZ k (a*b)| .quo=> .val (b≠0) (.lit (.int k (k.wrap (a.tdiv b))))| .rem=> .val (b≠0) (.lit (.int k (a.tmod b)))| .eql=> .val True (.lit (.bool (decide (a=b))))| .neq=> .val True (.lit (.bool (decide (a≠b))))| .lss=> .val True (.lit (.bool (decide (a<b))))| .leq=> .val True (.lit (.bool (decide (a<=b))))| .gtr=> .val True (.lit (.bool (decide (b<a))))| .geq=> .val True (.lit (.bool (decide (b<=a))))| .and=> .val True (.lit (.int k (Tr k a b)))| .or=> .val True (.lit (.int k (i8 k a b)))| .xor=> .val True (.lit (.int k (Qhb k a b)))| .andNot=> .val True (.lit (.int k (nr k a b)))|_=> .no
def PQ (op:BinOp) (k:IntKind) (a b:Int):R:=
 match op with
 | .shl=> .val (0<=b) (.lit (.int k (jU k a b)))| .shr=> .val (0<=b) (.lit (.int k (Vg k a b)))|_=> .no
def Rc (op:BinOp) (a b:ByteArray):R:=
 match op with
 | .add=> .val (a.size+b.size<=9223372036854775807) (.lit (.string (a++b)))| .eql=> .val True (.lit (.bool (decide (a.data.toList=b.data.toList))))| .neq=> .val True (.lit (.bool (decide (a.data.toList≠b.data.toList))))| .lss=> .val True (.lit (.bool (Op.bytesLess a.data.toList b.data.toList)))| .leq=> .val True (.lit (.bool (Op.bytesLess a.data.toList b.data.toList||decide (a.data.toList=b.data.toList))))| .gtr=> .val True (.lit (.bool (!(Op.bytesLess a.data.toList b.data.toList||decide (a.data.toList=b.data.toList)))))| .geq=> .val True (.lit (.bool (!Op.bytesLess a.data.toList b.data.toList)))|_=> .no
def Wg (op:BinOp) (ty:Ty) (a b:Bool):R:=
 match ty,op with
 | .bool, .eql=> .val True (.lit (.bool (a==b)))| .bool, .neq=> .val True (.lit (.bool (!(a==b))))|_,_=> .no
def Mc:ZC->AV->AV->Prop×Bool
 | .int _, .lit (.int k a), .lit (.int k' b)=>(k=k',decide (a=b))| .bool, .lit (.bool a), .lit (.bool b)=>(True,a==b)| .str, .lit (.string a), .lit (.string b)=>(True,decide (a.data.toList=b.data.toList))|_,_,_=>(False,false)
def Ec:List ZC->List AV->List AV->Prop×Bool
 |[],[],[]=>(True,true)|z::zs,a::az,b::bs=>((Mc z a b).1/\(Ec zs az bs).1,(Mc z a b).2&&(Ec zs az bs).2)|_,_,_=>(False,false)
def Ra (op:BinOp) (ti:TI) (az bs:List AV):R:=
 match op with
 | .eql=> .val (ti.eq=true/\(Ec ti.zs az bs).1) (.lit (.bool (Ec ti.zs az bs).2))| .neq=> .val (ti.eq=true/\(Ec ti.zs az bs).1) (.lit (.bool (!(Ec ti.zs az bs).2)))|_=> .no
def N8 (op:BinOp) (ti:TI):AV->AV->R
 | .lit (.int k a), .lit (.int k' b)=>match op with
  | .shl=>PQ .shl k a b| .shr=>PQ .shr k a b|op=>let r:=Rb op k a b;(k=k'/\r.1,r.2)
 | .lit (.string a), .lit (.string b)=>Rc op a b| .lit (.bool a), .lit (.bool b)=>Wg op ti.ty a b| .agg az, .agg bs=>Ra op ti az bs|_,_=> .no
def E7 (ti:TI) (cs:List AV):R:=
 .val (ti.size≠0/\ti.size<=cs.length) (if ti.agg then .agg (cs.take ti.size) else cs.getD 0 .bad)
def AV.noKid:AV->Bool
 | .kid _ _ _=>false|_=>true
def QR (e:AV) (off:Nat) (v:AV):AV:=
 match e with
 | .agg cs=> .agg (cs.set off v)|_=>v
def NW (ti:TI) (did gn:Nat) (hp:Hp):AV->R
 | .P cs=>E7 ti cs| .p id g n i off=>match hp.get id with
  |some (g', .box cs)=>(g'=g/\n=0/\i=0/\(E7 ti (cs.drop off)).1,(E7 ti (cs.drop off)).2)|some (g', .own t k es)=>match ti.agg,(es.getD i .bad).cells.getD off .bad with
   |false, .kid t' k' xs=>(g'=g/\n=es.length/\i<es.length/\id≠did/\ti.size≠0/\off<(es.getD i .bad).cells.length, .l did gn 0 xs.length,
     [(did,some (gn, .own t' k' xs)),(id,some (g', .own t k (es.set i (QR (es.getD i .bad) off (.l did gn 0 xs.length)))))])
   |_,_=>(g'=g/\n=es.length/\i<es.length/\(∀c∈(es.getD i .bad).cells,c.noKid=true)/\(E7 ti ((es.getD i .bad).cells.drop off)).1,(E7 ti ((es.getD i .bad).cells.drop off)).2)
  |_=> .no
 |_=> .no
def DL (cs:List AV) (off:Nat) (vs:List AV):List AV:=cs.take off++vs++cs.drop (off+vs.length)
def drops (ids:List Nat):List Up:=ids.map fun j=>(j,none)
def Fz (k:Nat) (e:AV) (off:Nat) (v:AV):AV:=
 if off=0/\v.cells.length=k then v else .agg (DL e.cells off v.cells)
def NX (ti:TI) (hp:Hp) (v:AV):AV->R
 | .p id g n i off=>match hp.get id with
  |some (g', .box cs)=>(g'=g/\n=0/\i=0/\ti.size≠0/\v.cells.length=ti.size/\(∀c∈v.cells,c.one=true/\c.noKid=true)/\off+ti.size<=cs.length, .bad,[(id,some (g, .box (DL cs off v.cells)))])|some (g', .own t k es)=>
    (g'=g/\n=es.length/\i<es.length/\ti.size≠0/\v.cells.length=ti.size/\off+ti.size<=k/\(∀c∈v.cells,attP hp c)/\(v.cells.flatMap Dj).Nodup/\id∉v.cells.flatMap Dj, .bad,
     (id,some (g, .own t k (es.set i (Fz k (es.getD i .bad) off (AH (att hp) v)))))::drops (v.cells.flatMap Dj))
  |_=> .no
 |_=> .no
def Hp.has (hp:Hp) (id g n:Nat):Prop:=
 match hp.get id with
 |some (g', .box _)|some (g', .bd _ _ _)=>g'=g/\n=0|some (g', .own _ _ es)=>g'=g/\n=es.length/\es.length≠0|_=>False
def Fx (ti ei:TI) (hp:Hp):AV->AV->R
 | .sl es _, .lit (.int _ i)=>match ti.ty with
  | .slice _=> .val (0<=i/\i<es.length/\(es.getD i.toNat .bad).cells.length=ei.size) (.P (es.getD i.toNat .bad).cells)|_=> .no
 | .l id g off len, .lit (.int _ i)=>match ti.ty,hp.get id with
  | .slice _,some (g', .own _ k es)=> .val (g'=g/\es.length=off+len/\k=ei.size/\0<=i/\i<len) (.p id g (off+len) (off+i.toNat) 0)|_,_=> .no
 | .p id g n j off, .lit (.int _ i)=>match ti.ty with
  | .array m _=> .val (hp.has id g n/\ei.size≠0/\0<=i/\i<m) (.p id g n j (off+i.toNat*ei.size))|_=> .no
 | .P cs, .lit (.int _ i)=>match ti.ty with
  | .array m _=> .val (ei.size≠0/\0<=i/\i<m) (.P (cs.drop (i.toNat*ei.size)))|_=> .no
 |_,_=> .no
def MK (T:AE) (t f:Nat) (hp:Hp) (v:AV):R:=
 match (tl T t).ty with
 | .struct fs=>
  let q:=fs.getD f (0,0)
  match v with
  | .P cs=> .val (f<fs.length/\(tl T q.2).size≠0) (.P (cs.drop q.1))| .p id g n i off=> .val (f<fs.length/\(tl T q.2).size≠0/\hp.has id g n) (.p id g n i (off+q.1))|_=> .no
 |_=> .no
def SU (T:AE) (t f:Nat) (v:AV):R:=
 match (tl T t).ty with
 | .struct fs=>
  let q:=fs.getD f (0,0)
  match v with
  | .agg cs=>let r:=E7 (tl T q.2) (cs.drop q.1);(f<fs.length/\(tl T q.2).size≠0/\r.1,r.2)|_=> .no
 |_=> .no
def NV (T:AE) (t:Nat) (v i:AV):R:=
 match (tl T t).ty with
 | .array n e=>match v,i with
  | .agg cs, .lit (.int _ i)=>let r:=E7 (tl T e) (cs.drop (i.toNat*(tl T e).size));(0<=i/\i<n/\(tl T e).size≠0/\r.1,r.2)|_,_=> .no
 | .str=>match v,i with
  | .lit (.string s), .lit (.int _ i)=> .val (0<=i/\i<s.data.toList.length) (.lit (.int .u8 ((s.data.toList.getD i.toNat 0).toNat:Nat)))|_,_=> .no
 |_=> .no
def elemOf (T:AE) (t:Nat):Nat:=
 match (tl T t).ty with
 | .slice e=>e| .array _ e=>e|_=>0
def Pg (ei:TI) (gn:Nat) (hp:Hp) (lo hi mx:Option AV):AV->R
 | .sl es full=>match lo,hi,mx with
  |none,none,none=> .val (ei.size≠0) (.sl es full)|some (.lit (.int _ l)),none,none=> .val (ei.size≠0/\(∀y∈es,y.cells.length=ei.size)/\0<=l/\l<=es.length) (.sl (es.drop l.toNat) full)|none,some (.lit (.int _ h)),none=> .val (ei.size≠0/\0<=h/\h<=es.length) (.sl (es.take h.toNat) false)|some (.lit (.int _ l)),some (.lit (.int _ h)),none=> .val (ei.size≠0/\(∀y∈es,y.cells.length=ei.size)/\0<=l/\l<=h/\h<=es.length) (.sl ((es.take h.toNat).drop l.toNat) false)|none,some (.lit (.int _ h)),some (.lit (.int _ m))=> .val (ei.size≠0/\0<=h/\h=m/\m<=es.length) (.sl (es.take h.toNat) true)|some (.lit (.int _ l)),some (.lit (.int _ h)),some (.lit (.int _ m))=> .val (ei.size≠0/\(∀y∈es,y.cells.length=ei.size)/\0<=l/\l<=h/\h=m/\m<=es.length) (.sl ((es.take h.toNat).drop l.toNat) true)|_,_,_=> .no
 | .l id g off len=>match hp.get id with
  |some (g', .own t k es)=>match lo,hi,mx with
   |none,none,none=> .val (g'=g/\es.length=off+len/\k=ei.size/\0<len) (.l id g off len)|some (.lit (.int _ l)),none,none=> .val (g'=g/\es.length=off+len/\k=ei.size/\0<=l/\l<len) (.l id g (off+l.toNat) (len - l.toNat))|none,some (.lit (.int _ h)),none=>(g'=g/\es.length=off+len/\k=ei.size/\0<=h/\h<=len/\0<len, .l id gn off h.toNat,[(id,some (gn, .own t k (es.take (off+h.toNat))))])|some (.lit (.int _ l)),some (.lit (.int _ h)),none=>(g'=g/\es.length=off+len/\k=ei.size/\0<=l/\l<=h/\h<=len/\l<len, .l id gn (off+l.toNat) (h.toNat - l.toNat),[(id,some (gn, .own t k (es.take (off+h.toNat))))])|none,some (.lit (.int _ h)),some (.lit (.int _ m))=> .val (g'=g/\es.length=off+len/\k=ei.size/\h=0/\m=0) (.sl [] true)|_,_,_=> .no
  |_=> .no
 |_=> .no
def strOf (l:List UInt8):ByteArray:=⟨l.toArray⟩
def SV (s:ByteArray) (lo hi mx:Option AV):R:=
 match lo,hi,mx with
 |none,none,none=> .val True (.lit (.string s))|some (.lit (.int _ l)),none,none=> .val (0<=l/\l<=s.data.toList.length) (.lit (.string (strOf (s.data.toList.drop l.toNat))))|none,some (.lit (.int _ h)),none=> .val (0<=h/\h<=s.data.toList.length) (.lit (.string (strOf (s.data.toList.take h.toNat))))|some (.lit (.int _ l)),some (.lit (.int _ h)),none=> .val (0<=l/\l<=h/\h<=s.data.toList.length) (.lit (.string (strOf ((s.data.toList.take h.toNat).drop l.toNat))))|_,_,_=> .no
def MN (n:Nat) (ei:TI) (hp:Hp) (lo hi mx:Option AV):AV->R
 | .p id g m i off=>match hp.get id,lo,hi,mx with
  |some (g', .box cs),none,none,none=>(g'=g/\m=0/\i=0/\off=0/\ei.size=1/\cs.length=n/\(n:Int)<=9223372036854775807/\(∀e∈cs,∀c∈e.cells,fzP 0 hp c), .sl (cs.map (AH (fz 0 hp))) false,drops [id])|_,_,_,_=> .no
 |_=> .no
def Ka (T:AE) (t gn:Nat) (hp:Hp) (lo hi mx:Option AV) (v:AV):R:=
 match (tl T t).ty with
 | .slice el=>Pg (tl T el) gn hp lo hi mx v| .array n el=>MN n (tl T el) hp lo hi mx v| .str=>match v with
  | .lit (.string s)=>SV s lo hi mx|_=> .no
 |_=> .no
def Hj (hp:Hp):AV->Option (List AV)
 | .sl ys _=>some ys| .l id _ off _=>match hp.get id with
  |some (_, .own _ _ es)=>some (es.drop off)|_=>none
 |_=>none
def Jo (hp:Hp):AV->Prop
 | .sl _ _=>True| .l id g off len=>match hp.get id with
  |some (g', .own _ _ es)=>g'=g/\es.length=off+len|_=>False
 |_=>False
def esR (es:List AV):List Nat:=es.flatMap fun e=>e.cells.flatMap Dj
def J9 (T:AE) (t:Nat) (did g:Nat) (hp:Hp) (d x:AV):R:=
 let e:=elemOf T t
 let ei:=tl T e
 match Hj hp x with
 |some ys=>
  let Z6:=ys.map (AH (att hp))
  let okY:=Jo hp x/\ei.size≠0/\(∀y∈ys,y.cells.length=ei.size)/\(∀y∈ys,∀c∈y.cells,attP hp c)/\(esR ys).Nodup
  match d with
  | .sl es true=>if es.length=0 then(okY/\did∉esR ys/\ys.length*ei.bytes<=140737488355328/\ys.length<=9223372036854775807, .l did g 0 ys.length,(did,some (g, .own e ei.size Z6))::drops (esR ys))
   else if ys.length=0 then(okY, .sl es false,[])
   else(okY/\did∉esR ys/\((∀y∈es,y.cells.length=ei.size)/\(∀y∈es,∀c∈y.cells,c.noKid=true))/\(es.length+ys.length)*ei.bytes<=140737488355328/\es.length+ys.length<=9223372036854775807, .l did g 0 (es.length+ys.length),(did,some (g, .own e ei.size (es++Z6)))::drops (esR ys))
  | .l id g' off len=>match hp.get id with
   |some (g'', .own e' k es)=>(okY/\id∉esR ys/\g''=g'/\e'=e/\k=ei.size/\off=0/\es.length=len/\(len+ys.length)*ei.bytes<=140737488355328/\len+ys.length<=9223372036854775807,
     .l id g' 0 (len+ys.length),(id,some (g', .own e k (es++Z6)))::drops (esR ys))
   |_=> .no
  |_=> .no
 |none=> .no
def SS (T:AE) (t:Nat) (hp:Hp) (d x:AV):R:=
 match (tl T t).ty,d,Hj hp x with
 | .slice e, .l id g off len,some ys=>match hp.get id with
  |some (g', .own t' k es)=>(g'=g/\es.length=off+len/\k=1/\(tl T e).size=1/\Jo hp x/\(∀y∈ys,y.cells.length=1)/\(∀y∈ys,∀c∈y.cells,fzP 0 hp c/\c.noKid=true)/\0<len,
    .lit (.int .i64 (min ys.length len:Nat)),[(id,some (g, .own t' k (es.take off++ys.take (min ys.length len)++es.drop (off+min ys.length len))))])
  |_=> .no
 |_,_,_=> .no
def Pf (T:AE) (t:Nat) (hp:Hp) (d:AV):R:=
 match (tl T t).ty,d with
 | .slice e, .l id g off len=>match hp.get id with
  |some (g', .own t' k es)=>(g'=g/\es.length=off+len/\k=(tl T e).size, .tup [],[(id,some (g, .own t' k (es.take off++List.replicate len (tl T e).zav)))])|_=> .no
 |_,_=> .no
def bytesOf:List AV->Option (List UInt8)
 |[]=>some []| .lit (.int .u8 n)::l=>(bytesOf l).map (UInt8.ofNat n.toNat::·)|_=>none
def Dr (b:UInt8):AV:= .lit (.int .u8 (b.toNat:Nat))
def Jl (n:Nat) (ps:List (Nat×Operand)):Bool:=ps.map (·.1)==List.range n
def KX (T:AE) (t:Nat) (hp:Hp) (v:AV):R:=
 match (tl T t).ty with
 | .slice _=>match v with
  | .sl es _=> .val True (.lit (.int .i64 es.length))| .l id g off len=>match hp.get id with
   |some (g', .own _ _ es)=> .val (g'=g/\es.length=off+len) (.lit (.int .i64 len))|_=> .no
  |_=> .no
 | .str=>match v with
  | .lit (.string s)=> .val True (.lit (.int .i64 s.size))|_=> .no
 | .array n _=> .val True (.lit (.int .i64 n))|_=> .no
def Hc (n:Int):List (Int×Int)->Nat->Option (Nat×Int)
 |[],_=>none|p::l,i=>if n=p.1 then some (i,p.2) else Hc n l (i+1)
def HM (l:List (Int×Int)) (n:Int):Int:=match Hc n l 0 with
 |some (_,v)=>v|none=>0
def KT (l:List (Int×Int)) (n v:Int):List (Int×Int):=match Hc n l 0 with
 |some (i,_)=>l.set i (n,v)|none=>l++[(n,v)]
def LN (k:List UInt8) (z:AV):List (ByteArray×AV)->AV
 |[]=>z|p::l=>if p.1.data.toList=k then p.2 else LN k z l
def Jm (k:List UInt8):List (ByteArray×AV)->Bool
 |[]=>false|p::l=>decide (p.1.data.toList=k)||Jm k l
def QB (T:AE) (t:Nat):Bool:=match (tl T t).ty with
 | .map kt _=>match (tl T kt).ty with
  | .str=>true|_=>false
 |_=>false
def MM (T:AE) (t:Nat) (hp:Hp) (m k:AV):R:=
 match (tl T t).ty,m,k with
 | .map kt et, .mpO id g, .lit (.string s)=>match hp.get id with
  |some (g', .ms es)=> .val (g'=g/\(tl T kt).ty= .str/\(tl T et).size≠0/\(tl T et).agg=false) (.tup [LN s.data.toList (tl T et).zav es, .lit (.bool (Jm s.data.toList es))])|_=> .no
 |_,_,_=> .no
def KY (T:AE) (t:Nat) (hp:Hp) (m k v:AV):R:=
 match (tl T t).ty,m,k with
 | .map kt _, .mpO id g, .lit (.string s)=>match hp.get id with
  |some (g', .ms es)=>(g'=g/\(tl T kt).ty= .str/\Jm s.data.toList es=false/\v.one=true/\v.noKid=true, .bad,[(id,some (g, .ms (es++[(s,v)])))])|_=> .no
 |_,_,_=> .no
def ML (T:AE) (t:Nat) (hp:Hp) (m k:AV):R:=
 match (tl T t).ty,m,k with
 | .map kt et, .mpO id g, .lit (.int .i64 n)=>match hp.get id with
  |some (g', .mp es)=> .val (g'=g/\(tl T kt).ty= .int .i64/\(tl T et).size≠0/\(tl T et).zval= .int .i64 0) (.lit (.int .i64 (HM es n)))|_=> .no
 |_,_,_=> .no
def LM (T:AE) (t:Nat) (hp:Hp) (m k v:AV):R:=
 match (tl T t).ty,m,k,v with
 | .map kt _, .mpO id g, .lit (.int .i64 n), .lit (.int .i64 x)=>match hp.get id with
  |some (g', .mp es)=>(g'=g/\(tl T kt).ty= .int .i64, .bad,[(id,some (g, .mp (KT es n x)))])|_=> .no
 |_,_,_,_=> .no
def IL:Operand->Bool
 | .const (.slice none 0 0)=>true|_=>false
def La (b:Bool) (op:BinOp) (ti:TI) (x y:AV):R:=
 match b with
 |false=>N8 op ti x y|true=>match op,ti.ty,x with
  | .eql, .slice _, .sl es _=> .val (0<es.length) (.lit (.bool false))| .neq, .slice _, .sl es _=> .val (0<es.length) (.lit (.bool true))|_,_,_=> .no
def Jh:Operand->Bool
 | .const .nilIface=>true|_=>false
def N9 (b:Bool) (op:BinOp) (ti:TI) (x:AV) (r:R):R:=
 match b with
 |false=>r|true=>match op,ti.ty,x with
  | .eql, .iface, .ifn=> .val True (.lit (.bool false))| .neq, .iface, .ifn=> .val True (.lit (.bool true))| .eql, .iface, .lit .nilIface=> .val True (.lit (.bool true))| .neq, .iface, .lit .nilIface=> .val True (.lit (.bool false))|_,_,_=> .no
def Bu (T:AE) (o:Oper) (ev:Operand->AV) (hp:Hp) (g:Nat):R:=
 let did:=100+o.dst.getD 0
 match o.op with
 | .move x=> .val True (ev x)| .assign x=>match x,(tl T o.type).ty with
  | .const (.slice none 0 0), .slice e=>((tl T e).size≠0, .l did g 0 0,[(did,some (g, .own e (tl T e).size []))])|_,_=> .val True (ev x)
 | .pick c a b=>match ev c with
  | .lit (.bool c)=> .val True (if c then ev a else ev b)|_=> .no
 | .binOp op t x y _=>N9 (Jh y) op (tl T t) (ev x) (La (IL y) op (tl T t) (ev x) (ev y))| .makeMap t none=>(True, .mpO did g,[(did,some (g,if QB T t then .ms [] else .mp []))])| .lookup t m k false=>ML T t hp (ev m) (ev k)| .lookup t m k true=>MM T t hp (ev m) (ev k)| .mapUpdate t m k v=>if QB T t then KY T t hp (ev m) (ev k) (ev v) else LM T t hp (ev m) (ev k) (ev v)| .insert t m k v=>KY T t hp (ev m) (ev k) (ev v)| .unOp .not _ x=>match ev x with
  | .lit (.bool b)=> .val True (.lit (.bool (!b)))|_=> .no
 | .unOp .neg _ x=>match ev x with
  | .lit (.int k n)=>LZ k (0 - n)|_=> .no
 | .nilCheck x=>match ev x with
  | .gl n=> .val True (.gl n)| .P cs=> .val True (.P cs)| .p id g n i off=> .val (hp.has id g n) (.p id g n i off)|_=> .no
 | .extract x i=>match ev x with
  | .tup vs=> .val (i<vs.length) (vs.getD i .bad)|_=> .no
 | .load t a=>NW (tl T t) did g hp (glob T (ev a))| .store t a v=>NX (tl T t) hp (ev v) (ev a)| .indexAddr t x i=>Fx (tl T t) (tl T (elemOf T t)) hp (glob T (ev x)) (ev i)| .fieldAddr t x f=>MK T t f hp (glob T (ev x))| .field t x f=>SU T t f (ev x)| .index t x i=>NV T t (ev x) (ev i)| .slice t x lo hi mx=>Ka T t g hp (lo.map ev) (hi.map ev) (mx.map ev) (ev x)| .makeSlice t l c=>match (tl T t).ty,ev l,ev c with
  | .slice e, .lit (.int _ l), .lit (.int _ c)=>(0<=l/\l<=c/\c*(tl T e).bytes<=140737488355328/\c<=9223372036854775807/\(tl T e).size≠0, .l did g 0 l.toNat,[(did,some (g, .own e (tl T e).size (List.replicate l.toNat (tl T e).zav)))])|_,_,_=> .no
 | .buildSlice t n ps=>match (tl T t).ty with
  | .slice el=>
  let ei:=tl T el
  let vs:=ps.toList.map fun p=>ev p.2
  (Jl n ps.toList=true/\ei.size≠0/\n*ei.size<=16777216/\(∀v∈vs,v.cells.length=ei.size/\∀c∈v.cells,c.one=true/\c.noKid=true),
   .l did g 0 n,[(did,some (g, .own el ei.size vs))])
  |_=> .no
 | .alloc t=>match (tl T t).ty with
  | .bld e=>((tl T t).size≠0/\(tl T t).zs=[.ptr, .sl]/\(tl T t).agg=true, .p did g 0 0 0,[(did,some (g, .bd t e []))])|_=>((tl T t).size≠0, .p did g 0 0 0,[(did,some (g, .box (tl T t).zav.cells))])
 | .box t x=>(((ev x).cells.length=(tl T t).size/\∀c∈(ev x).cells,c.one=true/\c.noKid=true), .p did g 0 0 0,[(did,some (g, .box (ev x).cells))])| .build t ps=>match (tl T t).ty with
  | .struct fs=>
   let step:=fun(cs:List AV) (p:Nat×Operand)=>DL cs (fs.getD p.1 (0,0)).1 (ev p.2).cells
   (∀p∈ps.toList,p.1<fs.length/\(tl T (fs.getD p.1 (0,0)).2).size≠0/\(ev p.2).cells.length=(tl T (fs.getD p.1 (0,0)).2).size/\(fs.getD p.1 (0,0)).1+(tl T (fs.getD p.1 (0,0)).2).size<=(tl T t).size/\(∀c∈(ev p.2).cells,c.one=true),
    .agg (ps.toList.foldl step ((tl T t).zs.map ZC.av)),[])
  | .array n el=>
   (ps.toList≠[]/\∀p∈ps.toList,p.1<n/\(tl T el).size≠0/\(ev p.2).cells.length=(tl T el).size/\p.1*(tl T el).size+(tl T el).size<=(tl T t).size/\(∀c∈(ev p.2).cells,c.one=true),
    .agg (ps.toList.foldl (fun cs p=>DL cs (p.1*(tl T el).size) (ev p.2).cells) ((tl T t).zs.map ZC.av)),[])
  |_=> .no
 | .convert s d x=>match (tl T s).ty,(tl T d).ty,ev x with
  | .int _, .int k, .lit (.int _ n)=> .val True (.lit (.int k (k.wrap n)))| .str, .slice e, .lit (.string b)=>match (tl T e).ty with
   | .int .u8=>(b.data.toList.length<=9223372036854775807/\e=5, .l did g 0 b.data.toList.length,[(did,some (g, .own e 1 (b.data.toList.map Dr)))])|_=> .no
  | .slice e, .str,v=>match (tl T e).ty,Hj hp v with
   | .int .u8,some ys=>match bytesOf ys with
    |some bs=> .val (Jo hp v) (.lit (.string (strOf bs)))|none=> .no
   |_,_=> .no
  |_,_,_=> .no
 | .call {callee:= .builtin b,args,argTypes}=>match b,args.toList,argTypes.toList with
  | .len,[x],[t]=>KX T t hp (ev x)| .append,[d,x],[t,t']=>match (tl T t).ty with
   | .slice _=>let r:=J9 T t did g hp (ev d) (ev x);(t'=t/\r.1,r.2)|_=> .no
  | .copy,[d,x],[t,_]=>SS T t hp (ev d) (ev x)| .clear,[d],[t]=>Pf T t hp (ev d)| .min,[x,y],[_,_]=>match ev x,ev y with
   | .lit (.int k a), .lit (.int _ b)=> .val True (.lit (.int k (if b<a then b else a)))|_,_=> .no
  | .max,[x,y],[_,_]=>match ev x,ev y with
   | .lit (.int k a), .lit (.int _ b)=> .val True (.lit (.int k (if a<b then b else a)))|_,_=> .no
  |_,_,_=> .no
 | .makeFunc fn first caps=>match fn,first.toList with
  | .func f,[]=> .val True (.fn f (caps.toList.map ev))| .func f,x::xs=>(caps.toList=[], .bfn f ((x::xs).map ev),[])|_,_=> .no
 |_=> .no
def Nh:AV->List AV->Option (FuncId×List AV)
 | .fn f caps,vs=>some (f,vs++caps)| .bfn f first,vs=>some (f,first++vs)
 |_,_=>none
open Go
def gadd (G:Nat->Prop) (g:Nat):Nat->Prop:=fun x=>G x\/x=g
section inv
variable {w:World} {U:Nat->Prop} {e:An} {G:Nat->Prop} {x:Value}
theorem VR.lit_inv {v:Value} (h:VR w U e G (.lit v) x):x=v/\v.oneCell'=true:=by cases h with|dat _ _ h=>cases h with|lit _ h=>exact⟨rfl,h⟩
theorem VR.agg_inv {cs:List AV} (h:VR w U e G (.agg cs) x):∃vs:Array Value,x= .agg vs/\cs.length=vs.size/\(∀i (h:i<cs.length),cs[i].one=true)/\
  ∀i (h:i<cs.length),VR w U e G cs[i] (vs.getD i undef):=by
 cases h with
 |dat _ _ h=>cases h with|agg _ vs h1 h2 h3=>exact⟨vs,rfl,h1,h2,fun i hi=> .dat _ _ (h3 i hi)⟩
 |agg _ vs h1 h2 h3=>exact⟨vs,rfl,h1,h2,h3⟩
theorem VR.tup_inv {cs:List AV} (h:VR w U e G (.tup cs) x):∃vs:Array Value,x= .tuple vs/\cs.length=vs.size/\
  ∀i (h:i<cs.length),VR w U e G cs[i] (vs.getD i undef):=by
 cases h with
 |dat _ _ h=>cases h with|tup _ vs h1 h3=>exact⟨vs,rfl,h1,fun i hi=> .dat _ _ (h3 i hi)⟩
 |tup _ vs h1 h3=>exact⟨vs,rfl,h1,h3⟩
theorem VR.sl_inv {es:List AV} {full:Bool} (h:VR w U e G (.sl es full) x):VD w U (.sl es full) x:=by cases h with|dat _ _ h=>exact h
theorem VR.ptI_inv {cs:List AV} (h:VR w U e G (.P cs) x):VD w U (.P cs) x:=by cases h with|dat _ _ h=>exact h
theorem VD.slO_no {id g off len:Nat} (h:VD w U (.l id g off len) x):False:=vx0
theorem VD.ptO_no {id g n i off:Nat} (h:VD w U (.p id g n i off) x):False:=vx0
theorem VR.slO_inv {id g off len:Nat} (h:VR w U e G (.l id g off len) x):G g/\x.oneCell'=true/\
  ∀ee,e id=some ee->ee.g=g->off+len<=ee.n/\(ee.n=off+len->Ex ee off len x):=by
 cases h with
 |dat _ _ h=>exact h.slO_no.elim|l _ _ _ _ _ h1 h2 h3=>exact⟨h1,h2,h3⟩
theorem VR.ptO_inv {id g n i off:Nat} (h:VR w U e G (.p id g n i off) x):G g/\x.oneCell'=true/\
  ∀ee,e id=some ee->ee.g=g->n<=ee.n/\(ee.n=n->∀b c,ee.blk=some (b,c)->x= .pointer (some ⟨b,i*ee.k+off,none⟩)):=by
 cases h with
 |dat _ _ h=>exact h.ptO_no.elim|p _ _ _ _ _ _ h1 h2 h3=>exact⟨h1,h2,h3⟩
theorem VD.ptI_inv {cs:List AV} (h:VD w U (.P cs) x):∃(b off:Nat) (f:Nat->Value),x= .pointer (some ⟨b,off,none⟩)/\U b/\b<w.heap.size/\
  (∀j,j<cs.length->w.cell? ⟨b,off+j,none⟩=some (f j))/\(∀j (h:j<cs.length),cs[j].one=true)/\∀j (h:j<cs.length),VD w U cs[j] (f j):=by
 cases h with|P _ b off f h1 h2 h3 h4 h5=>exact⟨b,off,f,rfl,h1,h2,h3,h4,h5⟩
theorem VD.sl_inv {es:List AV} {full:Bool} (h:VD w U (.sl es full) x):(es=[]/\∃a,x= .slice a 0 0)\/
  ∃(b off cap k:Nat) (f:Nat->Value),x= .slice (some ⟨b,off,none⟩) es.length cap/\U b/\b<w.heap.size/\es.length<=cap/\cap<=maxLen/\(full=true->cap=es.length)/\0<k/\
   (∀i (h:i<es.length),es[i].cells.length=k)/\
   (∀j,j<es.length*k->w.cell? ⟨b,off+j,none⟩=some (f j))/\
   (∀i (h:i<es.length) j (h':j<es[i].cells.length),es[i].cells[j].one=true)/\
   (∀i (h:i<es.length) j (h':j<es[i].cells.length),VD w U es[i].cells[j] (f (i*k+j))):=by
 cases h with
 |nil _ a=>exact .inl ⟨rfl,a,rfl⟩|sl _ _ b off cap k f h1 h2 h3 h4 h5 h6 h7 h8 h9 C8=>exact .inr ⟨b,off,cap,k,f,rfl,h1,h2,h3,h4,h5,h6,h7,h8,h9,C8⟩
theorem VD.ofC (v:Value):VD w U (ofC v) v:=by
 unfold Sym.ofC;split
 .exact .nil _ _
 split
 .rename_i h;exact .lit _ h
 exact .bad _
theorem VD.ofV (v:Value):VD w U (ofV v) v:=by
 unfold Sym.ofV;split
 .rename_i cs;split
  .rename_i h;rw[List.all_eq_true] at h;refine .agg _ _ sM ?_ ?_
   .intro i hi;simp only[List.getElem_map];exact h _ (gM _)
   intro i hi;simp only[List.getElem_map,Array.getElem_toList];rw[gA,Array.getElem?_eq_getElem vv5];exact VD.ofC _
  exact .bad _
 exact VD.ofC _
theorem VD.kid_no {t k:Nat} {es:List AV} (h:VD w U (.kid t k es) x):False:=vx0
theorem VR.kid_no {t k:Nat} {es:List AV} (h:VR w U e G (.kid t k es) x):False:=by cases h with|dat _ _ h=>exact h.kid_no
theorem VR.gl_inv {g:Nat} (h:VR w U e G (.gl g) x):x= .pointer (some ⟨g,0,none⟩):=by cases h with|dat _ _ h=>cases h;rfl
end inv
def Bb (C:Cx) (e:An) (G:Nat->Prop) (g:Nat) (hp:Hp) (w:World) (r:R) (res:Result Next):Prop:=
 ∃nx w' e',res= .ok nx w'/\AU w' e' (gadd G g) (r.2.2++hp)/\AB w e G w' e' (gadd G g)/\Ew C w' e' (gadd G g)/\HU C w'/\
  ((∃xv,nx= .value xv/\VR w' (UE e') e' (gadd G g) r.2.1 xv)\/(nx= .skip/\r.2.1= .bad))
structure Bt (C:Cx) (e:An) (G:Nat->Prop) (g:Nat) (hp:Hp) (w:World):Prop where
 hr:AU w e G hp
 ln:Ew C w e G
 fr:HU C w
 ng:¬G g
theorem AB.wide (w:World) (e:An) (G:Nat->Prop) (g:Nat):AB w e G w e (gadd G g):=
 ⟨lR _,fun _ h=> .inl h,fun _ _ h=>h,fun _ _ _=>rfl,fun _ Au h _=>⟨Au,h,rfl,rfl, .inl ⟨rfl,rfl⟩⟩⟩
theorem AU.widen {w:World} {e:An} {G G':Nat->Prop} {hp:Hp} (h:AU w e G hp) (hg:∀g,G g->G' g):AU w e G' hp:=by
 have x:AB w e G w e G':=⟨lR _,hg,fun _ _ h=>h,fun _ _ _=>rfl,fun _ Au h _=>⟨Au,h,rfl,rfl, .inl ⟨rfl,rfl⟩⟩⟩;exact⟨h.dead,fun id g ob hi=>by
  obtain⟨ee,h1,h2,h3,h4⟩:=h.live id g ob hi;exact⟨ee,h1,h2,hg _ h3,h4.ext x fun b c _=>⟨rfl,fun _ _ h=>⟨rfl,h⟩⟩⟩,h.inj,h.lt,h.nz,h.kl,h.ko,h.kk⟩
theorem AU.wide {w:World} {e:An} {G:Nat->Prop} {hp:Hp} {g:Nat} (h:AU w e G hp):AU w e (gadd G g) hp:=h.widen fun _ h=> .inl h
theorem Ew.wide {C:Cx} {w:World} {e:An} {G:Nat->Prop} (h:Ew C w e G) (g:Nat):Ew C w e (gadd G g):=⟨h.zeq,h.zlt,h.ext.trans (AB.wide w e G g),h.mine⟩
structure Gg (T:AE) (w:World) (U:Nat->Prop):Prop where
 cell:∀g cs,JE T.gl g=some cs->VD w U (.P cs) (.pointer (some ⟨g,0,none⟩))
 full:∀p∈T.full,U p.1/\p.1<w.heap.size/\∃t fz,w.heap[p.1]?=some (.cells p.2 t fz)
theorem Gg.mono {T:AE} {w w':World} {U U':Nat->Prop} (h:Gg T w U) (hs:w.heap.size<=w'.heap.size) (hU:∀b,b<w.heap.size->U b->U' b)
  (hh:∀b,b<w.heap.size->U b->w'.heap[b]?=w.heap[b]?):Gg T w' U':=by
 refine⟨fun g cs hg=>(h.cell g cs hg).mono hs hU hh,fun p hp=>?_⟩;obtain⟨h1,h2,t,fz,h3⟩:=h.full p hp;exact⟨hU _ h2 h1,tL h2 hs,t,fz,(hh _ h2 h1).trans h3⟩
structure Cn (C:Cx) (T:AE):Prop where
 ty:B4 C.P T
 gl:Gg T C.w0 (UE C.e0)
theorem Cn.glob {C:Cx} {T:AE} (h:Cn C T) {w:World} {e:An} {G:Nat->Prop} (hl:Ew C w e G) {v:AV} {x:Value} (hv:VR w (UE e) e G v x):VR w (UE e) e G (glob T v) x:=by
 cases v with
 |gl g=>
  simp only[Sym.glob];cases hg:JE T.gl g with
  |none=>exact hv|some cs=>rw[hv.gl_inv];exact .dat _ _ ((h.gl.cell g cs hg).mono hl.ext.size hl.ext.un hl.ext.same)
 |_=>exact hv
section
variable {C:Cx} {e:An} {G:Nat->Prop} {g:Nat} {hp:Hp} {w:World}
theorem Bb.pure (p:Bt C e G g hp w) {v:AV} {ob:Prop} {xv:Value} (h:VR w (UE e) e G v xv):Bb C e G g hp w (ob,v,[]) (.ok (.value xv) w):=by have x:=AB.wide w e G g;exact⟨_,w,e,rfl,p.hr.wide,x,p.ln.wide g,p.fr, .inl ⟨xv,rfl,h.ext x⟩⟩
theorem B4.fit {P:Program} {T:AE} (h:B4 P T) {t:Nat} {ty:Ty} (ht:(tl T t).ty=ty) (Bj:ty≠ .other):Di P t (tl T t):=by
 rcases h t with h|h
 .rw[h] at ht;exact absurd ht.symm Bj
 exact h
theorem B4.fits {P:Program} {T:AE} (h:B4 P T) {t:Nat} (ht:(tl T t).size≠0):Di P t (tl T t):=by
 rcases h t with h|h
 .rw[h] at ht;exact absurd rfl ht
 exact h
theorem Di.under {P:Program} {t:Nat} {ti:TI} (h:Di P t ti):∃d,P.underlying t=some d/\ti.ty.fits d:=by obtain⟨d,h1,h2,_⟩:=h.desc;exact⟨d,h1,h2⟩
theorem jF {P:Program} {t:Nat} {ti:TI} (h:Di P t ti) (w:World):(isAgg t).run P w= .ok ti.agg w:=by obtain⟨d,h1,h2,h3⟩:=h.desc;rw[h3];unfold isAgg;rw[Sem.run_bind,run_underlying h1];simp only[Result.andThen_ok];cases d<;>rfl
theorem Fy {P:Program} {t:Nat} {ti:TI} (h:Di P t ti) (w:World):(sizeOf t).run P w= .ok ti.size w:=by obtain⟨i,h1,h2,_⟩:=h.info;simp[sizeOf,typeInfo,h1,h2]
theorem Vb {P:Program} {t:Nat} {ti:TI} (h:Di P t ti) (w:World):(zeroValue t).run P w= .ok ti.zval w:=by obtain⟨i,h1,_,_,h2⟩:=h.info;simp[zeroValue,typeInfo,h1,h2]
theorem GB (p:Bt C e G g hp w) (ob:Prop) (k:IntKind) (n:Int):Bb C e G g hp w (ob, .lit (.int k n),[]) (.ok (.value (.int k n)) w):=
 .pure p (.dat _ _ (.lit _ rfl))
theorem EP (p:Bt C e G g hp w) (ob:Prop) (b:Bool):Bb C e G g hp w (ob, .lit (.bool b),[]) (.ok (.value (.bool b)) w):=
 .pure p (.dat _ _ (.lit _ rfl))
theorem wrap_i64 {r:Int} (h:-9223372036854775808<=r/\r<=9223372036854775807):IntKind.i64.wrap r=r:=IntWalk.i64_in r h
theorem Ts (p:Bt C e G g hp w) (k:IntKind) (r:Int) (h:(LZ k r).1):Bb C e G g hp w (LZ k r) (.ok (.value (.int k (k.wrap r))) w):=by cases k<;>simp only[LZ,R.val] at h ⊢<;>first|exact GB p _ _ _|(rw[wrap_i64 h];exact GB p _ _ _)
theorem oU (p:Bt C e G g hp w) (op:BinOp) (t:TypeId) (k:IntKind) (a b:Int) (x y:Operand) (h:(Rb op k a b).1):
  Bb C e G g hp w (Rb op k a b) (((do eqGuard op t x y (.int k a) (.int k b);let v<-binOp op t (.int k a) (.int k b);Pure.pure (Next.value v)):Sem Next).run C.P w):=by
 cases op<;>simp only[Rb,R.val,R.no] at h ⊢<;>simp only[go_sem,Sem.run_bind,Sem.run_pure,Result.andThen_ok,Op.intArith,Op.intDiv]
 case add=>exact Ts p k _ h
 case sub=>exact Ts p k _ h
 case mul=>exact Ts p k _ h
 case quo=>simp only[h,if_false,Sem.run_pure,Result.andThen_ok];exact GB p _ _ _
 case rem=>simp only[h,if_false,Sem.run_pure,Result.andThen_ok];exact GB p _ _ _
 case eql=>rw[show(a==b)=decide (a=b) from rfl];exact EP p _ _
 case neq => rw [show (a != b) = decide (a ≠ b) from by by_cases h : a = b <;> simp [h]]; exact EP p _ _
 case lss=>exact EP p _ _
 case leq=>exact EP p _ _
 case gtr=>exact EP p _ _
 case geq=>exact EP p _ _
 case and=>exact GB p _ _ _
 case or=>exact GB p _ _ _
 case xor=>exact GB p _ _ _
 case andNot=>exact GB p _ _ _
theorem yM (p:Bt C e G g hp w) {ti:TI} {t:Nat} (_hf:Di C.P t ti) {cs:List AV} {cv:Array Value} (hl:cs.length<=cv.size) (h1:∀i (h:i<cs.length),cs[i].one=true)
  (hv:∀i (h:i<cs.length),VR w (UE e) e G cs[i] (cv.getD i undef)) (Fl:ti.agg=false->ti.size=1) (h:(E7 ti cs).1):
  Bb C e G g hp w (E7 ti cs) (.ok (.value (if ti.agg then .agg (cv.extract 0 ti.size) else cv.getD 0 undef)) w):=by
 unfold E7 R.val at h ⊢;simp only at h;refine .pure p ?_;cases Xh:ti.agg with
 |true=>
  simp only[if_true];refine .agg _ _ vv2 ?_ ?_
  .intro i hi;simp only[List.getElem_take];exact h1 _ _
  intro i hi;have Ar:i<ti.size/\i<cs.length:=vz0;simp only[List.getElem_take];have:=hv i Ar.2;rw[gA] at this ⊢;rw[Array.getElem?_extract,iP oM];simpa using this
 |false=>simp only[Bool.false_eq_true,if_false];have hs:=Fl Xh;have h0:0<cs.length:=oM;have:=hv 0 h0;rw[gE,gG h0];exact this
end
open Go
section
variable {C:Cx} {e:An} {G:Nat->Prop} {g:Nat} {hp:Hp} {w:World}
theorem K7 (b o n:Nat):Addr.add ⟨b,o,none⟩ n=⟨b,o+n,none⟩:=Addr.add_lit b o n
theorem pk {n:Nat} (f:Nat->Value) {i:Nat} (h:i<n):(((List.range n).map f).toArray).getD i undef=f i:=by simp[gA,h]
theorem Va {P:Program} {t:Nat} {ti:TI} (hf:Di P t ti) (w:World) (b off:Nat) (f:Nat->Value)
  (hc:∀j,j<ti.size->w.cell? ⟨b,off+j,none⟩=some (f j)):
  (Instr.loadAt t (.pointer (some ⟨b,off,none⟩))).run P w= .ok (if ti.agg then .agg ((List.range ti.size).map f).toArray else f 0) w:=by
 unfold Instr.loadAt Instr.sureAddr loadVar;rw[Sem.run_bind,Sem.run_pure,Result.andThen_ok,Sem.run_bind,jF hf,Result.andThen_ok];cases Fl:ti.agg with
 |true=>simp only[if_true,Sem.run_bind,Fy hf,Result.andThen_ok,Sem.run_pure];rw[run_loadCells w ⟨b,off,none⟩ ti.size f (fun j hj=>by rw[K7];exact hc j hj)];rfl|false=>have h1:=hf.one Fl;have h0:=hc 0 oM;simp only[Bool.false_eq_true,if_false];rw[run_load];simp only[Nat.add_zero] at h0;rw[h0]
theorem UU {ti:TI} {t:Nat} (hf:Di C.P t ti) {cs:List AV} {b off:Nat} {f:Nat->Value}
  (hc:∀j,j<cs.length->w.cell? ⟨b,off+j,none⟩=some (f j)) (h1:∀i (h:i<cs.length),cs[i].one=true)
  (hv:∀i (h:i<cs.length),VR w (UE e) e G cs[i] (f i)) (h:(E7 ti cs).1):
  ∃xv,(Instr.loadAt t (.pointer (some ⟨b,off,none⟩))).run C.P w= .ok xv w/\VR w (UE e) e G (E7 ti cs).2.1 xv:=by
 have hs:ti.size<=cs.length:=h.2;refine⟨_,Va hf w b off f fun j hj=>hc j oM,?_⟩;unfold E7 R.val;cases Xh:ti.agg with
 |true=>
  simp only[if_true];refine .agg _ _ vv2 ?_ ?_
  .intro i hi;simp only[List.getElem_take];exact h1 _ _
  intro i hi;have Ar:i<ti.size:=vz0;simp only[List.getElem_take];rw[pk f Ar];exact hv i _
 |false=>
  simp only[Bool.false_eq_true,if_false];have h0:0<cs.length:=by have:=hf.one Xh;omega
  rw[gE,gG h0];exact hv 0 h0
theorem U4 {cs:List AV} (h1:∀i (h:i<cs.length),cs[i].one=true) (n:Nat):∀i (h:i<(cs.drop n).length),(cs.drop n)[i].one=true:=by intro i hi;simp only[List.getElem_drop];exact h1 _ _
theorem cell_of_heap {b o:Nat} {cs:Array Value} {t:Nat} {fz:Nat×Nat} (h:w.heap[b]?=some (.cells cs t fz)) (ho:o<cs.size):w.cell? ⟨b,o,none⟩=some (cs.getD o undef):=by simp[World.cell?,h,gA,ho]
theorem VC.noKid {B c:Nat} {av:AV} {v:Value} (h:VC w e G B c av v) (hn:av.noKid=true):VR w (UE e) e G av v:=by
 cases h with
 |val _ _ h=>exact h|kid0=>cases hn
 |kid=>cases hn
theorem ZB {el v:AV} {off:Nat} (h:off<el.cells.length) (hv:v.cells=[v]):(QR el off v).cells=el.cells.set off v:=by
 cases el with
 |agg cs=>rfl|_=>simp only[AV.cells,List.length_singleton] at h;obtain rfl:off=0:=oM;exact hv
theorem P6 {es:List AV} {i:Nat} (h:i<es.length):es.getD i .bad=es[i]:=by rw[gE,gG h];rfl
theorem pU (p:Bt C e G g hp w) {id did:Nat} (Bj:id≠did) {ee:EE} (he:e id=some ee) {t k i off t' k':Nat} {es xs:List AV} (hi:i<es.length) (JS:off<es[i].cells.length)
  {b bcap:Nat} (hb:ee.blk=some (b,bcap)) (A8:Gh w e G (.own t k es) ee) (hc:es[i].cells[off]= .kid t' k' xs) {x:Value}
  (hx:∃cs,Cl w b cs t/\x=cs.getD (i*k+off) undef) {P:Prop}:
  Bb C e G g hp w (P, .l did g 0 xs.length,[(did,some (g, .own t' k' xs)),(id,some (ee.g, .own t k (es.set i (QR es[i] off (.l did g 0 xs.length)))))]) (.ok (.value x) w):=by
 obtain⟨cs0,NA,rfl⟩:=hx;obtain⟨hk,hn,Ck,A3,h1,KB⟩:=A8;rw[hb] at KB;obtain⟨hm,Gs,cs,hh,hs,hv⟩:=KB;obtain⟨rfl,_⟩:=NA.inj hh;have CI:=hv i hi off JS;rw[hc] at CI;have main:∀(L5:Option (Nat×Nat)) (kd:Nat->Option (Nat×Nat)),
   (∀b1 B c,kd b1=some (B,c)->e.kid b1=some (B,c))->
   (∀b1 B c,e.kid b1=some (B,c)->(B,c)≠(b,i*k+off)->kd b1=some (B,c))->
   (∀b' c',L5=some (b',c')->e.kid b'=some (b,i*k+off)/\kd b'=none)->
   Ex ⟨g,L5,k',xs.length⟩ 0 xs.length (cs0.getD (i*k+off) undef)->(cs0.getD (i*k+off) undef).oneCell'=true->
   (∀x:AB w e G w ⟨fun j=>if j=did then some ⟨g,L5,k',xs.length⟩ else e j,e.z,kd⟩ (gadd G g),Gh w ⟨fun j=>if j=did then some ⟨g,L5,k',xs.length⟩ else e j,e.z,kd⟩ (gadd G g) (.own t' k' xs) ⟨g,L5,k',xs.length⟩)->
   Bb C e G g hp w (P, .l did g 0 xs.length,[(did,some (g, .own t' k' xs)),(id,some (ee.g, .own t k (es.set i (QR es[i] off (.l did g 0 xs.length)))))]) (.ok (.value (cs0.getD (i*k+off) undef)) w):=by
  intro L5 kd kd1 kd2 hblk C3 Cq NE;generalize AP:(⟨fun j=>if j=did then some ⟨g,L5,k',xs.length⟩ else e j,e.z,kd⟩:An)=e' at NE;have e1:e' did=some ⟨g,L5,k',xs.length⟩:=by subst AP;simp
  have e2:∀j,j≠did->e' j=e j:=by intro j hj;subst AP;simp[hj]
  have e3:e'.z=e.z:=by subst AP;rfl
  have e4:e'.kid=kd:=by subst AP;rfl
  have Ds:∀b1,BN e' b1->BN e b1\/∃c',L5=some (b1,c'):=by
   rintro b1 ⟨j,ej,c1,h1,h2⟩;by_cases hj:j=did
   .subst hj;rw[e1] at h1;cases h1;exact .inr ⟨c1,h2⟩
   rw[e2 j hj] at h1;exact .inl ⟨j,ej,c1,h1,h2⟩
  have Dl:BN e b:=⟨id,ee,bcap,he,hb⟩;have ext:AB w e G w e' (gadd G g):=by
   refine AB.mk' (lR _) (fun _ h=> .inl h) e3 (fun b1 _ ho=>?_) (fun _ _ _=>rfl) fun j ej hj hG=>?_
   .rcases ho with ho|⟨B,c1,Bi,ho⟩
    .rcases Ds b1 ho with ho|⟨c',ho⟩
     .exact .inl ho
     exact .inr ⟨b,_,(hblk b1 c' ho).1,Dl⟩
    rw[e4] at Bi;have Ch:=kd1 _ _ _ Bi;rcases Ds B ho with ho|⟨c',ho⟩
    .exact .inr ⟨B,c1,Ch,ho⟩
    have:=p.hr.kk _ _ _ Ch;rw[(hblk B c' ho).1] at this;cases this
   by_cases EB:j=did
   .subst EB;rw[e1] at hj;cases hj;exact absurd hG p.ng
   rw[e2 j EB] at hj;exact⟨ej,hj,rfl,rfl, .inl ⟨rfl,rfl⟩⟩
  have gh:VR w (UE e') e' (gadd G g) (.l did g 0 xs.length) (cs0.getD (i*k+off) undef):=by refine .l _ _ _ _ _ (.inr rfl) Cq fun Au AP _=>?_;rw[e1] at AP;cases AP;exact⟨sM,fun _=>C3⟩
  have own_of:∀b1,AQ e' b1->AQ e b1:=by
   intro b1 ho;rcases ho with ho|⟨B,c1,Bi,ho⟩
   .rcases Ds b1 ho with ho|⟨c',ho⟩
    .exact .inl ho
    exact .inr ⟨b,_,(hblk b1 c' ho).1,Dl⟩
   rw[e4] at Bi;have Ch:=kd1 _ _ _ Bi;rcases Ds B ho with ho|⟨c',ho⟩
   .exact .inr ⟨B,c1,Ch,ho⟩
   have:=p.hr.kk _ _ _ Ch;rw[(hblk B c' ho).1] at this;cases this
  refine⟨_,w,e',rfl,?_,ext,?_,p.fr, .inl ⟨_,rfl,gh⟩⟩
  .refine p.hr.step (fun j=>j=did\/j=id) ext e3 (fun j hj=>?_) (fun j ej b1 c1 hj Ca BG=>⟨rfl,fun b2 c2 Ch=>⟨rfl,?_⟩⟩) (fun j hj hn=>?_) (fun j gj obj hj hg=>?_) (fun j ej b1 c1 hj Ca BG=>?_) (fun b1 B c1 Bi=>?_) (fun b1 ho=>?_) (fun b1 B c1 Bi=>?_)
   .simp only[not_or] at hj;refine⟨e2 j hj.1,?_⟩;simp only[List.cons_append,List.nil_append];rw[Hp.get_cons_other _ _ hj.1,Hp.get_cons_other _ _ hj.2]
   .simp only[not_or] at hj;rw[e4];refine kd2 _ _ _ Ch ?_;intro heq;simp only[Prod.mk.injEq] at heq;obtain⟨rfl,_⟩:=heq;exact hj.2 (p.hr.inj j id ej ee b1 c1 bcap Ca he BG hb)
   .simp only[List.cons_append,List.nil_append] at hn;rcases hj with rfl|rfl
    .rw[Hp.get_cons_same] at hn;cases hn
    rw[Hp.get_cons_other _ _ Bj,Hp.get_cons_same] at hn;cases hn
   .simp only[List.cons_append,List.nil_append] at hg;rcases hj with rfl|rfl
    .rw[Hp.get_cons_same] at hg;cases hg;exact⟨_,e1,rfl, .inr rfl,NE ext⟩
    rw[Hp.get_cons_other _ _ Bj,Hp.get_cons_same] at hg;cases hg;refine⟨ee,(e2 _ Bj).trans he,rfl, .inl (p.hr.gen _ _ he),hk,by simp[hn],Ck,?_,?_,?_⟩
    .intro l hl;rw[List.getElem_set];split
     .rw[ZB JS rfl,List.length_set];exact A3 i hi
     exact A3 _ _
    .intro l hl j hj;simp only[List.getElem_set] at hj ⊢;by_cases DQ:i=l
     .simp only[DQ,if_true] at hj ⊢;subst DQ;simp only[ZB JS (show AV.cells (.l did g 0 xs.length)=[_] from rfl)] at hj ⊢;rw[List.getElem_set];split
      .rfl
      exact h1 _ _ _ _
     simp only[DQ,if_false] at hj ⊢;exact h1 _ _ _ _
    rw[hb];refine⟨hm,by simpa using Gs,cs0,NA,hs,?_⟩;intro l hl j hj;have JP:l<es.length:=xx2;have keep:∀(Ah:j<es[l].cells.length),¬(l=i/\j=off)->VC w e' (gadd G g) b (l*k+j) es[l].cells[j] (cs0.getD (l*k+j) undef):=by
     intro Ah v7;refine(hv l JP j Ah).ext ext fun b1 BP=>⟨rfl,?_⟩;rw[e4];refine kd2 _ _ _ BP ?_;intro heq;simp only[Prod.mk.injEq,true_and] at heq;have Db:j<k:=by have:=A3 l JP;omega
     have AI:off<k:=by have:=A3 i hi;omega
     have d1:=Oe (i:=l) Db;have d2:=Oe (i:=i) AI;rw[heq] at d1;exact v7 ⟨by rw[<-d1.1,d2.1],by rw[<-d1.2,d2.2]⟩
    simp only[List.getElem_set] at hj ⊢;by_cases DQ:i=l
    .subst DQ;simp only[if_true] at hj ⊢;simp only[ZB JS (show AV.cells (.l did g 0 xs.length)=[_] from rfl)] at hj ⊢;rw[List.getElem_set];by_cases JO:off=j
     .subst JO;rw[iP rfl];exact .val _ _ gh
     rw[iN JO];exact keep vx2 (fun h=>JO h.2.symm)
    simp only[DQ,if_false] at hj ⊢;exact keep hj (fun h=>DQ h.1.symm)
   .rcases hj with rfl|rfl
    .rw[e1] at Ca;cases Ca;have ID:=(hblk b1 c1 BG).1;obtain⟨q1,q2,q3⟩:=p.hr.kl _ _ _ ID;refine⟨q1,q3,fun j' Mb c' Ah Gr=>?_⟩;by_cases h:j'=j
     .exact h
     rw[e2 j' h] at Ah;have:=p.hr.ko b1 ⟨j',Mb,c',Ah,Gr⟩;rw[ID] at this;cases this
    rw[e2 _ Bj,he] at Ca;cases Ca;rw[hb] at BG;cases BG;refine⟨p.hr.lt _ _ _ _ he hb,p.hr.nz _ _ _ _ he hb,fun j' Mb c' Ah Gr=>?_⟩;by_cases h:j'=did
    .subst h;rw[e1] at Ah;cases Ah;have:=p.hr.ko b Dl;rw[(hblk b c' Gr).1] at this;cases this
    rw[e2 j' h] at Ah;exact p.hr.inj _ _ _ _ _ _ _ Ah he Gr hb
   .rw[e4] at Bi;exact p.hr.kl _ _ _ (kd1 _ _ _ Bi)
   .rw[e4];rcases Ds b1 ho with ho|⟨c',ho⟩
    .cases GY:kd b1 with
     |none=>rfl|some q=>have:=p.hr.ko b1 ho;rw[kd1 _ q.1 q.2 GY] at this;cases this
    exact(hblk b1 c' ho).2
   rw[e4] at Bi ⊢;have:=p.hr.kk _ _ _ (kd1 _ _ _ Bi);cases GY:kd B with
   |none=>rfl|some q=>rw[kd1 _ q.1 q.2 GY] at this;cases this
  exact p.ln.step p.fr.size ext e3 fun b1 _ ho=>own_of b1 ho
 generalize G6:cs0.getD (i*k+off) undef=x at CI main;cases CI with
 |val _ _ h=>exact h.kid_no.elim|kid0 _ _ a h0=>exact main none e.kid (fun _ _ _ h=>h) (fun _ _ _ h _=>h) sM ⟨rfl,rfl,a,rfl⟩ rfl fun ext=>⟨rfl,rfl,h0,sM,sM,rfl⟩|kid _ _ _ b' cap cs q1 q2 q3 q4 q5 q6 q7 q8 q9=>
  refine main (some (b',cap)) (fun b1=>if b1=b' then none else e.kid b1) (fun b1 B c h=>?_) (fun b1 B c h Bj=>?_) ?_ ⟨cap,sM,sM,q5⟩ rfl fun ext=>?_
  .split at h
   .cases h
   exact h
  .rw[iN ?_]
   .exact h
   rintro rfl;rw[q1] at h;cases h;exact Bj rfl
  .rintro b1 c1 ⟨⟩;exact⟨q1,sM⟩
  exact⟨rfl,rfl,q4,q7,q8,q6,q5,cs,q2,q3,fun i hi j hj=> .val _ _ (.dat _ _ ((q9 i hi j hj).mono ext.size ext.un ext.same))⟩
theorem QaQ (p:Bt C e G g hp w) {did:Nat} {ti:TI} {t:Nat} (hf:ti.size≠0->Di C.P t ti) {av:AV} {x:Value} (hx:VR w (UE e) e G av x) (h:(NW ti did g hp av).1):
  Bb C e G g hp w (NW ti did g hp av) (((Instr.loadAt t x).run C.P w).andThen fun v w=> .ok (.value v) w):=by
 cases av with
 |P cs=>obtain⟨b,off,f,rfl,h1,h2,h3,h4,h5⟩:=hx.ptI_inv.ptI_inv;obtain⟨xv,hr,hv⟩:=UU (C:=C) (hf h.1) h3 h4 (fun i hi=> .dat _ _ (h5 i hi)) h;rw[hr];exact .pure p hv
 |p id g' n i off=>
  simp only[NW] at h ⊢;cases hg:hp.get id with
  |none=>simp only[hg] at h;exact h.elim|some q=>
   obtain⟨g'',ob⟩:=q;obtain⟨_,_,hi⟩:=hx.ptO_inv;obtain⟨ee,he,Bo,_,A8⟩:=p.hr.live id g'' ob hg;cases ob with
   |mp _=>simp only[hg] at h;exact h.elim|ms _=>simp only[hg] at h;exact h.elim|bd _ _ _=>simp only[hg] at h;exact h.elim|box cs=>
    simp only[hg] at h ⊢;obtain⟨rfl,rfl,rfl,h⟩:=h;obtain⟨hn,h1,b,c,vs,T,hb,hh,hs,hv⟩:=A8;obtain⟨_,hi⟩:=hi ee he Bo;obtain rfl:=hi hn b c hb;simp only[Nat.zero_mul,Nat.zero_add];obtain⟨xv,hr,hv⟩:=UU (C:=C) (hf h.1) (cs:=cs.drop off) (w:=w) (e:=e) (G:=G) (b:=b) (off:=off) (f:=fun j=>vs.getD (off+j) undef) (fun j hj=>by rw[cell_of_heap hh vx8])
     (U4 h1 off) (fun j hj=>by simp only[List.getElem_drop];exact hv _ _) h
    rw[hr];exact .pure p hv
   |own T k es=>
    simp only[hg] at h ⊢;have getb:∀(_:g''=g') (_:n=es.length) (_:i<es.length),∃b bcap cs,ee.blk=some (b,bcap)/\x= .pointer (some ⟨b,i*k+off,none⟩)/\Cl w b cs T/\cs.size=bcap*k/\i*k+k<=cs.size/\
      (∀i (h:i<es.length) j (h':j<es[i].cells.length),VC w e G b (i*k+j) es[i].cells[j] (cs.getD (i*k+j) undef)):=by
     intro h1 h2 h3;obtain⟨_,hi⟩:=hi ee he oM;obtain⟨hk,hn,Ck,A3,q1,hb⟩:=A8;cases Al:ee.blk with
     |none=>rw[Al] at hb;subst hb;simp at h3|some q=>
      obtain⟨b,bcap⟩:=q;rw[Al] at hb;obtain⟨_,Gs,cs,hh,hs,hv⟩:=hb;have hx:=hi oM b bcap Al;rw[hk] at hx;refine⟨b,bcap,cs,rfl,hx,hh,hs,?_,hv⟩;rw[hs];calc i*k+k=(i+1)*k:=by rw[Nat.succ_mul]
       _<=bcap*k:=Nat.mul_le_mul_right _ oM
    split at h
    .rename_i t' k' xs Fl FF;obtain⟨h1,h2,h3,h4,h5,h6⟩:=h;obtain⟨b,bcap,cs,hb,Qx,hh,hs,Be,hv⟩:=getb h1 h2 h3;have hD:=P6 h3;rw[hD] at h6 FF ⊢;rw[P6 h6] at FF;have A3:=A8.2.2.2.1 i h3;subst Qx;have hr:=Va (hf h5) w b (i*k+off) (fun _=>cs.getD (i*k+off) undef) (fun j hj=>by
      have:=(hf h5).one Fl;have:j=0:=oM;subst this;rw[Nat.add_zero];exact hh.cellD oM)
     rw[hr];simp only[Fl,Bool.false_eq_true,if_false,Result.andThen_ok];rw[<-Bo] at*;have:=pU (P:=ee.g=g'/\n=es.length/\i<es.length/\id≠did/\ti.size≠0/\off<es[i].cells.length) p h4 he h3 h6 hb A8 FF ⟨cs,hh,rfl⟩;simpa using this
    obtain⟨h1,h2,h3,Mt,h⟩:=h;obtain⟨b,bcap,cs,hb,Qx,hh,hs,Be,hv⟩:=getb h1 h2 h3;have hD:=P6 h3;rw[hD] at h Mt ⊢;have A3:=A8.2.2.2.1 i h3;subst Qx;obtain⟨xv,hr,hv⟩:=UU (C:=C) (hf h.1) (cs:=es[i].cells.drop off) (w:=w) (e:=e) (G:=G) (b:=b) (off:=i*k+off) (f:=fun j=>cs.getD (i*k+off+j) undef)
     (fun j hj=>by rw[hh.cellD vx8]) (U4 (fun j hj=>A8.2.2.2.2.1 i h3 j hj) off) (fun j hj=>by
      simp only[List.getElem_drop,Nat.add_assoc];exact(hv i h3 _ _).noKid (Mt _ (gM _))) h
    rw[hr];exact .pure p hv
 |_=>exact h.elim
end
open Go
section
variable {C:Cx} {e:An} {G:Nat->Prop} {g:Nat} {hp:Hp} {w:World} {T:AE}
theorem cG {t el:Nat} (h:(tl T t).ty= .slice el):elemOf T t=el:=by simp[elemOf,h]
theorem cE {t n el:Nat} (h:(tl T t).ty= .array n el):elemOf T t=el:=by simp[elemOf,h]
theorem Zu {P:Program} {t el:Nat} {ei:TI} (hu:P.underlying t=some (.slice el)) (hf:Di P el ei) (b off n cap:Nat) (k:IntKind) (i:Int) (h0:0<=i) (h1:i<n) (w:World):
  (Instr.indexAt t (.slice (some ⟨b,off,none⟩) n cap) (.int k i)).run P w= .ok (.pointer (some ⟨b,off+i.toNat*ei.size,none⟩)) w:=by
 simp[Instr.indexAt,run_underlying hu,asIntOf,h0,h1,Fy hf,K7]
theorem jE {P:Program} {t m el:Nat} {ei:TI} (hu:P.underlying t=some (.array m el)) (hf:Di P el ei) (b off:Nat) (k:IntKind) (i:Int) (h0:0<=i) (h1:i<m) (w:World):
  (Instr.indexAt t (.pointer (some ⟨b,off,none⟩)) (.int k i)).run P w= .ok (.pointer (some ⟨b,off+i.toNat*ei.size,none⟩)) w:=by
 simp[Instr.indexAt,run_underlying hu,asIntOf,Instr.sureAddr,h0,h1,Fy hf,K7]
theorem VD.ptI_drop {U:Nat->Prop} {cs:List AV} {b off:Nat} {f:Nat->Value} (h1:U b) (h2:b<w.heap.size)
  (h3:∀j,j<cs.length->w.cell? ⟨b,off+j,none⟩=some (f j)) (h4:∀j (h:j<cs.length),cs[j].one=true) (h5:∀j (h:j<cs.length),VD w U cs[j] (f j)) (n:Nat):
  VD w U (.P (cs.drop n)) (.pointer (some ⟨b,off+n,none⟩)):=by
 refine .P _ b (off+n) (fun j=>f (n+j)) h1 h2 ?_ ?_ ?_
 .intro j hj;simp at hj;rw[Nat.add_assoc];exact h3 _ oM
 .intro j hj;simp only[List.getElem_drop];exact h4 _ _
 intro j hj;simp only[List.getElem_drop];exact h5 _ _
theorem Zi (hr:AU w e G hp) {id g' n i off:Nat} {x:Value} (hx:VR w (UE e) e G (.p id g' n i off) x) (hh:hp.has id g' n):
  ∃ee b c,e id=some ee/\ee.g=g'/\ee.n=n/\ee.blk=some (b,c)/\x= .pointer (some ⟨b,i*ee.k+off,none⟩):=by
 obtain⟨_,_,A2⟩:=hx.ptO_inv;unfold Hp.has at hh;cases hg:hp.get id with
 |none=>simp only[hg] at hh|some q=>
  obtain⟨g'',ob⟩:=q;obtain⟨ee,he,Bo,_,A8⟩:=hr.live id _ _ hg;cases ob with
  |mp _=>simp only[hg] at hh|ms _=>simp only[hg] at hh|bd _ _ _=>simp only[hg] at hh;obtain⟨rfl,rfl⟩:=hh;obtain⟨hn,b,c,_,_,hb,_⟩:=A8;obtain⟨_,hi⟩:=A2 ee he Bo;exact⟨ee,b,c,he,Bo,hn,hb,hi hn b c hb⟩
  |box cs=>simp only[hg] at hh;obtain⟨rfl,rfl⟩:=hh;obtain⟨hn,_,b,c,vs,T,hb,_⟩:=A8;obtain⟨_,hi⟩:=A2 ee he Bo;exact⟨ee,b,c,he,Bo,hn,hb,hi hn b c hb⟩
  |own t k es=>
   simp only[hg] at hh;obtain⟨rfl,rfl,Bj⟩:=hh;obtain⟨_,hn,_,_,_,hb⟩:=A8;obtain⟨_,hi⟩:=A2 ee he Bo;cases Al:ee.blk with
   |none=>rw[Al] at hb;subst hb;exact absurd rfl Bj|some q=>obtain⟨b,c⟩:=q;exact⟨ee,b,c,he,Bo,hn,Al,hi hn b c Al⟩
theorem jj {id g' n i off QH:Nat} {x:Value} (hx:VR w (UE e) e G (.p id g' n i off) x) {ee:EE} {b c:Nat} (he:e id=some ee) (hn:ee.n=n)
  (hb:ee.blk=some (b,c)):VR w (UE e) e G (.p id g' n i QH) (.pointer (some ⟨b,i*ee.k+QH,none⟩)):=by
 obtain⟨hG,_,_⟩:=hx.ptO_inv;refine .p _ _ _ _ _ _ hG rfl fun Au AP _=>?_;rw[he] at AP;cases AP;refine⟨oM,fun _ b' c' CO=>?_⟩;rw[hb] at CO;cases CO;rfl
theorem QaN (p:Bt C e G g hp w) (hT:B4 C.P T) {t:Nat} {av ai:AV} {x xi:Value} (hx:VR w (UE e) e G av x) (hi:VR w (UE e) e G ai xi)
  (h:(Fx (tl T t) (tl T (elemOf T t)) hp av ai).1):
  Bb C e G g hp w (Fx (tl T t) (tl T (elemOf T t)) hp av ai) (((Instr.indexAt t x xi).run C.P w).andThen fun v w=> .ok (.value v) w):=by
 cases av with
 |sl es full=>
  cases ai with
  |lit v=>
   cases v with
   |int k i=>
    obtain⟨rfl,_⟩:=hi.lit_inv;cases AJ:(tl T t).ty with
    |slice el=>
     obtain⟨d,hu,hd⟩:=(hT.fit AJ sM).under;rw[AJ] at hd;cases hd
     rw[cG AJ] at h ⊢;simp only[Fx,AJ,R.val] at h ⊢;obtain⟨h0,h1,h2⟩:=h;have Aa:i.toNat<es.length:=oM;have hD:es.getD i.toNat .bad=es[i.toNat]:=by rw[gE,gG Aa];rfl
     rw[hD] at h2 ⊢;rcases hx.sl_inv.sl_inv with ⟨rfl,_⟩|⟨b,off,cap,k',f,rfl,hb,H3,_,_,_,Ck,hk,hc,ET,hv⟩
     .simp at Aa
     have Ia:=hk _ Aa;have HA:=hT.fits (t:=el) oM;rw[Zu hu HA b off _ cap k i h0 oM];simp only[Result.andThen_ok];refine .pure p (.dat _ _ (.P _ b _ (fun j=>f (i.toNat*k'+j)) hb H3 ?_ (ET _ Aa) (hv _ Aa)));intro j hj;rw[<-h2,Ia,Nat.add_assoc];refine hc _ ?_;calc i.toNat*k'+j<i.toNat*k'+k':=oM
      _=(i.toNat+1)*k':=by rw[Nat.succ_mul]
      _<=es.length*k':=Nat.mul_le_mul_right _ oM
    |_=>simp only[Fx,AJ] at h;exact h.elim
   |_=>exact h.elim
  |_=>exact h.elim
 |l id g' off len=>
  cases ai with
  |lit v=>
   cases v with
   |int k i=>
    obtain⟨rfl,_⟩:=hi.lit_inv;cases AJ:(tl T t).ty with
    |slice el=>
     obtain⟨d,hu,hd⟩:=(hT.fit AJ sM).under;rw[AJ] at hd;cases hd
     rw[cG AJ] at h ⊢;cases hg:hp.get id with
     |none=>simp only[Fx,AJ,hg] at h;exact h.elim|some q=>
      obtain⟨g'',ob⟩:=q;cases ob with
      |box cs=>simp only[Fx,AJ,hg] at h;exact h.elim|mp _=>simp only[Fx,AJ,hg] at h;exact h.elim|ms _=>simp only[Fx,AJ,hg] at h;exact h.elim|bd _ _ _=>simp only[Fx,AJ,hg] at h;exact h.elim|own T' k' es=>
       simp only[Fx,AJ,hg,R.val] at h ⊢;obtain⟨rfl,hl,rfl,h0,h1⟩:=h;obtain⟨hG,_,A2⟩:=hx.slO_inv;obtain⟨ee,he,Bo,_,A8⟩:=p.hr.live id _ _ hg;obtain⟨hk,hn,Ck,A3,ET,hb⟩:=A8;obtain⟨_,AI⟩:=A2 ee he Bo;have AI:=AI oM;have HA:=hT.fits (t:=el) oM;unfold Ex at AI;cases Al:ee.blk with
       |none=>rw[Al] at AI;obtain⟨_,DR,_⟩:=AI;omega
       |some q=>obtain⟨b,bcap⟩:=q;rw[Al] at AI;obtain⟨cap,rfl,_,_⟩:=AI;rw[Zu hu HA b _ len cap k i h0 h1];simp only[Result.andThen_ok];refine .pure p (.p _ _ _ _ _ _ hG rfl fun Au AP HB=>?_);rw[he] at AP;cases AP;refine⟨oM,fun _ b' c' T8=>?_⟩;rw[Al] at T8;cases T8;rw[hk];simp[Nat.add_mul]
    |_=>simp only[Fx,AJ] at h;exact h.elim
   |_=>exact h.elim
  |_=>exact h.elim
 |p id g' n j off=>
  cases ai with
  |lit v=>
   cases v with
   |int k i=>
    obtain⟨rfl,_⟩:=hi.lit_inv;cases AJ:(tl T t).ty with
    |array m el=>
     obtain⟨d,hu,hd⟩:=(hT.fit AJ sM).under;rw[AJ] at hd;cases hd
     rw[cE AJ] at h ⊢;simp only[Fx,AJ,R.val] at h ⊢;obtain⟨hh,hs,h0,h1⟩:=h;have HA:=hT.fits (t:=el) hs;obtain⟨ee,b,c,he,Bo,hn,hb,rfl⟩:=Zi p.hr hx hh;rw[jE hu HA b _ k i h0 h1,Nat.add_assoc];simp only[Result.andThen_ok];exact .pure p (jj hx he hn hb)
    |_=>simp only[Fx,AJ] at h;exact h.elim
   |_=>exact h.elim
  |_=>exact h.elim
 |P cs=>
  cases ai with
  |lit v=>
   cases v with
   |int k i=>
    obtain⟨rfl,_⟩:=hi.lit_inv;cases AJ:(tl T t).ty with
    |array m el=>
     obtain⟨d,hu,hd⟩:=(hT.fit AJ sM).under;rw[AJ] at hd;cases hd
     rw[cE AJ] at h ⊢;simp only[Fx,AJ,R.val] at h ⊢;obtain⟨hs,h0,h1⟩:=h;have HA:=hT.fits (t:=el) hs;obtain⟨b,off,f,rfl,q1,q2,q3,q4,q5⟩:=hx.ptI_inv.ptI_inv;rw[jE hu HA b off k i h0 h1];simp only[Result.andThen_ok];exact .pure p (.dat _ _ (VD.ptI_drop q1 q2 q3 q4 q5 _))
    |_=>simp only[Fx,AJ] at h;exact h.elim
   |_=>exact h.elim
  |_=>exact h.elim
 |_=>exact h.elim
theorem jD {P:Program} {t f:Nat} {fs:List (Nat×Nat)} {a:Array Field} (hu:P.underlying t=some (.struct a)) (ha:a.toList.map (fun f=>(f.offset,f.type))=fs) (hf:f<fs.length)
  {ti:TI} (HA:Di P (fs.getD f (0,0)).2 ti) (hs:ti.size≠0) (b off:Nat) (w:World):
  (Instr.fieldAt t (.pointer (some ⟨b,off,none⟩)) f).run P w= .ok (.pointer (some ⟨b,off+(fs.getD f (0,0)).1,none⟩)) w:=by
 subst ha;have I6:f<a.size:=by simpa using hf
 have e1:(a.toList.map fun f=>(f.offset,f.type)).getD f (0,0)=(a[f].offset,a[f].type):=by simp[gE,I6]
 rw[e1] at HA ⊢;simp only at HA ⊢;simp[Instr.fieldAt,run_underlying hu,I6,Instr.sureAddr,fieldPlace,Fy HA,hs,K7]
theorem QaL (p:Bt C e G g hp w) (hT:B4 C.P T) {t f:Nat} {av:AV} {x:Value} (hx:VR w (UE e) e G av x) (h:(MK T t f hp av).1):
  Bb C e G g hp w (MK T t f hp av) (((Instr.fieldAt t x f).run C.P w).andThen fun v w=> .ok (.value v) w):=by
 cases AJ:(tl T t).ty with
 |struct fs=>
  obtain⟨d,hu,hd⟩:=(hT.fit AJ sM).under;rw[AJ] at hd;obtain⟨a,rfl,ha⟩:=hd;simp only[MK,AJ] at h ⊢;cases av with
  |P cs=>obtain⟨h1,h2⟩:=h;obtain⟨b,off,f',rfl,q1,q2,q3,q4,q5⟩:=hx.ptI_inv.ptI_inv;rw[jD hu ha h1 (hT.fits h2) h2];simp only[Result.andThen_ok];exact .pure p (.dat _ _ (VD.ptI_drop q1 q2 q3 q4 q5 _))
  |p id g' n i off=>obtain⟨h1,h2,h3⟩:=h;obtain⟨ee,b,c,he,Bo,hn,hb,rfl⟩:=Zi p.hr hx h3;rw[jD hu ha h1 (hT.fits h2) h2,Nat.add_assoc];simp only[Result.andThen_ok];exact .pure p (jj hx he hn hb)
  |_=>exact h.elim
 |_=>simp only[MK,AJ] at h;exact h.elim
theorem QeC {P:Program} {t:Nat} {ti:TI} (hf:Di P t ti) (cs:Array Value) (off:Nat) (hl:off+ti.size<=cs.size) (w:World):
  (part t cs off).run P w= .ok (if ti.agg then .agg (cs.extract off (off+ti.size)) else cs.getD off undef) w:=by
 unfold part;rw[Sem.run_bind,jF hf,Result.andThen_ok];cases Fl:ti.agg with
 |true=>simp only[if_true,Sem.run_bind,Fy hf,Result.andThen_ok,Sem.run_pure]|false=>have h1:=hf.one Fl;have:off<cs.size:=oM;simp[gA,this]
theorem je (p:Bt C e G g hp w) {t:Nat} {ti:TI} (hf:Di C.P t ti) {cs:List AV} {vs:Array Value} (hl:cs.length=vs.size) (h1:∀i (h:i<cs.length),cs[i].one=true)
  (hv:∀i (h:i<cs.length),VR w (UE e) e G cs[i] (vs.getD i undef)) (off:Nat) (hs:ti.size≠0) (h:(E7 ti (cs.drop off)).1):
  Bb C e G g hp w (E7 ti (cs.drop off)) (((part t vs off).run C.P w).andThen fun v w=> .ok (.value v) w):=by
 have hle:ti.size<=cs.length - off:=by have:=h.2;simpa using this
 rw[QeC hf vs off oM];simp only[Result.andThen_ok];have:=yM p hf (cs:=cs.drop off) (cv:=vs.extract off vs.size) vv2 (U4 h1 off) (fun i hi=>by
  simp only[List.getElem_drop];have Ar:i<cs.length - off:=vv5;have e1:(vs.extract off vs.size).getD i undef=vs.getD (off+i) undef:=by rw[gA,gA,Array.getElem?_extract,iP oM]
  rw[e1];exact hv _ _) hf.one h
 have e2:(if ti.agg=true then Value.agg ((vs.extract off vs.size).extract 0 ti.size) else(vs.extract off vs.size).getD 0 undef)=
   if ti.agg=true then Value.agg (vs.extract off (off+ti.size)) else vs.getD off undef:=by
  cases ti.agg with
  |true=>
   simp only[if_true];congr 1
   rw[Array.extract_extract];congr 1
   omega
  |false=>simp only[Bool.false_eq_true,if_false];rw[gA,gA,Array.getElem?_extract,iP oM,Nat.add_zero]
 rw[<-e2];exact this
theorem QaM (p:Bt C e G g hp w) (hT:B4 C.P T) {t f:Nat} {av:AV} {x:Value} (hx:VR w (UE e) e G av x) (h:(SU T t f av).1):
  Bb C e G g hp w (SU T t f av) (((Instr.field t x f).run C.P w).andThen fun v w=> .ok (.value v) w):=by
 cases AJ:(tl T t).ty with
 |struct fs=>
  obtain⟨d,hu,hd⟩:=(hT.fit AJ sM).under;rw[AJ] at hd;obtain⟨a,rfl,ha⟩:=hd;simp only[SU,AJ] at h ⊢;cases av with
  |agg cs=>
   obtain⟨h1,h2,h3⟩:=h;obtain⟨vs,rfl,hl,q1,q2⟩:=hx.agg_inv;subst ha;have I6:f<a.size:=vy9;have e1:(a.toList.map fun f=>(f.offset,f.type)).getD f (0,0)=(a[f].offset,a[f].type):=by simp[gE,I6]
   rw[e1] at h2 h3 ⊢;simp only at h2 h3 ⊢;have hr:(Instr.field t (.agg vs) f).run C.P w=(part a[f].type vs a[f].offset).run C.P w:=by simp[Instr.field,run_underlying hu,I6,asAgg]
   rw[hr];exact je p (hT.fits h2) hl q1 q2 _ h2 h3
  |_=>exact h.elim
 |_=>simp only[SU,AJ] at h;exact h.elim
theorem QaO (p:Bt C e G g hp w) (hT:B4 C.P T) {t:Nat} {av ai:AV} {x xi:Value} (hx:VR w (UE e) e G av x) (hi:VR w (UE e) e G ai xi) (h:(NV T t av ai).1):
  Bb C e G g hp w (NV T t av ai) (((Instr.index t x xi).run C.P w).andThen fun v w=> .ok (.value v) w):=by
 cases AJ:(tl T t).ty with
 |array n el=>
  obtain⟨d,hu,hd⟩:=(hT.fit AJ sM).under;rw[AJ] at hd;cases hd
  simp only[NV,AJ] at h ⊢;cases av with
  |agg cs=>
   cases ai with
   |lit v=>
    cases v with
    |int k i=>
     obtain⟨h0,h1,h2,h3⟩:=h;obtain⟨rfl,_⟩:=hi.lit_inv;obtain⟨vs,rfl,hl,q1,q2⟩:=hx.agg_inv;have hr:(Instr.index t (.agg vs) (.int k i)).run C.P w=(part el vs (i.toNat*(tl T el).size)).run C.P w:=by simp[Instr.index,run_underlying hu,asIntOf,h0,h1,Fy (hT.fits h2)]
     rw[hr];exact je p (hT.fits h2) hl q1 q2 _ h2 h3
    |_=>exact h.elim
   |_=>exact h.elim
  |_=>exact h.elim
 |str=>
  obtain⟨d,hu,hd⟩:=(hT.fit AJ sM).under;rw[AJ] at hd;cases hd
  simp only[NV,AJ] at h ⊢;cases av with
  |lit v=>
   cases v with
   |string s=>
    cases ai with
    |lit v=>
     cases v with
     |int k i=>
      obtain⟨rfl,_⟩:=hi.lit_inv;obtain⟨rfl,_⟩:=hx.lit_inv;obtain⟨h0,h1⟩:=h;have Be:s.data.toList.length=s.size:=rfl;have Aa:i.toNat<s.size:=oM;rw[run_index_string w t s k i hu,dif_pos ⟨h0,oM⟩];simp only[Result.andThen_ok,R.val];have e1:s.data.toList.getD i.toNat 0=s[i.toNat]:=by rw[gE,gG oM];rfl
      rw[e1];exact GB p _ _ _
     |_=>exact h.elim
    |_=>exact h.elim
   |_=>exact h.elim
  |_=>exact h.elim
 |_=>simp only[NV,AJ] at h;exact h.elim
end
open Go
section
variable {C:Cx} {e:An} {G:Nat->Prop} {g:Nat} {hp:Hp} {w:World} {T:AE}
theorem VD.sub {U:Nat->Prop} {es:List AV} {full full':Bool} {a:Option Addr} {n cap:Nat} (h:VD w U (.sl es full) (.slice a n cap)) (l hh m s:Nat)
  (h1:l<=hh) (h2:hh<=es.length) (h3:hh<=m) (h4:m<=cap) (hs:l=0\/∀y∈es,y.cells.length=s) (hf:full'=true->m=hh):
  VD w U (.sl ((es.take hh).drop l) full') (sliced a l hh m s):=by
 unfold sliced;rcases h.sl_inv with ⟨rfl,a',hx⟩|⟨b,off,CZ,k,f,hx,hb,H3,q1,q2,q3,Ck,hk,hc,q4,q5⟩
 .cases hx
  have:m=0:=oM;have:hh=0:=oM;have:l=0:=oM
  subst_vars
  simpa using VD.nil full' _
 cases hx
 have hlen:((es.take hh).drop l).length=hh - l:=vv2;have DP:∀i (hi:i<((es.take hh).drop l).length),((es.take hh).drop l)[i]=es[l+i]'oM:=by intro i hi;simp
 by_cases Gw:m=l
 ·have hle:hh - l=0:=oM;rw[iP Gw,<-hlen];exact .sl _ _ b off _ k f hb H3 oM oM (by intro Iz;have:=hf Iz;omega) Ck
   (fun i hi=>oM) (fun j hj=>by rw[hlen,hle] at hj;omega) (fun i hi=>oM) (fun i hi=>oM)
 rw[iN Gw,<-hlen];simp only[Option.map_some,K7];by_cases DR:l=hh
 ·have hle:hh - l=0:=oM;exact .sl _ _ b _ _ k f hb H3 oM oM (by intro Iz;have:=hf Iz;omega) Ck
   (fun i hi=>oM) (fun j hj=>by rw[hlen,hle] at hj;omega) (fun i hi=>oM) (fun i hi=>oM)
 have vx:l=0\/k=s:=by
  rcases hs with hs|hs
  ·exact .inl hs
  refine .inr ?_;have h0:l<es.length:=oM;rw[<-hk l h0];exact hs _ (gM h0)
 have JS:off+l*s=off+l*k:=by rcases vx with rfl|rfl<;>simp
 rw[JS];refine .sl _ _ b _ _ k (fun j=>f (l*k+j)) hb H3 oM oM (by intro Iz;have:=hf Iz;omega) Ck ?_ ?_ ?_ ?_
 ·intro i hi;rw[DP i hi];exact hk _ _
 ·intro j hj;rw[Nat.add_assoc];refine hc _ ?_;rw[hlen] at hj;calc l*k+j<l*k+(hh - l)*k:=oM
   _=hh*k:=by rw[<-Nat.add_mul];congr 1;omega
   _<=es.length*k:=Nat.mul_le_mul_right _ h2
 ·intro i hi j hj;simp only[DP i hi] at hj ⊢;exact q4 _ _ _ _
 intro i hi j hj;simp only[DP i hi] at hj ⊢;have:=q5 (l+i) oM j hj;rw[Nat.add_mul,Nat.add_assoc] at this;exact this
theorem QeD {P:Program} {t el:Nat} (hu:P.underlying t=some (.slice el)) (x:Value) (lo hi mx:Option Value) (w:World):
  (Instr.sliceAt t x lo hi mx).run P w=(Instr.slice t x lo hi mx).run P w:=by
 simp[Instr.sliceAt,run_underlying hu]
theorem VR.slice_cap {es:List AV} {full:Bool} {x:Value} (h:VR w (UE e) e G (.sl es full) x):∃a cap,x= .slice a es.length cap/\es.length<=cap/\(full=true->cap=es.length):=by
 rcases h.sl_inv.sl_inv with ⟨rfl,_,rfl⟩|⟨b,off,cap,k,f,rfl,_,_,q1,_,q3,_⟩
 .exact⟨_,_,rfl,lR _,fun _=>rfl⟩
 exact⟨_,_,rfl,q1,q3⟩
def Cc (w:World) (e:An) (G:Nat->Prop):Option AV->Option Value->Prop
 |none,none=>True|some a,some v=>VR w (UE e) e G a v|_,_=>False
theorem LO (hr:AU w e G hp) {id g' off len:Nat} {x:Value} (hx:VR w (UE e) e G (.l id g' off len) x) {t k:Nat} {es:List AV} (hg:hp.get id=some (g', .own t k es)) (hl:es.length=off+len):
  ∃ee,e id=some ee/\ee.g=g'/\ee.n=es.length/\Ex ee off len x/\Gh w e G (.own t k es) ee:=by
 obtain⟨_,_,A2⟩:=hx.slO_inv;obtain⟨ee,he,Bo,_,A8⟩:=hr.live id _ _ hg;obtain⟨_,AI⟩:=A2 ee he Bo;exact⟨ee,he,Bo,A8.2.1,AI (by rw[A8.2.1];exact hl),A8⟩
theorem Ex.shape {ee:EE} {off len:Nat} {x:Value} (h:Ex ee off len x):∃a cap,x= .slice a len cap:=by
 unfold Ex at h;cases hb:ee.blk with
 |none=>rw[hb] at h;obtain⟨_,rfl,a,rfl⟩:=h;exact⟨_,_,rfl⟩
 |some q=>obtain⟨b,c⟩:=q;rw[hb] at h;obtain⟨cap,rfl,_⟩:=h;exact⟨_,_,rfl⟩
theorem kG (p:Bt C e G g hp w) {id g' n:Nat} {t k:Nat} {es:List AV} (hg:hp.get id=some (g', .own t k es)) (hn:n<=es.length) {v:AV} {xv:Value}
  (hv:∀ee b bcap,e id=some ee->ee.blk=some (b,bcap)->ee.k=k->ee.n=es.length->∀e':An,e' id=some ⟨g,some (b,bcap),k,n⟩->VR w (UE e') e' (gadd G g) v xv) (Bj:∃ee b bcap,e id=some ee/\ee.blk=some (b,bcap)) {P:Prop}:
  Bb C e G g hp w (P,v,[(id,some (g, .own t k (es.take n)))]) (.ok (.value xv) w):=by
 obtain⟨ee,he,Bo,W2,A8⟩:=p.hr.live id _ _ hg;obtain⟨Au,b,bcap,AP,Al⟩:=Bj;rw[he] at AP;cases AP;obtain⟨hk,Ei,Ck,A3,h1,hb⟩:=A8;rw[Al] at hb;obtain⟨hm,Gs,cs,hh,hs,CI⟩:=hb;have e1:Ed e id (some ⟨g,some (b,bcap),k,n⟩) id=some ⟨g,some (b,bcap),k,n⟩:=Hq _ _ _;have Ds:∀b1,BN (Ed e id (some ⟨g,some (b,bcap),k,n⟩)) b1->BN e b1:=by
  rintro b1 ⟨j,ej,c1,q1,q2⟩;by_cases hj:j=id
  .subst hj;rw[e1] at q1;cases q1;cases q2;exact⟨j,ee,bcap,he,Al⟩
  rw[Ir _ _ hj] at q1;exact⟨j,ej,c1,q1,q2⟩
 have Ky:∀b1,AQ (Ed e id (some ⟨g,some (b,bcap),k,n⟩)) b1->AQ e b1:=by
  rintro b1 (ho|⟨B,c1,Bi,ho⟩)
  .exact .inl (Ds _ ho)
  exact .inr ⟨B,c1,Bi,Ds _ ho⟩
 have ext:AB w e G w (Ed e id (some ⟨g,some (b,bcap),k,n⟩)) (gadd G g):=by
  refine AB.mk' (lR _) (fun _ h=> .inl h) rfl (fun b1 _ ho=>Ky b1 ho) (fun _ _ _=>rfl) fun j ej hj hG=>?_;by_cases EB:j=id
  .subst EB;rw[e1] at hj;cases hj;exact absurd hG p.ng
  rw[Ir _ _ EB] at hj;exact⟨ej,hj,rfl,rfl, .inl ⟨rfl,rfl⟩⟩
 refine⟨_,w,_,rfl,?_,ext,p.ln.step p.fr.size ext rfl fun b1 _ ho=>Ky b1 ho,p.fr, .inl ⟨_,rfl,hv ee b bcap he Al hk Ei _ e1⟩⟩;refine p.hr.step (fun j=>j=id) ext rfl (fun j hj=>⟨Ir _ _ hj,vx7⟩) (fun _ _ _ _ _ _ _=>⟨rfl,fun _ _ h=>⟨rfl,h⟩⟩) (fun j hj IG=>?_) (fun j gj obj hj EV=>?_) (fun j ej b1 c1 hj Ca BG=>?_)
  p.hr.kl (fun b1 ho=>p.hr.ko b1 (Ds _ ho)) p.hr.kk
 .subst hj;simp only[List.cons_append,List.nil_append] at IG;rw[Hp.get_cons_same] at IG;cases IG
 .subst hj;simp only[List.cons_append,List.nil_append] at EV;rw[Hp.get_cons_same] at EV;cases EV;refine⟨_,e1,rfl, .inr rfl,rfl,vv2,Ck,?_,?_,?_⟩
  .intro i hi;simp only[List.getElem_take];exact A3 _ _
  .intro i hi j hj;simp only[List.getElem_take] at hj ⊢;exact h1 _ _ _ _
  refine⟨hm,vv2,cs,hh,hs,fun i hi j hj=>?_⟩;simp only[List.getElem_take] at hj ⊢;exact(CI i vz0 j hj).ext ext fun b1 BP=>⟨rfl,BP⟩
 subst hj;rw[e1] at Ca;cases Ca;cases BG;refine⟨p.hr.lt _ _ _ _ he Al,p.hr.nz _ _ _ _ he Al,fun j' Mb c' Ah Gr=>?_⟩;by_cases h:j'=j
 .exact h
 rw[Ir _ _ h] at Ah;exact p.hr.inj _ _ _ _ _ _ _ Ah he Gr Al
theorem QaX (p:Bt C e G g hp w) {t el:Nat} (hu:C.P.underlying t=some (.slice el)) {ei:TI} (FJ:ei.size≠0->Di C.P el ei) {lo hi mx:Option AV} {xl xh xm:Option Value} {av:AV} {x:Value}
  (hx:VR w (UE e) e G av x) (hl:Cc w e G lo xl) (hh:Cc w e G hi xh) (hm:Cc w e G mx xm) (h:(Pg ei g hp lo hi mx av).1):
  Bb C e G g hp w (Pg ei g hp lo hi mx av) (((Instr.sliceAt t x xl xh xm).run C.P w).andThen fun v w=> .ok (.value v) w):=by
 have KK:C.P.underlying t=some (.slice (C.P.elem t)):=by simp[Program.elem,hu]
 have KL:C.P.elem t=el:=by simp[Program.elem,hu]
 rw[QeD hu];unfold Pg at h ⊢;split at h
 case h_1 es full=>
  obtain⟨a,cap,rfl,Gs,Qj⟩:=hx.slice_cap;have KP:=hx.sl_inv;split at h
  .obtain⟨rfl⟩:xl=none:=vy4;obtain⟨rfl⟩:xh=none:=vz2;obtain⟨rfl⟩:xm=none:=vx5;have hf:=FJ h;rw[run_slice_all _ _ _ _ _ KK,KL,Fy hf];simp only[Result.andThen_ok];refine .pure p (.dat _ _ ?_);have:=KP.sub (full':=full) 0 es.length cap ei.size (zL _) (lR _) Gs (lR _) (.inl rfl) Qj;simpa using this
  .rename_i kl l;cases xl with
   |none=>exact hl.elim|some vl=>obtain⟨rfl,_⟩:=hl.lit_inv;obtain⟨rfl⟩:xh=none:=vz2;obtain⟨rfl⟩:xm=none:=vx5;obtain⟨hs,AI,h0,h1⟩:=h;have hf:=FJ hs;rw[run_slice_l _ _ _ _ _ KK kl l h0 h1,KL,Fy hf];simp only[Result.andThen_ok];refine .pure p (.dat _ _ ?_);have:=KP.sub (full':=full) l.toNat es.length cap ei.size oM (lR _) Gs (lR _) (.inr AI) Qj;simpa using this
  .rename_i kh l;cases xh with
   |none=>exact hh.elim|some vl=>obtain⟨rfl,_⟩:=hh.lit_inv;obtain⟨rfl⟩:xl=none:=vy4;obtain⟨rfl⟩:xm=none:=vx5;obtain⟨hs,h0,h1⟩:=h;have hf:=FJ hs;rw[run_slice_h _ _ _ _ _ KK kh l h0 oM,KL,Fy hf];simp only[Result.andThen_ok];refine .pure p (.dat _ _ ?_);have:=KP.sub (full':=false) 0 l.toNat cap ei.size oM oM oM (lR _) (.inl rfl) sM;simpa using this
  .rename_i kl l kh m;cases xl with
   |none=>exact hl.elim|some vl=>
    cases xh with
    |none=>exact hh.elim|some vh=>obtain⟨rfl,_⟩:=hl.lit_inv;obtain⟨rfl,_⟩:=hh.lit_inv;obtain⟨rfl⟩:xm=none:=vx5;obtain⟨hs,AI,h0,h1,h2⟩:=h;have hf:=FJ hs;rw[run_slice_lh _ _ _ _ _ KK kl kh l m h0 h1 oM,KL,Fy hf];simp only[Result.andThen_ok];exact .pure p (.dat _ _ (KP.sub (full':=false) l.toNat m.toNat cap ei.size oM oM oM (lR _) (.inr AI) sM))
  .rename_i kh hv km m;cases xh with
   |none=>exact hh.elim|some vh=>
    cases xm with
    |none=>exact hm.elim|some vm=>obtain⟨rfl,_⟩:=hh.lit_inv;obtain⟨rfl,_⟩:=hm.lit_inv;obtain⟨rfl⟩:xl=none:=vy4;obtain⟨hs,h0,rfl,h2⟩:=h;have hf:=FJ hs;rw[run_slice_hm _ _ _ _ _ KK kh km hv hv h0 (Int.le_refl _) oM,KL,Fy hf];simp only[Result.andThen_ok];refine .pure p (.dat _ _ ?_);have:=KP.sub (full':=true) 0 hv.toNat hv.toNat ei.size oM oM (lR _) oM (.inl rfl) sM;simpa using this
  .rename_i kl l kh hv km m;cases xl with
   |none=>exact hl.elim|some vl=>
    cases xh with
    |none=>exact hh.elim|some vh=>
     cases xm with
     |none=>exact hm.elim|some vm=>obtain⟨rfl,_⟩:=hl.lit_inv;obtain⟨rfl,_⟩:=hh.lit_inv;obtain⟨rfl,_⟩:=hm.lit_inv;obtain⟨hs,AI,h0,h1,rfl,h2⟩:=h;have hf:=FJ hs;rw[run_slice_lhm _ _ _ _ _ KK kl kh km l hv hv h0 h1 (Int.le_refl _) oM,KL,Fy hf];simp only[Result.andThen_ok];exact .pure p (.dat _ _ (KP.sub (full':=true) l.toNat hv.toNat hv.toNat ei.size oM oM (lR _) oM (.inr AI) sM))
  exact h.elim
 case h_2 id g' off len=>
  split at h
  .rename_i g'' t' k es hg;have base:∀(_:g''=g') (_:es.length=off+len) (_:k=ei.size),Di C.P el ei/\∃ee,e id=some ee/\ee.g=g'/\ee.k=k/\ee.n=es.length/\Ex ee off len x:=by intro h1 h2 h3;subst h1;obtain⟨ee,he,Bo,hn,AI,A8⟩:=LO p.hr hx hg h2;exact⟨FJ (by rw[<-h3];exact Nat.pos_iff_ne_zero.1 A8.2.2.1),ee,he,Bo,A8.1,hn,AI⟩
   have blk:∀{ee:EE},Ex ee off len x->0<len->∃b bcap cap,ee.blk=some (b,bcap)/\x= .slice (some ⟨b,off*ee.k,none⟩) len cap/\off+cap=bcap/\len<=cap:=by
    intro ee AI hl;unfold Ex at AI;cases Al:ee.blk with
    |none=>rw[Al] at AI;obtain⟨_,DR,_⟩:=AI;omega
    |some q=>obtain⟨b,bcap⟩:=q;rw[Al] at AI;obtain⟨cap,h1,h2,h3⟩:=AI;exact⟨b,bcap,cap,rfl,h1,h2,h3⟩
   obtain⟨hG,Cq,A2⟩:=hx.slO_inv;split at h
   .-- whole
    obtain⟨rfl⟩:xl=none:=vy4;obtain⟨rfl⟩:xh=none:=vz2;obtain⟨rfl⟩:xm=none:=vx5;obtain⟨h1,h2,h3,h4⟩:=h;obtain⟨hf,ee,he,Bo,hk,hn,AI⟩:=base h1 h2 h3;obtain⟨b,bcap,cap,Al,rfl,H5,F4⟩:=blk AI h4;rw[run_slice_all _ _ _ _ _ KK,KL,Fy hf];simp only[Result.andThen_ok];refine .pure p ?_;unfold sliced;rw[iN oM];simp only[Option.map_some,K7,Nat.zero_mul,Nat.add_zero,Nat.sub_zero];exact hx
   .rename_i kl l;cases xl with
    |none=>exact hl.elim|some vl=>obtain⟨rfl,_⟩:=hl.lit_inv;obtain⟨rfl⟩:xh=none:=vz2;obtain⟨rfl⟩:xm=none:=vx5;obtain⟨h1,h2,h3,h0,h4⟩:=h;obtain⟨hf,ee,he,Bo,hk,hn,AI⟩:=base h1 h2 h3;obtain⟨b,bcap,cap,Al,rfl,H5,F4⟩:=blk AI oM;rw[run_slice_l _ _ _ _ _ KK kl l h0 oM,KL,Fy hf];simp only[Result.andThen_ok];refine .pure p ?_;unfold sliced;rw[iN oM];refine .l _ _ _ _ _ hG rfl fun Au AP HB=>?_;rw[he] at AP;cases AP;refine⟨oM,fun _=>?_⟩;unfold Ex;rw[Al];refine⟨cap - l.toNat,?_,oM,oM⟩;simp only[Option.map_some,K7,hk,h3,Nat.add_mul]
   .rename_i kh l;cases xh with
    |none=>exact hh.elim|some vl=>obtain⟨rfl,_⟩:=hh.lit_inv;obtain⟨rfl⟩:xl=none:=vy4;obtain⟨rfl⟩:xm=none:=vx5;obtain⟨h1,h2,h3,h0,h4,h5⟩:=h;obtain⟨hf,ee,he,Bo,hk,hn,AI⟩:=base h1 h2 h3;obtain⟨b,bcap,cap,Al,rfl,H5,F4⟩:=blk AI h5;rw[run_slice_h _ _ _ _ _ KK kh l h0 oM,KL,Fy hf];simp only[Result.andThen_ok];subst h1;refine kG p hg oM (fun Au b' ov AP RP CV IG e' h'=>?_) ⟨ee,b,bcap,he,Al⟩;rw[he] at AP;cases AP;rw[Al] at RP;cases RP;unfold sliced;rw[iN oM];refine .l _ _ _ _ _ (.inr rfl) rfl fun ee'' RV _=>?_;rw[h'] at RV;cases RV;refine⟨lR _,fun _=>⟨cap,?_,H5,oM⟩⟩;simp[K7,hk]
   .rename_i kl l kh m;cases xl with
    |none=>exact hl.elim|some vl=>
     cases xh with
     |none=>exact hh.elim|some vh=>obtain⟨rfl,_⟩:=hl.lit_inv;obtain⟨rfl,_⟩:=hh.lit_inv;obtain⟨rfl⟩:xm=none:=vx5;obtain⟨h1,h2,h3,h0,h4,h5,h6⟩:=h;obtain⟨hf,ee,he,Bo,hk,hn,AI⟩:=base h1 h2 h3;obtain⟨b,bcap,cap,Al,rfl,H5,F4⟩:=blk AI oM;rw[run_slice_lh _ _ _ _ _ KK kl kh l m h0 h4 oM,KL,Fy hf];simp only[Result.andThen_ok];subst h1;refine kG p hg oM (fun Au b' ov AP RP CV IG e' h'=>?_) ⟨ee,b,bcap,he,Al⟩;rw[he] at AP;cases AP;rw[Al] at RP;cases RP;unfold sliced;rw[iN oM];refine .l _ _ _ _ _ (.inr rfl) rfl fun ee'' RV _=>?_;rw[h'] at RV;cases RV;refine⟨uO,fun _=>⟨cap - l.toNat,?_,oM,oM⟩⟩;simp only[Option.map_some,K7,hk,h3,Nat.add_mul]
   .rename_i kh hv km m;cases xh with
    |none=>exact hh.elim|some vh=>
     cases xm with
     |none=>exact hm.elim|some vm=>obtain⟨rfl,_⟩:=hh.lit_inv;obtain⟨rfl,_⟩:=hm.lit_inv;obtain⟨rfl⟩:xl=none:=vy4;obtain⟨h1,h2,h3,rfl,rfl⟩:=h;obtain⟨hf,ee,he,Bo,hk,hn,AI⟩:=base h1 h2 h3;obtain⟨a,cap,rfl⟩:=AI.shape;rw[run_slice_hm _ _ _ _ _ KK kh km 0 0 (Int.le_refl _) (Int.le_refl _) oM,KL,Fy hf];simp only[Result.andThen_ok];refine .pure p (.dat _ _ ?_);unfold sliced;simpa using VD.nil true _
   exact h.elim
  exact h.elim
 case h_3=>exact h.elim
theorem U3 (p:Bt C e G g hp w) (ob:Prop) (s:ByteArray):Bb C e G g hp w (ob, .lit (.string s),[]) (.ok (.value (.string s)) w):=
 .pure p (.dat _ _ (.lit _ rfl))
theorem QaY (p:Bt C e G g hp w) {t:Nat} (hu:C.P.underlying t=some .string) (s:ByteArray) {lo hi mx:Option AV} {xl xh xm:Option Value}
  (hl:Cc w e G lo xl) (hh:Cc w e G hi xh) (hm:Cc w e G mx xm) (h:(SV s lo hi mx).1):
  Bb C e G g hp w (SV s lo hi mx) (((Instr.sliceAt t (.string s) xl xh xm).run C.P w).andThen fun v w=> .ok (.value v) w):=by
 have Be:s.data.toList.length=s.size:=rfl;have e0:∀lo hi mx,(Instr.sliceAt t (.string s) lo hi mx).run C.P w=(Instr.slice t (.string s) lo hi mx).run C.P w:=fun lo hi mx=>by simp[Instr.sliceAt,run_underlying hu]
 have ex:∀l h:Nat,s.extract l h=strOf ((s.data.toList.take h).drop l):=fun l h=>by rw[Lib.extract_eq,strOf,List.drop_take]
 rw[e0];unfold SV at h ⊢;split at h
 .obtain⟨rfl⟩:xl=none:=vy4;obtain⟨rfl⟩:xh=none:=vz2;obtain⟨rfl⟩:xm=none:=vx5;have e1:(Instr.slice t (.string s) none none none).run C.P w= .ok (.string (s.extract 0 s.size)) w:=by simp[Instr.slice,Instr.sliceBounds,Instr.sliceBound,asIntOf,run_underlying hu]
  rw[e1,ex,<-Be,List.take_length,List.drop_zero];simp only[Result.andThen_ok];exact U3 p _ _
 .rename_i kl l;cases xl with
  |none=>exact hl.elim|some vl=>
   obtain⟨rfl,_⟩:=hl.lit_inv;obtain⟨rfl⟩:xh=none:=vz2;obtain⟨rfl⟩:xm=none:=vx5;obtain⟨h0,h1⟩:=h;have e1:(Instr.slice t (.string s) (some (.int kl l)) none none).run C.P w= .ok (.string (s.extract l.toNat s.size)) w:=by have hj:0<=l/\l<=(s.size:Int):=⟨h0,h1⟩;simp[Instr.slice,Instr.sliceBounds,Instr.sliceBound,asIntOf,run_underlying hu,hj]
   rw[e1,ex,<-Be,List.take_length];simp only[Result.andThen_ok];exact U3 p _ _
 .rename_i kh h';cases xh with
  |none=>exact hh.elim|some vl=>
   obtain⟨rfl,_⟩:=hh.lit_inv;obtain⟨rfl⟩:xl=none:=vy4;obtain⟨rfl⟩:xm=none:=vx5;obtain⟨h0,h1⟩:=h;have e1:(Instr.slice t (.string s) none (some (.int kh h')) none).run C.P w= .ok (.string (s.extract 0 h'.toNat)) w:=by have hj:0<=h'/\h'<=(s.size:Int):=⟨h0,h1⟩;simp[Instr.slice,Instr.sliceBounds,Instr.sliceBound,asIntOf,run_underlying hu,hj]
   rw[e1,ex,List.drop_zero];simp only[Result.andThen_ok];exact U3 p _ _
 .rename_i kl l kh h';cases xl with
  |none=>exact hl.elim|some vl=>
   cases xh with
   |none=>exact hh.elim|some vh=>obtain⟨rfl,_⟩:=hl.lit_inv;obtain⟨rfl,_⟩:=hh.lit_inv;obtain⟨rfl⟩:xm=none:=vx5;obtain⟨h0,h1,h2⟩:=h;rw[run_slice_string w t s kl kh l h' hu h0 h1 oM,ex];simp only[Result.andThen_ok];exact U3 p _ _
 exact h.elim
theorem QaZ (p:Bt C e G g hp w) (hT:B4 C.P T) {t:Nat} {lo hi mx:Option AV} {xl xh xm:Option Value} {av:AV} {x:Value}
  (hx:VR w (UE e) e G av x) (hl:Cc w e G lo xl) (hh:Cc w e G hi xh) (hm:Cc w e G mx xm) (h:(Ka T t g hp lo hi mx av).1)
  (hA:∀n el,(tl T t).ty= .array n el->(MN n (tl T el) hp lo hi mx av).1->Bb C e G g hp w (MN n (tl T el) hp lo hi mx av) (((Instr.sliceAt t x xl xh xm).run C.P w).andThen fun v w=> .ok (.value v) w)):
  Bb C e G g hp w (Ka T t g hp lo hi mx av) (((Instr.sliceAt t x xl xh xm).run C.P w).andThen fun v w=> .ok (.value v) w):=by
 cases AJ:(tl T t).ty with
 |slice el=>
  obtain⟨d,hu,hd⟩:=(hT.fit AJ sM).under;rw[AJ] at hd;cases hd
  simp only[Ka,AJ] at h ⊢;exact QaX p hu (fun hs=>hT.fits hs) hx hl hh hm h
 |str=>
  obtain⟨d,hu,hd⟩:=(hT.fit AJ sM).under;rw[AJ] at hd;cases hd
  simp only[Ka,AJ] at h ⊢;cases av with
  |lit v=>
   cases v with
   |string s=>obtain⟨rfl,_⟩:=hx.lit_inv;exact QaY p hu s hl hh hm h
   |_=>exact h.elim
  |_=>exact h.elim
 |array n el=>simp only[Ka,AJ] at h ⊢;exact hA n el AJ h|_=>simp only[Ka,AJ] at h;exact h.elim
theorem QaP (p:Bt C e G g hp w) (hT:B4 C.P T) {t ty:Nat} {av:AV} {x:Value} (hx:VR w (UE e) e G av x) (h:(KX T t hp av).1):
  Bb C e G g hp w (KX T t hp av) (((Builtin.len_ #[t] ty #[x]).run C.P w).andThen fun v w=> .ok (.value v) w):=by
 cases AJ:(tl T t).ty with
 |slice el=>
  obtain⟨d,hu,hd⟩:=(hT.fit AJ sM).under;rw[AJ] at hd;cases hd
  simp only[KX,AJ] at h ⊢;have key:∀a n c,(Builtin.len_ #[t] ty #[.slice a n c]).run C.P w= .ok (goInt n) w:=fun a n c=>vq5
  cases av with
  |sl es full=>obtain⟨a,cap,rfl,_⟩:=hx.slice_cap;rw[key];exact GB p _ _ _
  |l id g' off len=>
   cases hg:hp.get id with
   |none=>simp only[hg] at h;exact h.elim|some q=>
    obtain⟨g'',ob⟩:=q;cases ob with
    |box cs=>simp only[hg] at h;exact h.elim|mp _=>simp only[hg] at h;exact h.elim|ms _=>simp only[hg] at h;exact h.elim|bd _ _ _=>simp only[hg] at h;exact h.elim|own t' k es=>simp only[hg,R.val] at h ⊢;obtain⟨rfl,hl⟩:=h;obtain⟨ee,_,_,_,AI,_⟩:=LO p.hr hx hg hl;obtain⟨a,cap,rfl⟩:=AI.shape;rw[key];exact GB p _ _ _
  |_=>exact h.elim
 |str=>
  obtain⟨d,hu,hd⟩:=(hT.fit AJ sM).under;rw[AJ] at hd;cases hd
  simp only[KX,AJ] at h ⊢;cases av with
  |lit v=>
   cases v with
   |string s=>
    obtain⟨rfl,_⟩:=hx.lit_inv;have:(Builtin.len_ #[t] ty #[.string s]).run C.P w= .ok (goInt s.size) w:=vq5
    rw[this];exact GB p _ _ _
   |_=>exact h.elim
  |_=>exact h.elim
 |array n el=>
  obtain⟨d,hu,hd⟩:=(hT.fit AJ sM).under;rw[AJ] at hd;cases hd
  simp only[KX,AJ] at h ⊢;have:(Builtin.len_ #[t] ty #[x]).run C.P w= .ok (goInt n) w:=vq5
  rw[this];exact GB p _ _ _
 |_=>simp only[KX,AJ] at h;exact h.elim
end
open Go
theorem iw {f:AV->AV} {el:AV} (h:∀c,(f c).cells=[f c]\/c.one=false) (hc:∀c∈el.cells,c.one=true):(AH f el).cells=el.cells.map f:=by
 cases el with
 |agg cs=>rfl|bad=>have:=hc .bad vz6;cases this
 |tup cs=>have:=hc (.tup cs) vz6;cases this
 |_=>exact(h _).resolve_right (by simp[AV.one])
theorem WJ (n:Nat) (hp:Hp) (c:AV):(fz n hp c).cells=[fz n hp c]\/c.one=false:=by
 cases c with
 |agg cs=>exact .inr rfl|bad=>exact .inr rfl|tup cs=>exact .inr rfl|l id g off len=>
  cases n with
  |zero=>exact .inl rfl|succ n=>refine .inl ?_;simp only[fz];split<;>rfl
 |p id g m i off=>
  cases n with
  |zero=>exact .inl rfl|succ n=>refine .inl ?_;simp only[fz];split<;>rfl
 |fn f cs=>cases n<;>exact .inl rfl
 |kid t k es=>cases n<;>exact .inl rfl
 |sl es full=>cases n<;>exact .inl rfl
 |lit v=>cases n<;>exact .inl rfl
 |P cs=>cases n<;>exact .inl rfl
 |gl g=>cases n<;>exact .inl rfl
 |ifn=>cases n<;>exact .inl rfl
 |anyI k=>cases n<;>exact .inl rfl
 |bfn f cs=>cases n<;>exact .inl rfl
 |mpO id g=>cases n<;>exact .inl rfl
theorem NR {n:Nat} {hp:Hp} {el:AV} (hc:∀c∈el.cells,c.one=true):(AH (fz n hp) el).cells=el.cells.map (fz n hp):=
 iw (WJ n hp) hc
theorem It {n:Nat} {hp:Hp} {c:AV} (h:fzP n hp c):(fz n hp c).one=true:=by
 cases c with
 |agg cs=>cases n<;>exact h.elim
 |bad=>cases n<;>exact h.elim
 |tup cs=>cases n<;>exact h.elim
 |l id g off len=>
  cases n with
  |zero=>exact h.elim|succ n=>
   simp only[fz,fzP] at h ⊢;split at h
   .rename_i hg;first|rfl|(simp only[hg];rfl)|(rw[hg];rfl)|trace_state
   exact h.elim
 |p id g m i off=>
  cases n with
  |zero=>exact h.elim|succ n=>
   simp only[fz,fzP] at h ⊢;split at h
   .rename_i hg;first|rfl|(simp only[hg];rfl)|(rw[hg];rfl)|trace_state
   .rename_i hg;first|rfl|(simp only[hg];rfl)|(rw[hg];rfl)|trace_state
   exact h.elim
 |_=>cases n<;>rfl
section
variable {C:Cx} {e:An} {G:Nat->Prop} {g:Nat} {hp:Hp} {w:World} {T:AE}
theorem VD.full {U:Nat->Prop} {es:List AV} {full:Bool} {x:Value} (h:VD w U (.sl es full) x):VD w U (.sl es false) x:=by
 rcases h.sl_inv with ⟨rfl,a,rfl⟩|⟨b,off,cap,k,f,rfl,h1,h2,h3,h4,_,h6,h7,h8,h9,C8⟩
 .exact .nil _ _
 exact .sl _ _ b off cap k f h1 h2 h3 h4 sM h6 h7 h8 h9 C8
theorem dJ {U:Nat->Prop}:∀(n:Nat) {v:AV} {x:Value},VD w U v x->fzP n hp v->VD w U (fz n hp v) x
 |0,v,x,h,hP=>by
  cases v with
  |sl es full=>exact h.full|lit v=>exact h|P cs=>exact h|gl g=>exact h|ifn=>exact h|anyI k=>exact h|kid t k es=>exact h.kid_no.elim|_=>exact hP.elim
 |n+1,v,x,h,hP=>by
  cases v with
  |sl es full=>exact h.full|lit v=>exact h|P cs=>exact h|gl g=>exact h|ifn=>exact h|anyI k=>exact h|kid t k es=>exact h.kid_no.elim|l id g off len=>exact h.slO_no.elim|p id g m i off=>exact h.ptO_no.elim|fn f cs=>
   cases h with
   |fn _ _ vs h1 h2=>refine .fn _ _ _ vy9 fun i hi=>?_;simp only[List.getElem_map];have Ar:i<cs.length:=vv5;exact dJ n (h2 i Ar) (hP _ (gM Ar))
  |_=>exact hP.elim
structure Jt (e e':An) (D:Nat->Prop):Prop where
 un:∀b,UE e b->UE e' b
 dr:∀id ee b c,D id->e id=some ee->ee.blk=some (b,c)->UE e' b/\∀b' c',e.kid b'=some (b,c')->UE e' b'
theorem H2 (hr:AU w e G hp) {e':An} {D:Nat->Prop} (x:Jt e e' D):∀(n:Nat) {v:AV} {u:Value},VR w (UE e) e G v u->fzP n hp v->(∀i∈fzR n hp v,D i)->VD w (UE e') (fz n hp v) u
 |0,v,u,h,hP,_=>by
  cases h with
  |dat _ _ h=>exact dJ 0 (h.mono (lR _) (fun b _ hb=>x.un b hb) (fun _ _ _=>rfl)) hP|_=>exact hP.elim
 |n+1,v,u,h,hP,hD=>by
  cases v with
  |l id g' off len=>
   simp only[fz,fzP,fzR] at hP hD ⊢;split at hP
   .rename_i g'' t k es hg;obtain⟨rfl,hl,hP⟩:=hP;simp only[hg] at hD ⊢;obtain⟨ee,he,Bo,hn,AI,A8⟩:=LO hr h hg hl;obtain⟨hk,_,Ck,A3,h1,hb⟩:=A8;have hlen:((es.drop off).map (AH (fz n hp))).length=len:=vv2;unfold Ex at AI;cases Al:ee.blk with
    |none=>rw[Al] at AI hb;obtain⟨rfl,rfl,a,rfl⟩:=AI;subst hb;exact .nil _ _
    |some q=>
     obtain⟨b,bcap⟩:=q;rw[Al] at AI hb;obtain⟨cap,rfl,H5,F4⟩:=AI;obtain⟨hm,Ib,cs,hh,hs,hv⟩:=hb;obtain⟨hU,RJ⟩:=x.dr id ee b bcap (hD id mS) he Al;have DP:∀i (hi:i<((es.drop off).map (AH (fz n hp))).length),((es.drop off).map (AH (fz n hp)))[i]=AH (fz n hp) (es[off+i]' vz0):=by intro i hi;simp
     have Cq:∀i (hi:i<es.length),∀c∈es[i].cells,c.one=true:=by intro i hi c hc;obtain⟨j,hj,rfl⟩:=List.getElem_of_mem hc;exact h1 i hi j hj
     have AJ:len=((es.drop off).map (AH (fz n hp))).length:=hlen.symm;conv=>arg 4;rw[AJ]
     refine .sl _ _ b _ cap k (fun j=>cs.getD (off*ee.k+j) undef) hU (hr.lt _ _ _ _ he Al) oM oM sM Ck ?_ ?_ ?_ ?_
     ·intro i hi;rw[DP i hi,NR (Cq _ _),List.length_map];exact A3 _ _
     ·intro j hj;rw[hlen] at hj;refine hh.cellD ?_;rw[hs,hk];calc off*k+j<off*k+len*k:=oM
       _=(off+len)*k:=by rw[Nat.add_mul]
       _<=bcap*k:=Nat.mul_le_mul_right _ oM
     ·intro i hi j hj;simp only[DP i hi] at hj ⊢;have IC:off+i<es.length:=by rw[hlen] at hi;omega
      simp only[NR (Cq _ IC),List.getElem_map];simp only[NR (Cq _ IC),List.length_map] at hj;exact It (hP _ (gM IC) _ (gM hj))
     intro i hi j hj;simp only[DP i hi] at hj ⊢;have IC:off+i<es.length:=by rw[hlen] at hi;omega
     simp only[NR (Cq _ IC),List.getElem_map];simp only[NR (Cq _ IC),List.length_map] at hj;have CI:=hv (off+i) IC j hj;have Kz:=hP _ (gM IC) _ (gM hj);have Kw:∀k∈fzR n hp es[off+i].cells[j],D k:=fun k hk=>hD k (mC _ (List.mem_flatMap.2 ⟨_,gM IC,List.mem_flatMap.2 ⟨_,gM hj,hk⟩⟩));have e1:off*ee.k+(i*k+j)=(off+i)*k+j:=by rw[hk,Nat.add_mul];omega
     simp only[e1];generalize es[off+i].cells[j]=c at CI Kz Kw;generalize cs.getD ((off+i)*k+j) undef=u at CI;cases CI with
     |val _ _ FO=>exact H2 hr x n FO Kz Kw|kid0 t' k' a h0=>cases n<;>exact .nil _ _
     |kid t' k' xs b' CZ AO q1 q2 q3 q4 q5 q6 q7 q8 q9=>
      have I8:fz n hp (.kid t' k' xs)= .sl xs false:=vk3;rw[I8];refine .sl _ _ b' 0 CZ k' (fun j=>AO.getD j undef) (RJ b' _ q1) (hr.kl _ _ _ q1).1 q5 q6 sM q4 q7 ?_ q8 ?_
      ·intro j hj;rw[Nat.zero_add];refine q2.cellD ?_;rw[q3];exact tL hj (Nat.mul_le_mul_right _ q5)
      intro i hi j hj;exact(q9 i hi j hj).mono (lR _) (fun b _ hb=>x.un b hb) (fun _ _ _=>rfl)
   exact hP.elim
  |p id g' m i off=>
   simp only[fz,fzP,fzR] at hP hD ⊢;obtain⟨_,_,A2⟩:=h.ptO_inv;split at hP
   ·rename_i g'' cs hg;obtain⟨rfl,rfl,rfl,hP⟩:=hP;simp only[hg] at hD ⊢;obtain⟨ee,he,Bo,_,A8⟩:=hr.live id _ _ hg;obtain⟨hn,h1,b,c,vs,t,hb,hh,hs,hv⟩:=A8;obtain⟨_,A2⟩:=A2 ee he Bo;obtain rfl:=A2 hn b c hb;obtain⟨hU,_⟩:=x.dr id ee b c (hD id mS) he hb;refine .P _ b _ (fun j=>vs.getD (0*ee.k+off+j) undef) hU (hr.lt _ _ _ _ he hb) ?_ ?_ ?_
    ·intro j hj;refine cell_of_heap hh ?_;simp at hj;omega
    ·intro j hj;simp only[List.getElem_map,List.getElem_drop];exact It (hP _ (gM _))
    intro j hj;simp only[List.getElem_map,List.getElem_drop,Nat.zero_mul,Nat.zero_add];have Ah:off+j<cs.length:=vx8;exact H2 hr x n (hv _ Ah) (hP _ (gM _)) fun k hk=>hD k (mC _ (List.mem_flatMap.2 ⟨_,gM Ah,hk⟩))
   ·rename_i g'' t k es hg;obtain⟨rfl,rfl,hi,hP⟩:=hP;simp only[hg] at hD ⊢;rw[P6 hi] at hP hD ⊢;obtain⟨ee,he,Bo,_,A8⟩:=hr.live id _ _ hg;obtain⟨hk,hn,Ck,A3,h1,hb⟩:=A8;cases Al:ee.blk with
    |none=>rw[Al] at hb;subst hb;simp at hi|some q=>
     obtain⟨b,bcap⟩:=q;rw[Al] at hb;obtain⟨hm,Ib,cs,hh,hs,hv⟩:=hb;obtain⟨_,A2⟩:=A2 ee he Bo;obtain rfl:=A2 hn b bcap Al;obtain⟨hU,RJ⟩:=x.dr id ee b bcap (hD id mS) he Al;have Be:i*k+k<=cs.size:=by
      rw[hs];calc i*k+k=(i+1)*k:=by rw[Nat.succ_mul]
       _<=bcap*k:=Nat.mul_le_mul_right _ oM
     refine .P _ b _ (fun j=>cs.getD (i*ee.k+off+j) undef) hU (hr.lt _ _ _ _ he Al) ?_ ?_ ?_
     ·intro j hj;refine hh.cellD ?_;have:=A3 i hi;simp at hj;rw[hk];omega
     ·intro j hj;simp only[List.getElem_map,List.getElem_drop];exact It (hP _ (gM _))
     intro j hj;simp only[List.getElem_map,List.getElem_drop];have Ah:off+j<es[i].cells.length:=vx8;have CI:=hv i hi (off+j) Ah;have Kz:=hP _ (gM Ah);have Kw:∀k∈fzR n hp es[i].cells[off+j],D k:=fun k hk=>hD k (mC _ (List.mem_flatMap.2 ⟨_,gM Ah,hk⟩));have e1:i*ee.k+off+j=i*k+(off+j):=by rw[hk];omega
     simp only[e1];generalize es[i].cells[off+j]=c at CI Kz Kw;generalize cs.getD (i*k+(off+j)) undef=u at CI;cases CI with
     |val _ _ FO=>exact H2 hr x n FO Kz Kw|kid0 t' k' a h0=>cases n<;>exact .nil _ _
     |kid t' k' xs b' CZ AO q1 q2 q3 q4 q5 q6 q7 q8 q9=>
      have I8:fz n hp (.kid t' k' xs)= .sl xs false:=vk3;rw[I8];refine .sl _ _ b' 0 CZ k' (fun j=>AO.getD j undef) (RJ b' _ q1) (hr.kl _ _ _ q1).1 q5 q6 sM q4 q7 ?_ q8 ?_
      ·intro j hj;rw[Nat.zero_add];refine q2.cellD ?_;rw[q3];exact tL hj (Nat.mul_le_mul_right _ q5)
      intro i hi j hj;exact(q9 i hi j hj).mono (lR _) (fun b _ hb=>x.un b hb) (fun _ _ _=>rfl)
   exact hP.elim
  |fn f cs=>
   have key:∃vs:Array Value,u= .func (.func f) #[] vs/\cs.length=vs.size/\∀i (h:i<cs.length),VR w (UE e) e G cs[i] (vs.getD i undef):=by
    cases h with
    |dat _ _ h=>cases h with|fn _ _ vs h1 h2=>exact⟨vs,rfl,h1,fun i hi=> .dat _ _ (h2 i hi)⟩
    |fn _ _ vs h1 h2=>exact⟨vs,rfl,h1,h2⟩
   obtain⟨vs,rfl,q1,q2⟩:=key;refine .fn _ _ _ xx3 fun i hi=>?_;simp only[List.getElem_map];have Ar:i<cs.length:=vv5;exact H2 hr x n (q2 i Ar) (hP _ (gM Ar)) fun k hk=>hD k (List.mem_flatMap.2 ⟨_,gM Ar,hk⟩)
  |sl es full=>exact(h.sl_inv.mono (lR _) (fun b _ hb=>x.un b hb) (fun _ _ _=>rfl)).full|lit v=>obtain⟨rfl,h1⟩:=h.lit_inv;exact .lit _ h1
  |P cs=>exact h.ptI_inv.mono (lR _) (fun b _ hb=>x.un b hb) (fun _ _ _=>rfl)|gl g=>rw[h.gl_inv];exact .gl _|ifn=>cases h with|dat _ _ h=>cases h;exact .ifn _ _
  |anyI k=>cases h with|dat _ _ h=>cases h;exact .anyI _ _
  |kid t k es=>exact h.kid_no.elim|_=>exact hP.elim
theorem dL (hr:AU w e G hp) {e':An} {D:Nat->Prop} (x:Jt e e' D) {v:AV} {u:Value} (h:VR w (UE e) e G v u) (hP:WL hp v) (hD:∀i∈WM hp v,D i):VD w (UE e') (WK hp v) u:=by
 cases v with
 |agg cs=>
  obtain⟨vs,rfl,hl,q1,q2⟩:=h.agg_inv;refine .agg _ _ xx2 ?_ ?_
  .intro i hi;simp only[List.getElem_map];exact It (hP _ (gM _))
  intro i Ar;simp only[List.getElem_map];have Jb:i<cs.length:=xx4;exact H2 hr x 4 (q2 i Jb) (hP _ (gM Jb)) fun j hj=>hD j (List.mem_flatMap.2 ⟨_,gM Jb,hj⟩)
 |_=>exact H2 hr x 4 h (hP _ mS) fun j hj=>hD j (List.mem_flatMap.2 ⟨_,mS,hj⟩)
theorem rY (hr:AU w e G hp) {e':An} {D:Nat->Prop} (x:Jt e e' D) {v:AV} {u:Value} (h:VR w (UE e) e G v u) (hP:Nj hp v) (hD:∀i∈P3 hp v,D i):VD w (UE e') (Ni hp v) u:=by
 cases v with
 |tup cs=>obtain⟨vs,rfl,q1,q3⟩:=h.tup_inv;refine .tup _ _ xx3 fun i Ar=>?_;simp only[List.getElem_map];have Jb:i<cs.length:=xx4;exact dL hr x (q3 i Jb) (hP _ (gM Jb)) fun j hj=>hD j (List.mem_flatMap.2 ⟨_,gM Jb,hj⟩)
 |_=>exact dL hr x h hP hD
theorem Jt.drops (hr:AU w e G hp) (ids:List Nat):Jt e (edrop e ids) (·∈ids):=
 ⟨fun b hb=>⟨hb.1,fun ho=>hb.2 ho.edrop⟩,fun id _ _ _ hi he hb=>⟨UE.dropped hr he hb hi,fun _ _ hk=>UE.dropped_kid hr he hb hi hk⟩⟩
end
open Go
structure CX (w w':World):Prop where
 os:w'.os=w.os
 tape:w'.tape=w.tape
 output:w'.output=w.output
 size:w.heap.size<=w'.heap.size
 same:∀b,b<w.heap.size->w'.heap[b]?=w.heap[b]?
 drawn:w.drawn<=w'.drawn
theorem CX.refl (w:World):CX w w:=⟨rfl,rfl,rfl,lR _,fun _ _=>rfl,lR _⟩
theorem jk (w:World) (o:Obj) (b:Nat) (hb:b<w.heap.size):(w.heap.push o)[b]?=w.heap[b]?:=by rw[Array.getElem?_push,iN oM]
theorem CX.alloc (w:World) (o:Obj):CX w (w.alloc o):=
 ⟨rfl,rfl,rfl,by show _<=(w.heap.push o).size;simp,fun b hb=>jk w o b hb,lR _⟩
theorem CX.drew_alloc (w:World) (o:Obj):CX w (w.drew.alloc o):=
 ⟨rfl,rfl,rfl,by show _<=(w.heap.push o).size;simp,fun b hb=>jk w o b hb,Nat.le_succ _⟩
theorem Hz (w:World) (o:Obj):(w.alloc o).heap[w.heap.size]?=some o:=by show(w.heap.push o)[w.heap.size]?=some o;simp
theorem Hi (w:World) (o:Obj):(w.alloc o).heap.size=w.heap.size+1:=by show(w.heap.push o).size=_;simp
section
variable {C:Cx} {e:An} {G:Nat->Prop} {g:Nat} {hp:Hp} {w:World} {T:AE}
theorem HU.grow (h:HU C w) {w':World} (x:CX w w'):HU C w':=
 ⟨x.os.trans h.os,x.tape.trans h.tape,x.output.trans h.output,Nat.le_trans h.size x.size,
  fun b hb hl=>(x.same b (tL hb h.size)).trans (h.same b hb hl),Nat.le_trans h.drawn x.drawn⟩
theorem UZ (p:Bt C e G g hp w) {w':World} (x:CX w w') {did:Nat} {ee:EE} (hg:ee.g=g)
  (hblk:∀b c,ee.blk=some (b,c)->w.heap.size<=b/\b<w'.heap.size) {ob:Ob} (ho:AB w e G w' (Ed e did (some ee)) (gadd G g)->Gh w' (Ed e did (some ee)) (gadd G g) ob ee)
  {v:AV} {xv:Value} {P:Prop} (hv:VR w' (UE (Ed e did (some ee))) (Ed e did (some ee)) (gadd G g) v xv):
  Bb C e G g hp w (P,v,[(did,some (g,ob))]) (.ok (.value xv) w'):=by
 subst hg;have e1:Ed e did (some ee) did=some ee:=Hq _ _ _;have Ds:∀b1,b1<w.heap.size->BN (Ed e did (some ee)) b1->BN e b1:=by
  rintro b1 Aa ⟨j,ej,c1,q1,q2⟩;by_cases hj:j=did
  .subst hj;rw[e1] at q1;cases q1;have:=(hblk _ _ q2).1;omega
  rw[Ir _ _ hj] at q1;exact⟨j,ej,c1,q1,q2⟩
 have Ky:∀b1,b1<w.heap.size->AQ (Ed e did (some ee)) b1->AQ e b1:=by
  rintro b1 Aa (ho|⟨B,c1,Bi,ho⟩)
  .exact .inl (Ds _ Aa ho)
  exact .inr ⟨B,c1,Bi,Ds _ (p.hr.kl _ _ _ Bi).2.1 ho⟩
 have ext:AB w e G w' (Ed e did (some ee)) (gadd G ee.g):=by
  refine AB.mk' x.size (fun _ h=> .inl h) rfl Ky (fun b hb _=>x.same b hb) fun j ej hj hG=>?_;by_cases EB:j=did
  .subst EB;rw[e1] at hj;cases hj;exact absurd hG p.ng
  rw[Ir _ _ EB] at hj;exact⟨ej,hj,rfl,rfl, .inl ⟨rfl,rfl⟩⟩
 refine⟨_,w',_,rfl,?_,ext,p.ln.step p.fr.size ext rfl Ky,p.fr.grow x, .inl ⟨xv,rfl,hv⟩⟩;refine p.hr.step (fun j=>j=did) ext rfl (fun j hj=>⟨Ir _ _ hj,vx7⟩)
  (fun j ej b1 c1 _ Ca BG=>⟨x.same b1 (p.hr.lt _ _ _ _ Ca BG),fun b2 c2 Ch=>⟨x.same b2 (p.hr.kl _ _ _ Ch).1,Ch⟩⟩) (fun j hj IG=>?_) (fun j gj obj hj EV=>?_) (fun j ej b1 c1 hj Ca BG=>?_)
  (fun b1 B c1 Bi=>⟨tL (p.hr.kl _ _ _ Bi).1 x.size,tL (p.hr.kl _ _ _ Bi).2.1 x.size,(p.hr.kl _ _ _ Bi).2.2⟩) (fun b1 ho=>?_) p.hr.kk
 .subst hj;simp only[List.cons_append,List.nil_append] at IG;rw[Hp.get_cons_same] at IG;cases IG
 .subst hj;simp only[List.cons_append,List.nil_append] at EV;rw[Hp.get_cons_same] at EV;cases EV;exact⟨ee,e1,rfl, .inr rfl,ho ext⟩
 .subst hj;rw[e1] at Ca;cases Ca;obtain⟨q1,q2⟩:=hblk b1 c1 BG;refine⟨q2,iL p.ln p.fr q1,fun j' Mb c' Ah Gr=>?_⟩;by_cases h:j'=j
  .exact h
  rw[Ir _ _ h] at Ah;have:=p.hr.lt _ _ _ _ Ah Gr;omega
 cases hk:e.kid b1 with
 |none=>exact hk|some q=>have Aa:=(p.hr.kl _ q.1 q.2 hk).1;have:=p.hr.ko b1 (Ds b1 Aa ho);rw[hk] at this;cases this
theorem AB.new (p:Bt C e G g hp w) {w':World} (x:CX w w') {did:Nat} {ee:EE} (hg:ee.g=g) (hblk:∀b c,ee.blk=some (b,c)->w.heap.size<=b):
  AB w e G w' (Ed e did (some ee)) (gadd G g):=by
 have e1:Ed e did (some ee) did=some ee:=Hq _ _ _;have Ds:∀b1,b1<w.heap.size->BN (Ed e did (some ee)) b1->BN e b1:=by
  rintro b1 Aa ⟨j,ej,c1,q1,q2⟩;by_cases hj:j=did
  .subst hj;rw[e1] at q1;cases q1;have:=(hblk _ _ q2);omega
  rw[Ir _ _ hj] at q1;exact⟨j,ej,c1,q1,q2⟩
 refine AB.mk' x.size (fun _ h=> .inl h) rfl (fun b1 Aa ho=>?_) (fun b hb _=>x.same b hb) fun j ej hj hG=>?_
 .rcases ho with ho|⟨B,c1,Bi,ho⟩
  .exact .inl (Ds _ Aa ho)
  exact .inr ⟨B,c1,Bi,Ds _ (p.hr.kl _ _ _ Bi).2.1 ho⟩
 by_cases EB:j=did
 .subst EB;rw[e1] at hj;cases hj;rw[hg] at hG;exact absurd hG p.ng
 rw[Ir _ _ EB] at hj;exact⟨ej,hj,rfl,rfl, .inl ⟨rfl,rfl⟩⟩
theorem MH (p:Bt C e G g hp w) {w':World} (x:CX w w') {did:Nat} {ee:EE} (hg:ee.g=g)
  (hblk:∀b c,ee.blk=some (b,c)->w.heap.size<=b/\b<w'.heap.size) {ob:Ob} (ho:Gh w' (Ed e did (some ee)) (gadd G g) ob ee)
  {v:AV} {xv:Value} {P:Prop} (hv:VR w' (UE (Ed e did (some ee))) (Ed e did (some ee)) (gadd G g) v xv):
  Bb C e G g hp w (P,v,[(did,some (g,ob))]) (.ok (.value xv) w'):=UZ p x hg hblk (fun _=>ho) hv
theorem zR (p:Bt C e G g hp w) {did t k:Nat} (hk:k≠0):
  Bb C e G g hp w (k≠0, .l did g 0 0,[(did,some (g, .own t k []))]) (.ok (.value (.slice none 0 0)) w):=by
 refine MH p (CX.refl w) (ee:=⟨g,none,k,0⟩) rfl sM ?_ ?_
 .exact⟨rfl,rfl,oM,sM,sM,rfl⟩
 refine .l _ _ _ _ _ (.inr rfl) rfl fun ee he _=>?_;rw[Hq] at he;cases he;exact⟨lR _,fun _=>⟨rfl,rfl,none,rfl⟩⟩
theorem PR {v:AV} {x:Value} (hx:VR w (UE e) e G v x) (h1:∀c∈v.cells,c.one=true):
  x.cells.size=v.cells.length/\(∀i (h:i<v.cells.length),VR w (UE e) e G v.cells[i] (x.cells.getD i undef))/\∀u∈x.cells,u.oneCell'=true:=by
 cases v with
 |agg cs=>obtain⟨vs,rfl,hl,q1,q2⟩:=hx.agg_inv;refine⟨hl.symm,q2,fun u hu=>?_⟩;obtain⟨i,hi,rfl⟩:=Array.mem_iff_getElem.1 hu;have h1:=(q2 i (by rw[hl];exact hi)).oneCell (q1 i (by rw[hl];exact hi));have Ar:i<vs.size:=hi;rw[gA,Array.getElem?_eq_getElem Ar] at h1;exact h1
 |bad=>have:=h1 .bad vz6;cases this
 |tup cs=>have:=h1 (.tup cs) vz6;cases this
 |_=>
  have h2:=hx.oneCell rfl;have hc:x.cells=#[x]:=by cases x<;>first|rfl|cases h2
  rw[hc];refine⟨rfl,fun i hi=>?_,fun u hu=>by simp at hu;subst hu;exact h2⟩;have CH:i=0:=by simp[AV.cells] at hi;omega
  subst CH;simpa[AV.cells] using hx
theorem Oc {U:Nat->Prop} {v:AV} {x:Value} (hx:VD w U v x) (h1:∀c∈v.cells,c.one=true):
  x.cells.size=v.cells.length/\(∀i (h:i<v.cells.length),VD w U v.cells[i] (x.cells.getD i undef))/\∀u∈x.cells,u.oneCell'=true:=by
 cases hv:v with
 |agg cs=>
  subst hv;cases hx with
  |agg _ vs hl q1 q2=>refine⟨hl.symm,q2,fun u hu=>?_⟩;obtain⟨i,hi,rfl⟩:=Array.mem_iff_getElem.1 hu;have h1:=(q2 i (by rw[hl];exact hi)).oneCell (q1 i (by rw[hl];exact hi));have Ar:i<vs.size:=hi;rw[gA,Array.getElem?_eq_getElem Ar] at h1;exact h1
 |bad=>subst hv;have:=h1 .bad vz6;cases this
 |tup cs=>subst hv;have:=h1 (.tup cs) vz6;cases this
 |_=>
  have h2:=hx.oneCell (by rw[hv];rfl);have hc:x.cells=#[x]:=by cases x<;>first|rfl|cases h2
  rw[hc];refine⟨rfl,fun i hi=>?_,fun u hu=>by simp at hu;subst hu;exact h2⟩;have CH:i=0:=by simp[AV.cells] at hi;omega
  subst CH;rw[hv] at hx;simpa[AV.cells] using hx
theorem bo (p:Bt C e G g hp w) {did t:Nat} {v:AV} {x:Value} (hx:VR w (UE e) e G v x) (h1:∀c∈v.cells,c.one=true/\c.noKid=true) {P:Prop}:
  Bb C e G g hp w (P, .p did g 0 0 0,[(did,some (g, .box v.cells))]) (.ok (.value (.pointer (some ⟨w.heap.size,0,none⟩))) (w.alloc (.cells x.cells t))):=by
 obtain⟨hs,hv,_⟩:=PR hx fun c hc=>(h1 c hc).1;have ext:=AB.new p (CX.alloc w (.cells x.cells t)) (did:=did) (ee:=⟨g,some (w.heap.size,0),0,0⟩) rfl (by rintro b c ⟨⟩;exact lR _);refine MH p (CX.alloc w _) (ee:=⟨g,some (w.heap.size,0),0,0⟩) rfl vy1 ?_ ?_
 .refine⟨rfl,fun j hj=>(h1 _ (gM hj)).1,w.heap.size,0,x.cells,t,rfl,Hz w _,hs,fun j hj=>(hv j hj).ext ext⟩
 refine .p _ _ _ _ _ _ (.inr rfl) rfl fun ee he _=>?_;rw[Hq] at he;cases he;refine⟨lR _,fun _ b c hb=>?_⟩;cases hb
 simp
theorem N1 {P:Program} {t:Nat} {ti:TI} (hf:Di P t ti) (U:Nat->Prop):VD w U ti.zav ti.zval/\(∀c∈ti.zav.cells,c.one=true)/\ti.zav.cells.length=ti.size:=by
 have hz:∀z:ZC,VD w U z.av z.val/\z.av.one=true/\z.av.cells=[z.av]:=by intro z;cases z<;>first|exact⟨.lit _ rfl,rfl,rfl⟩|exact⟨.nil _ _,rfl,rfl⟩
 unfold TI.zav TI.zval;cases Fl:ti.agg with
 |true=>
  simp only[if_true];refine⟨.agg _ _ sM ?_ ?_,?_,?_⟩
  .intro i hi;simp only[List.getElem_map];exact(hz _).2.1
  .intro i hi;simp only[List.getElem_map];have Ar:i<ti.zs.length:=vv5;have:(ti.zs.map ZC.val).toArray.getD i undef=(ti.zs[i]).val:=by simp[gA,Ar]
   rw[this];exact(hz _).1
  .intro c hc;simp only[AV.cells,List.mem_map] at hc;obtain⟨z,_,rfl⟩:=hc;exact(hz z).2.1
  simp only[AV.cells,List.length_map];exact hf.len
 |false=>
  simp only[Bool.false_eq_true,if_false];have h1:=hf.one Fl;have hl:=hf.len
  match NO:ti.zs with
  |[z]=>
   refine⟨(hz z).1,?_,?_⟩
   .rw[(hz z).2.2];intro c hc;simp at hc;subst hc;exact(hz z).2.1
   rw[(hz z).2.2,h1];rfl
  |[]=>rw[NO,h1] at hl;cases hl
  |_::_::_=>rw[NO,h1] at hl;simp at hl
theorem Qhe (ti:TI):∀c∈ti.zav.cells,c.noKid=true:=by
 have hz:∀z:ZC,z.av.noKid=true/\z.av.cells=[z.av]:=by intro z;cases z<;>exact⟨rfl,rfl⟩
 unfold TI.zav;cases ti.agg with
 |true=>intro c hc;simp only[if_true,AV.cells,List.mem_map] at hc;obtain⟨z,_,rfl⟩:=hc;exact(hz z).1
 |false=>
  simp only[Bool.false_eq_true,if_false];split
  .rw[(hz _).2];intro c hc;simp at hc;subst hc;exact(hz _).1
  intro c hc;simp[AV.cells] at hc;subst hc;rfl
theorem jB {P:Program} {t:Nat} {ti:TI} (hf:Di P t ti) (w:World):
  (Instr.alloc t true (.tuple #[])).run P w= .ok (.pointer (some ⟨w.heap.size,0,none⟩)) (w.alloc (.cells ti.zval.cells t)):=by
 unfold Instr.alloc;rw[Sem.run_bind,Vb hf,Result.andThen_ok];simp[newVar,newRow]
theorem nq (p:Bt C e G g hp w) (hT:B4 C.P T) {did t:Nat} (h:(tl T t).size≠0) {P:Prop}:
  Bb C e G g hp w (P, .p did g 0 0 0,[(did,some (g, .box (tl T t).zav.cells))]) (((Instr.alloc t true (.tuple #[])).run C.P w).andThen fun v w=> .ok (.value v) w):=by
 have hf:=hT.fits h;obtain⟨h1,h2,_⟩:=N1 (w:=w) hf (UE e);rw[jB hf,Result.andThen_ok];exact bo p (.dat _ _ h1) fun c hc=>⟨h2 c hc,Qhe _ c hc⟩
theorem QeA {P:Program} (t:Nat) (v:Value) (w:World):
  (Instr.box t v).run P w= .ok (.pointer (some ⟨w.heap.size,0,none⟩)) (w.alloc (.cells v.cells t)):=by
 simp[Instr.box,newVar,newRow]
theorem se {z:Array Value} {n k:Nat} (hz:z.size=k) {i j:Nat} (hi:i<n) (hj:j<k):(madeCells z (n*k)).getD (i*k+j) undef=z.getD j undef:=by have Aa:=LH hi hj;have X0:=(Oe (i:=i) hj).2;simp only[madeCells,gA,Array.getElem?_map,Array.getElem?_range,Aa,if_true,Option.map_some,Option.getD_some,hz,X0];have:j<z.size:=oM;simp[this]
theorem zm (p:Bt C e G g hp w) (hT:B4 C.P T) {did t el:Nat} (ht:(tl T t).ty= .slice el) {kl kc:IntKind} {l c:Int}
  (h0:0<=l) (h1:l<=c) (GU:c*(tl T el).bytes<=140737488355328) (Fj:c<=9223372036854775807) (hs:(tl T el).size≠0) {P:Prop}:
  Bb C e G g hp w (P, .l did g 0 l.toNat,[(did,some (g, .own el (tl T el).size (List.replicate l.toNat (tl T el).zav)))])
   (((Instr.makeSlice t (.int kl l) (.int kc c)).run C.P w).andThen fun v w=> .ok (.value v) w):=by
 obtain⟨d,hu,hd⟩:=(hT.fit ht sM).under;rw[ht] at hd;cases hd
 have hf:=hT.fits hs;obtain⟨i,hi,Be,JJ,hz⟩:=hf.info;obtain⟨v1,v2,v3⟩:=N1 (w:=w) hf (UE e);obtain⟨c1,_,_⟩:=Oc v1 v2;have D2:(tl T el).zval.cells.size=(tl T el).size:=by rw[c1,v3]
 rw[run_make (P:=C.P) w t el i _ hu hi hz kl kc l c h0 h1 (by rw[JJ,Int.mul_comm];omega) Fj,Result.andThen_ok,Be];have ext:=AB.new p (CX.alloc w (.cells (madeCells (tl T el).zval.cells (c.toNat*(tl T el).size)) el)) (did:=did)
  (ee:=⟨g,some (w.heap.size,c.toNat),(tl T el).size,l.toNat⟩) rfl (by rintro b c ⟨⟩;exact lR _)
 refine MH p (CX.alloc w _) (ee:=⟨g,some (w.heap.size,c.toNat),(tl T el).size,l.toNat⟩) rfl vy1 ?_ ?_
 .refine⟨rfl,sM,oM,?_,?_,?_⟩
  .intro i hi;simp only[List.getElem_replicate];exact v3
  .intro i hi j hj;simp only[List.getElem_replicate] at hj ⊢;exact v2 _ (gM _)
  refine⟨?_,vv2,_, .of (Hz w _),size_madeCells _ _,?_⟩
  .simp only[maxLen];omega
  intro i hi j hj;simp only[List.getElem_replicate] at hj ⊢;have Ar:i<c.toNat:=vz0;rw[se D2 Ar (by rw[<-v3];exact hj)];have hd:VD w (UE e) (tl T el).zav.cells[j] ((tl T el).zval.cells.getD j undef):=(Oc v1 v2).2.1 j hj;exact .val _ _ (.dat _ _ (hd.mono ext.size ext.un ext.same))
 refine .l _ _ _ _ _ (.inr rfl) rfl fun ee he _=>?_;rw[Hq] at he;cases he;refine⟨sM,fun _=>⟨c.toNat,sM,sM,oM⟩⟩
end
open Go
theorem AU.congr {w:World} {e:An} {G G':Nat->Prop} {hp hp':Hp} (h:AU w e G hp) (hg:∀g,G g↔G' g) (hh:∀i,hp'.get i=hp.get i):AU w e G' hp':=by have:G=G':=funext fun g=>propext (hg g);subst this;exact⟨fun i hi=>h.dead i ((hh i).symm.trans hi),fun i g ob hi=>h.live i g ob ((hh i).symm.trans hi),h.inj,h.lt,h.nz,h.kl,h.ko,h.kk⟩
section
variable {C:Cx} {e:An} {G:Nat->Prop} {g:Nat} {hp:Hp} {w:World} {T:AE}
theorem rO (hr:AU w e G hp) {e':An} {D:Nat->Prop} (x:Jt e e' D) (n:Nat) {B c:Nat} {v:AV} {u:Value} (h:VC w e G B c v u) (hP:fzP n hp v) (hD:∀i∈fzR n hp v,D i)
  (RJ:∀b',e.kid b'=some (B,c)->UE e' b'):VD w (UE e') (fz n hp v) u:=by
 cases h with
 |val _ _ FO=>exact H2 hr x n FO hP hD|kid0 t' k' a h0=>cases n<;>exact .nil _ _
 |kid t' k' xs b' CZ AO q1 q2 q3 q4 q5 q6 q7 q8 q9=>
  have I8:fz n hp (.kid t' k' xs)= .sl xs false:=vk3;rw[I8];refine .sl _ _ b' 0 CZ k' (fun j=>AO.getD j undef) (RJ b' q1) (hr.kl _ _ _ q1).1 q5 q6 sM q4 q7 ?_ q8 ?_
  .intro j hj;rw[Nat.zero_add];refine q2.cellD ?_;rw[q3];exact tL hj (Nat.mul_le_mul_right _ q5)
  intro i hi j hj;exact(q9 i hi j hj).mono (lR _) (fun b _ hb=>x.un b hb) (fun _ _ _=>rfl)
theorem nO {c:AV} (h:attP hp c):(att hp c).one=true:=by
 cases c with
 |l id g off len=>
  have hh:=It (n:=1) (hp:=hp) (c:= .l id g off len) h;simp only[attP,fzP] at h;cases hg:hp.get id with
  |none=>simp only[hg] at h|some q=>
   obtain⟨g',ob⟩:=q;cases ob with
   |box cs=>simp only[hg] at h|mp _=>simp only[hg] at h|ms _=>simp only[hg] at h|bd _ _ _=>simp only[hg] at h|own t k es=>
    simp only[att,hg];split
    .rfl
    exact hh
 |bad=>exact h.elim|agg=>exact h.elim|tup=>exact h.elim|kid=>exact h.elim|_=>rfl
theorem nM (c:AV):(att hp c).cells=[att hp c]\/c.one=false:=by
 cases c with
 |agg cs=>exact .inr rfl|bad=>exact .inr rfl|tup cs=>exact .inr rfl|l id g off len=>
  refine .inl ?_;simp only[att];split
  .split
   .rfl
   rcases WJ 1 hp (.l id g off len) with h|h
   .exact h
   cases h
  rfl
 |_=>exact .inl rfl
theorem UY {el:AV} (hc:∀c∈el.cells,c.one=true):(AH (att hp) el).cells=el.cells.map (att hp):=iw nM hc
theorem aU {c:AV} (h:attP hp c):c.one=true:=by cases c<;>first|rfl|exact h.elim
theorem V2 {hp':Hp} {c:AV} (h:∀i∈Dj c,hp'.get i=hp.get i):att hp' c=att hp c/\(attP hp' c↔attP hp c):=by
 cases c with
 |l id g off len=>
  have h1:=h id (by simp[Dj]);refine⟨?_,?_⟩
  .simp only[att,h1];split
   .split
    .have:∀e:AV,AH (fz 0 hp') e=AH (fz 0 hp) e:=by
      intro e;have hf:∀c,fz 0 hp' c=fz 0 hp c:=vk7;cases e<;>simp only[AH,hf]
      congr 1
      exact List.map_congr_left fun c _=>hf c
     congr 1
     exact List.map_congr_left fun c _=>this c
    simp only[fz,h1];split
    .congr 1
     refine List.map_congr_left fun e _=>?_;have hf:∀c,fz 0 hp' c=fz 0 hp c:=vk7;cases e<;>simp only[AH,hf]
     congr 1
     exact List.map_congr_left fun c _=>hf c
    rfl
   rfl
  have hf:∀c,fzP 0 hp' c=fzP 0 hp c:=vk7;simp only[attP,fzP,h1,hf]
 |_=>exact⟨rfl,Iff.rfl⟩
theorem V3 (hr:AU w e G hp) {id gi t k:Nat} {es es':List AV} {D:List Nat} (A:Nat->Nat->Prop) (hg:hp.get id=some (gi, .own t k es)) (hid:id∉D) (hlen:es'.length=es.length)
  (XP:∀i (h:i<es'.length),es'[i].cells.length=k)
  (hc:∀i (h:i<es.length) (h':i<es'.length) j (hj:j<es[i].cells.length) (Ah:j<es'[i].cells.length),(es'[i].cells[j]=es[i].cells[j])\/
   (A i j/\∃Br,Br∈D/\Dj es[i].cells[j]=[Br]/\attP hp es[i].cells[j]/\es'[i].cells[j]=att hp es[i].cells[j]))
  (hD:∀Br∈D,∃i j,∃(h:i<es.length) (h':i<es'.length) (hj:j<es[i].cells.length) (Ah:j<es'[i].cells.length),Dj es[i].cells[j]=[Br])
  (gu:∀Br∈D,∀i j i' j' (h:i<es.length) (hj:j<es[i].cells.length) (h':i'<es.length) (Ah:j'<es[i'].cells.length),A i j->A i' j'->Dj es[i].cells[j]=[Br]->Dj es[i'].cells[j']=[Br]->i=i'/\j=j'):
  ∃e',AU w e' G ((id,some (gi, .own t k es'))::drops D++hp)/\AB w e G w e' G/\e'.z=e.z/\(∀b,AQ e' b->AQ e b)/\(∀b,UE e b->UE e' b)/\(∀j,j∉D->e' j=e j):=by
 classical
 obtain⟨ee,he,Bo,W2,A8⟩:=hr.live id _ _ hg;obtain⟨hk,hn,Ck,A3,h1,KB⟩:=A8;cases Al:ee.blk with
 |none=>
  rw[Al] at KB;subst KB;have sZ:D=[]:=by
   cases D with
   |nil=>rfl|cons d D=>obtain⟨i,_,h,_⟩:=hD d mS;simp at h
  subst sZ;have Iy:es'=[]:=List.eq_nil_of_length_eq_zero (by simpa using hlen);subst Iy;refine⟨e,hr.congr (fun _=>Iff.rfl) fun i=>?_,AB.refl _ _ _,rfl,fun _ h=>h,fun _ h=>h,fun _ _=>rfl⟩;simp only[drops,List.map_nil,List.cons_append,List.nil_append];by_cases h:i=id
  .subst h;rw[Hp.get_cons_same,hg]
  rw[Hp.get_cons_other _ _ h]
 |some q=>
  obtain⟨B,bcap⟩:=q;rw[Al] at KB;obtain⟨hm,Gs,cs,hh,hs,hv⟩:=KB;let AtC:Nat->Nat->Prop:=fun b c=>∃Br,Br∈D/\∃Au cap,e Br=some Au/\Au.blk=some (b,cap)/\∃i j,∃(h:i<es.length) (hj:j<es[i].cells.length),A i j/\c=i*k+j/\∃g' len,es[i].cells[j]= .l Br g' 0 len
  let kd:Nat->Option (Nat×Nat):=fun b=>if h:∃c,AtC b c then some (B,Classical.choose h) else match e.kid b with
   |some (B',c')=>if BN (edrop e D) B' then some (B',c') else none|none=>none
  have atu:∀b c c',AtC b c->AtC b c'->c=c':=by rintro b c c' ⟨d,hd,ed,cap,h1,h2,i,j,hi,hj,hA,rfl,g1,l1,Gx⟩ ⟨d',Nt,Rk,CZ,ET,GR,i',j',Ar,Ah,Np,rfl,g2,l2,Fp⟩;have:=hr.inj d d' ed Rk b cap CZ h1 ET h2 GR;subst this;obtain⟨rfl,rfl⟩:=gu d hd i j i' j' hi hj Ar Ah hA Np (by rw[Gx];rfl) (by rw[Fp];rfl);rfl
  have kd1:∀b c,AtC b c->kd b=some (B,c):=by intro b c h;have hex:∃c,AtC b c:=⟨c,h⟩;simp only[kd];rw[dif_pos hex,atu b _ c (Classical.choose_spec hex) h]
  have kdobj:∀b c,AtC b c->BN e b:=by rintro b c ⟨d,_,ed,cap,h1,h2,_⟩;exact⟨d,ed,cap,h1,h2⟩
  have kd2:∀b B' c',e.kid b=some (B',c')->BN (edrop e D) B'->kd b=some (B',c'):=by
   intro b B' c' h ho;have hn:¬∃c,AtC b c:=by rintro⟨c,hc⟩;have:=hr.ko b (kdobj b c hc);rw[h] at this;cases this
   simp only[kd];rw[dif_neg hn,h];simp only[iP ho]
  have kd3:∀b B' c',kd b=some (B',c')->(AtC b c'/\B'=B)\/(e.kid b=some (B',c')/\BN (edrop e D) B'):=by
   intro b B' c' h;simp only[kd] at h;split at h
   .rename_i hex;simp only[Option.some.injEq,Prod.mk.injEq] at h;obtain⟨rfl,rfl⟩:=h;exact .inl ⟨Classical.choose_spec hex,rfl⟩
   split at h
   .rename_i B'' c'' CV;split at h
    .rename_i ho;cases h
     exact .inr ⟨CV,ho⟩
    cases h
   cases h
  generalize GY:kd=UR at kd1 kd2 kd3;clear GY kd;have eo:BN (edrop e D) B:=⟨id,ee,bcap,by rw[Rl hid];exact he,Al⟩;let e':An:=⟨fun j=>if j∈D then none else e j,e.z,UR⟩
  have ed:∀j,e' j=edrop e D j:=fun j=>rfl;have Ds:∀b,BN e' b↔BN (edrop e D) b:=fun b=>Iff.rfl;have own_of:∀b,AQ e' b->AQ e b:=by
   rintro b (ho|⟨B',c',CV,ho⟩)
   .exact .inl ((Ds b).1 ho).edrop
   rcases kd3 _ _ _ CV with ⟨h,_⟩|⟨h,h'⟩
   .exact .inl (kdobj _ _ h)
   exact .inr ⟨B',c',h,h'.edrop⟩
  have J0:∀b,UE e b->UE e' b:=fun b hb=>⟨hb.1,fun ho=>hb.2 (own_of b ho)⟩;have ext:AB w e G w e' G:=AB.mk' (lR _) (fun _ h=>h) rfl (fun b _ ho=>own_of b ho) (fun _ _ _=>rfl) fun j ej hj _=>⟨ej,(Lb hj).2,rfl,rfl, .inl ⟨rfl,rfl⟩⟩;have XQ:∀b,BN e' b->e'.kid b=none:=by
   intro b ho;cases CV:e'.kid b with
   |none=>rfl|some q=>
    obtain⟨B',c'⟩:=q;obtain⟨j,ej,cj,hj,BG⟩:=ho;obtain⟨Qk,hj⟩:=Lb hj;rcases kd3 _ _ _ CV with ⟨⟨d,hd,Rk,cap,h1,h2,_⟩,_⟩|⟨h,_⟩
    .have:=hr.inj j d ej Rk b cj cap hj h1 BG h2;subst this;exact absurd hd Qk
    have:=hr.ko b ⟨j,ej,cj,hj,BG⟩;rw[h] at this;cases this
  have DP:∀i,Hp.get ((id,some (gi, .own t k es'))::drops D++hp) i=if i=id then some (gi, .own t k es') else if i∈D then none else hp.get i:=by
   intro i;by_cases h:i=id
   .subst h;rw[List.cons_append,Hp.get_cons_same,iP rfl]
   rw[List.cons_append,Hp.get_cons_other _ _ h,iN h];exact Nl D hp i
  refine⟨e',?_,ext,rfl,own_of,J0,fun j hj=>by show(if j∈D then none else e j)=_;rw[iN hj]⟩;refine hr.step (fun j=>j=id\/j∈D) ext rfl (fun j hj=>?_) (fun j ej b1 c1 hj Ca BG=>⟨rfl,fun b2 c2 Ch=>⟨rfl,?_⟩⟩) (fun j hj Ei=>?_) (fun j gj obj hj EV=>?_) (fun j ej b1 c1 hj Ca BG=>?_)
   (fun b1 B1 c1 Bi=>?_) XQ (fun b1 B1 c1 Bi=>?_)
  .simp only[not_or] at hj;refine⟨by rw[ed,Rl hj.2],?_⟩;rw[DP,iN hj.1,iN hj.2]
  .simp only[not_or] at hj;exact kd2 _ _ _ Ch ⟨j,ej,c1,by rw[Rl hj.2];exact Ca,BG⟩
  .rw[DP] at Ei;rcases hj with rfl|hj
   .rw[iP rfl] at Ei;cases Ei
   show(if j∈D then none else e j)=none;rw[iP hj]
  .rw[DP] at EV;by_cases AF:j=id
   .subst AF;rw[iP rfl] at EV;cases EV
    refine⟨ee,by rw[ed,Rl hid];exact he,Bo,W2,hk,oM,Ck,XP,?_,?_⟩
    .intro i hi j' Ah;have Ar:i<es.length:=oM;have Co:j'<es[i].cells.length:=by rw[A3 i Ar];rw[XP i hi] at Ah;exact Ah
     rcases hc i Ar hi j' Co Ah with h|⟨hA,Br,D1,E0,hP,h⟩
     .rw[h];exact h1 _ _ _ _
     rw[h];exact nO hP
    rw[Al];refine⟨hm,oM,cs,hh,hs,fun i hi j' Ah=>?_⟩;have Ar:i<es.length:=oM;have Co:j'<es[i].cells.length:=by rw[A3 i Ar];rw[XP i hi] at Ah;exact Ah
    have CI:=hv i Ar j' Co;rcases hc i Ar hi j' Co Ah with h|⟨hA,Br,D1,E0,hP,h⟩
    .rw[h];exact CI.ext ext fun b1 BP=>⟨rfl,kd2 _ _ _ BP eo⟩
    rw[h];generalize GV:es[i].cells[j']=cell at CI E0 hP;cases cell with
    |l id'' g'' off len=>
     simp only[Dj,List.cons.injEq,and_true] at E0;subst E0;simp only[attP,fzP] at hP;split at hP
     .rename_i g3 t3 k3 es3 KE;obtain⟨rfl,IE,hP⟩:=hP;have FO:=CI.noKid rfl;obtain⟨e3,OA,QhX,vW,Sk,wm⟩:=LO hr FO KE IE;simp only[att,KE];by_cases JS:off=0
      .subst JS;rw[iP rfl];obtain⟨fB,_,fA,vw,Ll,EI⟩:=wm;unfold Ex at Sk;cases T9:e3.blk with
       |none=>rw[T9] at Sk EI;obtain⟨_,rfl,a,G6⟩:=Sk;subst EI;rw[G6];exact .kid0 _ _ a fA
       |some q3=>
        obtain⟨b3,bcap3⟩:=q3;rw[T9] at Sk EI;obtain⟨cap3,G6,uc,Qh3⟩:=Sk;obtain⟨Sf,Qh2,cs3,uV,IJ,KO⟩:=EI;have X4:∀i (hi:i<es3.length),∀c∈es3[i].cells,c.one=true:=by intro i hi c hc;obtain⟨j,hj,rfl⟩:=List.getElem_of_mem hc;exact Ll i hi j hj
        rw[G6];have vG:(es3.map (AH (fz 0 hp))).length=len:=vv2;have AJ:len=(es3.map (AH (fz 0 hp))).length:=vG.symm;rw[Nat.zero_mul];conv=>arg 7;rw[AJ]
        refine .kid _ _ _ b3 cap3 cs3 (kd1 _ _ ⟨_,D1,e3,bcap3,OA,T9,i,j',Ar,Co,hA,rfl,_,_,GV⟩) uV (by rw[IJ,<-uc,Nat.zero_add]) fA oM oM ?_ ?_ ?_
        .intro a ha;have BV:a<es3.length:=vq3;simp only[List.getElem_map];rw[NR (X4 a BV),List.length_map];exact vw _ _
        .intro a ha c Hu;have BV:a<es3.length:=vq3;simp only[List.getElem_map,NR (X4 a BV)] at Hu ⊢;exact It (hP _ (gM BV) _ (gM _))
        intro a ha c Hu;have BV:a<es3.length:=vq3;simp only[List.getElem_map,NR (X4 a BV)] at Hu ⊢;have tW:c<es3[a].cells.length:=by simpa using Hu
        refine rO hr (D:=fun _=>False) ⟨J0,fun _ _ _ _ h=>h.elim⟩ 0 (KO a BV c tW) (hP _ (gM BV) _ (gM _)) (by
         intro i hi;generalize es3[a].cells[c]=y at hi;cases y<;>simp[fzR] at hi) fun b' CO=>?_
        refine⟨(hr.kl _ _ _ CO).2.2,?_⟩;rintro(ho|⟨B',c',CV,ho⟩)
        .have:=hr.ko b' (((Ds b').1 ho).edrop);rw[CO] at this;cases this
        rcases kd3 _ _ _ CV with ⟨h,_⟩|⟨h,h'⟩
        .have:=hr.ko b' (kdobj _ _ h);rw[CO] at this;cases this
        rw[CO] at h;cases h
        obtain⟨j,ej,cj,hj,BG⟩:=h';obtain⟨Qk,hj⟩:=Lb hj;have:=hr.inj j _ ej e3 b3 cj bcap3 hj OA BG T9;subst this;exact Qk D1
      rw[iN JS];refine .val _ _ (.dat _ _ (H2 hr (D:=fun j=>j=id'') ⟨J0,?_⟩ 1 FO (by simp only[fzP,KE];exact⟨trivial,IE,hP⟩) ?_))
      .rintro a ea ba ca rfl fe Qg;rw[OA] at fe;cases fe;have nokid:∀c,¬AtC ba c:=by rintro c ⟨d,hd,Rk,cap,h1,h2,i',j'',Jb,vi,Np,rfl,g4,l4,UB⟩;have:=hr.inj d _ Rk e3 ba cap ca h1 OA h2 Qg;subst this;obtain⟨rfl,rfl⟩:=gu d hd i' j'' i j' Jb vi Ar Co Np hA (by rw[UB];rfl) (by rw[GV];rfl);rw[GV] at UB;simp only[AV.l.injEq] at UB;exact JS UB.2.2.1
       have notobj:¬BN (edrop e D) ba:=by rintro⟨j,ej,cj,hj,BG⟩;obtain⟨Qk,hj⟩:=Lb hj;have:=hr.inj j _ ej e3 ba cj ca hj OA BG Qg;subst this;exact Qk D1
       refine⟨⟨hr.nz _ _ _ _ OA Qg,?_⟩,fun b' c' CO=>⟨(hr.kl _ _ _ CO).2.2,?_⟩⟩
       .rintro(ho|⟨B',c',CV,ho⟩)
        .exact notobj ho
        rcases kd3 _ _ _ CV with ⟨h,_⟩|⟨h,h'⟩
        .exact nokid _ h
        have:=hr.ko ba ⟨_,e3,ca,OA,Qg⟩;rw[h] at this;cases this
       rintro(ho|⟨B',c'',CV,ho⟩)
       .have:=hr.ko b' (((Ds b').1 ho).edrop);rw[CO] at this;cases this
       rcases kd3 _ _ _ CV with ⟨h,_⟩|⟨h,h'⟩
       .have:=hr.ko b' (kdobj _ _ h);rw[CO] at this;cases this
       rw[CO] at h;cases h
       exact notobj h'
      intro a ha;simp only[fzR,KE,List.mem_cons] at ha;rcases ha with rfl|ha
      .rfl
      simp only[List.mem_flatMap] at ha;obtain⟨y,hy,y',xy,ha⟩:=ha;have:=hP y hy y' xy;cases y'<;>simp[fzR] at ha
     exact hP.elim
    |_=>cases E0
   rw[iN AF] at EV;rcases hj with hj|hj
   .exact absurd hj AF
   rw[iP hj] at EV;cases EV
  .obtain⟨Qk,Ca⟩:=Lb Ca;refine⟨hr.lt _ _ _ _ Ca BG,hr.nz _ _ _ _ Ca BG,fun j' Mb c' Ah Gr=>?_⟩;obtain⟨_,Ah⟩:=Lb Ah;exact hr.inj _ _ _ _ _ _ _ Ah Ca Gr BG
  .rcases kd3 _ _ _ Bi with ⟨h,rfl⟩|⟨h,_⟩
   .exact⟨hr.obj_lt (kdobj _ _ h),hr.lt _ _ _ _ he Al,hr.obj_nz (kdobj _ _ h)⟩
   exact hr.kl _ _ _ h
  rcases kd3 _ _ _ Bi with ⟨h,rfl⟩|⟨_,h⟩
  .exact XQ B1 ((Ds B1).2 eo)
  exact XQ B1 ((Ds B1).2 h)
end
open Go
section
variable {C:Cx} {e:An} {G:Nat->Prop} {g:Nat} {hp:Hp} {w:World} {T:AE}
theorem Qhr {P:Program} {b off t:Nat} {fz:Nat×Nat}:∀(vs:List Value) (i:Nat) (cur:Array Value) (w:World),w.heap[b]?=some (.cells cur t fz)->NF fz cur.size/\(fz=(0,0)\/t=5)->off+i+vs.length<=cur.size->(∀v∈vs,v.oneCell'=true)->
  (storeCells ⟨b,off,none⟩ vs i).run P w= .ok () (w.setRow b (cur.toList.take (off+i)++vs++cur.toList.drop (off+i+vs.length)).toArray)
 |[],i,cur,w,hg,_,_,_=>by simp only[storeCells,List.append_nil,List.length_nil,Nat.add_zero,List.take_append_drop,Array.toArray_toList];rw[setRow_self w b cur t fz hg];rfl|v::Ae,i,cur,w,hg,hn,hl,h1=>by
  have hi:off+i<cur.size:=by simp at hl;omega
  have T1:(⟨b,off,none⟩:Addr).add i=⟨b,off+i,none⟩:=by unfold Addr.add;split<;>simp_all
  have Cy:Cl w b cur t:=⟨fz,hg,hn⟩;have AM:(store ((⟨b,off,none⟩:Addr).add i) v).run P w= .ok () (w.setRow b (cur.setIfInBounds (off+i) v)):=by rw[T1,run_store P w _ v _ (h1 v sM),Cy.cellD hi];simp[Cy.frozen hi,setCell_eq_setRow w b (off+i) cur t fz v hg]
  have ih:=Qhr (P:=P) (off:=off) Ae (i+1) (cur.setIfInBounds (off+i) v) (w.setRow b (cur.setIfInBounds (off+i) v)) (setRow_heap w b cur _ t _ hg) xx5 (by simp at hl ⊢;omega) (fun x hx=>h1 x (by simp[hx]));simp only[storeCells,Sem.run_bind,AM,Result.andThen_ok,ih,setRow_setRow];congr 3
  have e:=list_seg_step cur.toList (off+i) v Ae (by simp at hl ⊢;omega);simpa[Array.toList_setIfInBounds,Nat.add_assoc] using e
theorem jH {P:Program} {t:Nat} {ti:TI} (hf:Di P t ti) {b off:Nat} {cur:Array Value} {T':Nat} (hh:Cl w b cur T') {x:Value}
  (hs:x.cells.size=ti.size) (h1:∀u∈x.cells,u.oneCell'=true) (hl:off+ti.size<=cur.size):
  (Instr.storeAt t (.pointer (some ⟨b,off,none⟩)) x).run P w= .ok () (w.setRow b (cur.toList.take off++x.cells.toList++cur.toList.drop (off+ti.size)).toArray):=by
 unfold Instr.storeAt Instr.sureAddr storeVar;rw[Sem.run_bind,Sem.run_pure,Result.andThen_ok,Sem.run_bind,Fy hf,Result.andThen_ok];have Bj:¬(x.cells.size≠ti.size):=oM;rw[iN Bj];obtain⟨fz,hh,hn⟩:=hh;have:=Qhr (P:=P) (off:=off) x.cells.toList 0 cur w hh hn vv2 vy9;rw[this];simp[hs]
theorem Cl.setRow {w:World} {b t:Nat} {cs AO:Array Value} (h:Cl w b cs t) (hs:AO.size=cs.size):Cl (w.setRow b AO) b AO t:=by obtain⟨fz,hh,hn⟩:=h;exact⟨fz,setRow_heap w b cs AO t fz hh,by rw[hs];exact hn⟩
theorem TX {cur vs:List Value} {off j:Nat} (hl:off+vs.length<=cur.length):
  (cur.take off++vs++cur.drop (off+vs.length)).toArray.getD j undef=if off<=j/\j<off+vs.length then vs.getD (j - off) undef else cur.toArray.getD j undef:=by
 simp only[gA,List.getElem?_toArray,gE];by_cases h1:j<off
 .rw[iN oM,List.append_assoc,List.getElem?_append_left vv2,List.getElem?_take,iP h1]
 by_cases h2:j<off+vs.length
 .rw[iP ⟨oM,h2⟩,List.getElem?_append_left vv2,List.getElem?_append_right vv2];congr 2
  simp;omega
 rw[iN oM,List.getElem?_append_right vv2,List.getElem?_drop];congr 2
 simp;omega
theorem Kv {cs vs:List AV} {off j:Nat} (hl:off+vs.length<=cs.length) (hj:j<(DL cs off vs).length):
  (DL cs off vs)[j]=if h:off<=j/\j<off+vs.length then vs[j - off]'oM else cs[j]'(by unfold DL at hj;simp at hj;omega):=by
 unfold DL at hj ⊢;have Co:j<cs.length:=vx8;by_cases h1:j<off
 ·rw[dif_neg oM];simp only[List.append_assoc];rw[List.getElem_append_left vv2,List.getElem_take]
 by_cases h2:j<off+vs.length
 ·rw[dif_pos ⟨oM,h2⟩,List.getElem_append_left vv2,List.getElem_append_right vv2];congr 1
  simp;omega
 rw[dif_neg oM,List.getElem_append_right vv2,List.getElem_drop];congr 1
 simp;omega
theorem K2 {cs vs:List AV} {off:Nat} (hl:off+vs.length<=cs.length):(DL cs off vs).length=cs.length:=by unfold DL;simp;omega
theorem AB.write {id:Nat} {ee:EE} {b c:Nat} (he:e id=some ee) (hb:ee.blk=some (b,c)) (cs:Array Value):
  AB w e G (w.setRow b cs) e (gadd G g):=by
 refine AB.mk' sM (fun _ h=> .inl h) rfl (fun _ _ h=>h) (fun b' _ hu=>setRow_other w b b' cs ?_) fun _ Au h _=>⟨Au,h,rfl,rfl, .inl ⟨rfl,rfl⟩⟩;rintro rfl;exact hu (.inl ⟨id,ee,c,he,hb⟩)
theorem VB (p:Bt C e G g hp w) {id:Nat} {ee:EE} {b c:Nat} (he:e id=some ee) (hb:ee.blk=some (b,c)) (cs:Array Value) {ob:Ob}
  (ho:Gh (w.setRow b cs) e (gadd G g) ob ee) {P:Prop} {v:AV} {nx:Next} (Dn:(∃xv,nx= .value xv/\VR (w.setRow b cs) (UE e) e (gadd G g) v xv)\/(nx= .skip/\v= .bad)):
  AU (w.setRow b cs) e (gadd G g) ((id,some (ee.g,ob))::hp)/\Bb C e G g hp w (P,v,[(id,some (ee.g,ob))]) (.ok nx (w.setRow b cs)):=by
 have ext:=AB.write (w:=w) (g:=g) (G:=G) he hb cs;have Dl:BN e b:=⟨id,ee,c,he,hb⟩;have key:AU (w.setRow b cs) e (gadd G g) ((id,some (ee.g,ob))::hp):=by
  refine p.hr.step (fun j=>j=id) ext rfl (fun j hj=>⟨rfl,Hp.get_cons_other _ _ hj⟩) (fun j ej b1 c1 hj Ca BG=>⟨setRow_other w b b1 cs ?_,fun b2 c2 Ch=>⟨setRow_other w b b2 cs ?_,Ch⟩⟩)
   (fun j hj hn=>by subst hj;rw[Hp.get_cons_same] at hn;cases hn) (fun j gj obj hj hg=>by subst hj;rw[Hp.get_cons_same] at hg;cases hg;exact⟨ee,he,rfl, .inl (p.hr.gen _ _ he),ho⟩)
   (fun j ej b1 c1 hj Ca BG=>?_) (fun b1 B c1 Bi=>by simpa using p.hr.kl b1 B c1 Bi) p.hr.ko p.hr.kk
  .rintro rfl;exact hj (p.hr.inj j id ej ee b1 c1 c Ca he BG hb)
  .rintro rfl;have:=p.hr.ko b2 Dl;rw[Ch] at this;cases this
  subst hj;rw[he] at Ca;cases Ca;rw[hb] at BG;cases BG;exact⟨by simpa using p.hr.lt _ _ _ _ he hb,p.hr.nz _ _ _ _ he hb,fun j' Mb c' Ah Gr=>p.hr.inj _ _ _ _ _ _ _ Ah he Gr hb⟩
 refine⟨key,nx,_,e,rfl,key,ext,p.ln.step p.fr.size ext rfl (fun _ _ h=>h),p.fr.step p.ln rfl rfl rfl sM (fun b' _ hu=>setRow_other w b b' cs ?_),Dn⟩;rintro rfl;exact hu (.inl Dl)
theorem Qfc (p:Bt C e G g hp w) (hT:B4 C.P T) {t id g' off:Nat} {x xa:Value} {v:AV} {cs:List AV} (hx:VR w (UE e) e G v x) (ha:VR w (UE e) e G (.p id g' 0 0 off) xa)
  (hg:hp.get id=some (g', .box cs)) (HI:(tl T t).size≠0) (hs:v.cells.length=(tl T t).size) (h1:∀c∈v.cells,c.one=true) (hl:off+(tl T t).size<=cs.length) {P:Prop}:
  Bb C e G g hp w (P, .bad,[(id,some (g', .box (DL cs off v.cells)))]) (((Instr.storeAt t xa x).run C.P w).andThen fun _ w=> .ok .skip w):=by
 have hf:=hT.fits HI;obtain⟨ee,he,Bo,_,A8⟩:=p.hr.live id _ _ hg;obtain⟨hn,q1,b,c,vs,T',hb,hh,Be,hv⟩:=A8;obtain⟨_,_,A2⟩:=ha.ptO_inv;obtain⟨_,A2⟩:=A2 ee he Bo;obtain rfl:=A2 hn b c hb;obtain⟨c1,c2,c3⟩:=PR hx h1;have AL:=jH (w:=w) hf (.of hh) (c1.trans hs) c3 (off:=0*ee.k+off) oM;subst Bo;rw[AL,Result.andThen_ok];refine(VB p he hb _ ?_ (.inr ⟨rfl,rfl⟩)).2;have ext:=AB.write (w:=w) (g:=g) (G:=G) he hb (vs.toList.take (0*ee.k+off)++x.cells.toList++vs.toList.drop (0*ee.k+off+(tl T t).size)).toArray;have hle:off+v.cells.length<=cs.length:=oM;refine⟨hn,?_,b,c,_,T',hb,setRow_heap w b vs _ T' (0,0) hh,?_,?_⟩
 .intro j hj;rw[Kv hle hj];split
  .exact h1 _ (gM _)
  exact q1 _ _
 .rw[K2 hle];simp;omega
 intro j hj;refine VR.ext ext ?_;rw[Kv hle hj];have e1:(0*ee.k+off+(tl T t).size)=0*ee.k+off+x.cells.toList.length:=vv2;rw[e1,TX vv2];have e2:x.cells.toList.length=v.cells.length:=by simp[c1]
 simp only[Nat.zero_mul,Nat.zero_add,e2];split
 .have:=c2 (j - off) oM;rw[gA] at this;rw[gE];simpa using this
 have:=hv j (by rw[K2 hle] at hj;exact hj);simpa using this
theorem ZJ {k off:Nat} {el v:AV} (hk:el.cells.length=k) (hl:off+v.cells.length<=k):(Fz k el off v).cells=DL el.cells off v.cells:=by
 unfold Fz;split
 .rename_i h;obtain⟨rfl,h2⟩:=h;simp only[DL,List.take_zero,List.nil_append,Nat.zero_add];rw[List.drop_eq_nil_of_le oM,List.append_nil]
 rfl
theorem Qfd (p:Bt C e G g hp w) (hT:B4 C.P T) {t id g' i off T' k:Nat} {x xa:Value} {v:AV} {es:List AV} (hx:VR w (UE e) e G v x) (ha:VR w (UE e) e G (.p id g' es.length i off) xa)
  (hg:hp.get id=some (g', .own T' k es)) (hi:i<es.length) (HI:(tl T t).size≠0) (hs:v.cells.length=(tl T t).size) (Uw:off+(tl T t).size<=k) (h1:∀c∈v.cells,c.one=true) {P:Prop}:
  ∃w',((Instr.storeAt t xa x).run C.P w).andThen (fun _ w=> .ok .skip w)= .ok Next.skip w'/\AU w' e (gadd G g) ((id,some (g', .own T' k (es.set i (Fz k (es.getD i .bad) off v))))::hp)/\AB w e G w' e (gadd G g)/\Ew C w' e (gadd G g)/\HU C w':=by
 obtain⟨ee,he,Bo,W2,A8⟩:=p.hr.live id _ _ hg;obtain⟨CV,hn,Ck,A3,q1,hb⟩:=A8;have hf:=hT.fits (t:=t) HI;cases Al:ee.blk with
 |none=>rw[Al] at hb;subst hb;simp at hi|some q=>
  obtain⟨b,bcap⟩:=q;rw[Al] at hb;obtain⟨hm,Ib,cs,hh,Be,hv⟩:=hb;obtain⟨_,_,A2⟩:=ha.ptO_inv;obtain⟨_,A2⟩:=A2 ee he Bo;obtain rfl:=A2 hn b bcap Al;obtain⟨c1,c2,c3⟩:=PR hx h1;have XI:i*k+k<=cs.size:=by
   rw[Be];calc i*k+k=(i+1)*k:=by rw[Nat.succ_mul]
    _<=bcap*k:=Nat.mul_le_mul_right _ oM
  have FJ:i*ee.k+off+(tl T t).size<=cs.size:=by rw[CV];omega
  have AL:=jH (w:=w) hf hh (by rw[c1];exact hs) c3 FJ;rw[AL,Result.andThen_ok];subst Bo;rw[P6 hi];have Ig:(Fz k es[i] off v).cells=DL es[i].cells off v.cells:=ZJ (A3 i hi) oM;have hle:off+v.cells.length<=es[i].cells.length:=by rw[A3 i hi];omega
  have xp:=VB (P:=P) (v:= .bad) p he Al (cs.toList.take (i*ee.k+off)++x.cells.toList++cs.toList.drop (i*ee.k+off+(tl T t).size)).toArray (ob:= .own T' k (es.set i (Fz k es[i] off v))) ?_ (.inr ⟨rfl,rfl⟩)
  .obtain⟨h1,nx,w',e',r1,r2,r3,r4,r5,r6⟩:=xp;have ext:=AB.write (w:=w) (g:=g) (G:=G) he Al (cs.toList.take (i*ee.k+off)++x.cells.toList++cs.toList.drop (i*ee.k+off+(tl T t).size)).toArray;refine⟨_,rfl,h1,ext,?_,?_⟩
   .exact p.ln.step p.fr.size ext rfl (fun _ _ h=>h)
   cases r1;exact r5
  have ext:=AB.write (w:=w) (g:=g) (G:=G) he Al (cs.toList.take (i*ee.k+off)++x.cells.toList++cs.toList.drop (i*ee.k+off+(tl T t).size)).toArray;have elem:∀j (hj:j<(es.set i (Fz k es[i] off v)).length),(es.set i (Fz k es[i] off v))[j]=if i=j then Fz k es[i] off v else es[j]' vx2:=fun j hj=>by rw[List.getElem_set]
  refine⟨CV,by simp[hn],Ck,?_,?_,?_⟩
  ·intro j hj;rw[elem j hj];split
   ·rw[Ig,K2 hle];exact A3 i hi
   exact A3 _ _
  ·intro j hj l hl;simp only[elem j hj] at hl ⊢;by_cases Da:i=j
   ·simp only[Da,if_true] at hl ⊢;subst Da;simp only[Ig] at hl ⊢;rw[Kv hle hl];split
    ·exact h1 _ (gM _)
    exact q1 _ _ _ _
   simp only[Da,if_false] at hl ⊢;exact q1 _ _ _ _
  rw[Al];refine⟨hm,by simpa using Ib,_,hh.setRow ?_,?_,?_⟩
  ·have G7:x.cells.size=(tl T t).size:=by rw[c1];exact hs
   simp[G7];omega
  ·have G7:x.cells.size=(tl T t).size:=by rw[c1];exact hs
   simp[G7];omega
  intro j hj l hl;have e1:(i*ee.k+off+(tl T t).size)=i*ee.k+off+x.cells.toList.length:=by simp[c1,hs]
  have e2:x.cells.toList.length=v.cells.length:=by simp[c1]
  have e5:i*ee.k+off+x.cells.toList.length<=cs.toList.length:=by rw[<-e1];simpa using FJ
  have val:∀j l,l<k->(cs.toList.take (i*ee.k+off)++x.cells.toList++cs.toList.drop (i*ee.k+off+(tl T t).size)).toArray.getD (j*k+l) undef=
    if j=i/\off<=l/\l<off+v.cells.length then x.cells.getD (l - off) undef else cs.getD (j*k+l) undef:=by
   intro j l Fm;rw[e1,TX e5,e2,CV];by_cases AF:j=i
   ·subst AF;by_cases hr:off<=l/\l<off+v.cells.length
    ·rw[iP ⟨oM,oM⟩,iP ⟨rfl,hr⟩];have e3:j*k+l - (j*k+off)=l - off:=oM;rw[e3];simp[gE,gA]
    rw[iN oM,iN (by rintro⟨_,h⟩;exact hr h)]
   rw[iN ?_,iN (by rintro⟨h,_⟩;exact AF h)];intro⟨h1,h2⟩;apply AF
   have d1:=(Oe (i:=j) Fm).1;have:(j*k+l) / k=i:=by apply Nat.div_eq_of_lt_le<;>(try rw[Nat.succ_mul])<;>omega
   omega
  have Ah:j<es.length:=vx2;have old:∀(JP:l<es[j].cells.length),VC (w.setRow b (cs.toList.take (i*ee.k+off)++x.cells.toList++cs.toList.drop (i*ee.k+off+(tl T t).size)).toArray) e (gadd G g) b (j*k+l) es[j].cells[l] (cs.getD (j*k+l) undef):=by intro JP;refine(hv j Ah l JP).ext ext fun b1 BP=>⟨setRow_other w b b1 _ ?_,BP⟩;rintro rfl;have:=p.hr.ko b1 ⟨id,ee,bcap,he,Al⟩;rw[BP] at this;cases this
  simp only[elem j hj] at hl ⊢;by_cases Da:i=j
  ·subst Da;simp only[if_true] at hl ⊢;simp only[Ig] at hl ⊢;have Fm:l<k:=by rw[K2 hle,A3 i hi] at hl;exact hl
   rw[val i l Fm,Kv hle hl];by_cases hr:off<=l/\l<off+v.cells.length
   ·rw[iP ⟨rfl,hr⟩,dif_pos hr];exact .val _ _ ((c2 (l - off) oM).ext ext)
   rw[iN (by rintro⟨_,h⟩;exact hr h),dif_neg hr];exact old _
  simp only[Da,if_false] at hl ⊢;have Fm:l<k:=by have:=A3 j Ah;omega
  have HJ:=(val j l Fm).trans (iN (by rintro⟨h,_⟩;exact Da h.symm));rw[HJ];exact old hl
theorem Tu (c:AV):Dj c=[]/\(∀hp,att hp c=c)\/∃id,Dj c=[id]:=by
 cases c with
 |l id g off len=>exact .inr ⟨id,rfl⟩|_=>exact .inl ⟨rfl,fun _=>rfl⟩
theorem V1:∀{cs:List AV},(cs.flatMap Dj).Nodup->∀{i j:Nat} (hi:i<cs.length) (hj:j<cs.length) {id:Nat},Dj cs[i]=[id]->Dj cs[j]=[id]->i=j
 |[],_,i,_,hi,_,_,_,_=>vy6|c::cs,h,i,j,hi,hj,id,h1,h2=>by
  rw[List.flatMap_cons,List.nodup_append] at h;obtain⟨_,h4,h5⟩:=h
  match i,j with
  |0,0=>rfl|0,j+1=>simp only[List.getElem_cons_zero] at h1;simp only[List.getElem_cons_succ] at h2;exact absurd rfl (h5 id (by rw[h1];simp) id (List.mem_flatMap.2 ⟨_,gM vx2,by rw[h2];simp⟩))|i+1,0=>simp only[List.getElem_cons_zero] at h2;simp only[List.getElem_cons_succ] at h1;exact absurd rfl (h5 id (by rw[h2];simp) id (List.mem_flatMap.2 ⟨_,gM vv5,by rw[h1];simp⟩))|i+1,j+1=>simp only[List.getElem_cons_succ] at h1 h2;rw[V1 h4 vv5 vx2 h1 h2]
theorem Qa0 (p:Bt C e G g hp w) (hT:B4 C.P T) {t:Nat} {v av:AV} {x xa:Value} (hx:VR w (UE e) e G v x) (ha:VR w (UE e) e G av xa) (h:(NX (tl T t) hp v av).1):
  Bb C e G g hp w (NX (tl T t) hp v av) (((Instr.storeAt t xa x).run C.P w).andThen fun _ w=> .ok .skip w):=by
 cases av with
 |p id g' n i off=>
  simp only[NX] at h ⊢;cases hg:hp.get id with
  |none=>simp only[hg] at h;exact h.elim|some q=>
   obtain⟨g'',ob⟩:=q;cases ob with
   |mp _=>simp only[hg] at h;exact h.elim|ms _=>simp only[hg] at h;exact h.elim|bd _ _ _=>simp only[hg] at h;exact h.elim|box cs=>simp only[hg] at h ⊢;obtain⟨rfl,rfl,rfl,h0,h1,h2,h3⟩:=h;exact Qfc p hT hx ha hg h0 h1 (fun c hc=>(h2 c hc).1) h3
   |own T' k es=>
    simp only[hg] at h ⊢;obtain⟨rfl,rfl,hi,HI,hs,Uw,hP,Lv,hid⟩:=h;have Cq:∀c∈v.cells,c.one=true:=fun c hc=>aU (hP c hc);obtain⟨w',AL,BJ,ext1,ln1,fr1⟩:=Qfd (P:=True) p hT hx ha hg hi HI hs Uw Cq;rw[AL];obtain⟨_,_,_,_,A8⟩:=p.hr.live id _ _ hg;have A3:=A8.2.2.2.1;rw[P6 hi] at BJ ⊢;have hle:off+v.cells.length<=es[i].cells.length:=by rw[A3 i hi];omega
    have Ur:(AH (att hp) v).cells=v.cells.map (att hp):=UY Cq;have Ig:(Fz k es[i] off v).cells=DL es[i].cells off v.cells:=ZJ (A3 i hi) oM;have Un:off+(AH (att hp) v).cells.length<=es[i].cells.length:=by rw[Ur,List.length_map];exact hle
    have Yh:(Fz k es[i] off (AH (att hp) v)).cells=DL es[i].cells off (AH (att hp) v).cells:=ZJ (A3 i hi) (by rw[Ur,List.length_map];omega);have agree:∀c∈v.cells,att ((id,some (g'',Ob.own T' k (es.set i (Fz k es[i] off v))))::hp) c=att hp c/\(attP ((id,some (g'',Ob.own T' k (es.set i (Fz k es[i] off v))))::hp) c↔attP hp c):=by intro c hc;exact V2 fun a BV=>Hp.get_cons_other _ _ (fun h=>hid (List.mem_flatMap.2 ⟨c,hc,h ▸ BV⟩))
    have e1:(es.set i (Fz k es[i] off v))[i]' vv5=Fz k es[i] off v:=sM
    have e2:(es.set i (Fz k es[i] off (AH (att hp) v)))[i]' vv5=Fz k es[i] off (AH (att hp) v):=sM
    have e3:∀a (ha:a<es.length),a≠i->(es.set i (Fz k es[i] off v))[a]' vq3=es[a]/\(es.set i (Fz k es[i] off (AH (att hp) v)))[a]' vq3=es[a]:=by intro a ha Bj;exact⟨by rw[List.getElem_set,iN (Ne.symm Bj)],by rw[List.getElem_set,iN (Ne.symm Bj)]⟩
    have key:=V3 BJ (fun a b=>a=i/\off<=b/\b<off+v.cells.length) (es':=es.set i (Fz k es[i] off (AH (att hp) v))) (D:=v.cells.flatMap Dj) (Hp.get_cons_same _ _ _) hid sM;refine Exists.elim (key ?_ ?_ ?_ ?_) ?_
    ·intro a ha;have BV:a<es.length:=vq3;by_cases Qe:a=i
     ·subst Qe;rw[e2,Yh,K2 Un];exact A3 _ _
     rw[(e3 a BV Qe).2];exact A3 _ _
    ·intro a ha GT j hj Ah;have BV:a<es.length:=vq3;by_cases Qe:a=i
     ·subst Qe;simp only[e1,e2,Ig,Yh] at hj Ah ⊢;rw[Kv hle hj,Kv Un Ah];have OK:(AH (att hp) v).cells.length=v.cells.length:=by rw[Ur,List.length_map]
      by_cases hr:off<=j/\j<off+v.cells.length
      ·rw[dif_pos hr,dif_pos (by rw[OK];exact hr)];have GV:(AH (att hp) v).cells[j - off]'(by rw[OK];omega)=att hp (v.cells[j - off]'oM):=by simp only[Ur,List.getElem_map]
       rw[GV];have GZ:v.cells[j - off]'oM∈v.cells:=gM _
       rcases Tu (v.cells[j - off]'oM) with ⟨_,h2⟩|⟨Br,h2⟩
       ·exact .inl (h2 hp)
       exact .inr ⟨⟨trivial,hr⟩,Br,List.mem_flatMap.2 ⟨_,GZ,by rw[h2];simp⟩,h2,(agree _ GZ).2.2 (hP _ GZ),(agree _ GZ).1.symm⟩
      rw[dif_neg hr,dif_neg (by rw[OK];exact hr)];exact .inl rfl
     simp only[(e3 a BV Qe).1,(e3 a BV Qe).2];exact .inl trivial
    ·intro Br D1;obtain⟨c,hc,D1⟩:=List.mem_flatMap.1 D1;obtain⟨m,hm,rfl⟩:=List.getElem_of_mem hc;refine⟨i,off+m,vv5,vv5,?_⟩;simp only[e1,e2,Ig,Yh];refine⟨by rw[K2 hle];omega,by rw[K2 Un];omega,?_⟩;rw[Kv hle (by rw[K2 hle];omega),dif_pos ⟨oM,oM⟩];have:off+m - off=m:=oM;simp only[this];rcases Tu v.cells[m] with ⟨h1,_⟩|⟨id2,h1⟩
     ·rw[h1] at D1;cases D1
     rw[h1] at D1 ⊢;simp at D1;rw[D1]
    ·rintro Br D1 a j a' j' ha hj BV Ah ⟨rfl,BP,BX⟩ ⟨rfl,Xj,tN⟩ h1 h2;refine⟨rfl,?_⟩;simp only[e1,Ig] at hj Ah h1 h2;rw[Kv hle hj,dif_pos ⟨BP,BX⟩] at h1;rw[Kv hle Ah,dif_pos ⟨Xj,tN⟩] at h2;have:=V1 Lv _ _ h1 h2;omega
    rintro e' ⟨a1,a2,a3,a4,a5,a6⟩;refine⟨_,w',e',rfl,a1.congr (fun _=>Iff.rfl) fun j=>?_,ext1.trans a2,?_,fr1, .inr ⟨rfl,rfl⟩⟩
    ·simp only[List.cons_append];by_cases hj:j=id
     ·subst hj;rw[Hp.get_cons_same,Hp.get_cons_same]
     rw[Hp.get_cons_other _ _ hj,Hp.get_cons_other _ _ hj];unfold drops;rw[Nl,Nl,Hp.get_cons_other _ _ hj]
    exact⟨a3.trans ln1.zeq,ln1.zlt,ln1.ext.trans a2,fun b hb=>ln1.mine b (a4 b hb)⟩
 |_=>exact h.elim
end
open Go Go.Great
section
variable {C:Cx} {e:An} {G:Nat->Prop} {g:Nat} {hp:Hp} {w:World} {T:AE}
theorem Qhh {n:Nat} {ps:List (Nat×Operand)} (h:Jl n ps=true) (f:Operand->Value):
  ps.map (fun p=>(p.1,f p.2))=((ps.map fun p=>f p.2).zipIdx 0).map fun x=>(x.2,x.1):=by
 have h':ps.map (·.1)=List.range n:=by simpa[Jl] using h
 have hn:ps.length=n:=by have:=congrArg List.length h';simpa using this
 apply List.ext_getElem?
 intro i;by_cases hi:i<ps.length
 .have:ps[i].1=i:=by have:=congrArg (fun l=>l[i]?) h';simp only[List.getElem?_map,gG hi,Option.map_some,List.getElem?_range (show i<n by omega)] at this;simpa using this
  simp[hi,this]
 simp[hi]
theorem qQ {vs:List Value} {k:Nat} (hk:0<k) (hv:∀v∈vs,v.cells.size=k) {i j:Nat} (hi:i<vs.length) (hj:j<k):
  ((vs.flatMap fun v=>v.cells.toList).toArray).getD (i*k+j) undef=vs[i].cells.getD j undef:=by
 rw[gA,List.getElem?_toArray,flat_get hk vs hv,(Oe (i:=i) hj).1,(Oe (i:=i) hj).2,gG hi];simp[gA]
theorem qR {vs:List Value} {k:Nat} (hv:∀v∈vs,v.cells.size=k):(vs.flatMap fun v=>v.cells.toList).length=vs.length*k:=by
 induction vs with
 |nil=>simp|cons v vs ih=>have h1:=hv v mS;rw[List.flatMap_cons,aL,ih fun u hu=>hv u (mC _ hu),List.length_cons,Nat.succ_mul];simp[h1];omega
theorem oZ (p:Bt C e G g hp w) (hT:B4 C.P T) {did t n el:Nat} (ht:(tl T t).ty= .slice el) {ps:Array (Nat×Operand)} {ev:Operand->AV} {xv:Operand->Value}
  (Gz:∀q∈ps,VR w (UE e) e G (ev q.2) (xv q.2)) (h1:Jl n ps.toList=true) (h2:(tl T el).size≠0) (h3:n*(tl T el).size<=16777216)
  (h4:∀v∈ps.toList.map fun q=>ev q.2,v.cells.length=(tl T el).size/\∀c∈v.cells,c.one=true/\c.noKid=true) {P:Prop}:
  Bb C e G g hp w (P, .l did g 0 n,[(did,some (g, .own el (tl T el).size (ps.toList.map fun q=>ev q.2)))])
   (((Instr.buildSlice t n (ps.map fun q=>(q.1,xv q.2))).run C.P w).andThen fun v w=> .ok (.value v) w):=by
 obtain⟨d,hu,hd⟩:=(hT.fit ht sM).under;rw[ht] at hd;cases hd
 have hf:=hT.fits h2;obtain⟨ie,hi,Be,JJ,hz⟩:=hf.info;obtain⟨v1,v2,v3⟩:=N1 (w:=w) hf (UE e);have hn:ps.toList.length=n:=by
  have h':ps.toList.map (·.1)=List.range n:=by simpa[Jl] using h1
  have:=congrArg List.length h';simpa using this
 have Ud:∀q∈ps.toList,VR w (UE e) e G (ev q.2) (xv q.2)/\(∀c∈(ev q.2).cells,c.one=true)/\(ev q.2).cells.length=(tl T el).size:=by intro q hq;obtain⟨s1,s2⟩:=h4 _ (List.mem_map.2 ⟨q,hq,rfl⟩);exact⟨Gz q (by simpa using hq),fun c hc=>(s2 c hc).1,s1⟩
 have E3:∀v∈ps.toList.map fun q=>xv q.2,v.cells.size=(tl T el).size:=by intro v hv;obtain⟨q,hq,rfl⟩:=List.mem_map.1 hv;obtain⟨d1,d2,d3⟩:=Ud q hq;rw[(PR d1 d2).1,d3]
 have DG:0<(tl T el).size:=oM;have D2:(tl T el).zval.cells.size=(tl T el).size:=by rw[(Oc v1 v2).1,v3]
 have XU:(ps.toList.map fun q=>xv q.2).length=n:=xx5;have AL:∃cells:Array Value,(Instr.buildSlice t n (ps.map fun q=>(q.1,xv q.2))).run C.P w= .ok (.slice (some ⟨w.heap.size,0,none⟩) n n) (w.alloc (.cells cells el))/\
   cells=((ps.toList.map fun q=>xv q.2).flatMap fun v=>v.cells.toList).toArray:=by
  by_cases C2:n=0
  .subst C2;have Lw:ps.toList=[]:=List.eq_nil_of_length_eq_zero hn;have HH:ps=#[]:=by rw[<-Array.toList_eq_nil_iff];exact Lw
   subst HH;refine⟨#[],?_,sM⟩
   simp[Instr.buildSlice,run_underlying hu,Fy hf,Instr.fill,newRow,Array.range_zero']
  refine⟨_,?_,rfl⟩;refine run_buildSlice w t el n _ _ ie _ hu hi hz (by rw[Be];omega) (by rw[Be];exact Nat.mul_ne_zero C2 h2) ?_;rw[Be,Array.toList_map,Qhh h1];exact fill_whole DG _ _ E3 (by simp[XU])
 obtain⟨cells,AL,Xt⟩:=AL;rw[AL,Result.andThen_ok];have hlen:(ps.toList.map fun q=>ev q.2).length=n:=xx5;have Dt:cells.size=n*(tl T el).size:=by rw[Xt,List.size_toArray,qR E3,XU]
 refine UZ p (CX.alloc w _) (ee:=⟨g,some (w.heap.size,n),(tl T el).size,n⟩) rfl vy1 (fun ext=>?_) ?_
 ·refine⟨rfl,hlen.symm,DG,?_,?_,?_⟩
  ·intro i hi;simp only[List.getElem_map];exact(Ud _ (gM _)).2.2
  ·intro i hi j hj;simp only[List.getElem_map] at hj ⊢;exact(Ud _ (gM _)).2.1 _ (gM _)
  refine⟨?_,by rw[hlen];exact lR _,cells, .of (Hz w _),Dt,?_⟩
  ·simp only[maxLen];have:n<=n*(tl T el).size:=Nat.le_mul_of_pos_right n DG;omega
  intro i hi j hj;have Ar:i<ps.toList.length:=vv5;simp only[List.getElem_map] at hj ⊢;obtain⟨d1,d2,d3⟩:=Ud _ (gM Ar);have Ah:j<(tl T el).size:=by rw[<-d3];exact hj
  have e2:cells.getD (i*(tl T el).size+j) undef=(xv (ps.toList[i]).2).cells.getD j undef:=by rw[Xt,qQ DG E3 (by rw[XU];omega) Ah];simp
  rw[e2];exact .val _ _ (((PR d1 d2).2.1 j hj).ext ext)
 refine .l _ _ _ _ _ (.inr rfl) rfl fun ee he _=>?_;rw[Hq] at he;cases he;exact⟨sM,fun _=>⟨n,sM,sM,lR _⟩⟩
def VJ (w:World) (e:An) (G:Nat->Prop) (cs:List AV) (cells:Array Value):Prop:=
 cs.length=cells.size/\(∀i (h:i<cs.length),cs[i].one=true)/\∀i (h:i<cs.length),VR w (UE e) e G cs[i] (cells.getD i undef)
theorem Wz {place:Nat->Option (Nat×Nat)} {ev:Operand->AV} {xv:Operand->Value} {o:Nat->Nat} {size:Nat}:
  ∀(ps:List (Nat×Operand)) (cs:List AV) (cells:Array Value),VJ w e G cs cells->cs.length=size->
   (∀q∈ps,VR w (UE e) e G (ev q.2) (xv q.2))->
   (∀q∈ps,∃sz,place q.1=some (o q.1,sz)/\(ev q.2).cells.length=sz/\o q.1+sz<=size/\∀c∈(ev q.2).cells,c.one=true)->
   ∃r,Instr.fill place cells (ps.map fun q=>(q.1,xv q.2))=some r/\VJ w e G (ps.foldl (fun cs q=>DL cs (o q.1) (ev q.2).cells) cs) r
 |[],cs,cells,h,_,_,_=>⟨cells,rfl,h⟩|q::ps,cs,cells,h,hl,hv,hp=>by
  obtain⟨sz,h1,h2,h3,h4⟩:=hp q mS;obtain⟨c1,c2,c3⟩:=PR (hv q mS) h4;obtain⟨k1,k2,k3⟩:=h;generalize JS:o q.1=off at*;obtain⟨g1,g2⟩:=foldl_set off (xv q.2).cells.toList 0 cells;have Fq:off+(ev q.2).cells.length<=cs.length:=oM;have wN:VJ w e G (DL cs off (ev q.2).cells) (((xv q.2).cells.toList.zipIdx 0).foldl (fun cs (x:Value×Nat)=>cs.setIfInBounds (off+x.2) x.1) cells):=by
   refine⟨by rw[K2 Fq,g1,k1],?_,?_⟩
   .intro i hi;rw[Kv Fq hi];split
    .exact h4 _ (gM _)
    exact k2 _ _
   intro i hi;have Ar:i<cs.length:=by rw[K2 Fq] at hi;exact hi
   have hr:(((xv q.2).cells.toList.zipIdx 0).foldl (fun cs (x:Value×Nat)=>cs.setIfInBounds (off+x.2) x.1) cells).getD i undef=
     if off<=i/\i<off+(ev q.2).cells.length then(xv q.2).cells.getD (i - off) undef else cells.getD i undef:=by
    rw[gA,g2 i];simp only[Nat.add_zero,Array.length_toList,c1];by_cases A2:off<=i/\i<off+(ev q.2).cells.length
    .rw[iP ⟨A2.1,A2.2,oM⟩,iP A2,gA,Array.getElem?_toList]
    rw[iN oM,iN A2,gA]
   rw[hr,Kv Fq hi];split
   .exact c2 _ _
   exact k3 _ Ar
  obtain⟨r,BJ,BE⟩:=Wz ps _ _ wN (by rw[K2 Fq];exact hl) (fun q' h'=>hv q' (mC _ h')) (fun q' h'=>hp q' (mC _ h'));refine⟨r,?_,by rw[List.foldl_cons,JS];exact BE⟩;simp only[List.map_cons];unfold Instr.fill;simp only[h1];rw[iN vv2,<-BJ];congr 1
  rw[<-Array.foldl_toList,Array.toList_zipIdx]
theorem QbC {P:Program} (a:Array Field) (h:∀f∈a,(P.info? f.type).isSome=true):
  ∃places,a.toList.mapM (fun f=>(P.info? f.type).map fun i=>(f.offset,i.size))=some places/\∀i (hi:i<a.size) j,P.info? a[i].type=some j->places[i]?=some (a[i].offset,j.size):=by
 have key:∀l:List Field,(∀f∈l,(P.info? f.type).isSome=true)->∃places,l.mapM (fun f=>(P.info? f.type).map fun i=>(f.offset,i.size))=some places/\
   ∀i (hi:i<l.length) j,P.info? l[i].type=some j->places[i]?=some (l[i].offset,j.size):=by
  intro l;induction l with
  |nil=>intro _;exact⟨[],rfl,fun i hi=>vy6⟩|cons f l ih=>
   intro hl;obtain⟨ps,h1,h2⟩:=ih fun f hf=>hl f (mC _ hf);obtain⟨j0,JN⟩:=Option.isSome_iff_exists.1 (hl f mS);refine⟨(f.offset,j0.size)::ps,?_,?_⟩
   .simp[List.mapM_cons,JN,h1]
   intro i hi j hj;cases i with
   |zero=>simp at hj;rw[JN] at hj;cases hj;rfl
   |succ i=>simpa using h2 i vv5 j vx2
 obtain⟨ps,h1,h2⟩:=key a.toList (fun f hf=>h f (by simpa using hf));exact⟨ps,h1,fun i hi j hj=>by
  have:=h2 i vv5 j vx2;rw[this];simp⟩
theorem o4 (p:Bt C e G g hp w) (hT:B4 C.P T) {t:Nat} {fs:List (Nat×Nat)} (ht:(tl T t).ty= .struct fs) {ps:Array (Nat×Operand)} {ev:Operand->AV} {xv:Operand->Value}
  (Gz:∀q∈ps,VR w (UE e) e G (ev q.2) (xv q.2))
  (h:∀q∈ps.toList,q.1<fs.length/\(tl T (fs.getD q.1 (0,0)).2).size≠0/\(ev q.2).cells.length=(tl T (fs.getD q.1 (0,0)).2).size/\(fs.getD q.1 (0,0)).1+(tl T (fs.getD q.1 (0,0)).2).size<=(tl T t).size/\(∀c∈(ev q.2).cells,c.one=true)) {P:Prop}:
  Bb C e G g hp w (P, .agg (ps.toList.foldl (fun cs q=>DL cs (fs.getD q.1 (0,0)).1 (ev q.2).cells) ((tl T t).zs.map ZC.av)),[])
   (((Instr.build t (ps.map fun q=>(q.1,xv q.2))).run C.P w).andThen fun v w=> .ok (.value v) w):=by
 have Iz:=hT.fit ht sM;obtain⟨d,hu,hd,Fl⟩:=Iz.desc;rw[ht] at hd;obtain⟨a,rfl,ha⟩:=hd;have Fl:(tl T t).agg=true:=Fl;obtain⟨it,hit,Be,_,hz⟩:=Iz.info;obtain⟨v1,v2,v3⟩:=N1 (w:=w) Iz (UE e);obtain⟨c1,c2,_⟩:=Oc v1 v2;have SH:(tl T t).zav.cells=(tl T t).zs.map ZC.av:=by unfold TI.zav;rw[Fl];rfl
 obtain⟨places,hp1,hp2⟩:=QbC a (Iz.flds a hu);obtain⟨r,BJ,BE⟩:=Wz (w:=w) (e:=e) (G:=G) (place:=fun x=>places[x]?) (ev:=ev) (xv:=xv) (o:=fun i=>(fs.getD i (0,0)).1) (size:=(tl T t).size) ps.toList ((tl T t).zs.map ZC.av) (tl T t).zval.cells
  (by rw[<-SH];exact⟨c1.symm,fun i hi=>v2 _ (gM _),fun i hi=> .dat _ _ (c2 i hi)⟩) (by rw[<-SH];exact v3) (fun q hq=>Gz q (by simpa using hq)) (by
   intro q hq;obtain⟨q1,q2,q3,q4,q5⟩:=h q hq;subst ha;have II:q.1<a.size:=xx3;have e1:(a.toList.map fun f=>(f.offset,f.type)).getD q.1 (0,0)=(a[q.1].offset,a[q.1].type):=by simp[gE,II]
   rw[e1] at q2 q3 q4;show ∃sz,(fun x=>places[x]?) q.1=some ((((a.toList.map fun f=>(f.offset,f.type)).getD q.1 (0,0)).1),sz)/\(ev q.2).cells.length=sz/\((a.toList.map fun f=>(f.offset,f.type)).getD q.1 (0,0)).1+sz<=_/\_;rw[e1];obtain⟨j,hj,Lr,_⟩:=(hT.fits q2).info;refine⟨j.size,hp2 q.1 II j hj,by rw[Lr];exact q3,by rw[Lr];exact q4,q5⟩)
 have AL:=run_build (P:=C.P) w t (ps.map fun q=>(q.1,xv q.2)) r (by
  unfold Program.built;simp only[hit,hu,hz,hp1];have e2:(places.toArray[·]?)=fun x:Nat=>places[x]?:=by funext x;simp
  rw[e2,Array.toList_map];exact BJ)
 rw[AL,Result.andThen_ok];obtain⟨s1,s2,s3⟩:=BE;exact .pure p (.agg _ _ s1 s2 s3)
theorem oY (p:Bt C e G g hp w) (hT:B4 C.P T) {t n el:Nat} (ht:(tl T t).ty= .array n el) {ps:Array (Nat×Operand)} {ev:Operand->AV} {xv:Operand->Value}
  (Gz:∀q∈ps,VR w (UE e) e G (ev q.2) (xv q.2))
  (h:∀q∈ps.toList,q.1<n/\(tl T el).size≠0/\(ev q.2).cells.length=(tl T el).size/\q.1*(tl T el).size+(tl T el).size<=(tl T t).size/\(∀c∈(ev q.2).cells,c.one=true)) {P:Prop} (AJ:ps.toList≠[]):
  Bb C e G g hp w (P, .agg (ps.toList.foldl (fun cs q=>DL cs (q.1*(tl T el).size) (ev q.2).cells) ((tl T t).zs.map ZC.av)),[])
   (((Instr.build t (ps.map fun q=>(q.1,xv q.2))).run C.P w).andThen fun v w=> .ok (.value v) w):=by
 have Iz:=hT.fit ht sM;obtain⟨d,hu,hd,Fl⟩:=Iz.desc;rw[ht] at hd;obtain rfl:d= .array n el:=hd;have Fl:(tl T t).agg=true:=Fl;obtain⟨it,hit,Be,_,hz⟩:=Iz.info;obtain⟨v1,v2,v3⟩:=N1 (w:=w) Iz (UE e);obtain⟨c1,c2,_⟩:=Oc v1 v2;have SH:(tl T t).zav.cells=(tl T t).zs.map ZC.av:=by unfold TI.zav;rw[Fl];rfl
 obtain⟨q0,Qq⟩:=List.exists_mem_of_ne_nil _ AJ;obtain⟨j,hj,Lr,_⟩:=(hT.fits (h q0 Qq).2.1).info;obtain⟨r,BJ,BE⟩:=Wz (w:=w) (e:=e) (G:=G) (place:=fun i=>some (i*j.size,j.size)) (ev:=ev) (xv:=xv) (o:=fun i=>i*(tl T el).size) (size:=(tl T t).size) ps.toList ((tl T t).zs.map ZC.av) (tl T t).zval.cells
  (by rw[<-SH];exact⟨c1.symm,fun i hi=>v2 _ (gM _),fun i hi=> .dat _ _ (c2 i hi)⟩) (by rw[<-SH];exact v3) (fun q hq=>Gz q (by simpa using hq)) (by
   intro q hq;obtain⟨q1,q2,q3,q4,q5⟩:=h q hq;exact⟨j.size,by rw[Lr],by rw[Lr];exact q3,by rw[Lr];exact q4,q5⟩)
 have AL:=run_build (P:=C.P) w t (ps.map fun q=>(q.1,xv q.2)) r (by
  unfold Program.built;simp only[hit,hu,hz,hj];rw[Array.toList_map];exact BJ)
 rw[AL,Result.andThen_ok];obtain⟨s1,s2,s3⟩:=BE;exact .pure p (.agg _ _ s1 s2 s3)
end
open Go Go.Great
section
variable {C:Cx} {e:An} {G:Nat->Prop} {g:Nat} {hp:Hp} {w:World} {T:AE}
structure Src (w:World) (e:An) (G:Nat->Prop) (ys:List AV) (k:Nat) (x:Value) (news:List Value):Prop where
 len:news.length=ys.length*k
 at_:ys.length=0\/∃b off cap,x= .slice (some ⟨b,off,none⟩) ys.length cap/\∀j v,news[j]?=some v->w.cell? ((⟨b,off,none⟩:Addr).add j)=some v
 shape:∃a cap,x= .slice a ys.length cap
 lens:∀i (h:i<ys.length),ys[i].cells.length=k
 one:∀i (h:i<ys.length) j (h':j<ys[i].cells.length),ys[i].cells[j].one=true
 vals:∀i (h:i<ys.length) j (h':j<ys[i].cells.length),VR w (UE e) e G ys[i].cells[j] (news.getD (i*k+j) undef)
theorem Y6 {n:Nat} (f:Nat->Value) {b off:Nat} (hc:∀j,j<n->w.cell? ⟨b,off+j,none⟩=some (f j)):
  ∀j v,((List.range n).map f)[j]?=some v->w.cell? ((⟨b,off,none⟩:Addr).add j)=some v:=by
 intro j v hj;by_cases h:j<n
 .simp[h] at hj;subst hj;rw[K7];exact hc j h
 simp[h] at hj
theorem Y7 {n:Nat} (f:Nat->Value) {j:Nat} (h:j<n):((List.range n).map f).getD j undef=f j:=by simp[gE,h]
theorem Ps (hr:AU w e G hp) {v:AV} {x:Value} (hx:VR w (UE e) e G v x) (h:Jo hp v) {ys:List AV} (hs:Hj hp v=some ys) {k:Nat} (Ck:0<k)
  (hk:∀y∈ys,y.cells.length=k) (Mt:∀y∈ys,∀c∈y.cells,c.noKid=true):∃news,Src w e G ys k x news:=by
 have lens:∀i (h:i<ys.length),ys[i].cells.length=k:=fun i hi=>hk _ (gM hi);cases v with
 |sl es full=>
  simp only[Hj,Option.some.injEq] at hs;subst hs;rcases hx.sl_inv.sl_inv with ⟨rfl,a,rfl⟩|⟨b,off,cap,k',f,rfl,hb,H3,_,_,_,vt,CV,hc,ET,hv⟩
  .exact⟨[],sM, .inl rfl,⟨_,_,rfl⟩,fun i hi=>vy6,fun i hi=>vy6,fun i hi=>vy6⟩
  by_cases he:es=[]
  .subst he;exact⟨[],sM, .inl rfl,⟨_,_,rfl⟩,fun i hi=>vy6,fun i hi=>vy6,fun i hi=>vy6⟩
  have h0:0<es.length:=List.length_pos_iff.2 he;have Ia:k'=k:=by rw[<-CV 0 h0,lens 0 h0]
  subst Ia;refine⟨(List.range (es.length*k')).map f,sM, .inr ⟨b,off,cap,rfl,Y6 f hc⟩,⟨_,_,rfl⟩,lens,ET,fun i hi j hj=>?_⟩;rw[Y7 f (LH hi (by have:=lens i hi;omega))];exact .dat _ _ (hv i hi j hj)
 |l id g' off len=>
  simp only[Jo,Hj] at h hs;cases hg:hp.get id with
  |none=>simp only[hg] at h|some q=>
   obtain⟨g'',ob⟩:=q;cases ob with
   |box cs=>simp only[hg] at h|mp _=>simp only[hg] at h|ms _=>simp only[hg] at h|bd _ _ _=>simp only[hg] at h|own t k' es=>
    simp only[hg] at h hs;obtain⟨rfl,hl⟩:=h;cases hs
    obtain⟨ee,he,Bo,hn,AI,A8⟩:=LO hr hx hg hl;obtain⟨CV,_,vt,A3,h1,hb⟩:=A8;have hlen:(es.drop off).length=len:=vv2;obtain⟨a,CZ,Yi⟩:=AI.shape;unfold Ex at AI;by_cases hz:len=0
    .refine⟨[],by simp[hlen,hz], .inl (by rw[hlen];exact hz),⟨a,CZ,by rw[hlen];exact Yi⟩,lens,fun i hi=>oM,fun i hi=>oM⟩
    cases Al:ee.blk with
    |none=>rw[Al] at AI;omega|some q=>
     obtain⟨b,bcap⟩:=q;rw[Al] at AI hb;obtain⟨cap,rfl,H5,F4⟩:=AI;obtain⟨hm,Ib,cs,hh,hs,hv⟩:=hb;have Ia:k'=k:=by rw[<-A3 off oM];have:=lens 0 oM;rw[List.getElem_drop] at this;simpa using this
     subst Ia;have hc:∀j,j<(es.drop off).length*k'->w.cell? ⟨b,off*ee.k+j,none⟩=some (cs.getD (off*ee.k+j) undef):=by
      intro j hj;rw[hlen] at hj;refine hh.cellD ?_;rw[hs,CV];calc off*k'+j<off*k'+len*k':=oM
       _=(off+len)*k':=by rw[Nat.add_mul]
       _<=bcap*k':=Nat.mul_le_mul_right _ oM
     refine⟨(List.range ((es.drop off).length*k')).map (fun j=>cs.getD (off*ee.k+j) undef),sM, .inr ⟨b,off*ee.k,cap,by rw[hlen],Y6 _ hc⟩,⟨_,_,by rw[hlen]⟩,lens,?_,?_⟩
     .intro i hi j hj;simp only[List.getElem_drop] at hj ⊢;exact h1 _ _ _ _
     intro i hi j hj;rw[Y7 _ (LH hi (by have:=lens i hi;omega))];have EY:=Mt _ (gM hi) _ (gM hj);simp only[List.getElem_drop] at hj EY ⊢;have:=(hv (off+i) vz0 j hj).noKid EY;rw[Nat.add_mul,Nat.add_assoc] at this;rw[CV];exact this
 |_=>cases hs
theorem Src.oneCell {ys:List AV} {k:Nat} {x:Value} {news:List Value} (h:Src w e G ys k x news) (hk:0<k):∀u∈news,u.oneCell'=true:=by
 intro u hu;obtain⟨p,hp,rfl⟩:=List.getElem_of_mem hu;have EK:p<ys.length*k:=by rw[<-h.len];exact hp
 have hi:p / k<ys.length:=(Nat.div_lt_iff_lt_mul hk).2 EK;have hj:p % k<ys[p / k].cells.length:=by rw[h.lens _ hi];exact Nat.mod_lt _ hk
 have h1:=(h.vals _ hi _ hj).oneCell (h.one _ hi _ hj);have e1:p / k*k+p % k=p:=by rw[Nat.mul_comm];exact Nat.div_add_mod p k
 rw[e1,gE,gG hp] at h1;exact h1
theorem Qex {P:Program} {w:World} (t ty:Nat) {el:Nat} {i:TypeInfo} (ht:P.underlying t=some (.slice el)) (hi:P.info? el=some i)
  (b sLen sCap:Nat) {cur:Array Value} (hg:Cl w b cur el) (a:Addr) (m c:Nat) (news:List Value) (hl:news.length=m*i.size) (KI:∀j u,news[j]?=some u->w.cell? (a.add j)=some u)
  (h1:∀u∈news,u.oneCell'=true) (If:sLen+m<=sCap) (FJ:sLen*i.size+news.length<=cur.size):
  (Builtin.append_ #[t,t] ty #[.slice (some ⟨b,0,none⟩) sLen sCap, .slice (some a) m c]).run P w=
   .ok (.slice (some ⟨b,0,none⟩) (sLen+m) sCap) (w.setRow b (cur.toList.take (sLen*i.size)++news++cur.toList.drop (sLen*i.size+news.length)).toArray):=by
 obtain⟨fz,hg,hn⟩:=hg;have hf:=run_firstCells_some (P:=P) w i.size m a m c news hl KI;have AM:=Qhr (P:=P) (off:=sLen*i.size) news 0 cur w hg hn (by simpa using FJ) h1;simp only[Nat.add_zero] at AM;simp[Builtin.append_,run_underlying ht,sizeOf,typeInfo,hi,Builtin.lenOf,If,hf,Addr.add_lit,AM]
theorem Zt {P:Program} {t el:Nat} {ei:TI} (hu:P.underlying t=some (.slice el)) (hf:Di P el ei) (ty:Nat) (a a':Option Addr) (n cap CZ:Nat) (hn:n<=cap) (w:World):
  (Builtin.append_ #[t,t] ty #[.slice a n cap, .slice a' 0 CZ]).run P w= .ok (.slice a n cap) w:=by
 cases a<;>cases a'<;>simp[Builtin.append_,run_underlying hu,Fy hf,Builtin.lenOf,hn,Builtin.firstCells,loadCells,loadCellsFrom,storeCells]
theorem Zs {P:Program} {t el:Nat} {ei:TI} (hu:P.underlying t=some (.slice el)) (hf:Di P el ei) (ty:Nat) {a:Option Addr} {n cap m:Nat} {x:Value} {ys:List AV} {news olds:List Value}
  (ho:olds.length=n*ei.size) (hold:∀j v,olds[j]?=some v->∀ad,a=some ad->w.cell? (ad.add j)=some v) (Lw:a=none->n=0/\cap=0) (hs:Src w e G ys ei.size x news) (hm:ys.length=m) (HD:0<m)
  (Gs:cap<n+m) (Fj:n+m<=9223372036854775807) (No:(n+m)*ei.bytes<=140737488355328):
  ∃nc zs,n+m<=nc/\nc<=maxLen/\zs.length=(nc - (n+m))*ei.size/\(Builtin.append_ #[t,t] ty #[.slice a n cap,x]).run P w=
   .ok (.slice (some ⟨w.heap.size,0,none⟩) (n+m) nc) (w.drew.alloc (.cells (olds++news++zs).toArray el)):=by
 obtain⟨ie,hi,Be,GU,hz⟩:=hf.info;obtain⟨b,off,CZ,hx,hc⟩:=hs.at_.resolve_left oM;have D2:(ei.zval).cells.size=ei.size:=by obtain⟨v1,v2,v3⟩:=N1 (w:=w) hf (fun _=>True);rw[(Oc v1 v2).1,v3]
 subst hx;rw[hm];have AK:news.length=m*ie.size:=by rw[Be,hs.len,hm]
 refine⟨grownCap w (n+m) cap el,(Builtin.zeroCells ei.zval.cells (grownCap w (n+m) cap el - (n+m))).toList,grownCap_ge _ _ _ _,grownCap_le_maxLen _ _ _ _ (by simp only[maxLen];omega),?_,?_⟩
 ·rw[Array.length_toList,size_zeroCells,D2]
 cases a with
 |none=>
  obtain⟨rfl,rfl⟩:=Lw rfl;have HF:olds=[]:=List.eq_nil_of_length_eq_zero oM;subst HF;have:=run_append_nil (P:=P) w t ty el ie _ hu hi hz ⟨b,off,none⟩ m CZ news AK hc HD oM (by rw[GU];simp only[Nat.zero_add] at No;omega);simp only[Nat.zero_add,List.nil_append];rw[this];congr 3
  apply Array.ext'
  simp
 |some ad=>
  have:=run_append_grow (P:=P) w t ty el ie _ hu hi hz ad n cap olds (by rw[Be];exact ho) (fun j v hj=>hold j v hj ad rfl) ⟨b,off,none⟩ m CZ news AK hc Gs oM
   (growslice_fits oM (by rw[GU];exact No))
  rw[this];congr 3
  apply Array.ext'
  simp
theorem aO {olds news zs:List Value} {n m k i j:Nat} (ho:olds.length=n*k) (hn:news.length=m*k) (hi:i<n+m) (hj:j<k):
  ((olds++news++zs).toArray).getD (i*k+j) undef=if i<n then olds.getD (i*k+j) undef else news.getD ((i - n)*k+j) undef:=by
 rw[gA,List.getElem?_toArray];by_cases h:i<n
 .rw[iP h,List.append_assoc,List.getElem?_append_left (by rw[ho];exact LH h hj),gE]
 rw[iN h];have h1:n*k<=i*k+j:=Nat.le_trans (Nat.mul_le_mul_right _ oM) (Nat.le_add_right _ _);have h2:i*k+j<(n+m)*k:=LH hi hj;have h3:(i - n)*k=i*k - n*k:=Nat.sub_mul i n k;have h4:n*k<=i*k:=Nat.mul_le_mul_right _ oM;rw[List.getElem?_append_left (by rw[aL,ho,hn,<-Nat.add_mul];exact h2),List.getElem?_append_right oM,gE,ho];congr 2
 omega
theorem TF {es ys:List AV} {k n m:Nat} {olds news zs:List Value} (ho:olds.length=n*k) (Lz:news.length=m*k) (hn:es.length=n) (hm:ys.length=m)
  (AJ:∀i (h:i<es.length),es[i].cells.length=k) (YE:∀i (h:i<ys.length),ys[i].cells.length=k) {R:Nat->AV->Value->Prop}
  (H7:∀i (h:i<es.length) j (h':j<es[i].cells.length),R (i*k+j) es[i].cells[j] (olds.getD (i*k+j) undef))
  (UN:∀i (h:i<ys.length) j (h':j<ys[i].cells.length),R ((n+i)*k+j) ys[i].cells[j] (news.getD (i*k+j) undef)):
  ∀i (h:i<(es++ys).length) j (h':j<(es++ys)[i].cells.length),R (i*k+j) (es++ys)[i].cells[j] (((olds++news++zs).toArray).getD (i*k+j) undef):=by
 intro i hi j hj;have Ar:i<n+m:=vz0;by_cases h:i<es.length
 .have hg:(es++ys)[i]=es[i]:=List.getElem_append_left h;simp only[hg] at hj ⊢;rw[aO ho Lz Ar (by have:=AJ i h;omega),iP oM];exact H7 i h j hj
 have hg:(es++ys)[i]=ys[i - es.length]' vz0:=List.getElem_append_right oM
 simp only[hg] at hj ⊢;have Aa:i - es.length<ys.length:=vz0;rw[aO ho Lz Ar (by have:=YE _ Aa;omega),iN oM];subst hn;have:=UN _ Aa j hj;rw[Nat.add_sub_cancel' oM] at this;exact this
theorem Wi {es ys:List AV} {k:Nat} (h1:∀i (h:i<es.length),es[i].cells.length=k) (h2:∀i (h:i<ys.length),ys[i].cells.length=k):
  ∀i (h:i<(es++ys).length),(es++ys)[i].cells.length=k:=by
 intro i hi;rw[List.getElem_append];split
 .exact h1 _ _
 exact h2 _ _
theorem Wj {es ys:List AV} (h1:∀i (h:i<es.length) j (h':j<es[i].cells.length),es[i].cells[j].one=true) (h2:∀i (h:i<ys.length) j (h':j<ys[i].cells.length),ys[i].cells[j].one=true):
  ∀i (h:i<(es++ys).length) j (h':j<(es++ys)[i].cells.length),(es++ys)[i].cells[j].one=true:=by
 intro i hi j hj;by_cases h:i<es.length
 .have hg:(es++ys)[i]=es[i]:=List.getElem_append_left h;simp only[hg] at hj ⊢;exact h1 _ _ _ _
 have hg:(es++ys)[i]=ys[i - es.length]' vz0:=List.getElem_append_right oM
 simp only[hg] at hj ⊢;exact h2 _ _ _ _
theorem cO:∀{ys:List AV},(esR ys).Nodup->∀{i i' j j':Nat} (hi:i<ys.length) (Ar:i'<ys.length) (hj:j<ys[i].cells.length) (Ah:j'<ys[i'].cells.length) {id:Nat},Dj ys[i].cells[j]=[id]->Dj ys[i'].cells[j']=[id]->i=i'/\j=j'
 |[],_,i,_,_,_,hi,_,_,_,_,_,_=>vy6|y::ys,h,i,i',j,j',hi,Ar,hj,Ah,id,h1,h2=>by
  unfold esR at h;rw[List.flatMap_cons,List.nodup_append] at h;obtain⟨h3,h4,h5⟩:=h
  match i,i' with
  |0,0=>refine⟨rfl,?_⟩;simp only[List.getElem_cons_zero] at h1 h2 hj Ah;exact V1 h3 hj Ah h1 h2|0,i'+1=>simp only[List.getElem_cons_zero] at h1 hj;simp only[List.getElem_cons_succ] at h2 Ah;exact absurd rfl (h5 id (List.mem_flatMap.2 ⟨_,gM hj,by rw[h1];simp⟩) id (List.mem_flatMap.2 ⟨_,gM xx4,List.mem_flatMap.2 ⟨_,gM Ah,by rw[h2];simp⟩⟩))|i+1,0=>simp only[List.getElem_cons_zero] at h2 Ah;simp only[List.getElem_cons_succ] at h1 hj;exact absurd rfl (h5 id (List.mem_flatMap.2 ⟨_,gM Ah,by rw[h2];simp⟩) id (List.mem_flatMap.2 ⟨_,gM vv5,List.mem_flatMap.2 ⟨_,gM hj,by rw[h1];simp⟩⟩))|i+1,i'+1=>simp only[List.getElem_cons_succ] at h1 h2 hj Ah;obtain⟨h6,h7⟩:=cO (ys:=ys) h4 vv5 xx4 hj Ah h1 h2;exact⟨by rw[h6],h7⟩
theorem nR {id gi t k:Nat} {es ys:List AV} (hr:AU w e G ((id,some (gi, .own t k (es++ys)))::hp)) (hid:id∉esR ys) (hP:∀y∈ys,∀c∈y.cells,attP hp c) (Lv:(esR ys).Nodup):
  ∃e',AU w e' G ((id,some (gi, .own t k (es++ys.map (AH (att hp)))))::drops (esR ys)++hp)/\AB w e G w e' G/\e'.z=e.z/\(∀b,AQ e' b->AQ e b):=by
 obtain⟨_,_,_,_,A8⟩:=hr.live id _ _ (Hp.get_cons_same _ _ _);have A3:=A8.2.2.2.1;have Cq:∀y∈ys,∀c∈y.cells,c.one=true:=fun y hy c hc=>aU (hP y hy c hc);have agree:∀y∈ys,∀c∈y.cells,att ((id,some (gi,Ob.own t k (es++ys)))::hp) c=att hp c/\(attP ((id,some (gi,Ob.own t k (es++ys)))::hp) c↔attP hp c):=by intro y hy c hc;exact V2 fun a BV=>Hp.get_cons_other _ _ (fun h=>hid (List.mem_flatMap.2 ⟨y,hy,List.mem_flatMap.2 ⟨c,hc,h ▸ BV⟩⟩))
 have e1:∀i (h:i<(es++ys).length),es.length<=i->∃h':i - es.length<ys.length,(es++ys)[i]=ys[i - es.length]:=by intro i h hle;have Aa:i - es.length<ys.length:=xx0;exact⟨Aa,List.getElem_append_right hle⟩
 have e2:∀i (h:i<(es++ys.map (AH (att hp))).length),es.length<=i->∃h':i - es.length<ys.length,(es++ys.map (AH (att hp)))[i]=AH (att hp) ys[i - es.length]:=by intro i h hle;have Aa:i - es.length<ys.length:=xx0;exact⟨Aa,by rw[List.getElem_append_right hle];simp⟩
 have key:=V3 hr (fun a _=>es.length<=a) (es':=es++ys.map (AH (att hp))) (D:=esR ys) (Hp.get_cons_same _ _ _) hid sM;refine Exists.elim (key ?_ ?_ ?_ ?_) ?_
 .intro a ha;have BV:a<(es++ys).length:=vq3;by_cases hle:es.length<=a
  .obtain⟨h1,h2⟩:=e2 a ha hle;obtain⟨h3,h4⟩:=e1 a BV hle;rw[h2,UY (Cq _ (gM _)),List.length_map,<-h4];exact A3 a BV
  rw[List.getElem_append_left oM];have:=A3 a BV;rw[List.getElem_append_left oM] at this;exact this
 .intro a ha BV j hj Ah;by_cases hle:es.length<=a
  .obtain⟨h1,h2⟩:=e2 a BV hle;obtain⟨h3,h4⟩:=e1 a ha hle;have hy:=gM h3;simp only[h2,h4] at hj Ah ⊢;have GV:(AH (att hp) ys[a - es.length]).cells[j]=att hp (ys[a - es.length].cells[j]):=by simp only[UY (Cq _ hy),List.getElem_map]
   rw[GV];have GZ:=gM hj;rcases Tu (ys[a - es.length].cells[j]) with ⟨_,h5⟩|⟨Br,h5⟩
   .exact .inl (h5 hp)
   exact .inr ⟨hle,Br,List.mem_flatMap.2 ⟨_,hy,List.mem_flatMap.2 ⟨_,GZ,by rw[h5];simp⟩⟩,h5,(agree _ hy _ GZ).2.2 (hP _ hy _ GZ),(agree _ hy _ GZ).1.symm⟩
  have h2:(es++ys.map (AH (att hp)))[a]=es[a]'oM:=List.getElem_append_left oM
  have h4:(es++ys)[a]=es[a]'oM:=List.getElem_append_left oM
  simp only[h2,h4];exact .inl trivial
 ·intro Br D1;obtain⟨y,hy,D1⟩:=List.mem_flatMap.1 D1;obtain⟨c,hc,D1⟩:=List.mem_flatMap.1 D1;obtain⟨i,hi,rfl⟩:=List.getElem_of_mem hy;obtain⟨j,hj,rfl⟩:=List.getElem_of_mem hc;have g1:(es++ys)[es.length+i]' vv2=ys[i]:=by rw[List.getElem_append_right oM];simp
  have g2:(es++ys.map (AH (att hp)))[es.length+i]' vv2=AH (att hp) ys[i]:=by rw[List.getElem_append_right oM];simp
  refine⟨es.length+i,j,vv2,vv2,?_⟩;simp only[g1,g2];refine⟨hj,by rw[UY (Cq _ hy),List.length_map];exact hj,?_⟩;rcases Tu (ys[i].cells[j]) with ⟨h5,_⟩|⟨id2,h5⟩
  ·rw[h5] at D1;cases D1
  rw[h5] at D1 ⊢;simp at D1;rw[D1]
 ·intro Br D1 a j a' j' ha hj BV Ah hA Np h1 h2;obtain⟨q1,q2⟩:=e1 a ha hA;obtain⟨q3,q4⟩:=e1 a' BV Np;simp only[q2] at hj h1;simp only[q4] at Ah h2;obtain⟨q5,q6⟩:=cO Lv q1 q3 hj Ah h1 h2;exact⟨oM,q6⟩
 rintro e' ⟨a1,a2,a3,a4,_,_⟩;refine⟨e',a1.congr (fun _=>Iff.rfl) fun j=>?_,a2,a3,a4⟩;simp only[List.cons_append];by_cases hj:j=id
 ·subst hj;rw[Hp.get_cons_same,Hp.get_cons_same]
 rw[Hp.get_cons_other _ _ hj,Hp.get_cons_other _ _ hj];unfold drops;rw[Nl,Nl,Hp.get_cons_other _ _ hj]
theorem Bb.attach {id gi t k:Nat} {es ys:List AV} {P:Prop} {v:AV} {res:Result Next} (h:Bb C e G g hp w (P,v,[(id,some (gi, .own t k (es++ys)))]) res) (hid:id∉esR ys)
  (hP:∀y∈ys,∀c∈y.cells,attP hp c) (Lv:(esR ys).Nodup) {Q:Prop}:Bb C e G g hp w (Q,v,(id,some (gi, .own t k (es++ys.map (AH (att hp)))))::drops (esR ys)) res:=by
 obtain⟨nx,w',e',r1,r2,r3,r4,r5,r6⟩:=h;obtain⟨e'',a1,a2,a3,a4⟩:=nR r2 hid hP Lv;refine⟨nx,w',e'',r1,a1,r3.trans a2,⟨a3.trans r4.zeq,r4.zlt,r4.ext.trans a2,fun b hb=>r4.mine b (a4 b hb)⟩,r5,?_⟩;rcases r6 with ⟨xv,h1,h2⟩|h
 .exact .inl ⟨xv,h1,h2.ext a2⟩
 exact .inr h
theorem Tt {c:AV} (h:attP hp c):c.noKid=true:=by cases c<;>first|rfl|exact h.elim
theorem nw (p:Bt C e G g hp w) {t el did ty:Nat} {ei:TI} (hu:C.P.underlying t=some (.slice el)) (hf:Di C.P el ei) (hs:ei.size≠0) {a:Option Addr} {x:Value} {ys:List AV} {news:List Value}
  (Bq:Src w e G ys ei.size x news) (No:ys.length*ei.bytes<=140737488355328) (Fj:ys.length<=9223372036854775807) {P:Prop}:
  Bb C e G g hp w (P, .l did g 0 ys.length,[(did,some (g, .own el ei.size ys))]) (((Builtin.append_ #[t,t] ty #[.slice a 0 0,x]).run C.P w).andThen fun v w=> .ok (.value v) w):=by
 have DG:0<ei.size:=oM;by_cases hm:ys.length=0
 ·have hy:ys=[]:=List.eq_nil_of_length_eq_zero hm;subst hy;obtain⟨a',CZ,rfl⟩:=Bq.shape;have AL:=Zt (P:=C.P) hu hf ty a a' 0 0 CZ (lR _) w;simp only[List.length_nil] at AL ⊢;rw[AL,Result.andThen_ok];refine MH p (CX.refl w) (ee:=⟨g,none,ei.size,0⟩) rfl sM ?_ ?_
  ·exact⟨rfl,rfl,DG,sM,sM,rfl⟩
  refine .l _ _ _ _ _ (.inr rfl) rfl fun ee he _=>?_;rw[Hq] at he;cases he;exact⟨lR _,fun _=>⟨rfl,rfl,a,rfl⟩⟩
 obtain⟨nc,zs,h1,h2,h3,AL⟩:=Zs (P:=C.P) (w:=w) hu hf ty (a:=a) (n:=0) (cap:=0) (olds:=[]) sM sM (fun _=>⟨rfl,rfl⟩) Bq rfl oM oM oM (by simpa using No);rw[AL,Result.andThen_ok];simp only[Nat.zero_add] at h1 h3 ⊢;refine UZ p (CX.drew_alloc w _) (ee:=⟨g,some (w.heap.size,nc),ei.size,ys.length⟩) rfl (by rintro b c ⟨⟩;exact⟨lR _,by rw[show(w.drew.alloc _).heap.size=w.heap.size+1 from Hi w.drew _];omega⟩) (fun x2=>?_) ?_
 ·refine⟨rfl,rfl,DG,Bq.lens,Bq.one,h2,h1,_,(.of (Hz w.drew _)),?_,?_⟩
  ·rw[List.size_toArray,aL,aL,Bq.len,h3,List.length_nil,Nat.zero_add,<-Nat.add_mul];congr 1;omega
  intro i hi j hj;have:=TF (R:=fun _ v x=>VR w (UE e) e G v x) (es:=[]) (ys:=ys) (zs:=zs) (olds:=[]) (n:=0) (m:=ys.length) sM Bq.len rfl rfl sM Bq.lens sM Bq.vals i vv5 j vx2;exact .val _ _ (VR.ext x2 (by simpa using this))
 refine .l _ _ _ _ _ (.inr rfl) rfl fun ee he _=>?_;rw[Hq] at he;cases he;refine⟨sM,fun _=>⟨nc,sM,sM,h1⟩⟩
theorem nv (p:Bt C e G g hp w) {t el did ty:Nat} {ei:TI} (hu:C.P.underlying t=some (.slice el)) (hf:Di C.P el ei) (hs:ei.size≠0) {es ys:List AV} {xd x:Value} {news:List Value}
  (hd:VR w (UE e) e G (.sl es true) xd) (Iy:∀y∈es,y.cells.length=ei.size) (Mt:∀y∈es,∀c∈y.cells,c.noKid=true) (Bq:Src w e G ys ei.size x news) (YF:0<ys.length)
  (No:(es.length+ys.length)*ei.bytes<=140737488355328) (Fj:es.length+ys.length<=9223372036854775807) {P:Prop}:
  Bb C e G g hp w (P, .l did g 0 (es.length+ys.length),[(did,some (g, .own el ei.size (es++ys)))]) (((Builtin.append_ #[t,t] ty #[xd,x]).run C.P w).andThen fun v w=> .ok (.value v) w):=by
 have DG:0<ei.size:=oM;obtain⟨olds,LC⟩:=Ps p.hr hd (show Jo hp (.sl es true) from trivial) rfl DG Iy Mt;obtain⟨a,cap,rfl,_,Qj⟩:=hd.slice_cap;obtain rfl:cap=es.length:=Qj rfl;have hold:∀j v,olds[j]?=some v->∀ad,a=some ad->w.cell? (ad.add j)=some v:=by
  intro j v hj ad RK;rcases LC.at_ with h0|⟨b,off,cap,hx,hc⟩
  ·have hl:=LC.len;rw[h0,Nat.zero_mul] at hl;have:olds=[]:=List.eq_nil_of_length_eq_zero hl;subst this;simp at hj
  cases hx
  cases RK
  exact hc j v hj
 have Lw:a=none->es.length=0/\es.length=0:=by
  intro hn;rcases LC.at_ with h0|⟨b,off,cap,hx,hc⟩
  ·exact⟨h0,h0⟩
  cases hx;cases hn
 obtain⟨nc,zs,h1,h2,h3,AL⟩:=Zs (P:=C.P) (w:=w) hu hf ty (a:=a) (n:=es.length) (cap:=es.length) (olds:=olds) LC.len hold Lw Bq rfl YF oM Fj No;rw[AL,Result.andThen_ok];refine UZ p (CX.drew_alloc w _) (ee:=⟨g,some (w.heap.size,nc),ei.size,es.length+ys.length⟩) rfl (by rintro b c ⟨⟩;exact⟨lR _,by rw[show(w.drew.alloc _).heap.size=w.heap.size+1 from Hi w.drew _];omega⟩) (fun x2=>?_) ?_
 ·refine⟨rfl,sM,DG,Wi LC.lens Bq.lens,Wj LC.one Bq.one,h2,vy9,_,(.of (Hz w.drew _)),?_,?_⟩
  ·rw[List.size_toArray,aL,aL,LC.len,Bq.len,h3,<-Nat.add_mul,<-Nat.add_mul];congr 1;omega
  intro i hi j hj;have:=TF (R:=fun _ v x=>VR w (UE e) e G v x) (es:=es) (ys:=ys) (zs:=zs) (olds:=olds) (n:=es.length) (m:=ys.length) LC.len Bq.len rfl rfl LC.lens Bq.lens LC.vals Bq.vals i hi j hj;exact .val _ _ (VR.ext x2 this)
 refine .l _ _ _ _ _ (.inr rfl) rfl fun ee he _=>?_;rw[Hq] at he;cases he;refine⟨sM,fun _=>⟨nc,sM,sM,h1⟩⟩
theorem ny (p:Bt C e G g hp w) {t el id ty g':Nat} {ei:TI} (hu:C.P.underlying t=some (.slice el)) (hf:Di C.P el ei) (hs:ei.size≠0) {es ys:List AV} {xd x:Value} {news:List Value}
  (hd:VR w (UE e) e G (.l id g' 0 es.length) xd) (hg:hp.get id=some (g', .own el ei.size es)) (Bq:Src w e G ys ei.size x news) (No:(es.length+ys.length)*ei.bytes<=140737488355328)
  (Fj:es.length+ys.length<=9223372036854775807) {P:Prop}:
  Bb C e G g hp w (P, .l id g' 0 (es.length+ys.length),[(id,some (g', .own el ei.size (es++ys)))]) (((Builtin.append_ #[t,t] ty #[xd,x]).run C.P w).andThen fun v w=> .ok (.value v) w):=by
 classical
 have DG:0<ei.size:=oM;obtain⟨ee,he,Bo,hn,AI,A8⟩:=LO p.hr hd hg oM;have JG:=p.hr.gen id ee he;obtain⟨hk,_,_,AJ,q1,hb⟩:=A8;by_cases hm:ys.length=0
 ·-- nothing new
  have hy:ys=[]:=List.eq_nil_of_length_eq_zero hm;subst hy;obtain⟨a',CZ,rfl⟩:=Bq.shape;have AL:(Builtin.append_ #[t,t] ty #[xd, .slice a' 0 CZ]).run C.P w= .ok xd w:=by
   have Gs:∃a cap,xd= .slice a es.length cap/\es.length<=cap:=by
    unfold Ex at AI;cases Al:ee.blk with
    |none=>rw[Al] at AI;obtain⟨_,h0,a,rfl⟩:=AI;exact⟨a,0,by rw[h0],oM⟩
    |some q=>obtain⟨b,bc⟩:=q;rw[Al] at AI;obtain⟨cap,rfl,_,hc⟩:=AI;exact⟨_,cap,rfl,hc⟩
   obtain⟨a,cap,rfl,hc⟩:=Gs;exact Zt hu hf ty a a' es.length cap CZ hc w
  simp only[List.length_nil] at AL ⊢;rw[AL,Result.andThen_ok];simp only[List.append_nil,Nat.add_zero];have x1:=AB.wide w e G g;refine⟨_,w,e,rfl,p.hr.wide.congr (fun _=>Iff.rfl) fun j=>?_,x1,p.ln.wide g,p.fr, .inl ⟨xd,rfl,hd.ext x1⟩⟩;simp only[List.cons_append,List.nil_append];by_cases hj:j=id
  ·subst hj;rw[Hp.get_cons_same,hg]
  rw[Hp.get_cons_other _ _ hj]
 have YF:0<ys.length:=oM;have grow:∀(a:Option Addr) (cap:Nat) (olds:List Value),xd= .slice a es.length cap->cap<es.length+ys.length->olds.length=es.length*ei.size->
   (∀j v,olds[j]?=some v->∀ad,a=some ad->w.cell? (ad.add j)=some v)->(a=none->es.length=0/\cap=0)->
   ((∀b bcap,ee.blk=some (b,bcap)->∀i (h:i<es.length) j (h':j<es[i].cells.length),VC w e G b (i*ei.size+j) es[i].cells[j] (olds.getD (i*ei.size+j) undef))/\(ee.blk=none->es=[]))->
   Bb C e G g hp w (P, .l id g' 0 (es.length+ys.length),[(id,some (g', .own el ei.size (es++ys)))]) (((Builtin.append_ #[t,t] ty #[xd,x]).run C.P w).andThen fun v w=> .ok (.value v) w):=by
  rintro a cap olds rfl Gs r1 r2 r3 ⟨r5,r6⟩;obtain⟨nc,zs,h1,h2,h3,AL⟩:=Zs (P:=C.P) (w:=w) hu hf ty (a:=a) (n:=es.length) (cap:=cap) (olds:=olds) r1 r2 r3 Bq rfl YF Gs Fj No;rw[AL,Result.andThen_ok];have OF:=CX.drew_alloc w (.cells (olds++news++zs).toArray el);have Be:(w.drew.alloc (.cells (olds++news++zs).toArray el)).heap.size=w.heap.size+1:=Hi w.drew _;generalize hW:w.drew.alloc (.cells (olds++news++zs).toArray el)=w' at OF Be;have JR:w'.heap[w.heap.size]?=some (.cells (olds++news++zs).toArray el (0,0)):=by rw[<-hW];exact Hz w.drew _
  let kd:Nat->Option (Nat×Nat):=fun b=>match e.kid b with
   |some (B,c)=>if(∃cap,ee.blk=some (B,cap)) then some (w.heap.size,c) else some (B,c)|none=>none
  have kd1:∀b B c,kd b=some (B,c)->∃B0,e.kid b=some (B0,c)/\((∃cap,ee.blk=some (B0,cap))/\B=w.heap.size\/(¬(∃cap,ee.blk=some (B0,cap))/\B=B0)):=by
   intro b B c h;simp only[kd] at h;split at h
   ·rename_i B0 c0 Ck;split at h
    ·rename_i hx;simp only[Option.some.injEq,Prod.mk.injEq] at h;obtain⟨rfl,rfl⟩:=h;exact⟨_,Ck, .inl ⟨hx,rfl⟩⟩
    rename_i hx;simp only[Option.some.injEq,Prod.mk.injEq] at h;obtain⟨rfl,rfl⟩:=h;exact⟨_,Ck, .inr ⟨hx,rfl⟩⟩
   cases h
  have kd2:∀b B c,e.kid b=some (B,c)->¬(∃cap,ee.blk=some (B,cap))->kd b=some (B,c):=by intro b B c h hx;simp only[kd,h,iN hx]
  have kd3:∀b B c cap,e.kid b=some (B,c)->ee.blk=some (B,cap)->kd b=some (w.heap.size,c):=by intro b B c cap h hx;simp only[kd,h,iP (show ∃cap,ee.blk=some (B,cap) from⟨cap,hx⟩)]
  have kd4:∀b,e.kid b=none->kd b=none:=by intro b h;simp only[kd,h]
  generalize GY:kd=UR at kd1 kd2 kd3 kd4;clear GY kd;generalize hE:(⟨fun j=>if j=id then some ⟨g',some (w.heap.size,nc),ei.size,es.length+ys.length⟩ else e j,e.z,UR⟩:An)=e';have e1:e' id=some ⟨g',some (w.heap.size,nc),ei.size,es.length+ys.length⟩:=by subst hE;simp
  have e2:∀j,j≠id->e' j=e j:=by intro j hj;subst hE;simp[hj]
  have e3:e'.z=e.z:=by subst hE;rfl
  have e4:e'.kid=UR:=by subst hE;rfl
  have Ds:∀b,BN e' b->b=w.heap.size\/(BN e b/\¬∃cap,ee.blk=some (b,cap)):=by
   rintro b ⟨j,ej,c,h1,h2⟩;by_cases hj:j=id
   ·subst hj;rw[e1] at h1;cases h1;cases h2;exact .inl rfl
   rw[e2 j hj] at h1;refine .inr ⟨⟨j,ej,c,h1,h2⟩,?_⟩;rintro⟨CZ,h3⟩;exact hj (p.hr.inj _ _ _ _ _ _ _ h1 he h2 h3)
  have Ky:∀b,b<w.heap.size->AQ e' b->AQ e b:=by
   rintro b Aa (ho|⟨B,c,CV,ho⟩)
   ·rcases Ds b ho with rfl|⟨h,_⟩
    ·omega
    exact .inl h
   rw[e4] at CV;obtain⟨B0,h1,h2⟩:=kd1 _ _ _ CV;rcases h2 with ⟨⟨CZ,h2⟩,rfl⟩|⟨h2,rfl⟩
   ·exact .inr ⟨B0,c,h1,⟨id,ee,CZ,he,h2⟩⟩
   rcases Ds B ho with rfl|⟨h,_⟩
   ·have:=(p.hr.kl _ _ _ h1).2.1;omega
   exact .inr ⟨B,c,h1,h⟩
  have ext:AB w e G w' e' (gadd G g):=by
   refine AB.mk' OF.size (fun _ h=> .inl h) e3 Ky (fun b hb _=>OF.same b hb) fun j ej hj hG=>?_;by_cases EB:j=id
   ·subst EB;rw[e1] at hj;cases hj;exact⟨ee,he,Bo,hk, .inr (by rw[hn];show es.length<es.length+ys.length;omega)⟩
   rw[e2 j EB] at hj;exact⟨ej,hj,rfl,rfl, .inl ⟨rfl,rfl⟩⟩
  refine⟨_,w',e',rfl,?_,ext,p.ln.step p.fr.size ext e3 Ky,p.fr.grow OF, .inl ⟨_,rfl,?_⟩⟩
  ·refine p.hr.step (fun j=>j=id) ext e3 (fun j hj=>⟨e2 j hj,vx7⟩) (fun j ej b1 c1 hj Ca BG=>⟨OF.same b1 (p.hr.lt _ _ _ _ Ca BG),fun b2 c2 Ch=>⟨OF.same b2 (p.hr.kl _ _ _ Ch).1,?_⟩⟩)
    (fun j hj Ei=>by subst hj;simp only[List.cons_append,List.nil_append] at Ei;rw[Hp.get_cons_same] at Ei;cases Ei) (fun j gj obj hj EV=>?_) (fun j ej b1 c1 hj Ca BG=>?_) (fun b1 B c1 Bi=>?_) (fun b1 ho=>?_) (fun b1 B c1 Bi=>?_)
   ·rw[e4];refine kd2 _ _ _ Ch ?_;rintro⟨CZ,h⟩;exact hj (p.hr.inj _ _ _ _ _ _ _ Ca he BG h)
   ·subst hj;simp only[List.cons_append,List.nil_append] at EV;rw[Hp.get_cons_same] at EV;cases EV;refine⟨_,e1,rfl, .inl (by rw[<-Bo];exact JG),rfl,sM,DG,Wi AJ Bq.lens,Wj q1 Bq.one,h2,vy9,_,(.of JR),?_,?_⟩
    ·rw[List.size_toArray,aL,aL,r1,Bq.len,h3,<-Nat.add_mul,<-Nat.add_mul];congr 1;omega
    refine TF (R:=fun c v x=>VC w' e' (gadd G g) w.heap.size c v x) (zs:=zs) r1 Bq.len rfl rfl AJ Bq.lens (fun i hi j hj=>?_) (fun i hi j hj=> .val _ _ ((Bq.vals i hi j hj).ext ext));cases Al:ee.blk with
    |none=>have:=r6 Al;subst this;simp at hi|some q=>obtain⟨b,bcap⟩:=q;refine(r5 b bcap Al i hi j hj).ext ext fun b1 BP=>⟨OF.same b1 (p.hr.kl _ _ _ BP).1,?_⟩;rw[e4];exact kd3 _ _ _ bcap BP Al
   ·subst hj;rw[e1] at Ca;cases Ca;cases BG;refine⟨oM,iL p.ln p.fr (lR _),fun j' Mb c' Ah Gr=>?_⟩;by_cases h:j'=j
    ·exact h
    rw[e2 j' h] at Ah;have:=p.hr.lt _ _ _ _ Ah Gr;omega
   ·rw[e4] at Bi;obtain⟨B0,h1,h2⟩:=kd1 _ _ _ Bi;obtain⟨q1,q2,q3⟩:=p.hr.kl _ _ _ h1;refine⟨oM,?_,q3⟩;rcases h2 with ⟨_,rfl⟩|⟨_,rfl⟩<;>omega
   ·rw[e4];rcases Ds b1 ho with rfl|⟨h,_⟩
    ·refine kd4 _ ?_;cases Bi:e.kid w.heap.size with
     |none=>rfl|some q=>have:=(p.hr.kl _ q.1 q.2 Bi).1;omega
    exact kd4 _ (p.hr.ko _ h)
   rw[e4] at Bi ⊢;obtain⟨B0,h1,h2⟩:=kd1 _ _ _ Bi;rcases h2 with ⟨_,rfl⟩|⟨_,rfl⟩
   ·refine kd4 _ ?_;cases Bi:e.kid w.heap.size with
    |none=>rfl|some q=>have:=(p.hr.kl _ q.1 q.2 Bi).1;omega
   exact kd4 _ (p.hr.kk _ _ _ h1)
  refine .l _ _ _ _ _ (.inl (by rw[<-Bo];exact JG)) rfl fun Au AP _=>?_;rw[e1] at AP;cases AP;exact⟨sM,fun _=>⟨nc,sM,sM,h1⟩⟩
 unfold Ex at AI;cases Al:ee.blk with
 |none=>rw[Al] at AI hb;obtain⟨_,h0,a,rfl⟩:=AI;subst hb;exact grow a 0 [] rfl oM sM sM (fun _=>⟨rfl,rfl⟩) ⟨fun _ _ h=>(by rw[Al] at h;cases h),fun _=>rfl⟩
 |some q=>
  obtain⟨b,bcap⟩:=q;rw[Al] at AI hb;obtain⟨cap,rfl,H5,F4⟩:=AI;obtain⟨OO,Ib,cs,hh,Be,hv⟩:=hb;simp only[Nat.zero_add] at H5;subst H5;have FJ:es.length*ei.size<=cs.size:=by rw[Be];exact Nat.mul_le_mul_right _ Ib
  by_cases If:es.length+ys.length<=cap
  ·obtain⟨b',QH,CZ,KP,Hu⟩:=Bq.at_.resolve_left oM;obtain⟨ie,hi,XM,_,_⟩:=hf.info;have uB:es.length*ei.size+news.length<=cs.size:=by rw[Bq.len,Be,<-Nat.add_mul];exact Nat.mul_le_mul_right _ If
   have AL:=Qex (P:=C.P) t ty hu hi b es.length cap hh ⟨b',QH,none⟩ ys.length CZ news (by rw[XM];exact Bq.len) Hu (Bq.oneCell DG) If (by rw[XM];exact uB);rw[<-KP] at AL;simp only[Nat.zero_mul];rw[AL,Result.andThen_ok,XM];have Dl:BN e b:=⟨id,ee,cap,he,Al⟩;generalize Hv:(cs.toList.take (es.length*ei.size)++news++cs.toList.drop (es.length*ei.size+news.length)).toArray=AO;have e1:Ed e id (some ⟨g',some (b,cap),ei.size,es.length+ys.length⟩) id=some ⟨g',some (b,cap),ei.size,es.length+ys.length⟩:=Hq _ _ _;have Ds:∀b1,BN (Ed e id (some ⟨g',some (b,cap),ei.size,es.length+ys.length⟩)) b1->BN e b1:=by
    rintro b1 ⟨j,ej,c1,q1,q2⟩;by_cases hj:j=id
    ·subst hj;rw[e1] at q1;cases q1;cases q2;exact Dl
    rw[Ir _ _ hj] at q1;exact⟨j,ej,c1,q1,q2⟩
   have Ky:∀b1,AQ (Ed e id (some ⟨g',some (b,cap),ei.size,es.length+ys.length⟩)) b1->AQ e b1:=by
    rintro b1 (ho|⟨B,c1,Bi,ho⟩)
    ·exact .inl (Ds _ ho)
    exact .inr ⟨B,c1,Bi,Ds _ ho⟩
   have fU:∀b',¬AQ e b'->(w.setRow b AO).heap[b']?=w.heap[b']?:=fun b' SA=>setRow_other w b b' AO (by rintro rfl;exact SA (.inl Dl));have ext:AB w e G (w.setRow b AO) (Ed e id (some ⟨g',some (b,cap),ei.size,es.length+ys.length⟩)) (gadd G g):=by
    refine AB.mk' sM (fun _ h=> .inl h) rfl (fun b1 _ ho=>Ky b1 ho) (fun b' _ SA=>fU b' SA) fun j ej hj hG=>?_;by_cases EB:j=id
    ·subst EB;rw[e1] at hj;cases hj;exact⟨ee,he,Bo,hk, .inr (by rw[hn];show es.length<es.length+ys.length;omega)⟩
    rw[Ir _ _ EB] at hj;exact⟨ej,hj,rfl,rfl, .inl ⟨rfl,rfl⟩⟩
   have kidne:∀b2 B2 c2,e.kid b2=some (B2,c2)->b2≠b:=by rintro b2 B2 c2 Ch rfl;have:=p.hr.ko b2 Dl;rw[Ch] at this;cases this
   refine⟨_,_,_,rfl,?_,ext,p.ln.step p.fr.size ext rfl (fun b1 _ ho=>Ky b1 ho),p.fr.step p.ln rfl rfl rfl sM (fun b' _ SA=>fU b' SA), .inl ⟨_,rfl,?_⟩⟩
   ·refine p.hr.step (fun j=>j=id) ext rfl (fun j hj=>⟨Ir _ _ hj,vx7⟩)
     (fun j ej b1 c1 hj Ca BG=>⟨setRow_other w b b1 AO ?_,fun b2 c2 Ch=>⟨setRow_other w b b2 AO (kidne _ _ _ Ch),Ch⟩⟩)
     (fun j hj Ei=>by subst hj;simp only[List.cons_append,List.nil_append] at Ei;rw[Hp.get_cons_same] at Ei;cases Ei) (fun j gj obj hj EV=>?_) (fun j ej b1 c1 hj Ca BG=>?_)
     (fun b1 B c1 Bi=>by simpa using p.hr.kl b1 B c1 Bi) (fun b1 ho=>p.hr.ko b1 (Ds _ ho)) p.hr.kk
    ·rintro rfl;exact hj (p.hr.inj _ _ _ _ _ _ _ Ca he BG Al)
    ·subst hj;simp only[List.cons_append,List.nil_append] at EV;rw[Hp.get_cons_same] at EV;cases EV;refine⟨_,e1,rfl, .inl (by rw[<-Bo];exact JG),rfl,sM,DG,Wi AJ Bq.lens,Wj q1 Bq.one,OO,by simpa using If,_,hh.setRow ?_,?_,?_⟩
     ·subst Hv;simp only[List.size_toArray,aL,List.length_take,List.length_drop,Array.length_toList];omega
     ·subst Hv;simp only[List.size_toArray,aL,List.length_take,List.length_drop,Array.length_toList];omega
     subst Hv;have r1:(cs.toList.take (es.length*ei.size)).length=es.length*ei.size:=vv2;refine TF (R:=fun c v x=>VC _ _ (gadd G g) b c v x) r1 Bq.len rfl rfl AJ Bq.lens (fun i Jb j Ah=>?_) (fun i hi j hj=> .val _ _ ((Bq.vals i hi j hj).ext ext));have Aa:i*ei.size+j<es.length*ei.size:=LH Jb (by have:=AJ i Jb;omega);rw[gE,List.getElem?_take,iP Aa,Array.getElem?_toList,<-gA];exact(hv i Jb j Ah).ext ext fun b1 BP=>⟨setRow_other w b b1 _ (kidne _ _ _ BP),BP⟩
    subst hj;rw[e1] at Ca;cases Ca;cases BG;refine⟨by simpa using p.hr.lt _ _ _ _ he Al,p.hr.nz _ _ _ _ he Al,fun j' Mb c' Ah Gr=>?_⟩;by_cases h:j'=j
    ·exact h
    rw[Ir _ _ h] at Ah;exact p.hr.inj _ _ _ _ _ _ _ Ah he Gr Al
   refine .l _ _ _ _ _ (.inl (by rw[<-Bo];exact JG)) rfl fun Au AP _=>?_;rw[e1] at AP;cases AP;exact⟨sM,fun _=>⟨cap,sM,sM,If⟩⟩
  refine grow (some ⟨b,0*ee.k,none⟩) cap ((List.range (es.length*ei.size)).map fun j=>cs.getD j undef) rfl oM sM ?_ sM ⟨?_,fun h=>by rw[Al] at h;cases h⟩
  ·rintro j v hj ad ⟨⟩;refine Y6 (b:=b) (off:=0*ee.k) _ (fun j hj=>?_) j v hj;rw[Nat.zero_mul,Nat.zero_add];exact hh.cellD oM
  intro b0 bcap0 Hs i Ar j hj;rw[Al] at Hs;cases Hs;rw[Y7 _ (LH Ar (by have:=AJ i Ar;omega))];exact hv i Ar j hj
theorem QaI (p:Bt C e G g hp w) (hT:B4 C.P T) {t ty did el:Nat} (Bf:(tl T t).ty= .slice el) {d x:AV} {xd xx:Value} (hd:VR w (UE e) e G d xd) (hx:VR w (UE e) e G x xx) (h:(J9 T t did g hp d x).1):
  Bb C e G g hp w (J9 T t did g hp d x) (((Builtin.append_ #[t,t] ty #[xd,xx]).run C.P w).andThen fun v w=> .ok (.value v) w):=by
 obtain⟨dd,hu,Ix⟩:=(hT.fit Bf sM).under;rw[Bf] at Ix;cases Ix;have AJ:elemOf T t=el:=by simp[elemOf,Bf]
 simp only[J9,AJ] at h ⊢;cases hs:Hj hp x with
 |none=>simp only[hs] at h;exact h.elim|some ys=>
  simp only[hs] at h ⊢;cases d with
  |sl es full=>
   cases full with
   |false=>exact h.elim|true=>
    simp only at h ⊢;by_cases FH:es.length=0
    ·rw[iP FH] at h ⊢;obtain rfl:es=[]:=List.eq_nil_of_length_eq_zero FH;obtain⟨⟨h1,h2,h3,h4,h5⟩,h6,h7,h8⟩:=h;obtain⟨news,Bq⟩:=Ps p.hr hx h1 hs oM h3 fun y hy c hc=>Tt (h4 y hy c hc);obtain⟨a,cap,YA,_,Qj⟩:=hd.slice_cap;obtain rfl:cap=0:=Qj rfl;subst YA;have:=nw (P:=True) (ty:=ty) p hu (hT.fits h2) h2 (did:=did) (a:=a) Bq h7 h8;exact Bb.attach (Q:=True) (es:=[]) this h6 h4 h5
    rw[iN FH] at h ⊢;by_cases YC:ys.length=0
    ·rw[iP YC] at h ⊢;obtain rfl:ys=[]:=List.eq_nil_of_length_eq_zero YC;obtain⟨h1,h2,h3,h4,h5⟩:=h;obtain⟨news,Bq⟩:=Ps p.hr hx h1 hs oM h3 fun y hy c hc=>Tt (h4 y hy c hc);obtain⟨a',CZ,rfl⟩:=Bq.shape;have RU:=hd.sl_inv.full;obtain⟨a,cap,YA,Gs,_⟩:=hd.slice_cap;subst YA;rw[show([]:List AV).length=0 from rfl,Zt (P:=C.P) hu (hT.fits h2) ty a a' _ cap CZ Gs w,Result.andThen_ok];exact Bb.pure p (.dat _ _ RU)
    rw[iN YC] at h ⊢;obtain⟨⟨h1,h2,h3,h4,h5⟩,h6,⟨h9,C8⟩,h7,h8⟩:=h;obtain⟨news,Bq⟩:=Ps p.hr hx h1 hs oM h3 fun y hy c hc=>Tt (h4 y hy c hc);have:=nv (P:=True) (ty:=ty) p hu (hT.fits h2) h2 (did:=did) hd h9 C8 Bq oM h7 h8;exact Bb.attach (Q:=True) this h6 h4 h5
  |l id g' off len=>
   simp only at h ⊢;cases hg:hp.get id with
   |none=>simp only[hg] at h;exact h.elim|some q=>
    obtain⟨g'',ob⟩:=q;cases ob with
    |box cs=>simp only[hg] at h;exact h.elim|mp _=>simp only[hg] at h;exact h.elim|ms _=>simp only[hg] at h;exact h.elim|bd _ _ _=>simp only[hg] at h;exact h.elim|own e' k es=>simp only[hg] at h ⊢;obtain⟨⟨h1,h2,h3,h4,h5⟩,h6,rfl,rfl,rfl,rfl,rfl,h7,h8⟩:=h;obtain⟨news,Bq⟩:=Ps p.hr hx h1 hs oM h3 fun y hy c hc=>Tt (h4 y hy c hc);exact Bb.attach (Q:=True) (ny (P:=True) (ty:=ty) p hu (hT.fits h2) h2 hd hg Bq h7 h8) h6 h4 h5
  |_=>exact h.elim
end
open Go Go.Great
section
variable {C:Cx} {e:An} {G:Nat->Prop} {g:Nat} {hp:Hp} {w:World} {T:AE}
theorem xP {P:Program} {t:Nat} {ti:TI} (hf:Di P t ti) (h:ti.size=1):(P.info? t).map (·.size)=some 1:=by obtain⟨i,h1,h2,_⟩:=hf.info;simp[h1,h2,h]
theorem AU.same_get {hp':Hp} (h:AU w e G hp) (hh:∀i,hp'.get i=hp.get i):AU w e G hp':=h.congr (fun _=>Iff.rfl) hh
theorem QeB {P:Program} (w:World) (dT sT ty elem:TypeId) (b o dLen dCap:Nat) (a:Addr) (sLen sCap:Nat) (cur:Array Value) (t:TypeId) (cs:List Value)
  (hu:P.underlying dT=some (.slice elem)) (hs:(P.info? elem).map (·.size)=some 1) (hg:Cl w b cur t) (hn:cs.length=Nat.min sLen dLen)
  (Bq:∀j v,cs[j]?=some v->w.cell? (a.add j)=some v) (FJ:o+cs.length<=cur.size) (h1:∀v∈cs,v.oneCell'=true):
  (Builtin.copy_ #[dT,sT] ty #[.slice (some ⟨b,o,none⟩) dLen dCap, .slice (some a) sLen sCap]).run P w=
   .ok (goInt cs.length) (w.setRow b (cur.toList.take o++cs++cur.toList.drop (o+cs.length)).toArray):=by
 obtain⟨fz,hg,Uu⟩:=hg;have hl:=run_loadCells_list (P:=P) w a cs Bq;have AM:=Qhr (P:=P) (off:=o) cs 0 cur w hg Uu (by simpa using FJ) h1;cases hq:P.info? elem with
 |none=>simp[hq] at hs|some i=>
  have hi:i.size=1:=by simpa[hq] using hs
  simp[Builtin.copy_,run_underlying hu,Builtin.lenOf,Builtin.firstCells,sizeOf,typeInfo,hq,hi,<-hn,hl,AM]
theorem QaK (p:Bt C e G g hp w) (hT:B4 C.P T) {t st ty:Nat} {d x:AV} {xd xx:Value} (hd:VR w (UE e) e G d xd) (hx:VR w (UE e) e G x xx) (h:(SS T t hp d x).1):
  Bb C e G g hp w (SS T t hp d x) (((Builtin.copy_ #[t,st] ty #[xd,xx]).run C.P w).andThen fun v w=> .ok (.value v) w):=by
 unfold SS at h ⊢;split at h
 ·rename_i el id g' off len ys Bf hs;split at h
  ·rename_i g'' t' k es hg;obtain⟨rfl,hl,rfl,Iy,Fq,h1,h2,h0⟩:=h;obtain⟨dd,hu,Ix⟩:=(hT.fit Bf sM).under;rw[Bf] at Ix;cases Ix;have hf:=hT.fits (t:=el) oM;have D0:=xP hf Iy;obtain⟨ee,he,Bo,hn,AI,A8⟩:=LO p.hr hd hg hl;obtain⟨hk,_,Ck,A3,q1,hb⟩:=A8;obtain⟨news,Bq⟩:=Ps p.hr hx Fq hs (k:=1) oM h1 fun y hy c hc=>(h2 y hy c hc).2;obtain⟨a,cap,Yi⟩:=Bq.shape;have Dc:news.length=ys.length:=by rw[Bq.len];omega
   unfold Ex at AI;cases Al:ee.blk with
   |none=>rw[Al] at AI;omega|some q=>
    obtain⟨b,bcap⟩:=q;rw[Al] at AI hb;obtain⟨dcap,rfl,H5,F4⟩:=AI;obtain⟨hm,Ib,cs,hh,Be,hv⟩:=hb;have Dl:BN e b:=⟨id,ee,bcap,he,Al⟩;generalize hN:min ys.length len=N;have AL:(Builtin.copy_ #[t,st] ty #[.slice (some ⟨b,off*ee.k,none⟩) len dcap,xx]).run C.P w=
      .ok (goInt N) (w.setRow b (cs.toList.take (off*ee.k)++news.take N++cs.toList.drop (off*ee.k+N)).toArray):=by
     by_cases hz:N=0
     ·subst Yi;rw[run_copy_none w t st ty el _ _ _ _ _ _ hu D0 (by show min ys.length len=0;omega)];subst hz;simp only[List.take_zero,List.append_nil,Nat.add_zero,List.take_append_drop,Array.toArray_toList];obtain⟨fz,hh,_⟩:=hh;rw[setRow_self w b cs t' fz hh];rfl
     obtain⟨b',QH,CZ,KP,Hu⟩:=Bq.at_.resolve_left oM;have hlen:(news.take N).length=N:=vv2;have:=QeB (P:=C.P) w t st ty el b (off*ee.k) len dcap ⟨b',QH,none⟩ ys.length CZ cs t' (news.take N) hu D0 hh (by rw[hlen];exact hN.symm) (fun j v hj=>Hu j v (by
      rw[List.getElem?_take] at hj;split at hj
      ·exact hj
      cases hj)) (by rw[hlen,Be,hk];omega) (fun v hv=>Bq.oneCell oM v (List.mem_of_mem_take hv))
     rw[hlen,<-KP] at this;exact this
    rw[AL,Result.andThen_ok];have hlen:(news.take N).length=N:=vv2;have Bi:ee.k=1:=hk;subst Bo;refine(VB p he Al _ ?_ (.inl ⟨_,rfl, .dat _ _ (.lit _ rfl)⟩)).2;generalize Hv:(cs.toList.take (off*ee.k)++news.take N++cs.toList.drop (off*ee.k+N)).toArray=AO;have ext:=AB.write (w:=w) (g:=g) (G:=G) he Al AO;have Se:(es.take off++ys.take N++es.drop (off+N)).length=es.length:=vv2;have get1:∀i (hi:i<(es.take off++ys.take N++es.drop (off+N)).length),∃(_:i<es.length),(off<=i/\i<off+N/\∃(h':i - off<ys.length),(es.take off++ys.take N++es.drop (off+N))[i]=ys[i - off]/\AO.getD i undef=news.getD (i - off) undef)\/
      ((es.take off++ys.take N++es.drop (off+N))[i]=es[i]'oM/\AO.getD i undef=cs.getD i undef):=by
     intro i hi;have Bx:i<es.length:=oM;refine⟨Bx,?_⟩;have RT:AO.getD i undef=if off<=i/\i<off+N then(news.take N).getD (i - off) undef else cs.getD i undef:=by rw[<-Hv,Bi,Nat.mul_one];have:=TX (cur:=cs.toList) (vs:=news.take N) (off:=off) (j:=i) (by rw[hlen,Array.length_toList,Be];omega);rw[hlen] at this;rw[this]
     by_cases hr:off<=i/\i<off+N
     ·left
      have hy:i - off<ys.length:=oM;refine⟨hr.1,hr.2,hy,?_,?_⟩
      ·rw[List.getElem_append_left vv2,List.getElem_append_right vv2,List.getElem_take];congr 1
       simp;omega
      rw[RT,iP hr,gE,gE,List.getElem?_take,iP oM]
     right
     refine⟨?_,by rw[RT,iN hr]⟩;by_cases h1:i<off
     ·rw[List.getElem_append_left vv2,List.getElem_append_left vv2,List.getElem_take]
     rw[List.getElem_append_right vv2,List.getElem_drop];congr 1
     simp;omega
    refine⟨hk,by rw[hn,Se],Ck,?_,?_,?_⟩
    ·intro i hi;obtain⟨Bx,⟨_,_,h',h3,_⟩|⟨h3,_⟩⟩:=get1 i hi
     ·rw[h3];exact Bq.lens _ h'
     rw[h3];exact A3 _ _
    ·intro i hi j hj;obtain⟨Bx,⟨_,_,h',h3,_⟩|⟨h3,_⟩⟩:=get1 i hi
     ·simp only[h3] at hj ⊢;exact Bq.one _ h' _ _
     simp only[h3] at hj ⊢;exact q1 _ _ _ _
    rw[Al];refine⟨hm,by rw[Se];exact Ib,AO,hh.setRow ?_,?_,?_⟩
    ·rw[<-Hv,Be,Bi];simp only[List.size_toArray,aL,List.length_take,List.length_drop,Array.length_toList];omega
    ·rw[<-Hv,Bi];simp only[List.size_toArray,aL,List.length_take,List.length_drop,Array.length_toList];omega
    intro i hi j hj;obtain⟨Bx,⟨h5,h6,h',h3,h4⟩|⟨h3,h4⟩⟩:=get1 i hi
    ·have JN:j=0:=by simp only[h3] at hj;have:=Bq.lens _ h';omega
     subst JN;simp only[Nat.mul_one,Nat.add_zero,h4,h3];have:=Bq.vals _ h' 0 (by rw[Bq.lens _ h'];omega);simp only[Nat.mul_one,Nat.add_zero] at this;exact .val _ _ (this.ext ext)
    have JN:j=0:=by simp only[h3] at hj;have:=A3 _ Bx;omega
    subst JN;simp only[Nat.mul_one,Nat.add_zero,h4,h3];have:=hv _ Bx 0 (by rw[A3 _ Bx];omega);simp only[Nat.mul_one,Nat.add_zero] at this;refine this.ext ext fun b1 BP=>⟨setRow_other w b b1 AO ?_,BP⟩;rintro rfl;have:=p.hr.ko b1 Dl;rw[BP] at this;cases this
  exact h.elim
 exact h.elim
theorem ld {z:Array Value} {n k:Nat} (hz:z.size=k) {i j:Nat} (hi:i<n) (hj:j<k):(Builtin.zeroCells z n).toList.getD (i*k+j) undef=z.getD j undef:=by have Aa:=LH hi hj;have X0:=(Oe (i:=i) hj).2;simp only[Builtin.zeroCells,gE,Array.getElem?_toList,Array.getElem?_map,Array.getElem?_range,hz,Aa,if_true,Option.map_some,Option.getD_some,X0,gA];have:j<z.size:=oM;simp[this]
theorem QaJ (p:Bt C e G g hp w) (hT:B4 C.P T) {t ty:Nat} {d:AV} {xd:Value} (hd:VR w (UE e) e G d xd) (h:(Pf T t hp d).1):
  Bb C e G g hp w (Pf T t hp d) (((Builtin.clear_ #[t] ty #[xd]).run C.P w).andThen fun v w=> .ok (.value v) w):=by
 unfold Pf at h ⊢;split at h
 ·rename_i el id g' off len Bf;split at h
  ·rename_i g'' t' k es hg;obtain⟨rfl,hl,fE⟩:=h;obtain⟨dd,hu,Ix⟩:=(hT.fit Bf sM).under;rw[Bf] at Ix;cases Ix;obtain⟨ee,he,Bo,hn,AI,A8⟩:=LO p.hr hd hg hl;obtain⟨hk,_,Ck,A3,q1,hb⟩:=A8;have hf:=hT.fits (t:=el) oM;obtain⟨v1,v2,v3⟩:=N1 (w:=w) hf (UE e);obtain⟨c1,c2,c3⟩:=Oc v1 v2;have gt:∀w' e' G',VR w' (UE e') e' G' (.tup []) (.tuple #[]):=fun w' e' G'=> .dat _ _ (.tup [] #[] rfl (fun i hi=>vy6))
   by_cases hz:len=0
   ·obtain⟨a,cap,rfl⟩:=AI.shape;subst hz;have AL:(Builtin.clear_ #[t] ty #[.slice a 0 cap]).run C.P w= .ok (.tuple #[]) w:=by cases a<;>simp[Builtin.clear_,run_underlying hu]
    rw[AL,Result.andThen_ok];have x1:=AB.wide w e G g;refine⟨_,w,e,rfl,p.hr.wide.same_get fun j=>?_,x1,p.ln.wide g,p.fr, .inl ⟨_,rfl,gt _ _ _⟩⟩;simp only[List.cons_append,List.nil_append,List.replicate_zero,List.append_nil];by_cases hj:j=id
    ·subst hj;rw[Hp.get_cons_same,hg,List.take_of_length_le oM]
    rw[Hp.get_cons_other _ _ hj]
   unfold Ex at AI;cases Al:ee.blk with
   |none=>rw[Al] at AI;omega|some q=>
    obtain⟨b,bcap⟩:=q;rw[Al] at AI hb;obtain⟨cap,rfl,H5,F4⟩:=AI;obtain⟨hm,Ib,cs,hh,Be,hv⟩:=hb;have Dl:BN e b:=⟨id,ee,bcap,he,Al⟩;have D2:(tl T el).zval.cells.size=k:=by rw[c1,v3,fE]
    have G8:(Builtin.zeroCells (tl T el).zval.cells len).toList.length=len*k:=by rw[Array.length_toList,size_zeroCells,D2]
    have FJ:off*k+len*k<=cs.size:=by rw[Be,<-Nat.add_mul];exact Nat.mul_le_mul_right _ oM
    obtain⟨fz,NA,Uu⟩:=hh;have hh:Cl w b cs t':=⟨fz,NA,Uu⟩;have AM:=Qhr (P:=C.P) (off:=off*ee.k) (Builtin.zeroCells (tl T el).zval.cells len).toList 0 cs w NA Uu (by rw[hk,G8];omega) (by
     intro v wZ;obtain⟨i,hi,rfl⟩:=List.getElem_of_mem wZ;have DQ:i<len*k:=by rw[<-G8];exact hi
     have e1:i / k*k+i % k=i:=by rw[Nat.mul_comm];exact Nat.div_add_mod i k
     have:=ld (n:=len) D2 (i:=i / k) (j:=i % k) ((Nat.div_lt_iff_lt_mul Ck).2 DQ) (Nat.mod_lt _ Ck);rw[e1,gE,gG hi] at this;simp only[Option.getD_some] at this;rw[this];have Aa:i % k<(tl T el).zval.cells.size:=by rw[D2];exact Nat.mod_lt _ Ck
     rw[gA,Array.getElem?_eq_getElem Aa];exact c3 _ (Array.getElem_mem _))
    have AL:(Builtin.clear_ #[t] ty #[.slice (some ⟨b,off*ee.k,none⟩) len cap]).run C.P w=
      .ok (.tuple #[]) (w.setRow b (cs.toList.take (off*ee.k)++(Builtin.zeroCells (tl T el).zval.cells len).toList++cs.toList.drop (off*ee.k+len*k)).toArray):=by
     match len,hz with
     |n+1,_=>simp[Builtin.clear_,run_underlying hu,Vb hf,AM,G8]
    rw[AL,Result.andThen_ok];subst Bo;refine(VB p he Al _ ?_ (.inl ⟨_,rfl,gt _ _ _⟩)).2;generalize Hv:(cs.toList.take (off*ee.k)++(Builtin.zeroCells (tl T el).zval.cells len).toList++cs.toList.drop (off*ee.k+len*k)).toArray=AO;have ext:=AB.write (w:=w) (g:=g) (G:=G) he Al AO;have Se:(es.take off++List.replicate len (tl T el).zav).length=es.length:=vv2;have get1:∀i (hi:i<(es.take off++List.replicate len (tl T el).zav).length),∃(_:i<es.length),((es.take off++List.replicate len (tl T el).zav)[i]=(tl T el).zav/\∀j,j<k->AO.getD (i*k+j) undef=(tl T el).zval.cells.getD j undef)\/
      ((es.take off++List.replicate len (tl T el).zav)[i]=es[i]'oM/\∀j,j<k->AO.getD (i*k+j) undef=cs.getD (i*k+j) undef):=by
     intro i hi;have Bx:i<es.length:=oM;refine⟨Bx,?_⟩;have RT:∀c,AO.getD c undef=if off*k<=c/\c<off*k+len*k then(Builtin.zeroCells (tl T el).zval.cells len).toList.getD (c - off*k) undef else cs.getD c undef:=by intro c;rw[<-Hv,hk];have:=TX (cur:=cs.toList) (vs:=(Builtin.zeroCells (tl T el).zval.cells len).toList) (off:=off*k) (j:=c) (by rw[G8,Array.length_toList];omega);rw[G8] at this;rw[this]
     by_cases hr:i<off
     ·right
      refine⟨by rw[List.getElem_append_left vv2,List.getElem_take],fun j hj=>?_⟩;rw[RT,iN];have:i*k+j<off*k:=LH hr hj;omega
     left
     refine⟨by rw[List.getElem_append_right vv2];simp,fun j hj=>?_⟩;have h1:off*k<=i*k:=Nat.mul_le_mul_right _ oM;have h2:i*k+j<(off+len)*k:=LH oM hj;rw[Nat.add_mul] at h2;rw[RT,iP ⟨oM,h2⟩];have h3:i*k+j - off*k=(i - off)*k+j:=by rw[Nat.sub_mul];omega
     rw[h3];exact ld D2 oM hj
    refine⟨hk,by rw[hn,Se],Ck,?_,?_,?_⟩
    ·intro i hi;obtain⟨Bx,⟨h3,_⟩|⟨h3,_⟩⟩:=get1 i hi
     ·rw[h3,v3,fE]
     rw[h3];exact A3 _ _
    ·intro i hi j hj;obtain⟨Bx,⟨h3,_⟩|⟨h3,_⟩⟩:=get1 i hi
     ·simp only[h3] at hj ⊢;exact v2 _ (gM _)
     simp only[h3] at hj ⊢;exact q1 _ _ _ _
    rw[Al];refine⟨hm,by rw[Se];exact Ib,AO,hh.setRow ?_,?_,?_⟩
    ·rw[<-Hv,hk];simp only[List.size_toArray,aL,List.length_take,List.length_drop,Array.length_toList,size_zeroCells,D2];omega
    ·rw[<-Hv,hk];simp only[List.size_toArray,aL,List.length_take,List.length_drop,Array.length_toList,size_zeroCells,D2];omega
    intro i hi j hj;obtain⟨Bx,⟨h3,h4⟩|⟨h3,h4⟩⟩:=get1 i hi
    ·have Db:j<k:=by simp only[h3,v3] at hj;omega
     have Ah:j<(tl T el).zav.cells.length:=oM;rw[h4 j Db];simp only[h3];exact .val _ _ (.dat _ _ ((c2 j Ah).mono ext.size ext.un ext.same))
    have Db:j<k:=by simp only[h3] at hj;have:=A3 _ Bx;omega
    rw[h4 j Db];simp only[h3] at hj ⊢;refine(hv _ Bx j hj).ext ext fun b1 BP=>⟨setRow_other w b b1 AO ?_,BP⟩;rintro rfl;have:=p.hr.ko b1 Dl;rw[BP] at this;cases this
  exact h.elim
 exact h.elim
theorem bq:∀{ys:List AV} {bs:List UInt8},bytesOf ys=some bs->∃ns:List Int,ys=ns.map (fun n=> .lit (.int .u8 n))/\bs=ns.map fun n=>UInt8.ofNat n.toNat
 |[],bs,h=>by simp only[bytesOf,Option.some.injEq] at h;subst h;exact⟨[],rfl,rfl⟩|y::ys,bs,h=>by
  unfold bytesOf at h;split at h
  .rename_i heq;cases heq
  .rename_i n heq;cases heq
   cases hb:bytesOf ys with
   |none=>rw[hb] at h;cases h
   |some bs'=>rw[hb] at h;simp only[Option.map_some,Option.some.injEq] at h;obtain⟨ns,h1,h2⟩:=bq hb;subst h1 h2 h;exact⟨_::ns,rfl,rfl⟩
  cases h
theorem QbQ (ns:List Int):∀s:ByteArray,ns.foldl (fun r n=>r.push (UInt8.ofNat n.toNat)) s=⟨(s.data.toList++ns.map fun n=>UInt8.ofNat n.toNat).toArray⟩:=by
 induction ns with
 |nil=>intro s;cases s;simp
 |cons n ns ih=>
  intro s;rw[List.foldl_cons,ih];congr 1
  cases s
  simp[ByteArray.push]
theorem o7 (p:Bt C e G g hp w) {src dst el:Nat} (hs:C.P.underlying src=some (.slice el)) (he:C.P.underlying el=some (.int .u8)) (hd:C.P.underlying dst=some .string) {v:AV} {x:Value} (hx:VR w (UE e) e G v x)
  {ys:List AV} (Yn:Hj hp v=some ys) (Fq:Jo hp v) {bs:List UInt8} (hb:bytesOf ys=some bs) {P:Prop}:
  Bb C e G g hp w (P, .lit (.string (strOf bs)),[]) (((convert src dst x).run C.P w).andThen fun v w=> .ok (.value v) w):=by
 obtain⟨ns,rfl,rfl⟩:=bq hb;obtain⟨news,Bq⟩:=Ps p.hr hx Fq Yn (k:=1) oM (by
  intro y hy;obtain⟨n,_,rfl⟩:=List.mem_map.1 hy;rfl) (by
  intro y hy c hc;obtain⟨n,_,rfl⟩:=List.mem_map.1 hy;simp only[AV.cells,List.mem_singleton] at hc;subst hc;rfl)
 obtain⟨a,cap,rfl⟩:=Bq.shape;rw[run_convert_bytes_string w src dst el a _ cap hs he hd];have KI:news=ns.map (Value.int .u8):=by
  apply List.ext_getElem?
  intro i;by_cases hi:i<ns.length
  .have h0:=Bq.vals i vv5 0 vz6;simp only[List.getElem_map,AV.cells,List.getElem_singleton,Nat.mul_one,Nat.add_zero] at h0;obtain⟨h1,_⟩:=h0.lit_inv;have A2:i<news.length:=by rw[Bq.len];simpa using hi
   rw[gE,gG A2] at h1;simp only[Option.getD_some] at h1;rw[gG A2,h1];simp[hi]
  rw[List.getElem?_eq_none (by rw[Bq.len];simp;omega),List.getElem?_eq_none vv2]
 have AL:(Conv.bytesToString (.slice a (ns.map fun n=>AV.lit (.int .u8 n)).length cap)).run C.P w= .ok (.string (strOf (ns.map fun n=>UInt8.ofNat n.toNat))) w:=by
  cases a with
  |none=>
   have:ns=[]:=by
    rcases Bq.at_ with h|⟨b,off,CZ,h,_⟩
    .simpa using h
    cases h
   subst this;simp[Conv.bytesToString,strOf,ByteArray.empty,ByteArray.emptyWithCapacity];rfl
  |some ad=>
   have hl:=run_loadCells_list (P:=C.P) w ad news (fun j v hj=>by
    rcases Bq.at_ with h|⟨b,off,CZ,h,hc⟩
    ·rw[List.getElem?_eq_none (by rw[Bq.len,h];omega)] at hj;cases hj
    cases h;exact hc j v hj)
   rw[Bq.len,Nat.mul_one,KI] at hl;rw[run_bytesToString w ad _ cap ns hl,QbQ];rfl
 rw[AL,Result.andThen_ok];exact .pure p (.dat _ _ (.lit _ rfl))
theorem qu {P:Program} (w:World) (d:Nat) {t:Nat} {z:ZC} {td:TypeDesc} (hu:P.underlying t=some td) (hz:z.eqs td) {a b:AV} {x y:Value} {U:Nat->Prop} {e:An} {G:Nat->Prop} (ha:VR w U e G a x) (hb:VR w U e G b y)
  (h:(Mc z a b).1):(Op.equalIn (d+1) t x y).run P w= .ok (Mc z a b).2 w:=by
 unfold Mc at h ⊢;split at h
 .obtain⟨rfl,_⟩:=ha.lit_inv;obtain⟨rfl,_⟩:=hb.lit_inv;obtain⟨k,rfl⟩:=hz;subst h;rw[run_equalIn_int w d t _ k _ _ hu];rfl
 .obtain⟨rfl,_⟩:=ha.lit_inv;obtain⟨rfl,_⟩:=hb.lit_inv;cases hz
  rw[run_equalIn_bool w d t _ _ hu]
 .obtain⟨rfl,_⟩:=ha.lit_inv;obtain⟨rfl,_⟩:=hb.lit_inv;cases hz
  rw[run_equalIn_string w d t _ _ hu,ByteArray.toList_eq,ByteArray.toList_eq];congr 1
  rw[Bool.eq_iff_iff];simp
 exact h.elim
theorem jf {P:Program} (w:World) {t o:Nat} {z:ZC} {td:TypeDesc} (hu:P.underlying t=some td) (hz:z.eqs td) {cs:Array Value} (Aa:o<cs.size):(part t cs o).run P w= .ok (cs.getD o undef) w:=by
 unfold part isAgg;rw[Sem.run_bind,Sem.run_bind,run_underlying hu];cases z<;>first|exact hz.elim|skip
 .obtain⟨k,rfl⟩:=hz;simp[Aa,gA]
 .cases hz;simp[Aa,gA]
 cases hz;simp[Aa,gA]
theorem Wv:∀{zs:List ZC} {az bs:List AV},(Ec zs az bs).1->az.length=zs.length/\bs.length=zs.length
 |[],[],[],_=>⟨rfl,rfl⟩|z::zs,a::az,b::bs,h=>by obtain⟨h1,h2⟩:=Wv h.2;exact⟨by simp[h1],by simp[h2]⟩
 |[],_::_,_,h=>h.elim|[],[],_::_,h=>h.elim|_::_,[],_,h=>h.elim|_::_,_::_,[],h=>h.elim
theorem cL:∀{z1 z2:List ZC} {az bs:List AV},(Ec (z1++z2) az bs).1->∃a1 a2 b1 b2,az=a1++a2/\bs=b1++b2/\(Ec z1 a1 b1).1/\(Ec z2 a2 b2).1/\(Ec (z1++z2) az bs).2=((Ec z1 a1 b1).2&&(Ec z2 a2 b2).2)
 |[],z2,az,bs,h=>⟨[],az,[],bs,rfl,rfl,trivial,h,by simp[Ec]⟩|z::z1,z2,a::az,b::bs,h=>by obtain⟨h1,h2⟩:=h;obtain⟨a1,a2,b1,b2,rfl,rfl,k1,k2,k3⟩:=cL (z1:=z1) h2;refine⟨a::a1,a2,b::b1,b2,rfl,rfl,⟨h1,k1⟩,k2,?_⟩;have e1:(Ec ((z::z1)++z2) (a::(a1++a2)) (b::(b1++b2))).2=((Mc z a b).2&&(Ec (z1++z2) (a1++a2) (b1++b2)).2):=rfl;have e2:(Ec (z::z1) (a::a1) (b::b1)).2=((Mc z a b).2&&(Ec z1 a1 b1).2):=rfl;rw[e1,e2,k3,Bool.and_assoc]
 |_::_,_,[],_,h=>h.elim|_::_,_,_::_,[],h=>h.elim
theorem qv {P:Program} (w:World) {U:Nat->Prop} {e:An} {G:Nat->Prop} {n o:Nat} {fs:List Field} {zs:List ZC} (hF:Im P n o fs zs):∀(d:Nat) (az bs:List AV) (xs ys:Array Value),n<=d->
  (∀i (h:i<az.length),VR w U e G az[i] (xs.getD (o+i) undef))->(∀i (h:i<bs.length),VR w U e G bs[i] (ys.getD (o+i) undef))->o+az.length<=xs.size->o+bs.length<=ys.size->
  (Ec zs az bs).1->(Op.eqFields (d+1) xs ys fs).run P w= .ok (Ec zs az bs).2 w:=by
 induction hF with
 |nil n o=>intro d az bs xs ys _ _ _ _ _ h;cases az<;>cases bs<;>first|exact h.elim|simp[Op.eqFields,Ec]
 |one n o f fs z zs td f1 f2 f3 f4 _ ih=>
  intro d az bs xs ys hd ha hb Gx Fp h;cases az with
  |nil=>exact h.elim|cons a az=>cases bs with
   |nil=>exact h.elim|cons b bs=>
    obtain⟨h1,h2⟩:=h;have a0:=ha 0 sM;have b0:=hb 0 sM;simp only[List.getElem_cons_zero,Nat.add_zero] at a0 b0;have XW:o<xs.size:=by simp at Gx;omega
    have Gv:o<ys.size:=by simp at Fp;omega
    have ih:=ih d az bs xs ys hd
     (fun i hi=>by have:=ha (i+1) vv5;simp only[List.getElem_cons_succ] at this;rw[show o+1+i=o+(i+1) from by omega];exact this)
     (fun i hi=>by have:=hb (i+1) vv5;simp only[List.getElem_cons_succ] at this;rw[show o+1+i=o+(i+1) from by omega];exact this)
     (by simp at Gx;omega) (by simp at Fp;omega) h2
    have heq:=qu w d f3 f4 a0 b0 h1;unfold Op.eqFields;rw[iP f1,Sem.run_bind,f2,jf w f3 f4 XW,Result.andThen_ok,Sem.run_bind,jf w f3 f4 Gv,Result.andThen_ok,Sem.run_bind,heq,Result.andThen_ok];unfold Ec;cases hr:(Mc z a b).2 with
    |true=>simp only[Bool.not_true,Bool.false_eq_true,if_false,Bool.true_and];exact ih|false=>simp
 |sub n o f fs z1 z2 i f1 f2 f3 f4 f5 f6 _ _ ih1 ih2=>
  intro d az bs xs ys hd ha hb Gx Fp h;obtain⟨a1,a2,b1,b2,rfl,rfl,k1,k2,k3⟩:=cL h;obtain⟨la,lb⟩:=Wv k1;rw[k3];obtain⟨d,rfl⟩:∃d',d=d'+1:=⟨d - 1,oM⟩;simp only[aL] at Gx Fp;have fW:∀cs:Array Value,(part f.type cs o).run P w= .ok (.agg (cs.extract o (o+z1.length))) w:=by intro cs;unfold part isAgg;simp[run_underlying f3,sizeOf,typeInfo,f5,f6,Result.andThen]
  have hex:∀(cs:Array Value) (i:Nat),i<z1.length->o+z1.length<=cs.size->(cs.extract o (o+z1.length)).getD (0+i) undef=cs.getD (o+i) undef:=by intro cs i hi hle;rw[gA,gA,Array.getElem?_extract,Nat.zero_add,iP oM]
  have q1:=ih1 d a1 b1 (xs.extract o (o+z1.length)) (ys.extract o (o+z1.length)) oM
   (fun i hi=>by
    have:=ha i vv2;rw[List.getElem_append_left hi] at this;rw[hex xs i oM oM];exact this)
   (fun i hi=>by
    have:=hb i vv2;rw[List.getElem_append_left hi] at this;rw[hex ys i oM oM];exact this)
   vv2 vv2 k1
  have q2:=ih2 (d+1) a2 b2 xs ys hd
   (fun i hi=>by
    have:=ha (a1.length+i) vv2;rw[List.getElem_append_right oM] at this;simp only[Nat.add_sub_cancel_left] at this;rw[show o+z1.length+i=o+(a1.length+i) from by omega];exact this)
   (fun i hi=>by
    have:=hb (b1.length+i) vv2;rw[List.getElem_append_right oM] at this;simp only[Nat.add_sub_cancel_left] at this;rw[show o+z1.length+i=o+(b1.length+i) from by omega];exact this)
   oM oM k2
  unfold Op.eqFields;rw[iP f1,Sem.run_bind,f2,fW,Result.andThen_ok,Sem.run_bind,fW,Result.andThen_ok,Sem.run_bind,run_equalIn_agg w (d+1) f.type _ _ f3 f4,q1,Result.andThen_ok];cases hr:(Ec z1 a1 b1).2 with
  |true=>simp only[Bool.not_true,Bool.false_eq_true,if_false,Bool.true_and];exact q2|false=>simp
theorem oP (p:Bt C e G g hp w) (hT:B4 C.P T) (op:BinOp) {t:Nat} {x y:Operand} {az bs:List AV} {xa xb:Value} (ha:VR w (UE e) e G (.agg az) xa) (hb:VR w (UE e) e G (.agg bs) xb) (h:(Ra op (tl T t) az bs).1):
  Bb C e G g hp w (Ra op (tl T t) az bs) (((do eqGuard op t x y xa xb;let v<-binOp op t xa xb;Pure.pure (Next.value v)):Sem Next).run C.P w):=by
 obtain⟨xs,rfl,BH,_,Jg⟩:=ha.agg_inv;obtain⟨ys,rfl,FL,_,Gy⟩:=hb.agg_inv;have main:(tl T t).eq=true->(Ec (tl T t).zs az bs).1->(eqGuard op t x y (.agg xs) (.agg ys)).run C.P w= .ok () w/\(Op.equalIn 10000 t (.agg xs) (.agg ys)).run C.P w= .ok (Ec (tl T t).zs az bs).2 w:=by
  intro h1 h3;have FJ:Di C.P t (tl T t):=by
   rcases hT t with h|h
   .rw[h] at h1;cases h1
   exact h
  obtain⟨q1,q2,q3,q4⟩:=FJ.eqs h1;obtain⟨k1,k2⟩:=Wv h3;refine⟨run_eqGuard_agg w op t x y xs ys q3,?_⟩;rw[run_equalIn_agg w 9999 t xs ys q1 q2];exact qv w (U:=UE e) (e:=e) (G:=G) q4 9998 az bs xs ys oM (fun i hi=>by rw[Nat.zero_add];exact Jg i hi) (fun i hi=>by rw[Nat.zero_add];exact Gy i hi) oM oM h3
 cases op<;>simp only[Ra,R.no,R.val] at h ⊢
 case eql=>
  obtain⟨h1,h2⟩:=main h.1 h.2;rw[Sem.run_bind,h1,Result.andThen_ok,Sem.run_bind,run_eql_struct,h2];simp only[Result.andThen_ok,Sem.run_pure];exact EP p _ _
 case neq=>
  obtain⟨h1,h2⟩:=main h.1 h.2;rw[Sem.run_bind,h1,Result.andThen_ok,Sem.run_bind,run_neq_struct,h2];simp only[Result.andThen_ok,Sem.run_pure];exact EP p _ _
 all_goals exact h.elim
end
end Go.Sym
