/- Lemmas towards scriptLines_card: no conditions of their own beyond those that each one states. -/
import Derived.WalkKit
import Derived.Laws.StructEq
import Derived.WalkSpells
import Derived.WalkLawsBesides
import Derived.Lib.Strings
import Derived.Great.BuildSlice
set_option linter.all false
set_option linter.unusedSimpArgs false
set_option linter.unusedVariables false
set_option linter.deprecated false
theorem Go.uDf (p : Prop) [Decidable p] (h : ¬ p := by omega) : decide p = false := decide_eq_false h
theorem Go.uDt (p : Prop) [Decidable p] (h : p := by omega) : decide p = true := decide_eq_true h
namespace Go.Sym
open Go
inductive AV where
 |bad
 |lit (v:Value)
 |agg (cs:List AV)
 |tup (vs:List AV)
 |sl (es:List AV) (full:Bool)
 |kid (t k:Nat) (es:List AV)
 |slO (id g off len:Nat)
 |ptI (cs:List AV)
 |ptO (id g n i off:Nat)
 |mpO (id g:Nat)
 |gl (g:Nat)
 |fn (f:FuncId) (caps:List AV)
 |bfn (f:FuncId) (first:List AV)
 |ifn
 |anyI (k:IntKind)
def AV.cells:AV->List AV
 | .agg cs=>cs
 |v=>[v]
def AV.one:AV->Bool
 | .bad| .agg _| .tup _=>false
 |_=>true
inductive Ob where
 |own (t k:Nat) (es:List AV)
 |box (cs:List AV)
 |mp (es:List (Int×Int))
 |ms (es:List (ByteArray×AV))
 |bd (t e:Nat) (bs:List UInt8)
inductive VD (w:World) (U:Nat->Prop):AV->Value->Prop
 |bad (v:Value):VD w U .bad v
 |lit (v:Value):v.oneCell'=true->VD w U (.lit v) v
 |agg (cs:List AV) (vs:Array Value):cs.length=vs.size->(∀i (h:i<cs.length),cs[i].one=true)->
   (∀i (h:i<cs.length),VD w U cs[i] (vs.getD i undef))->VD w U (.agg cs) (.agg vs)
 |tup (cs:List AV) (vs:Array Value):cs.length=vs.size->
   (∀i (h:i<cs.length),VD w U cs[i] (vs.getD i undef))->VD w U (.tup cs) (.tuple vs)
 |nil (full:Bool) (a:Option Addr):VD w U (.sl [] full) (.slice a 0 0)
 |sl (es:List AV) (full:Bool) (b off cap k:Nat) (f:Nat->Value):U b->b<w.heap.size->es.length<=cap->cap<=maxLen->(full=true->cap=es.length)->0<k->
   (∀i (h:i<es.length),es[i].cells.length=k)->
   (∀j,j<es.length*k->w.cell? ⟨b,off+j,none⟩=some (f j))->
   (∀i (h:i<es.length) j (h':j<es[i].cells.length),es[i].cells[j].one=true)->
   (∀i (h:i<es.length) j (h':j<es[i].cells.length),VD w U es[i].cells[j] (f (i*k+j)))->
   VD w U (.sl es full) (.slice (some ⟨b,off,none⟩) es.length cap)
 |ptI (cs:List AV) (b off:Nat) (f:Nat->Value):U b->b<w.heap.size->
   (∀j,j<cs.length->w.cell? ⟨b,off+j,none⟩=some (f j))->
   (∀j (h:j<cs.length),cs[j].one=true)->
   (∀j (h:j<cs.length),VD w U cs[j] (f j))->VD w U (.ptI cs) (.pointer (some ⟨b,off,none⟩))
 |gl (g:Nat):VD w U (.gl g) (.pointer (some ⟨g,0,none⟩))
 |fn (f:FuncId) (cs:List AV) (vs:Array Value):cs.length=vs.size->
   (∀i (h:i<cs.length),VD w U cs[i] (vs.getD i undef))->VD w U (.fn f cs) (.func (.func f) #[] vs)
 |ifn (t:Nat) (p:Value):VD w U .ifn (.iface t p)
 |anyI (k:IntKind) (n:Int):VD w U (.anyI k) (.int k n)
structure EE where
 g:Nat
 blk:Option (Nat×Nat)
 k:Nat
 n:Nat
structure Env where
 m:Nat->Option EE
 z:Nat->Prop
 kid:Nat->Option (Nat×Nat)
instance:CoeFun Env (fun _=>Nat->Option EE):=⟨Env.m⟩
def ObjB (e:Env) (b:Nat):Prop:=∃id ee c,e id=some ee/\ee.blk=some (b,c)
def OwnB (e:Env) (b:Nat):Prop:=ObjB e b\/∃B c,e.kid b=some (B,c)/\ObjB e B
def UE (e:Env) (b:Nat):Prop:=¬e.z b/\¬OwnB e b
def SlOK (ee:EE) (off len:Nat) (v:Value):Prop:=
 match ee.blk with
 |none=>off=0/\len=0/\∃a,v= .slice a 0 0
 |some (b,bcap)=>∃cap,v= .slice (some ⟨b,off*ee.k,none⟩) len cap/\off+cap=bcap/\len<=cap
inductive VR (w:World) (U:Nat->Prop) (e:Env) (G:Nat->Prop):AV->Value->Prop
 |dat (av:AV) (v:Value):VD w U av v->VR w U e G av v
 |agg (cs:List AV) (vs:Array Value):cs.length=vs.size->(∀i (h:i<cs.length),cs[i].one=true)->
   (∀i (h:i<cs.length),VR w U e G cs[i] (vs.getD i undef))->VR w U e G (.agg cs) (.agg vs)
 |tup (cs:List AV) (vs:Array Value):cs.length=vs.size->
   (∀i (h:i<cs.length),VR w U e G cs[i] (vs.getD i undef))->VR w U e G (.tup cs) (.tuple vs)
 |fn (f:FuncId) (cs:List AV) (vs:Array Value):cs.length=vs.size->
   (∀i (h:i<cs.length),VR w U e G cs[i] (vs.getD i undef))->VR w U e G (.fn f cs) (.func (.func f) #[] vs)
 |bfn (f:FuncId) (cs:List AV) (vs:Array Value):cs.length=vs.size->
   (∀i (h:i<cs.length),VR w U e G cs[i] (vs.getD i undef))->VR w U e G (.bfn f cs) (.func (.func f) vs #[])
 |slO (id g off len:Nat) (v:Value):G g->v.oneCell'=true->
   (∀ee,e id=some ee->ee.g=g->off+len<=ee.n/\(ee.n=off+len->SlOK ee off len v))->VR w U e G (.slO id g off len) v
 |ptO (id g n i off:Nat) (v:Value):G g->v.oneCell'=true->
   (∀ee,e id=some ee->ee.g=g->n<=ee.n/\(ee.n=n->∀b c,ee.blk=some (b,c)->v= .pointer (some ⟨b,i*ee.k+off,none⟩)))->VR w U e G (.ptO id g n i off) v
 |mpO (id g:Nat) (v:Value):G g->v.oneCell'=true->
   (∀ee,e id=some ee->ee.g=g->ee.n=0->∀b c,ee.blk=some (b,c)->v= .map (some b))->VR w U e G (.mpO id g) v
structure Ext (w:World) (e:Env) (G:Nat->Prop) (w':World) (e':Env) (G':Nat->Prop):Prop where
 size:w.heap.size<=w'.heap.size
 gs:∀g,G g->G' g
 un:∀b,b<w.heap.size->UE e b->UE e' b
 same:∀b,b<w.heap.size->UE e b->w'.heap[b]?=w.heap[b]?
 ent:∀id ee',e' id=some ee'->G ee'.g->∃ee,e id=some ee/\ee.g=ee'.g/\ee.k=ee'.k/\((ee.n=ee'.n/\ee.blk=ee'.blk)\/ee.n<ee'.n)
theorem cell?_heap {w w':World} {b o:Nat} (h:w'.heap[b]?=w.heap[b]?):w'.cell? ⟨b,o,none⟩=w.cell? ⟨b,o,none⟩:=by
 simp[World.cell?,h]
theorem VD.mono {w w':World} {U U':Nat->Prop} (hs:w.heap.size<=w'.heap.size) (hU:∀b,b<w.heap.size->U b->U' b)
  (hh:∀b,b<w.heap.size->U b->w'.heap[b]?=w.heap[b]?) {av:AV} {v:Value} (h:VD w U av v):VD w' U' av v:=by
 induction h with
 |bad v=>exact .bad v
 |lit v h=>exact .lit v h
 |agg cs vs h1 h2 _ ih=>exact .agg cs vs h1 h2 ih
 |tup cs vs h1 _ ih=>exact .tup cs vs h1 ih
 |nil full a=>exact .nil full a
 |sl es full b off cap k f hb hlt h1 h1' h2 h3 h4 h5 h6 _ ih=>
  exact .sl es full b off cap k f (hU b hlt hb) (Nat.lt_of_lt_of_le hlt hs) h1 h1' h2 h3 h4 (fun j hj=>(cell?_heap (hh b hlt hb)).trans (h5 j hj)) h6 ih
 |ptI cs b off f hb hlt h1 h2 _ ih=>
  exact .ptI cs b off f (hU b hlt hb) (Nat.lt_of_lt_of_le hlt hs) (fun j hj=>(cell?_heap (hh b hlt hb)).trans (h1 j hj)) h2 ih
 |gl g=>exact .gl g
 |fn f cs vs h1 _ ih=>exact .fn f cs vs h1 ih
 |ifn t p=>exact .ifn t p
 |anyI k n=>exact .anyI k n
theorem VR.ext {w w':World} {e e':Env} {G G':Nat->Prop} (x:Ext w e G w' e' G') {av:AV} {v:Value}
  (h:VR w (UE e) e G av v):VR w' (UE e') e' G' av v:=by
 induction h with
 |dat av v h=>exact .dat av v (h.mono x.size x.un x.same)
 |agg cs vs h1 h2 _ ih=>exact .agg cs vs h1 h2 ih
 |tup cs vs h1 _ ih=>exact .tup cs vs h1 ih
 |fn f cs vs h1 _ ih=>exact .fn f cs vs h1 ih
 |bfn f cs vs h1 _ ih=>exact .bfn f cs vs h1 ih
 |slO id g off len v hg h1 hi=>
  refine .slO id g off len v (x.gs _ hg) h1 fun ee' he' hg'=>?_
  obtain⟨ee,he,hgg,hk,hn⟩:=x.ent id ee' he' (by rw[hg'];exact hg)
  obtain⟨ha,hb⟩:=hi ee he (by omega)
  rcases hn with ⟨hn,hbl⟩|hn
  ·refine⟨by omega,fun hl=>?_⟩
   have:=hb (by omega)
   unfold SlOK at this ⊢
   rw[hk,hbl] at this
   exact this
  ·exact⟨by omega,fun hl=>by omega⟩
 |ptO id g n i off v hg h1 hi=>
  refine .ptO id g n i off v (x.gs _ hg) h1 fun ee' he' hg'=>?_
  obtain⟨ee,he,hgg,hk,hn⟩:=x.ent id ee' he' (by rw[hg'];exact hg)
  obtain⟨ha,hb⟩:=hi ee he (by omega)
  rcases hn with ⟨hn,hbl⟩|hn
  ·exact⟨by omega,fun hl b c hc=>by rw[<-hk];exact hb (by omega) b c (hbl.trans hc)⟩
  ·exact⟨by omega,fun hl=>by omega⟩
 |mpO id g v hg h1 hi=>
  refine .mpO id g v (x.gs _ hg) h1 fun ee' he' hg' hn0 b c hb=>?_
  obtain⟨ee,he,hgg,hk,hn⟩:=x.ent id ee' he' (by rw[hg'];exact hg)
  rcases hn with ⟨hn,hbl⟩|hn
  ·exact hi ee he (by omega) (by omega) b c (hbl.trans hb)
  ·omega
theorem VD.oneCell {w:World} {U:Nat->Prop} {av:AV} {v:Value} (h:VD w U av v) (h1:av.one=true):v.oneCell'=true:=by
 cases h<;>first|assumption|rfl|cases h1
theorem VR.oneCell {w:World} {U:Nat->Prop} {e:Env} {G:Nat->Prop} {av:AV} {v:Value} (h:VR w U e G av v) (h1:av.one=true):v.oneCell'=true:=by
 cases h with
 |dat _ _ h=>exact h.oneCell h1
 |agg=>cases h1
 |tup=>cases h1
 |fn=>rfl
 |bfn=>rfl
 |slO=>assumption
 |ptO=>assumption
 |mpO=>assumption
def NF (fz:Nat×Nat) (n:Nat):Prop:=∀j,j<n->¬(fz.1<=j/\j<fz.2)
def Cl (w:World) (b:Nat) (cs:Array Value) (t:Nat):Prop:=∃fz,w.heap[b]?=some (.cells cs t fz)/\NF fz cs.size
theorem NF.zero (n:Nat):NF (0,0) n:=fun j _ h=>by simp at h
theorem Cl.same {w w':World} {b t:Nat} {cs:Array Value} (h:Cl w b cs t) (k:w'.heap[b]?=w.heap[b]?):Cl w' b cs t:=by
 obtain⟨fz,h1,h2⟩:=h
 exact⟨fz,k.trans h1,h2⟩
theorem Cl.of {w:World} {b t:Nat} {cs:Array Value} (h:w.heap[b]?=some (.cells cs t (0,0))):Cl w b cs t:=⟨_,h, .zero _⟩
theorem Cl.cell {w:World} {b t:Nat} {cs:Array Value} (h:Cl w b cs t) (o:Nat):w.cell? ⟨b,o,none⟩=cs[o]?:=by
 obtain⟨fz,h1,_⟩:=h
 simp[World.cell?,h1]
theorem Cl.frozen {w:World} {b t:Nat} {cs:Array Value} (h:Cl w b cs t) {o:Nat} (ho:o<cs.size):w.frozen? ⟨b,o,none⟩=false:=by
 obtain⟨fz,h1,h2⟩:=h
 have:=h2 o ho
 simp only[World.frozen?,h1]
 simpa using this
theorem Cl.cellD {w:World} {b t:Nat} {cs:Array Value} (h:Cl w b cs t) {o:Nat} (ho:o<cs.size):w.cell? ⟨b,o,none⟩=some (cs.getD o undef):=by
 rw[h.cell,Array.getD_eq_getD_getElem?,Array.getElem?_eq_getElem ho];rfl
theorem Cl.inj {w:World} {b t t':Nat} {cs cs':Array Value} (h:Cl w b cs t) (h':Cl w b cs' t'):cs=cs'/\t=t':=by
 obtain⟨fz,h1,_⟩:=h
 obtain⟨fz',h2,_⟩:=h'
 rw[h1] at h2
 cases h2
 exact⟨rfl,rfl⟩
inductive VC (w:World) (e:Env) (G:Nat->Prop) (B c:Nat):AV->Value->Prop
 |val (av:AV) (v:Value):VR w (UE e) e G av v->VC w e G B c av v
 |kid0 (t k:Nat) (a:Option Addr):0<k->VC w e G B c (.kid t k []) (.slice a 0 0)
 |kid (t k:Nat) (es:List AV) (b cap:Nat) (cs:Array Value):e.kid b=some (B,c)->Cl w b cs t->cs.size=cap*k->0<k->es.length<=cap->cap<=maxLen->
   (∀i (h:i<es.length),es[i].cells.length=k)->
   (∀i (h:i<es.length) j (h':j<es[i].cells.length),es[i].cells[j].one=true)->
   (∀i (h:i<es.length) j (h':j<es[i].cells.length),VD w (UE e) es[i].cells[j] (cs.getD (i*k+j) undef))->
   VC w e G B c (.kid t k es) (.slice (some ⟨b,0,none⟩) es.length cap)
theorem VC.ext {w w':World} {e e':Env} {G G':Nat->Prop} (x:Ext w e G w' e' G') {B B' c:Nat} {av:AV} {v:Value} (h:VC w e G B c av v)
  (hk:∀b,e.kid b=some (B,c)->w'.heap[b]?=w.heap[b]?/\e'.kid b=some (B',c)):VC w' e' G' B' c av v:=by
 cases h with
 |val _ _ h=>exact .val _ _ (h.ext x)
 |kid0 t k a h=>exact .kid0 t k a h
 |kid t k es b cap cs h1 h2 h3 h4 h5 h6 h7 h8 h9=>
  obtain⟨k1,k2⟩:=hk b h1
  exact .kid t k es b cap cs k2 (h2.same k1) h3 h4 h5 h6 h7 h8 fun i hi j hj=>(h9 i hi j hj).mono x.size x.un x.same
def BufR (w:World) (e:Env) (b el:Nat) (bs:List UInt8) (v:Value):Prop:=
 (v= .slice none 0 0/\bs=[])\/∃(g cap:Nat) (cur:Array Value) (fz:Nat×Nat),v= .slice (some ⟨g,0,none⟩) bs.length cap/\e.kid g=some (b,1)/\w.heap[g]?=some (.cells cur el fz)/\
  fz.2<=bs.length/\bs.length<=cap/\cap<=maxLen/\cur.size=cap/\cur.toList.take bs.length=bs.map (fun b=>Value.int .u8 b.toNat)/\bs≠[]
def ORel (w:World) (e:Env) (G:Nat->Prop):Ob->EE->Prop
 | .own t k es,ee=>ee.k=k/\ee.n=es.length/\0<k/\(∀i (h:i<es.length),es[i].cells.length=k)/\
   (∀i (h:i<es.length) j (h':j<es[i].cells.length),es[i].cells[j].one=true)/\
   match ee.blk with
   |none=>es=[]
   |some (b,bcap)=>bcap<=maxLen/\es.length<=bcap/\∃cs,Cl w b cs t/\cs.size=bcap*k/\
     ∀i (h:i<es.length) j (h':j<es[i].cells.length),VC w e G b (i*k+j) es[i].cells[j] (cs.getD (i*k+j) undef)
 | .box cs,ee=>ee.n=0/\(∀j (h:j<cs.length),cs[j].one=true)/\∃b c vs t,ee.blk=some (b,c)/\w.heap[b]?=some (.cells vs t (0,0))/\vs.size=cs.length/\
   ∀j (h:j<cs.length),VR w (UE e) e G cs[j] (vs.getD j undef)
 | .mp es,ee=>ee.n=0/\∃(b c:Nat) (vs:Array MapEntry) (cl:Nat),ee.blk=some (b,c)/\w.heap[b]?=some (.map vs cl)/\vs.toList.map (fun m=>(m.key,m.val))=es.map (fun p=>(Value.int .i64 p.1,Value.int .i64 p.2))
 | .ms es,ee=>ee.n=0/\∃(b c:Nat) (vs:Array MapEntry) (cl:Nat),ee.blk=some (b,c)/\w.heap[b]?=some (.map vs cl)/\vs.size=es.length/\
   ∀(i:Nat) (m:MapEntry) (p:ByteArray×AV),vs[i]?=some m->es[i]?=some p->m.key= .string p.1/\p.2.one=true/\VR w (UE e) e G p.2 m.val
 | .bd t el bs,ee=>ee.n=0/\∃(b c:Nat) (p v:Value),ee.blk=some (b,c)/\w.heap[b]?=some (.cells #[p,v] t (0,0))/\(p= .pointer none\/p= .pointer (some ⟨b,0,none⟩))/\BufR w e b el bs v
theorem BufR.ext {w w':World} {e e':Env} {b b' el:Nat} {bs:List UInt8} {v:Value} (h:BufR w e b el bs v)
  (hk:∀g,e.kid g=some (b,1)->w'.heap[g]?=w.heap[g]?/\e'.kid g=some (b',1)):BufR w' e' b' el bs v:=by
 rcases h with h|⟨g,cap,cur,fz,h1,h2,h3,h4⟩
 ·exact .inl h
 ·obtain⟨k1,k2⟩:=hk g h2
  exact .inr ⟨g,cap,cur,fz,h1,k2,k1.trans h3,h4⟩
theorem ORel.ext {w w':World} {e e':Env} {G G':Nat->Prop} (x:Ext w e G w' e' G') {ob:Ob} {ee:EE} (h:ORel w e G ob ee)
  (hb:∀b c,ee.blk=some (b,c)->w'.heap[b]?=w.heap[b]?/\∀b' c',e.kid b'=some (b,c')->w'.heap[b']?=w.heap[b']?/\e'.kid b'=some (b,c')):ORel w' e' G' ob ee:=by
 cases ob with
 |own t k es=>
  obtain⟨h1,h2,h3,h4,h5,h6⟩:=h
  refine⟨h1,h2,h3,h4,h5,?_⟩
  cases hbl:ee.blk with
  |none=>rw[hbl] at h6;exact h6
  |some p=>
   obtain⟨b,bcap⟩:=p
   rw[hbl] at h6
   obtain⟨h7,h8,cs,h9,h10,h11⟩:=h6
   obtain⟨k1,k2⟩:=hb b bcap hbl
   exact⟨h7,h8,cs,h9.same k1,h10,fun i hi j hj=>(h11 i hi j hj).ext x fun b' hb'=>k2 b' _ hb'⟩
 |box cs=>
  obtain⟨h1,h2,b,c,vs,t,h3,h4,h5,h6⟩:=h
  exact⟨h1,h2,b,c,vs,t,h3,(hb b c h3).1.trans h4,h5,fun j hj=>(h6 j hj).ext x⟩
 |mp es=>
  obtain⟨h1,b,c,vs,cl,h3,h4,h5⟩:=h
  exact⟨h1,b,c,vs,cl,h3,(hb b c h3).1.trans h4,h5⟩
 |ms es=>
  obtain⟨h1,b,c,vs,cl,h3,h4,h5,h6⟩:=h
  exact⟨h1,b,c,vs,cl,h3,(hb b c h3).1.trans h4,h5,fun i m p hm hp=>⟨(h6 i m p hm hp).1,(h6 i m p hm hp).2.1,(h6 i m p hm hp).2.2.ext x⟩⟩
 |bd t el bs=>
  obtain⟨h1,b,c,p,v,h3,h4,h5,h6⟩:=h
  exact⟨h1,b,c,p,v,h3,(hb b c h3).1.trans h4,h5,h6.ext fun g hg=>(hb b c h3).2 g 1 hg⟩
open Go
abbrev Hp:=List (Nat×Option (Nat×Ob))
def Hp.get:Hp->Nat->Option (Nat×Ob)
 |[],_=>none
 |(i,x)::h,n=>if i=n then x else Hp.get h n
def tget:List (Nat×AV)->Nat->AV
 |[],_=> .bad
 |(i,x)::h,n=>if i=n then x else tget h n
structure St where
 tm:List (Nat×AV)
 hp:Hp
 ck:Nat
structure HRel (w:World) (e:Env) (G:Nat->Prop) (hp:Hp):Prop where
 dead:∀id,hp.get id=none->e id=none
 live:∀id g ob,hp.get id=some (g,ob)->∃ee,e id=some ee/\ee.g=g/\G g/\ORel w e G ob ee
 inj:∀id id' ee ee' b c c',e id=some ee->e id'=some ee'->ee.blk=some (b,c)->ee'.blk=some (b,c')->id=id'
 lt:∀id ee b c,e id=some ee->ee.blk=some (b,c)->b<w.heap.size
 nz:∀id ee b c,e id=some ee->ee.blk=some (b,c)->¬e.z b
 kl:∀b B c,e.kid b=some (B,c)->b<w.heap.size/\B<w.heap.size/\¬e.z b
 ko:∀b,ObjB e b->e.kid b=none
 kk:∀b B c,e.kid b=some (B,c)->e.kid B=none
def eset (e:Env) (id:Nat) (x:Option EE):Env:=⟨fun i=>if i=id then x else e i,e.z,e.kid⟩
theorem eset_same (e:Env) (id:Nat) (x:Option EE):eset e id x id=x:=by simp[eset]
theorem eset_other (e:Env) {id i:Nat} (x:Option EE) (h:i≠id):eset e id x i=e i:=by simp[eset,h]
theorem Hp.get_cons_same (h:Hp) (id:Nat) (x:Option (Nat×Ob)):Hp.get ((id,x)::h) id=x:=by simp[Hp.get]
theorem Hp.get_cons_other (h:Hp) {id i:Nat} (x:Option (Nat×Ob)) (hne:i≠id):Hp.get ((id,x)::h) i=h.get i:=by
 simp[Hp.get,Ne.symm hne]
theorem HRel.obj_lt {w:World} {e:Env} {G:Nat->Prop} {hp:Hp} (h:HRel w e G hp) {b:Nat} (hb:ObjB e b):b<w.heap.size:=by
 obtain⟨id,ee,c,h1,h2⟩:=hb;exact h.lt id ee b c h1 h2
theorem HRel.obj_nz {w:World} {e:Env} {G:Nat->Prop} {hp:Hp} (h:HRel w e G hp) {b:Nat} (hb:ObjB e b):¬e.z b:=by
 obtain⟨id,ee,c,h1,h2⟩:=hb;exact h.nz id ee b c h1 h2
theorem HRel.own_lt {w:World} {e:Env} {G:Nat->Prop} {hp:Hp} (h:HRel w e G hp) {b:Nat} (hb:OwnB e b):b<w.heap.size:=by
 rcases hb with hb|⟨B,c,hk,_⟩
 ·exact h.obj_lt hb
 ·exact(h.kl b B c hk).1
theorem HRel.own_nz {w:World} {e:Env} {G:Nat->Prop} {hp:Hp} (h:HRel w e G hp) {b:Nat} (hb:OwnB e b):¬e.z b:=by
 rcases hb with hb|⟨B,c,hk,_⟩
 ·exact h.obj_nz hb
 ·exact(h.kl b B c hk).2.2
theorem HRel.gen {w:World} {e:Env} {G:Nat->Prop} {hp:Hp} (h:HRel w e G hp):∀id ee,e id=some ee->G ee.g:=by
 intro id ee he
 cases hx:hp.get id with
 |none=>rw[h.dead id hx] at he;cases he
 |some p=>
  obtain⟨g,ob⟩:=p
  obtain⟨ee',h1,h2,h3,_⟩:=h.live id g ob hx
  rw[h1] at he;cases he
  rw[h2];exact h3
theorem HRel.step {w w':World} {e e':Env} {G G':Nat->Prop} {hp hp':Hp} (tch:Nat->Prop) (h:HRel w e G hp) (x:Ext w e G w' e' G') (hz:e'.z=e.z)
  (hun:∀id,¬tch id->e' id=e id/\hp'.get id=hp.get id)
  (hkeep:∀id ee b c,¬tch id->e id=some ee->ee.blk=some (b,c)->w'.heap[b]?=w.heap[b]?/\∀b' c',e.kid b'=some (b,c')->w'.heap[b']?=w.heap[b']?/\e'.kid b'=some (b,c'))
  (hd:∀id,tch id->hp'.get id=none->e' id=none)
  (hl:∀id g ob,tch id->hp'.get id=some (g,ob)->∃ee,e' id=some ee/\ee.g=g/\G' g/\ORel w' e' G' ob ee)
  (hb:∀id ee b c,tch id->e' id=some ee->ee.blk=some (b,c)->b<w'.heap.size/\¬e.z b/\∀id' ee' c',e' id'=some ee'->ee'.blk=some (b,c')->id'=id)
  (hk:∀b B c,e'.kid b=some (B,c)->b<w'.heap.size/\B<w'.heap.size/\¬e.z b) (hko:∀b,ObjB e' b->e'.kid b=none)
  (hkk:∀b B c,e'.kid b=some (B,c)->e'.kid B=none):HRel w' e' G' hp':=by
 have hs:=x.size
 constructor
 ·intro id hid
  by_cases ht:tch id
  ·exact hd id ht hid
  ·obtain⟨h1,h2⟩:=hun id ht
   rw[h1];exact h.dead id (h2.symm.trans hid)
 ·intro id g ob hid
  by_cases ht:tch id
  ·exact hl id g ob ht hid
  ·obtain⟨h1,h2⟩:=hun id ht
   obtain⟨ee,q1,q2,q3,q4⟩:=h.live id g ob (h2.symm.trans hid)
   exact⟨ee,h1.trans q1,q2,x.gs _ q3,q4.ext x fun b c hbl=>hkeep id ee b c ht q1 hbl⟩
 ·intro i j ei ej b c c' hi hj hbi hbj
  by_cases h1:tch i
  ·exact((hb i ei b c h1 hi hbi).2.2 j ej c' hj hbj).symm
  ·by_cases h2:tch j
   ·exact(hb j ej b c' h2 hj hbj).2.2 i ei c hi hbi
   ·rw[(hun i h1).1] at hi;rw[(hun j h2).1] at hj
    exact h.inj i j ei ej b c c' hi hj hbi hbj
 ·intro i ei b c hi hbi
  by_cases h1:tch i
  ·exact(hb i ei b c h1 hi hbi).1
  ·rw[(hun i h1).1] at hi;exact Nat.lt_of_lt_of_le (h.lt i ei b c hi hbi) hs
 ·intro i ei b c hi hbi
  rw[hz]
  by_cases h1:tch i
  ·exact(hb i ei b c h1 hi hbi).2.1
  ·rw[(hun i h1).1] at hi;exact h.nz i ei b c hi hbi
 ·rw[hz];exact hk
 ·exact hko
 ·exact hkk
theorem Ext.mk' {w w':World} {e e':Env} {G G':Nat->Prop} (hs:w.heap.size<=w'.heap.size) (hg:∀g,G g->G' g) (hz:e'.z=e.z)
  (ho:∀b,b<w.heap.size->OwnB e' b->OwnB e b) (hsame:∀b,b<w.heap.size->¬OwnB e b->w'.heap[b]?=w.heap[b]?)
  (hent:∀id ee',e' id=some ee'->G ee'.g->∃ee,e id=some ee/\ee.g=ee'.g/\ee.k=ee'.k/\((ee.n=ee'.n/\ee.blk=ee'.blk)\/ee.n<ee'.n)):Ext w e G w' e' G':=
 ⟨hs,hg,fun b hb hu=>⟨by rw[hz];exact hu.1,fun h=>hu.2 (ho b hb h)⟩,fun b hb hu=>hsame b hb hu.2,hent⟩
theorem Ext.refl (w:World) (e:Env) (G:Nat->Prop):Ext w e G w e G:=
 ⟨Nat.le_refl _,fun _ h=>h,fun _ _ h=>h,fun _ _ _=>rfl,fun _ ee' h _=>⟨ee',h,rfl,rfl, .inl ⟨rfl,rfl⟩⟩⟩
theorem Ext.trans {w w' w'':World} {e e' e'':Env} {G G' G'':Nat->Prop} (x:Ext w e G w' e' G') (y:Ext w' e' G' w'' e'' G''):Ext w e G w'' e'' G'':=by
 refine⟨Nat.le_trans x.size y.size,fun g h=>y.gs _ (x.gs _ h),fun b hb hu=>y.un b (Nat.lt_of_lt_of_le hb x.size) (x.un b hb hu),
  fun b hb hu=>(y.same b (Nat.lt_of_lt_of_le hb x.size) (x.un b hb hu)).trans (x.same b hb hu),?_⟩
 intro id ee'' he hg
 obtain⟨ee',h1,h2,h3,h4⟩:=y.ent id ee'' he (x.gs _ hg)
 obtain⟨ee,k1,k2,k3,k4⟩:=x.ent id ee' h1 (by rw[h2];exact hg)
 refine⟨ee,k1,k2.trans h2,k3.trans h3,?_⟩
 rcases h4 with ⟨h4,h5⟩|h4<;>rcases k4 with ⟨k4,k5⟩|k4
 ·exact .inl ⟨k4.trans h4,k5.trans h5⟩
 ·exact .inr (by omega)
 ·exact .inr (by omega)
 ·exact .inr (by omega)
structure Cx where
 P:Program
 N:Nat
 w0:World
 e0:Env
 rd:Option Nat
 df:List Deferred
 esc:Act->World->Prop
structure Frm (C:Cx) (w:World):Prop where
 os:w.os=C.w0.os
 tape:w.tape=C.w0.tape
 output:w.output=C.w0.output
 size:C.w0.heap.size<=w.heap.size
 same:∀b,b<C.w0.heap.size->¬OwnB C.e0 b->w.heap[b]?=C.w0.heap[b]?
def Glt (n:Nat):Nat->Prop:=fun g=>g<n
structure Lnt (C:Cx) (w:World) (e:Env) (G:Nat->Prop):Prop where
 zeq:e.z=C.e0.z
 zlt:∀b,C.e0.z b->b<C.w0.heap.size
 ext:Ext C.w0 C.e0 (Glt 1) w e G
 mine:∀b,OwnB e b->C.w0.heap.size<=b\/OwnB C.e0 b
structure Rel (C:Cx) (G:Nat->Prop) (tm:List (Nat×AV)) (hp:Hp) (a:Act) (w:World):Prop where
 defers:a.defers=C.df
 size:a.tmps.size=C.N
 frm:Frm C w
 body:∃e,HRel w e G hp/\Lnt C w e G/\∀t,VR w (UE e) e G (tget tm t) (a.tmps.getD t undef)
theorem Lnt.step {C:Cx} {w w':World} {e e':Env} {G G':Nat->Prop} (h:Lnt C w e G) (hs:C.w0.heap.size<=w.heap.size) (x:Ext w e G w' e' G') (hz:e'.z=e.z)
  (ho:∀b,b<w.heap.size->OwnB e' b->OwnB e b):Lnt C w' e' G':=by
 refine⟨hz.trans h.zeq,h.zlt,h.ext.trans x,fun b hb=>?_⟩
 by_cases hlt:b<w.heap.size
 ·exact h.mine b (ho b hlt hb)
 ·exact .inl (by omega)
theorem Frm.step {C:Cx} {w w':World} {e:Env} {G:Nat->Prop} (h:Frm C w) (hl:Lnt C w e G) (h1:w'.os=w.os) (h2:w'.tape=w.tape) (h3:w'.output=w.output) (hs:w.heap.size<=w'.heap.size)
  (hsame:∀b,b<w.heap.size->¬OwnB e b->w'.heap[b]?=w.heap[b]?):Frm C w':=by
 refine⟨h1.trans h.os,h2.trans h.tape,h3.trans h.output,Nat.le_trans h.size hs,fun b hb hn=>?_⟩
 rw[hsame b (Nat.lt_of_lt_of_le hb h.size) ?_]
 ·exact h.same b hb hn
 ·intro ho
  rcases hl.mine b ho with h4|h4
  ·omega
  ·exact hn h4
theorem not_z {C:Cx} {w:World} {e:Env} {G:Nat->Prop} (h:Lnt C w e G) (f:Frm C w) {b:Nat} (hb:w.heap.size<=b):¬e.z b:=by
 rw[h.zeq]
 intro hz
 have:=h.zlt b hz
 have:=f.size
 omega
def edrop (e:Env) (ids:List Nat):Env:=⟨fun i=>if i∈ids then none else e i,e.z,e.kid⟩
theorem edrop_some {e:Env} {ids:List Nat} {i:Nat} {ee:EE} (h:edrop e ids i=some ee):i∉ids/\e i=some ee:=by
 simp only[edrop] at h
 split at h
 ·cases h
 ·exact⟨by assumption,h⟩
theorem edrop_out {e:Env} {ids:List Nat} {i:Nat} (h:i∉ids):edrop e ids i=e i:=by simp[edrop,h]
theorem ObjB.edrop {e:Env} {ids:List Nat} {b:Nat} (h:ObjB (edrop e ids) b):ObjB e b:=by
 obtain⟨id,ee,c,h1,h2⟩:=h;exact⟨id,ee,c,(edrop_some h1).2,h2⟩
theorem OwnB.edrop {e:Env} {ids:List Nat} {b:Nat} (h:OwnB (edrop e ids) b):OwnB e b:=by
 rcases h with h|⟨B,c,h1,h2⟩
 ·exact .inl h.edrop
 ·exact .inr ⟨B,c,h1,h2.edrop⟩
theorem Ext.drops (w:World) (e:Env) (G:Nat->Prop) (ids:List Nat):Ext w e G w (edrop e ids) G:=
 Ext.mk' (Nat.le_refl _) (fun _ h=>h) rfl (fun _ _ h=>h.edrop) (fun _ _ _=>rfl) fun _ ee' h _=>⟨ee',(edrop_some h).2,rfl,rfl, .inl ⟨rfl,rfl⟩⟩
theorem get_drops (ids:List Nat) (hp:Hp) (i:Nat):Hp.get ((ids.map fun j=>(j,none))++hp) i=if i∈ids then none else hp.get i:=by
 induction ids with
 |nil=>simp
 |cons j ids ih=>
  simp only[List.map_cons,List.cons_append,Hp.get,ih,List.mem_cons]
  by_cases h:j=i
  ·subst h;simp
  ·simp[h,Ne.symm h]
theorem HRel.drops {w:World} {e:Env} {G:Nat->Prop} {hp:Hp} (h:HRel w e G hp) (ids:List Nat):HRel w (edrop e ids) G ((ids.map fun j=>(j,none))++hp):=by
 refine h.step (fun i=>i∈ids) (Ext.drops w e G ids) rfl (fun i hi=>⟨edrop_out hi,by rw[get_drops,if_neg hi]⟩) (fun _ _ _ _ _ _ _=>⟨rfl,fun _ _ h=>⟨rfl,h⟩⟩)
  (fun i hi _=>by simp[edrop,hi]) (fun i g ob hi hg=>by rw[get_drops,if_pos hi] at hg;cases hg) (fun i ee b c hi he _=>absurd hi (edrop_some he).1) h.kl (fun b hb=>h.ko b hb.edrop) h.kk
theorem Lnt.drops {C:Cx} {w:World} {e:Env} {G:Nat->Prop} (h:Lnt C w e G) (ids:List Nat):Lnt C w (edrop e ids) G:=
 ⟨h.zeq,h.zlt,h.ext.trans (Ext.drops w e G ids),fun b hb=>h.mine b hb.edrop⟩
theorem UE.dropped {w:World} {e:Env} {G:Nat->Prop} {hp:Hp} (hr:HRel w e G hp) {id:Nat} {ee:EE} {b c:Nat} (he:e id=some ee) (hb:ee.blk=some (b,c)) {ids:List Nat} (hi:id∈ids):UE (edrop e ids) b:=by
 have hnot:¬ObjB (Sym.edrop e ids) b:=by
  rintro⟨id',ee',c',h1,h2⟩
  obtain⟨h3,h4⟩:=edrop_some h1
  have:=hr.inj id id' ee ee' b c c' he h4 hb h2
  subst this
  exact h3 hi
 refine⟨hr.nz id ee b c he hb,?_⟩
 rintro(h|⟨B,c',hk,_⟩)
 ·exact hnot h
 ·rw[show(Sym.edrop e ids).kid=e.kid from rfl,hr.ko b ⟨id,ee,c,he,hb⟩] at hk;cases hk
theorem UE.dropped_kid {w:World} {e:Env} {G:Nat->Prop} {hp:Hp} (hr:HRel w e G hp) {id:Nat} {ee:EE} {b c:Nat} (he:e id=some ee) (hb:ee.blk=some (b,c)) {ids:List Nat} (hi:id∈ids)
  {b' c':Nat} (hk:e.kid b'=some (b,c')):UE (edrop e ids) b':=by
 refine⟨(hr.kl _ _ _ hk).2.2,?_⟩
 rintro(h|⟨B,c'',hk',ho⟩)
 ·have:=hr.ko b' h.edrop
  rw[hk] at this;cases this
 ·have e1:e.kid b'=some (B,c''):=hk'
  rw[hk] at e1
  cases e1
  exact(UE.dropped hr he hb hi).2 (.inl ho)
theorem mul_lt_of {i n k j:Nat} (hi:i<n) (hj:j<k):i*k+j<n*k:=
 calc i*k+j<i*k+k:=by omega
  _=(i+1)*k:=by rw[Nat.succ_mul]
  _<=n*k:=Nat.mul_le_mul_right _ (by omega)
theorem divmod_of {i j k:Nat} (hj:j<k):(i*k+j) / k=i/\(i*k+j) % k=j:=by
 have hk:0<k:=by omega
 refine⟨?_,?_⟩
 ·rw[Nat.mul_comm,Nat.mul_add_div hk,Nat.div_eq_of_lt hj,Nat.add_zero]
 ·rw[Nat.mul_comm,Nat.mul_add_mod,Nat.mod_eq_of_lt hj]
open Go
inductive ZC where
 |int (k:IntKind)|bool|str|sl|ptr|map|fn|iface
def ZC.val:ZC->Value
 | .int k=> .int k 0
 | .bool=> .bool false
 | .str=> .string ByteArray.empty
 | .sl=> .slice none 0 0
 | .ptr=> .pointer none
 | .map=> .map none
 | .fn=> .nilFunc
 | .iface=> .nilIface
def ZC.av:ZC->AV
 | .sl=> .sl [] true
 |z=> .lit z.val
inductive Ty where
 |int (k:IntKind)|bool|str
 |slice (e:Nat)|array (n e:Nat)|struct (fs:List (Nat×Nat))|ptr (e:Nat)|map (k e:Nat)|iface|bld (e:Nat)|other
structure TI where
 ty:Ty
 agg:Bool
 size:Nat
 bytes:Nat
 zs:List ZC
 eq:Bool:=false
structure Tab where
 ty:List (Nat×TI)
 gl:List (Nat×List AV)
 full:List (Nat×Array Value)
def TI.none:TI:=⟨.other,false,0,0,[],false⟩
def tlu:List (Nat×TI)->Nat->TI
 |[],_=> .none
 |(i,x)::h,n=>if i=n then x else tlu h n
def tl (T:Tab) (n:Nat):TI:=tlu T.ty n
def glu:List (Nat×List AV)->Nat->Option (List AV)
 |[],_=>none
 |(i,x)::h,n=>if i=n then some x else glu h n
def glob (T:Tab):AV->AV
 | .gl g=>match glu T.gl g with|some cs=> .ptI cs|none=> .gl g
 |v=>v
def TI.zval (ti:TI):Value:=
 if ti.agg then .agg (ti.zs.map ZC.val).toArray else(match ti.zs with|[z]=>z.val|_=>undef)
def TI.zav (ti:TI):AV:=
 if ti.agg then .agg (ti.zs.map ZC.av) else(match ti.zs with|[z]=>z.av|_=> .bad)
def Ty.fits:Ty->TypeDesc->Prop
 | .int k,d=>d= .int k
 | .bool,d=>d= .bool
 | .str,d=>d= .string
 | .slice e,d=>d= .slice e
 | .array n e,d=>d= .array n e
 | .struct fs,d=>∃a,d= .struct a/\a.toList.map (fun f=>(f.offset,f.type))=fs
 | .ptr e,d=>d= .pointer e
 | .map k e,d=>d= .map k e
 | .iface,d=>∃m,d= .interface m
 | .bld _,_=>True
 | .other,_=>True
def ZC.eqs:ZC->TypeDesc->Prop
 | .int _,d=>∃k,d= .int k
 | .bool,d=>d= .bool
 | .str,d=>d= .string
 |_,_=>False
inductive EqF (P:Program):Nat->Nat->List Field->List ZC->Prop
 |nil (n o:Nat):EqF P n o [] []
 |one (n o:Nat) (f:Field) (fs:List Field) (z:ZC) (zs:List ZC) (d:TypeDesc):f.name≠ "_" ->f.offset=o->P.underlying f.type=some d->z.eqs d->EqF P n (o+1) fs zs->EqF P n o (f::fs) (z::zs)
 |sub (n o:Nat) (f:Field) (fs:List Field) (z1 z2:List ZC) (i:TypeInfo):f.name≠ "_" ->f.offset=o->P.underlying f.type=some (.struct (P.fieldsOf f.type))->P.stoodInHeld f.type=false->
   P.info? f.type=some i->i.size=z1.length->EqF P n 0 (P.fieldsOf f.type).toList z1->EqF P (n+1) (o+z1.length) fs z2->EqF P (n+1) o (f::fs) (z1++z2)
def EqFlat (P:Program) (t:Nat) (zs:List ZC):Prop:=
 P.underlying t=some (.struct (P.fieldsOf t))/\P.stoodInHeld t=false/\P.eqGuardType P.depth t=false/\EqF P 9998 0 (P.fieldsOf t).toList zs
structure TFit (P:Program) (t:Nat) (ti:TI):Prop where
 info:∃i,P.info? t=some i/\i.size=ti.size/\i.bytes=ti.bytes/\i.zero=some ti.zval
 desc:∃d,P.underlying t=some d/\ti.ty.fits d/\(ti.agg=match d with| .struct _| .array _ _=>true|_=>false)
 len:ti.zs.length=ti.size
 flds:∀a,P.underlying t=some (.struct a)->∀f∈a,(P.info? f.type).isSome=true
 one:ti.agg=false->ti.size=1
 eqs:ti.eq=true->EqFlat P t ti.zs
def TOk (P:Program) (T:Tab):Prop:=∀t,tl T t= .none\/TFit P t (tl T t)
def mapc (f:AV->AV):AV->AV
 | .agg cs=> .agg (cs.map f)
 |v=>f v
def fz:Nat->Hp->AV->AV
 |_,_, .kid _ _ xs=> .sl xs false
 |_,_, .sl es _=> .sl es false
 |n+1,hp, .slO id _ off _=>match hp.get id with
  |some (_, .own _ _ es)=> .sl ((es.drop off).map (mapc (fz n hp))) false
  |_=> .bad
 |n+1,hp, .ptO id _ _ i off=>match hp.get id with
  |some (_, .box cs)=> .ptI ((cs.drop off).map (fz n hp))
  |some (_, .own _ _ es)=> .ptI (((es.getD i .bad).cells.drop off).map (fz n hp))
  |_=> .bad
 |n+1,hp, .fn f cs=> .fn f (cs.map (fz n hp))
 |_,_,v=>v
def fzP:Nat->Hp->AV->Prop
 |_,_, .kid _ _ _|_,_, .lit _|_,_, .sl _ _|_,_, .ptI _|_,_, .gl _|_,_, .ifn|_,_, .anyI _=>True
 |n+1,hp, .slO id g off len=>match hp.get id with
  |some (g', .own _ _ es)=>g'=g/\es.length=off+len/\∀e∈es,∀c∈e.cells,fzP n hp c
  |_=>False
 |n+1,hp, .ptO id g m i _=>match hp.get id with
  |some (g', .box cs)=>g'=g/\m=0/\i=0/\∀c∈cs,fzP n hp c
  |some (g', .own _ _ es)=>g'=g/\m=es.length/\i<es.length/\∀c∈(es.getD i .bad).cells,fzP n hp c
  |_=>False
 |n+1,hp, .fn _ cs=>∀c∈cs,fzP n hp c
 |_,_,_=>False
def fzR:Nat->Hp->AV->List Nat
 |n+1,hp, .slO id _ _ _=>id::match hp.get id with
  |some (_, .own _ _ es)=>es.flatMap fun e=>e.cells.flatMap (fzR n hp)
  |_=>[]
 |n+1,hp, .ptO id _ _ i _=>id::match hp.get id with
  |some (_, .box cs)=>cs.flatMap (fzR n hp)
  |some (_, .own _ _ es)=>(es.getD i .bad).cells.flatMap (fzR n hp)
  |_=>[]
 |n+1,hp, .fn _ cs=>cs.flatMap (fzR n hp)
 |_,_,_=>[]
def fzv (hp:Hp) (v:AV):AV:=mapc (fz 4 hp) v
def fzvP (hp:Hp) (v:AV):Prop:=∀c∈v.cells,fzP 4 hp c
def fzvR (hp:Hp) (v:AV):List Nat:=v.cells.flatMap (fzR 4 hp)
def fzt (hp:Hp):AV->AV
 | .tup vs=> .tup (vs.map (fzv hp))
 |v=>fzv hp v
def fztP (hp:Hp):AV->Prop
 | .tup vs=>∀v∈vs,fzvP hp v
 |v=>fzvP hp v
def fztR (hp:Hp):AV->List Nat
 | .tup vs=>vs.flatMap (fzvR hp)
 |v=>fzvR hp v
def att (hp:Hp):AV->AV
 | .slO id g off len=>match hp.get id with
  |some (_, .own t k es)=>if off=0 then .kid t k (es.map (mapc (fz 0 hp))) else fz 1 hp (.slO id g off len)
  |_=> .bad
 |v=>v
def attP (hp:Hp):AV->Prop
 | .slO id g off len=>fzP 1 hp (.slO id g off len)
 | .bad| .agg _| .tup _| .kid _ _ _=>False
 |_=>True
def attR:AV->List Nat
 | .slO id _ _ _=>[id]
 |_=>[]
def ofC:Value->AV
 | .slice none 0 0=> .sl [] true
 |v=>if v.oneCell' then .lit v else .bad
def ofV:Value->AV
 | .agg cs=>if cs.toList.all (fun c=>(ofC c).one) then .agg (cs.toList.map ofC) else .bad
 |v=>ofC v
def St.ev (s:St):Operand->AV
 | .tmp t=>tget s.tm t
 | .const v=>ofV v
 | .func f=> .fn f []
 | .global g=> .gl g
abbrev Up:=Nat×Option (Nat×Ob)
abbrev R:=Prop×AV×List Up
def R.no:R:=(False, .bad,[])
def R.val (ob:Prop) (v:AV):R:=(ob,v,[])
def arith (k:IntKind) (r:Int):R:=
 match k with
 | .i64=> .val (-9223372036854775808<=r/\r<=9223372036854775807) (.lit (.int .i64 r))
 |k=> .val True (.lit (.int k (k.wrap r)))
def andK (k:IntKind) (a b:Int):Int:=k.wrap (BitVec.ofInt k.bits a &&& BitVec.ofInt k.bits b).toNat
def orK (k:IntKind) (a b:Int):Int:=k.wrap (BitVec.ofInt k.bits a ||| BitVec.ofInt k.bits b).toNat
def xorK (k:IntKind) (a b:Int):Int:=k.wrap (BitVec.ofInt k.bits a ^^^ BitVec.ofInt k.bits b).toNat
def andNotK (k:IntKind) (a b:Int):Int:=k.wrap (BitVec.ofInt k.bits a &&& ~~~ BitVec.ofInt k.bits b).toNat
def shlK (k:IntKind) (a b:Int):Int:=k.wrap (a*2^(min b.toNat k.bits))
def shrK (k:IntKind) (a b:Int):Int:=a.fdiv (2^(min b.toNat k.bits))
def bopInt (op:BinOp) (k:IntKind) (a b:Int):R:=
 match op with
 | .add=>arith k (a+b)
 | .sub=>arith k (a - b)
 | .mul=>arith k (a*b)
 | .quo=> .val (b≠0) (.lit (.int k (k.wrap (a.tdiv b))))
 | .rem=> .val (b≠0) (.lit (.int k (a.tmod b)))
 | .eql=> .val True (.lit (.bool (decide (a=b))))
 | .neq=> .val True (.lit (.bool (decide (a≠b))))
 | .lss=> .val True (.lit (.bool (decide (a<b))))
 | .leq=> .val True (.lit (.bool (decide (a<=b))))
 | .gtr=> .val True (.lit (.bool (decide (b<a))))
 | .geq=> .val True (.lit (.bool (decide (b<=a))))
 | .and=> .val True (.lit (.int k (andK k a b)))
 | .or=> .val True (.lit (.int k (orK k a b)))
 | .xor=> .val True (.lit (.int k (xorK k a b)))
 | .andNot=> .val True (.lit (.int k (andNotK k a b)))
 |_=> .no
def bopShift (op:BinOp) (k:IntKind) (a b:Int):R:=
 match op with
 | .shl=> .val (0<=b) (.lit (.int k (shlK k a b)))
 | .shr=> .val (0<=b) (.lit (.int k (shrK k a b)))
 |_=> .no
def bopStr (op:BinOp) (a b:ByteArray):R:=
 match op with
 | .add=> .val (a.size+b.size<=9223372036854775807) (.lit (.string (a++b)))
 | .eql=> .val True (.lit (.bool (decide (a.data.toList=b.data.toList))))
 | .neq=> .val True (.lit (.bool (decide (a.data.toList≠b.data.toList))))
 | .lss=> .val True (.lit (.bool (Op.bytesLess a.data.toList b.data.toList)))
 | .leq=> .val True (.lit (.bool (Op.bytesLess a.data.toList b.data.toList||decide (a.data.toList=b.data.toList))))
 | .gtr=> .val True (.lit (.bool (!(Op.bytesLess a.data.toList b.data.toList||decide (a.data.toList=b.data.toList)))))
 | .geq=> .val True (.lit (.bool (!Op.bytesLess a.data.toList b.data.toList)))
 |_=> .no
def bopBool (op:BinOp) (ty:Ty) (a b:Bool):R:=
 match ty,op with
 | .bool, .eql=> .val True (.lit (.bool (a==b)))
 | .bool, .neq=> .val True (.lit (.bool (!(a==b))))
 |_,_=> .no
def eqC:ZC->AV->AV->Prop×Bool
 | .int _, .lit (.int k a), .lit (.int k' b)=>(k=k',decide (a=b))
 | .bool, .lit (.bool a), .lit (.bool b)=>(True,a==b)
 | .str, .lit (.string a), .lit (.string b)=>(True,decide (a.data.toList=b.data.toList))
 |_,_,_=>(False,false)
def eqCs:List ZC->List AV->List AV->Prop×Bool
 |[],[],[]=>(True,true)
 |z::zs,a::as,b::bs=>((eqC z a b).1/\(eqCs zs as bs).1,(eqC z a b).2&&(eqCs zs as bs).2)
 |_,_,_=>(False,false)
def bopAgg (op:BinOp) (ti:TI) (as bs:List AV):R:=
 match op with
 | .eql=> .val (ti.eq=true/\(eqCs ti.zs as bs).1) (.lit (.bool (eqCs ti.zs as bs).2))
 | .neq=> .val (ti.eq=true/\(eqCs ti.zs as bs).1) (.lit (.bool (!(eqCs ti.zs as bs).2)))
 |_=> .no
def bop (op:BinOp) (ti:TI):AV->AV->R
 | .lit (.int k a), .lit (.int k' b)=>match op with
  | .shl=>bopShift .shl k a b
  | .shr=>bopShift .shr k a b
  |op=>let r:=bopInt op k a b;(k=k'/\r.1,r.2)
 | .lit (.string a), .lit (.string b)=>bopStr op a b
 | .lit (.bool a), .lit (.bool b)=>bopBool op ti.ty a b
 | .agg as, .agg bs=>bopAgg op ti as bs
 |_,_=> .no
def ldCells (ti:TI) (cs:List AV):R:=
 .val (ti.size≠0/\ti.size<=cs.length) (if ti.agg then .agg (cs.take ti.size) else cs.getD 0 .bad)
def AV.noKid:AV->Bool
 | .kid _ _ _=>false
 |_=>true
def setc (e:AV) (off:Nat) (v:AV):AV:=
 match e with
 | .agg cs=> .agg (cs.set off v)
 |_=>v
def opLoad (ti:TI) (did gn:Nat) (hp:Hp):AV->R
 | .ptI cs=>ldCells ti cs
 | .ptO id g n i off=>match hp.get id with
  |some (g', .box cs)=>(g'=g/\n=0/\i=0/\(ldCells ti (cs.drop off)).1,(ldCells ti (cs.drop off)).2)
  |some (g', .own t k es)=>match ti.agg,(es.getD i .bad).cells.getD off .bad with
   |false, .kid t' k' xs=>(g'=g/\n=es.length/\i<es.length/\id≠did/\ti.size≠0/\off<(es.getD i .bad).cells.length, .slO did gn 0 xs.length,
     [(did,some (gn, .own t' k' xs)),(id,some (g', .own t k (es.set i (setc (es.getD i .bad) off (.slO did gn 0 xs.length)))))])
   |_,_=>(g'=g/\n=es.length/\i<es.length/\(∀c∈(es.getD i .bad).cells,c.noKid=true)/\(ldCells ti ((es.getD i .bad).cells.drop off)).1,(ldCells ti ((es.getD i .bad).cells.drop off)).2)
  |_=> .no
 |_=> .no
def splice (cs:List AV) (off:Nat) (vs:List AV):List AV:=cs.take off++vs++cs.drop (off+vs.length)
def drops (ids:List Nat):List Up:=ids.map fun j=>(j,none)
def stc (k:Nat) (e:AV) (off:Nat) (v:AV):AV:=
 if off=0/\v.cells.length=k then v else .agg (splice e.cells off v.cells)
def opStore (ti:TI) (hp:Hp) (v:AV):AV->R
 | .ptO id g n i off=>match hp.get id with
  |some (g', .box cs)=>(g'=g/\n=0/\i=0/\ti.size≠0/\v.cells.length=ti.size/\(∀c∈v.cells,c.one=true/\c.noKid=true)/\off+ti.size<=cs.length, .bad,[(id,some (g, .box (splice cs off v.cells)))])
  |some (g', .own t k es)=>
    (g'=g/\n=es.length/\i<es.length/\ti.size≠0/\v.cells.length=ti.size/\off+ti.size<=k/\(∀c∈v.cells,attP hp c)/\(v.cells.flatMap attR).Nodup/\id∉v.cells.flatMap attR, .bad,
     (id,some (g, .own t k (es.set i (stc k (es.getD i .bad) off (mapc (att hp) v)))))::drops (v.cells.flatMap attR))
  |_=> .no
 |_=> .no
def Hp.has (hp:Hp) (id g n:Nat):Prop:=
 match hp.get id with
 |some (g', .box _)|some (g', .bd _ _ _)=>g'=g/\n=0
 |some (g', .own _ _ es)=>g'=g/\n=es.length/\es.length≠0
 |_=>False
def opIndexAddr (ti ei:TI) (hp:Hp):AV->AV->R
 | .sl es _, .lit (.int _ i)=>match ti.ty with
  | .slice _=> .val (0<=i/\i<es.length/\(es.getD i.toNat .bad).cells.length=ei.size) (.ptI (es.getD i.toNat .bad).cells)
  |_=> .no
 | .slO id g off len, .lit (.int _ i)=>match ti.ty,hp.get id with
  | .slice _,some (g', .own _ k es)=> .val (g'=g/\es.length=off+len/\k=ei.size/\0<=i/\i<len) (.ptO id g (off+len) (off+i.toNat) 0)
  |_,_=> .no
 | .ptO id g n j off, .lit (.int _ i)=>match ti.ty with
  | .array m _=> .val (hp.has id g n/\ei.size≠0/\0<=i/\i<m) (.ptO id g n j (off+i.toNat*ei.size))
  |_=> .no
 | .ptI cs, .lit (.int _ i)=>match ti.ty with
  | .array m _=> .val (ei.size≠0/\0<=i/\i<m) (.ptI (cs.drop (i.toNat*ei.size)))
  |_=> .no
 |_,_=> .no
def opFieldAddr (T:Tab) (t f:Nat) (hp:Hp) (v:AV):R:=
 match (tl T t).ty with
 | .struct fs=>
  let q:=fs.getD f (0,0)
  match v with
  | .ptI cs=> .val (f<fs.length/\(tl T q.2).size≠0) (.ptI (cs.drop q.1))
  | .ptO id g n i off=> .val (f<fs.length/\(tl T q.2).size≠0/\hp.has id g n) (.ptO id g n i (off+q.1))
  |_=> .no
 |_=> .no
def opField (T:Tab) (t f:Nat) (v:AV):R:=
 match (tl T t).ty with
 | .struct fs=>
  let q:=fs.getD f (0,0)
  match v with
  | .agg cs=>let r:=ldCells (tl T q.2) (cs.drop q.1);(f<fs.length/\(tl T q.2).size≠0/\r.1,r.2)
  |_=> .no
 |_=> .no
def opIndex (T:Tab) (t:Nat) (v i:AV):R:=
 match (tl T t).ty with
 | .array n e=>match v,i with
  | .agg cs, .lit (.int _ i)=>let r:=ldCells (tl T e) (cs.drop (i.toNat*(tl T e).size));(0<=i/\i<n/\(tl T e).size≠0/\r.1,r.2)
  |_,_=> .no
 | .str=>match v,i with
  | .lit (.string s), .lit (.int _ i)=> .val (0<=i/\i<s.data.toList.length) (.lit (.int .u8 ((s.data.toList.getD i.toNat 0).toNat:Nat)))
  |_,_=> .no
 |_=> .no
def elemOf (T:Tab) (t:Nat):Nat:=
 match (tl T t).ty with
 | .slice e=>e
 | .array _ e=>e
 |_=>0
def opSliceS (ei:TI) (gn:Nat) (hp:Hp) (lo hi mx:Option AV):AV->R
 | .sl es full=>match lo,hi,mx with
  |none,none,none=> .val (ei.size≠0) (.sl es full)
  |some (.lit (.int _ l)),none,none=> .val (ei.size≠0/\(∀y∈es,y.cells.length=ei.size)/\0<=l/\l<=es.length) (.sl (es.drop l.toNat) full)
  |none,some (.lit (.int _ h)),none=> .val (ei.size≠0/\0<=h/\h<=es.length) (.sl (es.take h.toNat) false)
  |some (.lit (.int _ l)),some (.lit (.int _ h)),none=> .val (ei.size≠0/\(∀y∈es,y.cells.length=ei.size)/\0<=l/\l<=h/\h<=es.length) (.sl ((es.take h.toNat).drop l.toNat) false)
  |none,some (.lit (.int _ h)),some (.lit (.int _ m))=> .val (ei.size≠0/\0<=h/\h=m/\m<=es.length) (.sl (es.take h.toNat) true)
  |some (.lit (.int _ l)),some (.lit (.int _ h)),some (.lit (.int _ m))=> .val (ei.size≠0/\(∀y∈es,y.cells.length=ei.size)/\0<=l/\l<=h/\h=m/\m<=es.length) (.sl ((es.take h.toNat).drop l.toNat) true)
  |_,_,_=> .no
 | .slO id g off len=>match hp.get id with
  |some (g', .own t k es)=>match lo,hi,mx with
   |none,none,none=> .val (g'=g/\es.length=off+len/\k=ei.size/\0<len) (.slO id g off len)
   |some (.lit (.int _ l)),none,none=> .val (g'=g/\es.length=off+len/\k=ei.size/\0<=l/\l<len) (.slO id g (off+l.toNat) (len - l.toNat))
   |none,some (.lit (.int _ h)),none=>(g'=g/\es.length=off+len/\k=ei.size/\0<=h/\h<=len/\0<len, .slO id gn off h.toNat,[(id,some (gn, .own t k (es.take (off+h.toNat))))])
   |some (.lit (.int _ l)),some (.lit (.int _ h)),none=>(g'=g/\es.length=off+len/\k=ei.size/\0<=l/\l<=h/\h<=len/\l<len, .slO id gn (off+l.toNat) (h.toNat - l.toNat),[(id,some (gn, .own t k (es.take (off+h.toNat))))])
   |none,some (.lit (.int _ h)),some (.lit (.int _ m))=> .val (g'=g/\es.length=off+len/\k=ei.size/\h=0/\m=0) (.sl [] true)
   |_,_,_=> .no
  |_=> .no
 |_=> .no
def strOf (l:List UInt8):ByteArray:=⟨l.toArray⟩
def opSliceStr (s:ByteArray) (lo hi mx:Option AV):R:=
 match lo,hi,mx with
 |none,none,none=> .val True (.lit (.string s))
 |some (.lit (.int _ l)),none,none=> .val (0<=l/\l<=s.data.toList.length) (.lit (.string (strOf (s.data.toList.drop l.toNat))))
 |none,some (.lit (.int _ h)),none=> .val (0<=h/\h<=s.data.toList.length) (.lit (.string (strOf (s.data.toList.take h.toNat))))
 |some (.lit (.int _ l)),some (.lit (.int _ h)),none=> .val (0<=l/\l<=h/\h<=s.data.toList.length) (.lit (.string (strOf ((s.data.toList.take h.toNat).drop l.toNat))))
 |_,_,_=> .no
def opSliceA (n:Nat) (ei:TI) (hp:Hp) (lo hi mx:Option AV):AV->R
 | .ptO id g m i off=>match hp.get id,lo,hi,mx with
  |some (g', .box cs),none,none,none=>(g'=g/\m=0/\i=0/\off=0/\ei.size=1/\cs.length=n/\(n:Int)<=9223372036854775807/\(∀e∈cs,∀c∈e.cells,fzP 0 hp c), .sl (cs.map (mapc (fz 0 hp))) false,drops [id])
  |_,_,_,_=> .no
 |_=> .no
def opSlice (T:Tab) (t gn:Nat) (hp:Hp) (lo hi mx:Option AV) (v:AV):R:=
 match (tl T t).ty with
 | .slice el=>opSliceS (tl T el) gn hp lo hi mx v
 | .array n el=>opSliceA n (tl T el) hp lo hi mx v
 | .str=>match v with
  | .lit (.string s)=>opSliceStr s lo hi mx
  |_=> .no
 |_=> .no
def srcE (hp:Hp):AV->Option (List AV)
 | .sl ys _=>some ys
 | .slO id _ off _=>match hp.get id with
  |some (_, .own _ _ es)=>some (es.drop off)
  |_=>none
 |_=>none
def srcP (hp:Hp):AV->Prop
 | .sl _ _=>True
 | .slO id g off len=>match hp.get id with
  |some (g', .own _ _ es)=>g'=g/\es.length=off+len
  |_=>False
 |_=>False
def esR (es:List AV):List Nat:=es.flatMap fun e=>e.cells.flatMap attR
def opAppend (T:Tab) (t:Nat) (did g:Nat) (hp:Hp) (d x:AV):R:=
 let e:=elemOf T t
 let ei:=tl T e
 match srcE hp x with
 |some ys=>
  let ys':=ys.map (mapc (att hp))
  let okY:=srcP hp x/\ei.size≠0/\(∀y∈ys,y.cells.length=ei.size)/\(∀y∈ys,∀c∈y.cells,attP hp c)/\(esR ys).Nodup
  match d with
  | .sl es true=>if es.length=0 then(okY/\did∉esR ys/\ys.length*ei.bytes<=140737488355328/\ys.length<=9223372036854775807, .slO did g 0 ys.length,(did,some (g, .own e ei.size ys'))::drops (esR ys))
   else if ys.length=0 then(okY, .sl es false,[])
   else(okY/\did∉esR ys/\((∀y∈es,y.cells.length=ei.size)/\(∀y∈es,∀c∈y.cells,c.noKid=true))/\(es.length+ys.length)*ei.bytes<=140737488355328/\es.length+ys.length<=9223372036854775807, .slO did g 0 (es.length+ys.length),(did,some (g, .own e ei.size (es++ys')))::drops (esR ys))
  | .slO id g' off len=>match hp.get id with
   |some (g'', .own e' k es)=>(okY/\id∉esR ys/\g''=g'/\e'=e/\k=ei.size/\off=0/\es.length=len/\(len+ys.length)*ei.bytes<=140737488355328/\len+ys.length<=9223372036854775807,
     .slO id g' 0 (len+ys.length),(id,some (g', .own e k (es++ys')))::drops (esR ys))
   |_=> .no
  |_=> .no
 |none=> .no
def opCopy (T:Tab) (t:Nat) (hp:Hp) (d x:AV):R:=
 match (tl T t).ty,d,srcE hp x with
 | .slice e, .slO id g off len,some ys=>match hp.get id with
  |some (g', .own t' k es)=>(g'=g/\es.length=off+len/\k=1/\(tl T e).size=1/\srcP hp x/\(∀y∈ys,y.cells.length=1)/\(∀y∈ys,∀c∈y.cells,fzP 0 hp c/\c.noKid=true)/\0<len,
    .lit (.int .i64 (min ys.length len:Nat)),[(id,some (g, .own t' k (es.take off++ys.take (min ys.length len)++es.drop (off+min ys.length len))))])
  |_=> .no
 |_,_,_=> .no
def opClear (T:Tab) (t:Nat) (hp:Hp) (d:AV):R:=
 match (tl T t).ty,d with
 | .slice e, .slO id g off len=>match hp.get id with
  |some (g', .own t' k es)=>(g'=g/\es.length=off+len/\k=(tl T e).size, .tup [],[(id,some (g, .own t' k (es.take off++List.replicate len (tl T e).zav)))])
  |_=> .no
 |_,_=> .no
def bytesOf:List AV->Option (List UInt8)
 |[]=>some []
 | .lit (.int .u8 n)::l=>(bytesOf l).map (UInt8.ofNat n.toNat::·)
 |_=>none
def byteE (b:UInt8):AV:= .lit (.int .u8 (b.toNat:Nat))
def partsOk (n:Nat) (ps:List (Nat×Operand)):Bool:=ps.map (·.1)==List.range n
def opLen (T:Tab) (t:Nat) (hp:Hp) (v:AV):R:=
 match (tl T t).ty with
 | .slice _=>match v with
  | .sl es _=> .val True (.lit (.int .i64 es.length))
  | .slO id g off len=>match hp.get id with
   |some (g', .own _ _ es)=> .val (g'=g/\es.length=off+len) (.lit (.int .i64 len))
   |_=> .no
  |_=> .no
 | .str=>match v with
  | .lit (.string s)=> .val True (.lit (.int .i64 s.size))
  |_=> .no
 | .array n _=> .val True (.lit (.int .i64 n))
 |_=> .no
def mfind (n:Int):List (Int×Int)->Nat->Option (Nat×Int)
 |[],_=>none
 |p::l,i=>if n=p.1 then some (i,p.2) else mfind n l (i+1)
def mget (l:List (Int×Int)) (n:Int):Int:=match mfind n l 0 with
 |some (_,v)=>v
 |none=>0
def mset (l:List (Int×Int)) (n v:Int):List (Int×Int):=match mfind n l 0 with
 |some (i,_)=>l.set i (n,v)
 |none=>l++[(n,v)]
def sget (k:List UInt8) (z:AV):List (ByteArray×AV)->AV
 |[]=>z
 |p::l=>if p.1.data.toList=k then p.2 else sget k z l
def shas (k:List UInt8):List (ByteArray×AV)->Bool
 |[]=>false
 |p::l=>decide (p.1.data.toList=k)||shas k l
def isStrMap (T:Tab) (t:Nat):Bool:=match (tl T t).ty with
 | .map kt _=>match (tl T kt).ty with
  | .str=>true
  |_=>false
 |_=>false
def opLookup2 (T:Tab) (t:Nat) (hp:Hp) (m k:AV):R:=
 match (tl T t).ty,m,k with
 | .map kt et, .mpO id g, .lit (.string s)=>match hp.get id with
  |some (g', .ms es)=> .val (g'=g/\(tl T kt).ty= .str/\(tl T et).size≠0/\(tl T et).agg=false) (.tup [sget s.data.toList (tl T et).zav es, .lit (.bool (shas s.data.toList es))])
  |_=> .no
 |_,_,_=> .no
def opMapUpdS (T:Tab) (t:Nat) (hp:Hp) (m k v:AV):R:=
 match (tl T t).ty,m,k with
 | .map kt _, .mpO id g, .lit (.string s)=>match hp.get id with
  |some (g', .ms es)=>(g'=g/\(tl T kt).ty= .str/\shas s.data.toList es=false/\v.one=true/\v.noKid=true, .bad,[(id,some (g, .ms (es++[(s,v)])))])
  |_=> .no
 |_,_,_=> .no
def opLookup (T:Tab) (t:Nat) (hp:Hp) (m k:AV):R:=
 match (tl T t).ty,m,k with
 | .map kt et, .mpO id g, .lit (.int .i64 n)=>match hp.get id with
  |some (g', .mp es)=> .val (g'=g/\(tl T kt).ty= .int .i64/\(tl T et).size≠0/\(tl T et).zval= .int .i64 0) (.lit (.int .i64 (mget es n)))
  |_=> .no
 |_,_,_=> .no
def opMapUpd (T:Tab) (t:Nat) (hp:Hp) (m k v:AV):R:=
 match (tl T t).ty,m,k,v with
 | .map kt _, .mpO id g, .lit (.int .i64 n), .lit (.int .i64 x)=>match hp.get id with
  |some (g', .mp es)=>(g'=g/\(tl T kt).ty= .int .i64, .bad,[(id,some (g, .mp (mset es n x)))])
  |_=> .no
 |_,_,_,_=> .no
def isNil:Operand->Bool
 | .const (.slice none 0 0)=>true
 |_=>false
def bopB (b:Bool) (op:BinOp) (ti:TI) (x y:AV):R:=
 match b with
 |false=>bop op ti x y
 |true=>match op,ti.ty,x with
  | .eql, .slice _, .sl es _=> .val (0<es.length) (.lit (.bool false))
  | .neq, .slice _, .sl es _=> .val (0<es.length) (.lit (.bool true))
  |_,_,_=> .no
def isNilI:Operand->Bool
 | .const .nilIface=>true
 |_=>false
def bopI (b:Bool) (op:BinOp) (ti:TI) (x:AV) (r:R):R:=
 match b with
 |false=>r
 |true=>match op,ti.ty,x with
  | .eql, .iface, .ifn=> .val True (.lit (.bool false))
  | .neq, .iface, .ifn=> .val True (.lit (.bool true))
  | .eql, .iface, .lit .nilIface=> .val True (.lit (.bool true))
  | .neq, .iface, .lit .nilIface=> .val True (.lit (.bool false))
  |_,_,_=> .no
def opV (T:Tab) (o:Oper) (ev:Operand->AV) (hp:Hp) (g:Nat):R:=
 let did:=100+o.dst.getD 0
 match o.op with
 | .move x=> .val True (ev x)
 | .assign x=>match x,(tl T o.type).ty with
  | .const (.slice none 0 0), .slice e=>((tl T e).size≠0, .slO did g 0 0,[(did,some (g, .own e (tl T e).size []))])
  |_,_=> .val True (ev x)
 | .pick c a b=>match ev c with
  | .lit (.bool c)=> .val True (if c then ev a else ev b)
  |_=> .no
 | .binOp op t x y _=>bopI (isNilI y) op (tl T t) (ev x) (bopB (isNil y) op (tl T t) (ev x) (ev y))
 | .makeMap t none=>(True, .mpO did g,[(did,some (g,if isStrMap T t then .ms [] else .mp []))])
 | .lookup t m k false=>opLookup T t hp (ev m) (ev k)
 | .lookup t m k true=>opLookup2 T t hp (ev m) (ev k)
 | .mapUpdate t m k v=>if isStrMap T t then opMapUpdS T t hp (ev m) (ev k) (ev v) else opMapUpd T t hp (ev m) (ev k) (ev v)
 | .insert t m k v=>opMapUpdS T t hp (ev m) (ev k) (ev v)
 | .unOp .not _ x=>match ev x with
  | .lit (.bool b)=> .val True (.lit (.bool (!b)))
  |_=> .no
 | .unOp .neg _ x=>match ev x with
  | .lit (.int k n)=>arith k (0 - n)
  |_=> .no
 | .nilCheck x=>match ev x with
  | .gl n=> .val True (.gl n)
  | .ptI cs=> .val True (.ptI cs)
  | .ptO id g n i off=> .val (hp.has id g n) (.ptO id g n i off)
  |_=> .no
 | .extract x i=>match ev x with
  | .tup vs=> .val (i<vs.length) (vs.getD i .bad)
  |_=> .no
 | .load t a=>opLoad (tl T t) did g hp (glob T (ev a))
 | .store t a v=>opStore (tl T t) hp (ev v) (ev a)
 | .indexAddr t x i=>opIndexAddr (tl T t) (tl T (elemOf T t)) hp (glob T (ev x)) (ev i)
 | .fieldAddr t x f=>opFieldAddr T t f hp (glob T (ev x))
 | .field t x f=>opField T t f (ev x)
 | .index t x i=>opIndex T t (ev x) (ev i)
 | .slice t x lo hi mx=>opSlice T t g hp (lo.map ev) (hi.map ev) (mx.map ev) (ev x)
 | .makeSlice t l c=>match (tl T t).ty,ev l,ev c with
  | .slice e, .lit (.int _ l), .lit (.int _ c)=>
   (0<=l/\l<=c/\c*(tl T e).bytes<=140737488355328/\c<=9223372036854775807/\(tl T e).size≠0, .slO did g 0 l.toNat,[(did,some (g, .own e (tl T e).size (List.replicate l.toNat (tl T e).zav)))])
  |_,_,_=> .no
 | .buildSlice t n ps=>match (tl T t).ty with
  | .slice el=>
  let ei:=tl T el
  let vs:=ps.toList.map fun p=>ev p.2
  (partsOk n ps.toList=true/\ei.size≠0/\n*ei.size<=16777216/\(∀v∈vs,v.cells.length=ei.size/\∀c∈v.cells,c.one=true/\c.noKid=true),
   .slO did g 0 n,[(did,some (g, .own el ei.size vs))])
  |_=> .no
 | .alloc t=>match (tl T t).ty with
  | .bld e=>((tl T t).size≠0/\(tl T t).zs=[.ptr, .sl]/\(tl T t).agg=true, .ptO did g 0 0 0,[(did,some (g, .bd t e []))])
  |_=>((tl T t).size≠0, .ptO did g 0 0 0,[(did,some (g, .box (tl T t).zav.cells))])
 | .box t x=>(((ev x).cells.length=(tl T t).size/\∀c∈(ev x).cells,c.one=true/\c.noKid=true), .ptO did g 0 0 0,[(did,some (g, .box (ev x).cells))])
 | .build t ps=>match (tl T t).ty with
  | .struct fs=>
   let step:=fun(cs:List AV) (p:Nat×Operand)=>splice cs (fs.getD p.1 (0,0)).1 (ev p.2).cells
   (∀p∈ps.toList,p.1<fs.length/\(tl T (fs.getD p.1 (0,0)).2).size≠0/\(ev p.2).cells.length=(tl T (fs.getD p.1 (0,0)).2).size/\(fs.getD p.1 (0,0)).1+(tl T (fs.getD p.1 (0,0)).2).size<=(tl T t).size/\(∀c∈(ev p.2).cells,c.one=true),
    .agg (ps.toList.foldl step ((tl T t).zs.map ZC.av)),[])
  | .array n el=>
   (ps.toList≠[]/\∀p∈ps.toList,p.1<n/\(tl T el).size≠0/\(ev p.2).cells.length=(tl T el).size/\p.1*(tl T el).size+(tl T el).size<=(tl T t).size/\(∀c∈(ev p.2).cells,c.one=true),
    .agg (ps.toList.foldl (fun cs p=>splice cs (p.1*(tl T el).size) (ev p.2).cells) ((tl T t).zs.map ZC.av)),[])
  |_=> .no
 | .convert s d x=>match (tl T s).ty,(tl T d).ty,ev x with
  | .int _, .int k, .lit (.int _ n)=> .val True (.lit (.int k (k.wrap n)))
  | .str, .slice e, .lit (.string b)=>match (tl T e).ty with
   | .int .u8=>(b.data.toList.length<=9223372036854775807, .slO did g 0 b.data.toList.length,[(did,some (g, .own e 1 (b.data.toList.map byteE)))])
   |_=> .no
  | .slice e, .str,v=>match (tl T e).ty,srcE hp v with
   | .int .u8,some ys=>match bytesOf ys with
    |some bs=> .val (srcP hp v) (.lit (.string (strOf bs)))
    |none=> .no
   |_,_=> .no
  |_,_,_=> .no
 | .call {callee:= .builtin b,args,argTypes}=>match b,args.toList,argTypes.toList with
  | .len,[x],[t]=>opLen T t hp (ev x)
  | .append,[d,x],[t,t']=>match (tl T t).ty with
   | .slice _=>let r:=opAppend T t did g hp (ev d) (ev x);(t'=t/\r.1,r.2)
   |_=> .no
  | .copy,[d,x],[t,_]=>opCopy T t hp (ev d) (ev x)
  | .clear,[d],[t]=>opClear T t hp (ev d)
  | .min,[x,y],[_,_]=>match ev x,ev y with
   | .lit (.int k a), .lit (.int _ b)=> .val True (.lit (.int k (if b<a then b else a)))
   |_,_=> .no
  | .max,[x,y],[_,_]=>match ev x,ev y with
   | .lit (.int k a), .lit (.int _ b)=> .val True (.lit (.int k (if a<b then b else a)))
   |_,_=> .no
  |_,_,_=> .no
 | .makeFunc fn first caps=>match fn,first.toList with
  | .func f,[]=> .val True (.fn f (caps.toList.map ev))
  | .func f,x::xs=>(caps.toList=[], .bfn f ((x::xs).map ev),[])
  |_,_=> .no
 |_=> .no
def fnArgs:AV->List AV->Option (FuncId×List AV)
 | .fn f caps,vs=>some (f,vs++caps)
 | .bfn f first,vs=>some (f,first++vs)
 |_,_=>none
open Go
def gadd (G:Nat->Prop) (g:Nat):Nat->Prop:=fun x=>G x\/x=g
section inv
variable {w:World} {U:Nat->Prop} {e:Env} {G:Nat->Prop} {x:Value}
theorem VR.lit_inv {v:Value} (h:VR w U e G (.lit v) x):x=v/\v.oneCell'=true:=by
 cases h with|dat _ _ h=>cases h with|lit _ h=>exact⟨rfl,h⟩
theorem VR.agg_inv {cs:List AV} (h:VR w U e G (.agg cs) x):∃vs:Array Value,x= .agg vs/\cs.length=vs.size/\(∀i (h:i<cs.length),cs[i].one=true)/\
  ∀i (h:i<cs.length),VR w U e G cs[i] (vs.getD i undef):=by
 cases h with
 |dat _ _ h=>cases h with|agg _ vs h1 h2 h3=>exact⟨vs,rfl,h1,h2,fun i hi=> .dat _ _ (h3 i hi)⟩
 |agg _ vs h1 h2 h3=>exact⟨vs,rfl,h1,h2,h3⟩
theorem VR.tup_inv {cs:List AV} (h:VR w U e G (.tup cs) x):∃vs:Array Value,x= .tuple vs/\cs.length=vs.size/\
  ∀i (h:i<cs.length),VR w U e G cs[i] (vs.getD i undef):=by
 cases h with
 |dat _ _ h=>cases h with|tup _ vs h1 h3=>exact⟨vs,rfl,h1,fun i hi=> .dat _ _ (h3 i hi)⟩
 |tup _ vs h1 h3=>exact⟨vs,rfl,h1,h3⟩
theorem VR.sl_inv {es:List AV} {full:Bool} (h:VR w U e G (.sl es full) x):VD w U (.sl es full) x:=by
 cases h with|dat _ _ h=>exact h
theorem VR.ptI_inv {cs:List AV} (h:VR w U e G (.ptI cs) x):VD w U (.ptI cs) x:=by
 cases h with|dat _ _ h=>exact h
theorem VD.slO_no {id g off len:Nat} (h:VD w U (.slO id g off len) x):False:=by cases h
theorem VD.ptO_no {id g n i off:Nat} (h:VD w U (.ptO id g n i off) x):False:=by cases h
theorem VR.slO_inv {id g off len:Nat} (h:VR w U e G (.slO id g off len) x):G g/\x.oneCell'=true/\
  ∀ee,e id=some ee->ee.g=g->off+len<=ee.n/\(ee.n=off+len->SlOK ee off len x):=by
 cases h with
 |dat _ _ h=>exact h.slO_no.elim
 |slO _ _ _ _ _ h1 h2 h3=>exact⟨h1,h2,h3⟩
theorem VR.ptO_inv {id g n i off:Nat} (h:VR w U e G (.ptO id g n i off) x):G g/\x.oneCell'=true/\
  ∀ee,e id=some ee->ee.g=g->n<=ee.n/\(ee.n=n->∀b c,ee.blk=some (b,c)->x= .pointer (some ⟨b,i*ee.k+off,none⟩)):=by
 cases h with
 |dat _ _ h=>exact h.ptO_no.elim
 |ptO _ _ _ _ _ _ h1 h2 h3=>exact⟨h1,h2,h3⟩
theorem VD.ptI_inv {cs:List AV} (h:VD w U (.ptI cs) x):∃(b off:Nat) (f:Nat->Value),x= .pointer (some ⟨b,off,none⟩)/\U b/\b<w.heap.size/\
  (∀j,j<cs.length->w.cell? ⟨b,off+j,none⟩=some (f j))/\(∀j (h:j<cs.length),cs[j].one=true)/\∀j (h:j<cs.length),VD w U cs[j] (f j):=by
 cases h with|ptI _ b off f h1 h2 h3 h4 h5=>exact⟨b,off,f,rfl,h1,h2,h3,h4,h5⟩
theorem VD.sl_inv {es:List AV} {full:Bool} (h:VD w U (.sl es full) x):(es=[]/\∃a,x= .slice a 0 0)\/
  ∃(b off cap k:Nat) (f:Nat->Value),x= .slice (some ⟨b,off,none⟩) es.length cap/\U b/\b<w.heap.size/\es.length<=cap/\cap<=maxLen/\(full=true->cap=es.length)/\0<k/\
   (∀i (h:i<es.length),es[i].cells.length=k)/\
   (∀j,j<es.length*k->w.cell? ⟨b,off+j,none⟩=some (f j))/\
   (∀i (h:i<es.length) j (h':j<es[i].cells.length),es[i].cells[j].one=true)/\
   (∀i (h:i<es.length) j (h':j<es[i].cells.length),VD w U es[i].cells[j] (f (i*k+j))):=by
 cases h with
 |nil _ a=>exact .inl ⟨rfl,a,rfl⟩
 |sl _ _ b off cap k f h1 h2 h3 h4 h5 h6 h7 h8 h9 h10=>exact .inr ⟨b,off,cap,k,f,rfl,h1,h2,h3,h4,h5,h6,h7,h8,h9,h10⟩
theorem VD.ofC (v:Value):VD w U (ofC v) v:=by
 unfold Sym.ofC
 split
 ·exact .nil _ _
 ·split
  ·rename_i h;exact .lit _ h
  ·exact .bad _
theorem VD.ofV (v:Value):VD w U (ofV v) v:=by
 unfold Sym.ofV
 split
 ·rename_i cs
  split
  ·rename_i h
   rw[List.all_eq_true] at h
   refine .agg _ _ (by simp) ?_ ?_
   ·intro i hi
    simp only[List.getElem_map]
    exact h _ (List.getElem_mem _)
   ·intro i hi
    simp only[List.getElem_map,Array.getElem_toList]
    rw[Array.getD_eq_getD_getElem?,Array.getElem?_eq_getElem (by simpa using hi)]
    exact VD.ofC _
  ·exact .bad _
 ·exact VD.ofC _
theorem VD.kid_no {t k:Nat} {es:List AV} (h:VD w U (.kid t k es) x):False:=by cases h
theorem VR.kid_no {t k:Nat} {es:List AV} (h:VR w U e G (.kid t k es) x):False:=by
 cases h with|dat _ _ h=>exact h.kid_no
theorem VR.gl_inv {g:Nat} (h:VR w U e G (.gl g) x):x= .pointer (some ⟨g,0,none⟩):=by
 cases h with|dat _ _ h=>cases h;rfl
end inv
def OpOk (C:Cx) (e:Env) (G:Nat->Prop) (g:Nat) (hp:Hp) (w:World) (r:R) (res:Result Next):Prop:=
 ∃nx w' e',res= .ok nx w'/\HRel w' e' (gadd G g) (r.2.2++hp)/\Ext w e G w' e' (gadd G g)/\Lnt C w' e' (gadd G g)/\Frm C w'/\
  ((∃xv,nx= .value xv/\VR w' (UE e') e' (gadd G g) r.2.1 xv)\/(nx= .skip/\r.2.1= .bad))
structure Pre (C:Cx) (e:Env) (G:Nat->Prop) (g:Nat) (hp:Hp) (w:World):Prop where
 hr:HRel w e G hp
 ln:Lnt C w e G
 fr:Frm C w
 ng:¬G g
theorem Ext.wide (w:World) (e:Env) (G:Nat->Prop) (g:Nat):Ext w e G w e (gadd G g):=
 ⟨Nat.le_refl _,fun _ h=> .inl h,fun _ _ h=>h,fun _ _ _=>rfl,fun _ ee' h _=>⟨ee',h,rfl,rfl, .inl ⟨rfl,rfl⟩⟩⟩
theorem HRel.widen {w:World} {e:Env} {G G':Nat->Prop} {hp:Hp} (h:HRel w e G hp) (hg:∀g,G g->G' g):HRel w e G' hp:=by
 have x:Ext w e G w e G':=⟨Nat.le_refl _,hg,fun _ _ h=>h,fun _ _ _=>rfl,fun _ ee' h _=>⟨ee',h,rfl,rfl, .inl ⟨rfl,rfl⟩⟩⟩
 exact⟨h.dead,fun id g ob hi=>by
  obtain⟨ee,h1,h2,h3,h4⟩:=h.live id g ob hi
  exact⟨ee,h1,h2,hg _ h3,h4.ext x fun b c _=>⟨rfl,fun _ _ h=>⟨rfl,h⟩⟩⟩,h.inj,h.lt,h.nz,h.kl,h.ko,h.kk⟩
theorem HRel.wide {w:World} {e:Env} {G:Nat->Prop} {hp:Hp} {g:Nat} (h:HRel w e G hp):HRel w e (gadd G g) hp:=h.widen fun _ h=> .inl h
theorem Lnt.wide {C:Cx} {w:World} {e:Env} {G:Nat->Prop} (h:Lnt C w e G) (g:Nat):Lnt C w e (gadd G g):=⟨h.zeq,h.zlt,h.ext.trans (Ext.wide w e G g),h.mine⟩
structure GOk (T:Tab) (w:World) (U:Nat->Prop):Prop where
 cell:∀g cs,glu T.gl g=some cs->VD w U (.ptI cs) (.pointer (some ⟨g,0,none⟩))
 full:∀p∈T.full,U p.1/\p.1<w.heap.size/\∃t fz,w.heap[p.1]?=some (.cells p.2 t fz)
theorem GOk.mono {T:Tab} {w w':World} {U U':Nat->Prop} (h:GOk T w U) (hs:w.heap.size<=w'.heap.size) (hU:∀b,b<w.heap.size->U b->U' b)
  (hh:∀b,b<w.heap.size->U b->w'.heap[b]?=w.heap[b]?):GOk T w' U':=by
 refine⟨fun g cs hg=>(h.cell g cs hg).mono hs hU hh,fun p hp=>?_⟩
 obtain⟨h1,h2,t,fz,h3⟩:=h.full p hp
 exact⟨hU _ h2 h1,Nat.lt_of_lt_of_le h2 hs,t,fz,(hh _ h2 h1).trans h3⟩
structure COk (C:Cx) (T:Tab):Prop where
 ty:TOk C.P T
 gl:GOk T C.w0 (UE C.e0)
theorem COk.glob {C:Cx} {T:Tab} (h:COk C T) {w:World} {e:Env} {G:Nat->Prop} (hl:Lnt C w e G) {v:AV} {x:Value} (hv:VR w (UE e) e G v x):VR w (UE e) e G (glob T v) x:=by
 cases v with
 |gl g=>
  simp only[Sym.glob]
  cases hg:glu T.gl g with
  |none=>exact hv
  |some cs=>
   rw[hv.gl_inv]
   exact .dat _ _ ((h.gl.cell g cs hg).mono hl.ext.size hl.ext.un hl.ext.same)
 |_=>exact hv
section
variable {C:Cx} {e:Env} {G:Nat->Prop} {g:Nat} {hp:Hp} {w:World}
theorem OpOk.pure (p:Pre C e G g hp w) {v:AV} {ob:Prop} {xv:Value} (h:VR w (UE e) e G v xv):OpOk C e G g hp w (ob,v,[]) (.ok (.value xv) w):=by
 have x:=Ext.wide w e G g
 exact⟨_,w,e,rfl,p.hr.wide,x,p.ln.wide g,p.fr, .inl ⟨xv,rfl,h.ext x⟩⟩
theorem TOk.fit {P:Program} {T:Tab} (h:TOk P T) {t:Nat} {ty:Ty} (ht:(tl T t).ty=ty) (hne:ty≠ .other):TFit P t (tl T t):=by
 rcases h t with h|h
 ·rw[h] at ht;exact absurd ht.symm hne
 ·exact h
theorem TOk.fits {P:Program} {T:Tab} (h:TOk P T) {t:Nat} (ht:(tl T t).size≠0):TFit P t (tl T t):=by
 rcases h t with h|h
 ·rw[h] at ht;exact absurd rfl ht
 ·exact h
theorem TFit.under {P:Program} {t:Nat} {ti:TI} (h:TFit P t ti):∃d,P.underlying t=some d/\ti.ty.fits d:=by
 obtain⟨d,h1,h2,_⟩:=h.desc;exact⟨d,h1,h2⟩
theorem run_isAgg {P:Program} {t:Nat} {ti:TI} (h:TFit P t ti) (w:World):(isAgg t).run P w= .ok ti.agg w:=by
 obtain⟨d,h1,h2,h3⟩:=h.desc
 rw[h3]
 unfold isAgg
 rw[Sem.run_bind,run_underlying h1]
 simp only[Result.andThen_ok]
 cases d<;>rfl
theorem run_sizeOf' {P:Program} {t:Nat} {ti:TI} (h:TFit P t ti) (w:World):(sizeOf t).run P w= .ok ti.size w:=by
 obtain⟨i,h1,h2,_⟩:=h.info
 simp[sizeOf,typeInfo,h1,h2]
theorem run_zeroValue' {P:Program} {t:Nat} {ti:TI} (h:TFit P t ti) (w:World):(zeroValue t).run P w= .ok ti.zval w:=by
 obtain⟨i,h1,_,_,h2⟩:=h.info
 simp[zeroValue,typeInfo,h1,h2]
theorem ok_int (p:Pre C e G g hp w) (ob:Prop) (k:IntKind) (n:Int):OpOk C e G g hp w (ob, .lit (.int k n),[]) (.ok (.value (.int k n)) w):=
 .pure p (.dat _ _ (.lit _ rfl))
theorem ok_bool (p:Pre C e G g hp w) (ob:Prop) (b:Bool):OpOk C e G g hp w (ob, .lit (.bool b),[]) (.ok (.value (.bool b)) w):=
 .pure p (.dat _ _ (.lit _ rfl))
theorem wrap_i64 {r:Int} (h:-9223372036854775808<=r/\r<=9223372036854775807):IntKind.i64.wrap r=r:=IntWalk.i64_in r h
theorem arith_ok (p:Pre C e G g hp w) (k:IntKind) (r:Int) (h:(arith k r).1):OpOk C e G g hp w (arith k r) (.ok (.value (.int k (k.wrap r))) w):=by
 cases k<;>simp only[arith,R.val] at h ⊢<;>first|exact ok_int p _ _ _|(rw[wrap_i64 h];exact ok_int p _ _ _)
theorem bopInt_ok (p:Pre C e G g hp w) (op:BinOp) (t:TypeId) (k:IntKind) (a b:Int) (x y:Operand) (h:(bopInt op k a b).1):
  OpOk C e G g hp w (bopInt op k a b) (((do eqGuard op t x y (.int k a) (.int k b);let v<-binOp op t (.int k a) (.int k b);Pure.pure (Next.value v)):Sem Next).run C.P w):=by
 cases op<;>simp only[bopInt,R.val,R.no] at h ⊢<;>simp only[go_sem,Sem.run_bind,Sem.run_pure,Result.andThen_ok,Op.intArith,Op.intDiv]
 case add=>exact arith_ok p k _ h
 case sub=>exact arith_ok p k _ h
 case mul=>exact arith_ok p k _ h
 case quo=>simp only[h,if_false,Sem.run_pure,Result.andThen_ok];exact ok_int p _ _ _
 case rem=>simp only[h,if_false,Sem.run_pure,Result.andThen_ok];exact ok_int p _ _ _
 case eql=>rw[show(a==b)=decide (a=b) from rfl];exact ok_bool p _ _
 case neq => rw [show (a != b) = decide (a ≠ b) from by by_cases h : a = b <;> simp [h]]; exact ok_bool p _ _
 case lss=>exact ok_bool p _ _
 case leq=>exact ok_bool p _ _
 case gtr=>exact ok_bool p _ _
 case geq=>exact ok_bool p _ _
 case and=>exact ok_int p _ _ _
 case or=>exact ok_int p _ _ _
 case xor=>exact ok_int p _ _ _
 case andNot=>exact ok_int p _ _ _
theorem ldCells_ok (p:Pre C e G g hp w) {ti:TI} {t:Nat} (_hf:TFit C.P t ti) {cs:List AV} {cv:Array Value} (hl:cs.length<=cv.size) (h1:∀i (h:i<cs.length),cs[i].one=true)
  (hv:∀i (h:i<cs.length),VR w (UE e) e G cs[i] (cv.getD i undef)) (hag:ti.agg=false->ti.size=1) (h:(ldCells ti cs).1):
  OpOk C e G g hp w (ldCells ti cs) (.ok (.value (if ti.agg then .agg (cv.extract 0 ti.size) else cv.getD 0 undef)) w):=by
 unfold ldCells R.val at h ⊢
 simp only at h
 refine .pure p ?_
 cases hagg:ti.agg with
 |true=>
  simp only[if_true]
  refine .agg _ _ (by simp;omega) ?_ ?_
  ·intro i hi
   simp only[List.getElem_take]
   exact h1 _ _
  ·intro i hi
   have hi':i<ti.size/\i<cs.length:=by simp at hi;omega
   simp only[List.getElem_take]
   have:=hv i hi'.2
   rw[Array.getD_eq_getD_getElem?] at this ⊢
   rw[Array.getElem?_extract,if_pos (by omega)]
   simpa using this
 |false=>
  simp only[Bool.false_eq_true,if_false]
  have hs:=hag hagg
  have h0:0<cs.length:=by omega
  have:=hv 0 h0
  rw[List.getD_eq_getElem?_getD,List.getElem?_eq_getElem h0]
  exact this
end
open Go
section
variable {C:Cx} {e:Env} {G:Nat->Prop} {g:Nat} {hp:Hp} {w:World}
theorem add_none (b o n:Nat):Addr.add ⟨b,o,none⟩ n=⟨b,o+n,none⟩:=Addr.add_lit b o n
theorem cells_getD {n:Nat} (f:Nat->Value) {i:Nat} (h:i<n):(((List.range n).map f).toArray).getD i undef=f i:=by
 simp[Array.getD_eq_getD_getElem?,h]
theorem run_loadAt {P:Program} {t:Nat} {ti:TI} (hf:TFit P t ti) (w:World) (b off:Nat) (f:Nat->Value)
  (hc:∀j,j<ti.size->w.cell? ⟨b,off+j,none⟩=some (f j)):
  (Instr.loadAt t (.pointer (some ⟨b,off,none⟩))).run P w= .ok (if ti.agg then .agg ((List.range ti.size).map f).toArray else f 0) w:=by
 unfold Instr.loadAt Instr.sureAddr loadVar
 rw[Sem.run_bind,Sem.run_pure,Result.andThen_ok,Sem.run_bind,run_isAgg hf,Result.andThen_ok]
 cases hag:ti.agg with
 |true=>
  simp only[if_true,Sem.run_bind,run_sizeOf' hf,Result.andThen_ok,Sem.run_pure]
  rw[run_loadCells w ⟨b,off,none⟩ ti.size f (fun j hj=>by rw[add_none];exact hc j hj)]
  rfl
 |false=>
  have h1:=hf.one hag
  have h0:=hc 0 (by omega)
  simp only[Bool.false_eq_true,if_false]
  rw[run_load]
  simp only[Nat.add_zero] at h0
  rw[h0]
theorem ldCells_pure {ti:TI} {t:Nat} (hf:TFit C.P t ti) {cs:List AV} {b off:Nat} {f:Nat->Value}
  (hc:∀j,j<cs.length->w.cell? ⟨b,off+j,none⟩=some (f j)) (h1:∀i (h:i<cs.length),cs[i].one=true)
  (hv:∀i (h:i<cs.length),VR w (UE e) e G cs[i] (f i)) (h:(ldCells ti cs).1):
  ∃xv,(Instr.loadAt t (.pointer (some ⟨b,off,none⟩))).run C.P w= .ok xv w/\VR w (UE e) e G (ldCells ti cs).2.1 xv:=by
 have hs:ti.size<=cs.length:=h.2
 refine⟨_,run_loadAt hf w b off f fun j hj=>hc j (by omega),?_⟩
 unfold ldCells R.val
 cases hagg:ti.agg with
 |true=>
  simp only[if_true]
  refine .agg _ _ (by simp;omega) ?_ ?_
  ·intro i hi;simp only[List.getElem_take];exact h1 _ _
  ·intro i hi
   have hi':i<ti.size:=by simp at hi;omega
   simp only[List.getElem_take]
   rw[cells_getD f hi']
   exact hv i _
 |false=>
  simp only[Bool.false_eq_true,if_false]
  have h0:0<cs.length:=by have:=hf.one hagg;omega
  rw[List.getD_eq_getElem?_getD,List.getElem?_eq_getElem h0]
  exact hv 0 h0
theorem one_getElem {cs:List AV} (h1:∀i (h:i<cs.length),cs[i].one=true) (n:Nat):∀i (h:i<(cs.drop n).length),(cs.drop n)[i].one=true:=by
 intro i hi;simp only[List.getElem_drop];exact h1 _ _
theorem cell_of_heap {b o:Nat} {cs:Array Value} {t:Nat} {fz:Nat×Nat} (h:w.heap[b]?=some (.cells cs t fz)) (ho:o<cs.size):w.cell? ⟨b,o,none⟩=some (cs.getD o undef):=by
 simp[World.cell?,h,Array.getD_eq_getD_getElem?,ho]
theorem VC.noKid {B c:Nat} {av:AV} {v:Value} (h:VC w e G B c av v) (hn:av.noKid=true):VR w (UE e) e G av v:=by
 cases h with
 |val _ _ h=>exact h
 |kid0=>cases hn
 |kid=>cases hn
theorem setc_cells {el v:AV} {off:Nat} (h:off<el.cells.length) (hv:v.cells=[v]):(setc el off v).cells=el.cells.set off v:=by
 cases el with
 |agg cs=>rfl
 |_=>simp only[AV.cells,List.length_singleton] at h;obtain rfl:off=0:=(by omega);exact hv
theorem getD_lt {es:List AV} {i:Nat} (h:i<es.length):es.getD i .bad=es[i]:=by
 rw[List.getD_eq_getElem?_getD,List.getElem?_eq_getElem h];rfl
theorem detach_ok (p:Pre C e G g hp w) {id did:Nat} (hne:id≠did) {ee:EE} (he:e id=some ee) {t k i off t' k':Nat} {es xs:List AV} (hi:i<es.length) (hoff:off<es[i].cells.length)
  {b bcap:Nat} (hb:ee.blk=some (b,bcap)) (hor:ORel w e G (.own t k es) ee) (hc:es[i].cells[off]= .kid t' k' xs) {x:Value}
  (hx:∃cs,Cl w b cs t/\x=cs.getD (i*k+off) undef) {P:Prop}:
  OpOk C e G g hp w (P, .slO did g 0 xs.length,[(did,some (g, .own t' k' xs)),(id,some (ee.g, .own t k (es.set i (setc es[i] off (.slO did g 0 xs.length)))))]) (.ok (.value x) w):=by
 obtain⟨cs0,hh0,rfl⟩:=hx
 obtain⟨hk,hn,hk0,hkl,h1,hbb⟩:=hor
 rw[hb] at hbb
 obtain⟨hm,hcap,cs,hh,hs,hv⟩:=hbb
 obtain⟨rfl,_⟩:=hh0.inj hh
 have hvc:=hv i hi off hoff
 rw[hc] at hvc
 have main:∀(blk':Option (Nat×Nat)) (kd:Nat->Option (Nat×Nat)),
   (∀b1 B c,kd b1=some (B,c)->e.kid b1=some (B,c))->
   (∀b1 B c,e.kid b1=some (B,c)->(B,c)≠(b,i*k+off)->kd b1=some (B,c))->
   (∀b' c',blk'=some (b',c')->e.kid b'=some (b,i*k+off)/\kd b'=none)->
   SlOK ⟨g,blk',k',xs.length⟩ 0 xs.length (cs0.getD (i*k+off) undef)->(cs0.getD (i*k+off) undef).oneCell'=true->
   (∀x:Ext w e G w ⟨fun j=>if j=did then some ⟨g,blk',k',xs.length⟩ else e j,e.z,kd⟩ (gadd G g),ORel w ⟨fun j=>if j=did then some ⟨g,blk',k',xs.length⟩ else e j,e.z,kd⟩ (gadd G g) (.own t' k' xs) ⟨g,blk',k',xs.length⟩)->
   OpOk C e G g hp w (P, .slO did g 0 xs.length,[(did,some (g, .own t' k' xs)),(id,some (ee.g, .own t k (es.set i (setc es[i] off (.slO did g 0 xs.length)))))]) (.ok (.value (cs0.getD (i*k+off) undef)) w):=by
  intro blk' kd kd1 kd2 hblk hsl hone hobj
  generalize he':(⟨fun j=>if j=did then some ⟨g,blk',k',xs.length⟩ else e j,e.z,kd⟩:Env)=e' at hobj
  have e1:e' did=some ⟨g,blk',k',xs.length⟩:=by subst he';simp
  have e2:∀j,j≠did->e' j=e j:=by intro j hj;subst he';simp[hj]
  have e3:e'.z=e.z:=by subst he';rfl
  have e4:e'.kid=kd:=by subst he';rfl
  have hObj:∀b1,ObjB e' b1->ObjB e b1\/∃c',blk'=some (b1,c'):=by
   rintro b1 ⟨j,ej,c1,h1,h2⟩
   by_cases hj:j=did
   ·subst hj;rw[e1] at h1;cases h1;exact .inr ⟨c1,h2⟩
   ·rw[e2 j hj] at h1;exact .inl ⟨j,ej,c1,h1,h2⟩
  have hbo:ObjB e b:=⟨id,ee,bcap,he,hb⟩
  have ext:Ext w e G w e' (gadd G g):=by
   refine Ext.mk' (Nat.le_refl _) (fun _ h=> .inl h) e3 (fun b1 _ ho=>?_) (fun _ _ _=>rfl) fun j ej hj hG=>?_
   ·rcases ho with ho|⟨B,c1,hk1,ho⟩
    ·rcases hObj b1 ho with ho|⟨c',ho⟩
     ·exact .inl ho
     ·exact .inr ⟨b,_,(hblk b1 c' ho).1,hbo⟩
    ·rw[e4] at hk1
     have hk2:=kd1 _ _ _ hk1
     rcases hObj B ho with ho|⟨c',ho⟩
     ·exact .inr ⟨B,c1,hk2,ho⟩
     ·have:=p.hr.kk _ _ _ hk2
      rw[(hblk B c' ho).1] at this;cases this
   ·by_cases hjd:j=did
    ·subst hjd;rw[e1] at hj;cases hj;exact absurd hG p.ng
    ·rw[e2 j hjd] at hj;exact⟨ej,hj,rfl,rfl, .inl ⟨rfl,rfl⟩⟩
  have hslO:VR w (UE e') e' (gadd G g) (.slO did g 0 xs.length) (cs0.getD (i*k+off) undef):=by
   refine .slO _ _ _ _ _ (.inr rfl) hone fun ee' he' _=>?_
   rw[e1] at he';cases he'
   exact⟨by simp,fun _=>hsl⟩
  have own_of:∀b1,OwnB e' b1->OwnB e b1:=by
   intro b1 ho
   rcases ho with ho|⟨B,c1,hk1,ho⟩
   ·rcases hObj b1 ho with ho|⟨c',ho⟩
    ·exact .inl ho
    ·exact .inr ⟨b,_,(hblk b1 c' ho).1,hbo⟩
   ·rw[e4] at hk1
    have hk2:=kd1 _ _ _ hk1
    rcases hObj B ho with ho|⟨c',ho⟩
    ·exact .inr ⟨B,c1,hk2,ho⟩
    ·have:=p.hr.kk _ _ _ hk2
     rw[(hblk B c' ho).1] at this;cases this
  refine⟨_,w,e',rfl,?_,ext,?_,p.fr, .inl ⟨_,rfl,hslO⟩⟩
  ·refine p.hr.step (fun j=>j=did\/j=id) ext e3 (fun j hj=>?_) (fun j ej b1 c1 hj hej hbj=>⟨rfl,fun b2 c2 hk2=>⟨rfl,?_⟩⟩) (fun j hj hn=>?_) (fun j gj obj hj hg=>?_) (fun j ej b1 c1 hj hej hbj=>?_) (fun b1 B c1 hk1=>?_) (fun b1 ho=>?_) (fun b1 B c1 hk1=>?_)
   ·simp only[not_or] at hj
    refine⟨e2 j hj.1,?_⟩
    simp only[List.cons_append,List.nil_append]
    rw[Hp.get_cons_other _ _ hj.1,Hp.get_cons_other _ _ hj.2]
   ·simp only[not_or] at hj
    rw[e4]
    refine kd2 _ _ _ hk2 ?_
    intro heq
    simp only[Prod.mk.injEq] at heq
    obtain⟨rfl,_⟩:=heq
    exact hj.2 (p.hr.inj j id ej ee b1 c1 bcap hej he hbj hb)
   ·simp only[List.cons_append,List.nil_append] at hn
    rcases hj with rfl|rfl
    ·rw[Hp.get_cons_same] at hn;cases hn
    ·rw[Hp.get_cons_other _ _ hne,Hp.get_cons_same] at hn;cases hn
   ·simp only[List.cons_append,List.nil_append] at hg
    rcases hj with rfl|rfl
    ·rw[Hp.get_cons_same] at hg;cases hg
     exact⟨_,e1,rfl, .inr rfl,hobj ext⟩
    ·rw[Hp.get_cons_other _ _ hne,Hp.get_cons_same] at hg;cases hg
     refine⟨ee,(e2 _ hne).trans he,rfl, .inl (p.hr.gen _ _ he),hk,by simp[hn],hk0,?_,?_,?_⟩
     ·intro l hl
      rw[List.getElem_set]
      split
      ·rw[setc_cells hoff rfl,List.length_set];exact hkl i hi
      ·exact hkl _ _
     ·intro l hl j hj
      simp only[List.getElem_set] at hj ⊢
      by_cases hil:i=l
      ·simp only[hil,if_true] at hj ⊢
       subst hil
       simp only[setc_cells hoff (show AV.cells (.slO did g 0 xs.length)=[_] from rfl)] at hj ⊢
       rw[List.getElem_set]
       split
       ·rfl
       ·exact h1 _ _ _ _
      ·simp only[hil,if_false] at hj ⊢;exact h1 _ _ _ _
     ·rw[hb]
      refine⟨hm,by simpa using hcap,cs0,hh0,hs,?_⟩
      intro l hl j hj
      have hl':l<es.length:=by simpa using hl
      have keep:∀(hj':j<es[l].cells.length),¬(l=i/\j=off)->VC w e' (gadd G g) b (l*k+j) es[l].cells[j] (cs0.getD (l*k+j) undef):=by
       intro hj' hne'
       refine(hv l hl' j hj').ext ext fun b1 hb1=>⟨rfl,?_⟩
       rw[e4]
       refine kd2 _ _ _ hb1 ?_
       intro heq
       simp only[Prod.mk.injEq,true_and] at heq
       have hjk:j<k:=by have:=hkl l hl';omega
       have hok:off<k:=by have:=hkl i hi;omega
       have d1:=divmod_of (i:=l) hjk
       have d2:=divmod_of (i:=i) hok
       rw[heq] at d1
       exact hne' ⟨by rw[<-d1.1,d2.1],by rw[<-d1.2,d2.2]⟩
      simp only[List.getElem_set] at hj ⊢
      by_cases hil:i=l
      ·subst hil
       simp only[if_true] at hj ⊢
       simp only[setc_cells hoff (show AV.cells (.slO did g 0 xs.length)=[_] from rfl)] at hj ⊢
       rw[List.getElem_set]
       by_cases hjo:off=j
       ·subst hjo
        rw[if_pos rfl]
        exact .val _ _ hslO
       ·rw[if_neg hjo]
        exact keep (by simpa using hj) (fun h=>hjo h.2.symm)
      ·simp only[hil,if_false] at hj ⊢
       exact keep hj (fun h=>hil h.1.symm)
   ·rcases hj with rfl|rfl
    ·rw[e1] at hej;cases hej
     have hkb:=(hblk b1 c1 hbj).1
     obtain⟨q1,q2,q3⟩:=p.hr.kl _ _ _ hkb
     refine⟨q1,q3,fun j' ej' c' hj' hbj'=>?_⟩
     by_cases h:j'=j
     ·exact h
     ·rw[e2 j' h] at hj'
      have:=p.hr.ko b1 ⟨j',ej',c',hj',hbj'⟩
      rw[hkb] at this;cases this
    ·rw[e2 _ hne,he] at hej;cases hej
     rw[hb] at hbj;cases hbj
     refine⟨p.hr.lt _ _ _ _ he hb,p.hr.nz _ _ _ _ he hb,fun j' ej' c' hj' hbj'=>?_⟩
     by_cases h:j'=did
     ·subst h;rw[e1] at hj';cases hj'
      have:=p.hr.ko b hbo
      rw[(hblk b c' hbj').1] at this;cases this
     ·rw[e2 j' h] at hj'
      exact p.hr.inj _ _ _ _ _ _ _ hj' he hbj' hb
   ·rw[e4] at hk1;exact p.hr.kl _ _ _ (kd1 _ _ _ hk1)
   ·rw[e4]
    rcases hObj b1 ho with ho|⟨c',ho⟩
    ·cases hkd:kd b1 with
     |none=>rfl
     |some q=>have:=p.hr.ko b1 ho;rw[kd1 _ q.1 q.2 hkd] at this;cases this
    ·exact(hblk b1 c' ho).2
   ·rw[e4] at hk1 ⊢
    have:=p.hr.kk _ _ _ (kd1 _ _ _ hk1)
    cases hkd:kd B with
    |none=>rfl
    |some q=>rw[kd1 _ q.1 q.2 hkd] at this;cases this
  ·exact p.ln.step p.fr.size ext e3 fun b1 _ ho=>own_of b1 ho
 generalize hval:cs0.getD (i*k+off) undef=x at hvc main
 cases hvc with
 |val _ _ h=>exact h.kid_no.elim
 |kid0 _ _ a h0=>
  exact main none e.kid (fun _ _ _ h=>h) (fun _ _ _ h _=>h) (by simp) ⟨rfl,rfl,a,rfl⟩ rfl fun ext=>⟨rfl,rfl,h0,by simp,by simp,rfl⟩
 |kid _ _ _ b' cap cs q1 q2 q3 q4 q5 q6 q7 q8 q9=>
  refine main (some (b',cap)) (fun b1=>if b1=b' then none else e.kid b1) (fun b1 B c h=>?_) (fun b1 B c h hne=>?_) ?_ ⟨cap,by simp,by simp,q5⟩ rfl fun ext=>?_
  ·split at h
   ·cases h
   ·exact h
  ·rw[if_neg ?_]
   ·exact h
   ·rintro rfl;rw[q1] at h;cases h;exact hne rfl
  ·rintro b1 c1 ⟨⟩;exact⟨q1,by simp⟩
  ·exact⟨rfl,rfl,q4,q7,q8,q6,q5,cs,q2,q3,fun i hi j hj=> .val _ _ (.dat _ _ ((q9 i hi j hj).mono ext.size ext.un ext.same))⟩
theorem opLoad_ok (p:Pre C e G g hp w) {did:Nat} {ti:TI} {t:Nat} (hf:ti.size≠0->TFit C.P t ti) {av:AV} {x:Value} (hx:VR w (UE e) e G av x) (h:(opLoad ti did g hp av).1):
  OpOk C e G g hp w (opLoad ti did g hp av) (((Instr.loadAt t x).run C.P w).andThen fun v w=> .ok (.value v) w):=by
 cases av with
 |ptI cs=>
  obtain⟨b,off,f,rfl,h1,h2,h3,h4,h5⟩:=hx.ptI_inv.ptI_inv
  obtain⟨xv,hr,hv⟩:=ldCells_pure (C:=C) (hf h.1) h3 h4 (fun i hi=> .dat _ _ (h5 i hi)) h
  rw[hr];exact .pure p hv
 |ptO id g' n i off=>
  simp only[opLoad] at h ⊢
  cases hg:hp.get id with
  |none=>simp only[hg] at h;exact h.elim
  |some q=>
   obtain⟨g'',ob⟩:=q
   obtain⟨_,_,hi⟩:=hx.ptO_inv
   obtain⟨ee,he,hgg,_,hor⟩:=p.hr.live id g'' ob hg
   cases ob with
   |mp _=>simp only[hg] at h;exact h.elim
   |ms _=>simp only[hg] at h;exact h.elim
   |bd _ _ _=>simp only[hg] at h;exact h.elim
   |box cs=>
    simp only[hg] at h ⊢
    obtain⟨rfl,rfl,rfl,h⟩:=h
    obtain⟨hn,h1,b,c,vs,T,hb,hh,hs,hv⟩:=hor
    obtain⟨_,hi⟩:=hi ee he hgg
    obtain rfl:=hi hn b c hb
    simp only[Nat.zero_mul,Nat.zero_add]
    obtain⟨xv,hr,hv⟩:=ldCells_pure (C:=C) (hf h.1) (cs:=cs.drop off) (w:=w) (e:=e) (G:=G) (b:=b) (off:=off) (f:=fun j=>vs.getD (off+j) undef) (fun j hj=>by rw[cell_of_heap hh (by simp at hj;omega)])
     (one_getElem h1 off) (fun j hj=>by simp only[List.getElem_drop];exact hv _ _) h
    rw[hr];exact .pure p hv
   |own T k es=>
    simp only[hg] at h ⊢
    have getb:∀(_:g''=g') (_:n=es.length) (_:i<es.length),∃b bcap cs,ee.blk=some (b,bcap)/\x= .pointer (some ⟨b,i*k+off,none⟩)/\Cl w b cs T/\cs.size=bcap*k/\i*k+k<=cs.size/\
      (∀i (h:i<es.length) j (h':j<es[i].cells.length),VC w e G b (i*k+j) es[i].cells[j] (cs.getD (i*k+j) undef)):=by
     intro h1 h2 h3
     obtain⟨_,hi⟩:=hi ee he (by omega)
     obtain⟨hk,hn,hk0,hkl,q1,hb⟩:=hor
     cases hbl:ee.blk with
     |none=>rw[hbl] at hb;subst hb;simp at h3
     |some q=>
      obtain⟨b,bcap⟩:=q
      rw[hbl] at hb
      obtain⟨_,hcap,cs,hh,hs,hv⟩:=hb
      have hx:=hi (by omega) b bcap hbl
      rw[hk] at hx
      refine⟨b,bcap,cs,rfl,hx,hh,hs,?_,hv⟩
      rw[hs]
      calc i*k+k=(i+1)*k:=by rw[Nat.succ_mul]
       _<=bcap*k:=Nat.mul_le_mul_right _ (by omega)
    split at h
    ·rename_i t' k' xs hag hck
     obtain⟨h1,h2,h3,h4,h5,h6⟩:=h
     obtain⟨b,bcap,cs,hb,hxp,hh,hs,hsz,hv⟩:=getb h1 h2 h3
     have hD:=getD_lt h3
     rw[hD] at h6 hck ⊢
     rw[getD_lt h6] at hck
     have hkl:=hor.2.2.2.1 i h3
     subst hxp
     have hr:=run_loadAt (hf h5) w b (i*k+off) (fun _=>cs.getD (i*k+off) undef) (fun j hj=>by
      have:=(hf h5).one hag
      have:j=0:=by omega
      subst this
      rw[Nat.add_zero];exact hh.cellD (by omega))
     rw[hr]
     simp only[hag,Bool.false_eq_true,if_false,Result.andThen_ok]
     rw[<-hgg] at*
     have:=detach_ok (P:=ee.g=g'/\n=es.length/\i<es.length/\id≠did/\ti.size≠0/\off<es[i].cells.length) p h4 he h3 h6 hb hor hck ⟨cs,hh,rfl⟩
     simpa using this
    ·obtain⟨h1,h2,h3,hnk,h⟩:=h
     obtain⟨b,bcap,cs,hb,hxp,hh,hs,hsz,hv⟩:=getb h1 h2 h3
     have hD:=getD_lt h3
     rw[hD] at h hnk ⊢
     have hkl:=hor.2.2.2.1 i h3
     subst hxp
     obtain⟨xv,hr,hv⟩:=ldCells_pure (C:=C) (hf h.1) (cs:=es[i].cells.drop off) (w:=w) (e:=e) (G:=G) (b:=b) (off:=i*k+off) (f:=fun j=>cs.getD (i*k+off+j) undef)
      (fun j hj=>by rw[hh.cellD (by simp at hj;omega)]) (one_getElem (fun j hj=>hor.2.2.2.2.1 i h3 j hj) off) (fun j hj=>by
       simp only[List.getElem_drop,Nat.add_assoc]
       exact(hv i h3 _ _).noKid (hnk _ (List.getElem_mem _))) h
     rw[hr];exact .pure p hv
 |_=>exact h.elim
end
open Go
section
variable {C:Cx} {e:Env} {G:Nat->Prop} {g:Nat} {hp:Hp} {w:World} {T:Tab}
theorem elem_of_slice {t el:Nat} (h:(tl T t).ty= .slice el):elemOf T t=el:=by simp[elemOf,h]
theorem elem_of_array {t n el:Nat} (h:(tl T t).ty= .array n el):elemOf T t=el:=by simp[elemOf,h]
theorem run_indexAt_sl {P:Program} {t el:Nat} {ei:TI} (hu:P.underlying t=some (.slice el)) (hf:TFit P el ei) (b off n cap:Nat) (k:IntKind) (i:Int) (h0:0<=i) (h1:i<n) (w:World):
  (Instr.indexAt t (.slice (some ⟨b,off,none⟩) n cap) (.int k i)).run P w= .ok (.pointer (some ⟨b,off+i.toNat*ei.size,none⟩)) w:=by
 simp[Instr.indexAt,run_underlying hu,asIntOf,h0,h1,run_sizeOf' hf,add_none]
theorem run_indexAt_arr {P:Program} {t m el:Nat} {ei:TI} (hu:P.underlying t=some (.array m el)) (hf:TFit P el ei) (b off:Nat) (k:IntKind) (i:Int) (h0:0<=i) (h1:i<m) (w:World):
  (Instr.indexAt t (.pointer (some ⟨b,off,none⟩)) (.int k i)).run P w= .ok (.pointer (some ⟨b,off+i.toNat*ei.size,none⟩)) w:=by
 simp[Instr.indexAt,run_underlying hu,asIntOf,Instr.sureAddr,h0,h1,run_sizeOf' hf,add_none]
theorem VD.ptI_drop {U:Nat->Prop} {cs:List AV} {b off:Nat} {f:Nat->Value} (h1:U b) (h2:b<w.heap.size)
  (h3:∀j,j<cs.length->w.cell? ⟨b,off+j,none⟩=some (f j)) (h4:∀j (h:j<cs.length),cs[j].one=true) (h5:∀j (h:j<cs.length),VD w U cs[j] (f j)) (n:Nat):
  VD w U (.ptI (cs.drop n)) (.pointer (some ⟨b,off+n,none⟩)):=by
 refine .ptI _ b (off+n) (fun j=>f (n+j)) h1 h2 ?_ ?_ ?_
 ·intro j hj;simp at hj;rw[Nat.add_assoc];exact h3 _ (by omega)
 ·intro j hj;simp only[List.getElem_drop];exact h4 _ _
 ·intro j hj;simp only[List.getElem_drop];exact h5 _ _
theorem ptO_live (hr:HRel w e G hp) {id g' n i off:Nat} {x:Value} (hx:VR w (UE e) e G (.ptO id g' n i off) x) (hh:hp.has id g' n):
  ∃ee b c,e id=some ee/\ee.g=g'/\ee.n=n/\ee.blk=some (b,c)/\x= .pointer (some ⟨b,i*ee.k+off,none⟩):=by
 obtain⟨_,_,hin⟩:=hx.ptO_inv
 unfold Hp.has at hh
 cases hg:hp.get id with
 |none=>simp only[hg] at hh
 |some q=>
  obtain⟨g'',ob⟩:=q
  obtain⟨ee,he,hgg,_,hor⟩:=hr.live id _ _ hg
  cases ob with
  |mp _=>simp only[hg] at hh
  |ms _=>simp only[hg] at hh
  |bd _ _ _=>
   simp only[hg] at hh
   obtain⟨rfl,rfl⟩:=hh
   obtain⟨hn,b,c,_,_,hb,_⟩:=hor
   obtain⟨_,hi⟩:=hin ee he hgg
   exact⟨ee,b,c,he,hgg,hn,hb,hi hn b c hb⟩
  |box cs=>
   simp only[hg] at hh
   obtain⟨rfl,rfl⟩:=hh
   obtain⟨hn,_,b,c,vs,T,hb,_⟩:=hor
   obtain⟨_,hi⟩:=hin ee he hgg
   exact⟨ee,b,c,he,hgg,hn,hb,hi hn b c hb⟩
  |own t k es=>
   simp only[hg] at hh
   obtain⟨rfl,rfl,hne⟩:=hh
   obtain⟨_,hn,_,_,_,hb⟩:=hor
   obtain⟨_,hi⟩:=hin ee he hgg
   cases hbl:ee.blk with
   |none=>rw[hbl] at hb;subst hb;exact absurd rfl hne
   |some q=>
    obtain⟨b,c⟩:=q
    exact⟨ee,b,c,he,hgg,hn,hbl,hi hn b c hbl⟩
theorem ptO_move {id g' n i off off':Nat} {x:Value} (hx:VR w (UE e) e G (.ptO id g' n i off) x) {ee:EE} {b c:Nat} (he:e id=some ee) (hn:ee.n=n)
  (hb:ee.blk=some (b,c)):VR w (UE e) e G (.ptO id g' n i off') (.pointer (some ⟨b,i*ee.k+off',none⟩)):=by
 obtain⟨hG,_,_⟩:=hx.ptO_inv
 refine .ptO _ _ _ _ _ _ hG rfl fun ee' he' _=>?_
 rw[he] at he';cases he'
 refine⟨by omega,fun _ b' c' hb'=>?_⟩
 rw[hb] at hb';cases hb';rfl
theorem opIndexAddr_ok (p:Pre C e G g hp w) (hT:TOk C.P T) {t:Nat} {av ai:AV} {x xi:Value} (hx:VR w (UE e) e G av x) (hi:VR w (UE e) e G ai xi)
  (h:(opIndexAddr (tl T t) (tl T (elemOf T t)) hp av ai).1):
  OpOk C e G g hp w (opIndexAddr (tl T t) (tl T (elemOf T t)) hp av ai) (((Instr.indexAt t x xi).run C.P w).andThen fun v w=> .ok (.value v) w):=by
 cases av with
 |sl es full=>
  cases ai with
  |lit v=>
   cases v with
   |int k i=>
    obtain⟨rfl,_⟩:=hi.lit_inv
    cases hel:(tl T t).ty with
    |slice el=>
     obtain⟨d,hu,hd⟩:=(hT.fit hel (by simp)).under
     rw[hel] at hd
     cases hd
     rw[elem_of_slice hel] at h ⊢
     simp only[opIndexAddr,hel,R.val] at h ⊢
     obtain⟨h0,h1,h2⟩:=h
     have hlt:i.toNat<es.length:=by omega
     have hD:es.getD i.toNat .bad=es[i.toNat]:=by rw[List.getD_eq_getElem?_getD,List.getElem?_eq_getElem hlt];rfl
     rw[hD] at h2 ⊢
     rcases hx.sl_inv.sl_inv with ⟨rfl,_⟩|⟨b,off,cap,k',f,rfl,hb,hbs,_,_,_,hk0,hk,hc,h1',hv⟩
     ·simp at hlt
     ·have hkk:=hk _ hlt
      have hei:=hT.fits (t:=el) (by omega)
      rw[run_indexAt_sl hu hei b off _ cap k i h0 (by omega)]
      simp only[Result.andThen_ok]
      refine .pure p (.dat _ _ (.ptI _ b _ (fun j=>f (i.toNat*k'+j)) hb hbs ?_ (h1' _ hlt) (hv _ hlt)))
      intro j hj
      rw[<-h2,hkk,Nat.add_assoc]
      refine hc _ ?_
      calc i.toNat*k'+j<i.toNat*k'+k':=by omega
       _=(i.toNat+1)*k':=by rw[Nat.succ_mul]
       _<=es.length*k':=Nat.mul_le_mul_right _ (by omega)
    |_=>simp only[opIndexAddr,hel] at h;exact h.elim
   |_=>exact h.elim
  |_=>exact h.elim
 |slO id g' off len=>
  cases ai with
  |lit v=>
   cases v with
   |int k i=>
    obtain⟨rfl,_⟩:=hi.lit_inv
    cases hel:(tl T t).ty with
    |slice el=>
     obtain⟨d,hu,hd⟩:=(hT.fit hel (by simp)).under
     rw[hel] at hd
     cases hd
     rw[elem_of_slice hel] at h ⊢
     cases hg:hp.get id with
     |none=>simp only[opIndexAddr,hel,hg] at h;exact h.elim
     |some q=>
      obtain⟨g'',ob⟩:=q
      cases ob with
      |box cs=>simp only[opIndexAddr,hel,hg] at h;exact h.elim
      |mp _=>simp only[opIndexAddr,hel,hg] at h;exact h.elim
      |ms _=>simp only[opIndexAddr,hel,hg] at h;exact h.elim
      |bd _ _ _=>simp only[opIndexAddr,hel,hg] at h;exact h.elim
      |own T' k' es=>
       simp only[opIndexAddr,hel,hg,R.val] at h ⊢
       obtain⟨rfl,hl,rfl,h0,h1⟩:=h
       obtain⟨hG,_,hin⟩:=hx.slO_inv
       obtain⟨ee,he,hgg,_,hor⟩:=p.hr.live id _ _ hg
       obtain⟨hk,hn,hk0,hkl,h1',hb⟩:=hor
       obtain⟨_,hok⟩:=hin ee he hgg
       have hok:=hok (by omega)
       have hei:=hT.fits (t:=el) (by omega)
       unfold SlOK at hok
       cases hbl:ee.blk with
       |none=>rw[hbl] at hok;obtain⟨_,hl0,_⟩:=hok;omega
       |some q=>
        obtain⟨b,bcap⟩:=q
        rw[hbl] at hok
        obtain⟨cap,rfl,_,_⟩:=hok
        rw[run_indexAt_sl hu hei b _ len cap k i h0 h1]
        simp only[Result.andThen_ok]
        refine .pure p (.ptO _ _ _ _ _ _ hG rfl fun ee' he' hg'=>?_)
        rw[he] at he';cases he'
        refine⟨by omega,fun _ b' c' hbc=>?_⟩
        rw[hbl] at hbc;cases hbc
        rw[hk]
        simp[Nat.add_mul]
    |_=>simp only[opIndexAddr,hel] at h;exact h.elim
   |_=>exact h.elim
  |_=>exact h.elim
 |ptO id g' n j off=>
  cases ai with
  |lit v=>
   cases v with
   |int k i=>
    obtain⟨rfl,_⟩:=hi.lit_inv
    cases hel:(tl T t).ty with
    |array m el=>
     obtain⟨d,hu,hd⟩:=(hT.fit hel (by simp)).under
     rw[hel] at hd
     cases hd
     rw[elem_of_array hel] at h ⊢
     simp only[opIndexAddr,hel,R.val] at h ⊢
     obtain⟨hh,hs,h0,h1⟩:=h
     have hei:=hT.fits (t:=el) hs
     obtain⟨ee,b,c,he,hgg,hn,hb,rfl⟩:=ptO_live p.hr hx hh
     rw[run_indexAt_arr hu hei b _ k i h0 h1,Nat.add_assoc]
     simp only[Result.andThen_ok]
     exact .pure p (ptO_move hx he hn hb)
    |_=>simp only[opIndexAddr,hel] at h;exact h.elim
   |_=>exact h.elim
  |_=>exact h.elim
 |ptI cs=>
  cases ai with
  |lit v=>
   cases v with
   |int k i=>
    obtain⟨rfl,_⟩:=hi.lit_inv
    cases hel:(tl T t).ty with
    |array m el=>
     obtain⟨d,hu,hd⟩:=(hT.fit hel (by simp)).under
     rw[hel] at hd
     cases hd
     rw[elem_of_array hel] at h ⊢
     simp only[opIndexAddr,hel,R.val] at h ⊢
     obtain⟨hs,h0,h1⟩:=h
     have hei:=hT.fits (t:=el) hs
     obtain⟨b,off,f,rfl,q1,q2,q3,q4,q5⟩:=hx.ptI_inv.ptI_inv
     rw[run_indexAt_arr hu hei b off k i h0 h1]
     simp only[Result.andThen_ok]
     exact .pure p (.dat _ _ (VD.ptI_drop q1 q2 q3 q4 q5 _))
    |_=>simp only[opIndexAddr,hel] at h;exact h.elim
   |_=>exact h.elim
  |_=>exact h.elim
 |_=>exact h.elim
theorem run_fieldAt {P:Program} {t f:Nat} {fs:List (Nat×Nat)} {a:Array Field} (hu:P.underlying t=some (.struct a)) (ha:a.toList.map (fun f=>(f.offset,f.type))=fs) (hf:f<fs.length)
  {ti:TI} (hei:TFit P (fs.getD f (0,0)).2 ti) (hs:ti.size≠0) (b off:Nat) (w:World):
  (Instr.fieldAt t (.pointer (some ⟨b,off,none⟩)) f).run P w= .ok (.pointer (some ⟨b,off+(fs.getD f (0,0)).1,none⟩)) w:=by
 subst ha
 have hf':f<a.size:=by simpa using hf
 have e1:(a.toList.map fun f=>(f.offset,f.type)).getD f (0,0)=(a[f].offset,a[f].type):=by
  simp[List.getD_eq_getElem?_getD,hf']
 rw[e1] at hei ⊢
 simp only at hei ⊢
 simp[Instr.fieldAt,run_underlying hu,hf',Instr.sureAddr,fieldPlace,run_sizeOf' hei,hs,add_none]
theorem opFieldAddr_ok (p:Pre C e G g hp w) (hT:TOk C.P T) {t f:Nat} {av:AV} {x:Value} (hx:VR w (UE e) e G av x) (h:(opFieldAddr T t f hp av).1):
  OpOk C e G g hp w (opFieldAddr T t f hp av) (((Instr.fieldAt t x f).run C.P w).andThen fun v w=> .ok (.value v) w):=by
 cases hel:(tl T t).ty with
 |struct fs=>
  obtain⟨d,hu,hd⟩:=(hT.fit hel (by simp)).under
  rw[hel] at hd
  obtain⟨a,rfl,ha⟩:=hd
  simp only[opFieldAddr,hel] at h ⊢
  cases av with
  |ptI cs=>
   obtain⟨h1,h2⟩:=h
   obtain⟨b,off,f',rfl,q1,q2,q3,q4,q5⟩:=hx.ptI_inv.ptI_inv
   rw[run_fieldAt hu ha h1 (hT.fits h2) h2]
   simp only[Result.andThen_ok]
   exact .pure p (.dat _ _ (VD.ptI_drop q1 q2 q3 q4 q5 _))
  |ptO id g' n i off=>
   obtain⟨h1,h2,h3⟩:=h
   obtain⟨ee,b,c,he,hgg,hn,hb,rfl⟩:=ptO_live p.hr hx h3
   rw[run_fieldAt hu ha h1 (hT.fits h2) h2,Nat.add_assoc]
   simp only[Result.andThen_ok]
   exact .pure p (ptO_move hx he hn hb)
  |_=>exact h.elim
 |_=>simp only[opFieldAddr,hel] at h;exact h.elim
theorem run_part {P:Program} {t:Nat} {ti:TI} (hf:TFit P t ti) (cs:Array Value) (off:Nat) (hl:off+ti.size<=cs.size) (w:World):
  (part t cs off).run P w= .ok (if ti.agg then .agg (cs.extract off (off+ti.size)) else cs.getD off undef) w:=by
 unfold part
 rw[Sem.run_bind,run_isAgg hf,Result.andThen_ok]
 cases hag:ti.agg with
 |true=>simp only[if_true,Sem.run_bind,run_sizeOf' hf,Result.andThen_ok,Sem.run_pure]
 |false=>
  have h1:=hf.one hag
  have:off<cs.size:=by omega
  simp[Array.getD_eq_getD_getElem?,this]
theorem part_ok (p:Pre C e G g hp w) {t:Nat} {ti:TI} (hf:TFit C.P t ti) {cs:List AV} {vs:Array Value} (hl:cs.length=vs.size) (h1:∀i (h:i<cs.length),cs[i].one=true)
  (hv:∀i (h:i<cs.length),VR w (UE e) e G cs[i] (vs.getD i undef)) (off:Nat) (hs:ti.size≠0) (h:(ldCells ti (cs.drop off)).1):
  OpOk C e G g hp w (ldCells ti (cs.drop off)) (((part t vs off).run C.P w).andThen fun v w=> .ok (.value v) w):=by
 have hle:ti.size<=cs.length - off:=by have:=h.2;simpa using this
 rw[run_part hf vs off (by omega)]
 simp only[Result.andThen_ok]
 have:=ldCells_ok p hf (cs:=cs.drop off) (cv:=vs.extract off vs.size) (by simp;omega) (one_getElem h1 off) (fun i hi=>by
  simp only[List.getElem_drop]
  have hi':i<cs.length - off:=by simpa using hi
  have e1:(vs.extract off vs.size).getD i undef=vs.getD (off+i) undef:=by
   rw[Array.getD_eq_getD_getElem?,Array.getD_eq_getD_getElem?,Array.getElem?_extract,if_pos (by omega)]
  rw[e1]
  exact hv _ _) hf.one h
 have e2:(if ti.agg=true then Value.agg ((vs.extract off vs.size).extract 0 ti.size) else(vs.extract off vs.size).getD 0 undef)=
   if ti.agg=true then Value.agg (vs.extract off (off+ti.size)) else vs.getD off undef:=by
  cases ti.agg with
  |true=>
   simp only[if_true]
   congr 1
   rw[Array.extract_extract]
   congr 1
   omega
  |false=>
   simp only[Bool.false_eq_true,if_false]
   rw[Array.getD_eq_getD_getElem?,Array.getD_eq_getD_getElem?,Array.getElem?_extract,if_pos (by omega),Nat.add_zero]
 rw[<-e2]
 exact this
theorem opField_ok (p:Pre C e G g hp w) (hT:TOk C.P T) {t f:Nat} {av:AV} {x:Value} (hx:VR w (UE e) e G av x) (h:(opField T t f av).1):
  OpOk C e G g hp w (opField T t f av) (((Instr.field t x f).run C.P w).andThen fun v w=> .ok (.value v) w):=by
 cases hel:(tl T t).ty with
 |struct fs=>
  obtain⟨d,hu,hd⟩:=(hT.fit hel (by simp)).under
  rw[hel] at hd
  obtain⟨a,rfl,ha⟩:=hd
  simp only[opField,hel] at h ⊢
  cases av with
  |agg cs=>
   obtain⟨h1,h2,h3⟩:=h
   obtain⟨vs,rfl,hl,q1,q2⟩:=hx.agg_inv
   subst ha
   have hf':f<a.size:=by simpa using h1
   have e1:(a.toList.map fun f=>(f.offset,f.type)).getD f (0,0)=(a[f].offset,a[f].type):=by
    simp[List.getD_eq_getElem?_getD,hf']
   rw[e1] at h2 h3 ⊢
   simp only at h2 h3 ⊢
   have hr:(Instr.field t (.agg vs) f).run C.P w=(part a[f].type vs a[f].offset).run C.P w:=by
    simp[Instr.field,run_underlying hu,hf',asAgg]
   rw[hr]
   exact part_ok p (hT.fits h2) hl q1 q2 _ h2 h3
  |_=>exact h.elim
 |_=>simp only[opField,hel] at h;exact h.elim
theorem opIndex_ok (p:Pre C e G g hp w) (hT:TOk C.P T) {t:Nat} {av ai:AV} {x xi:Value} (hx:VR w (UE e) e G av x) (hi:VR w (UE e) e G ai xi) (h:(opIndex T t av ai).1):
  OpOk C e G g hp w (opIndex T t av ai) (((Instr.index t x xi).run C.P w).andThen fun v w=> .ok (.value v) w):=by
 cases hel:(tl T t).ty with
 |array n el=>
  obtain⟨d,hu,hd⟩:=(hT.fit hel (by simp)).under
  rw[hel] at hd
  cases hd
  simp only[opIndex,hel] at h ⊢
  cases av with
  |agg cs=>
   cases ai with
   |lit v=>
    cases v with
    |int k i=>
     obtain⟨h0,h1,h2,h3⟩:=h
     obtain⟨rfl,_⟩:=hi.lit_inv
     obtain⟨vs,rfl,hl,q1,q2⟩:=hx.agg_inv
     have hr:(Instr.index t (.agg vs) (.int k i)).run C.P w=(part el vs (i.toNat*(tl T el).size)).run C.P w:=by
      simp[Instr.index,run_underlying hu,asIntOf,h0,h1,run_sizeOf' (hT.fits h2)]
     rw[hr]
     exact part_ok p (hT.fits h2) hl q1 q2 _ h2 h3
    |_=>exact h.elim
   |_=>exact h.elim
  |_=>exact h.elim
 |str=>
  obtain⟨d,hu,hd⟩:=(hT.fit hel (by simp)).under
  rw[hel] at hd
  cases hd
  simp only[opIndex,hel] at h ⊢
  cases av with
  |lit v=>
   cases v with
   |string s=>
    cases ai with
    |lit v=>
     cases v with
     |int k i=>
      obtain⟨rfl,_⟩:=hi.lit_inv
      obtain⟨rfl,_⟩:=hx.lit_inv
      obtain⟨h0,h1⟩:=h
      have hsz:s.data.toList.length=s.size:=rfl
      have hlt:i.toNat<s.size:=by omega
      rw[run_index_string w t s k i hu,dif_pos ⟨h0,by omega⟩]
      simp only[Result.andThen_ok,R.val]
      have e1:s.data.toList.getD i.toNat 0=s[i.toNat]:=by
       rw[List.getD_eq_getElem?_getD,List.getElem?_eq_getElem (by omega)];rfl
      rw[e1]
      exact ok_int p _ _ _
     |_=>exact h.elim
    |_=>exact h.elim
   |_=>exact h.elim
  |_=>exact h.elim
 |_=>simp only[opIndex,hel] at h;exact h.elim
end
open Go
section
variable {C:Cx} {e:Env} {G:Nat->Prop} {g:Nat} {hp:Hp} {w:World} {T:Tab}
theorem VD.sub {U:Nat->Prop} {es:List AV} {full full':Bool} {a:Option Addr} {n cap:Nat} (h:VD w U (.sl es full) (.slice a n cap)) (l hh m s:Nat)
  (h1:l<=hh) (h2:hh<=es.length) (h3:hh<=m) (h4:m<=cap) (hs:l=0\/∀y∈es,y.cells.length=s) (hf:full'=true->m=hh):
  VD w U (.sl ((es.take hh).drop l) full') (sliced a l hh m s):=by
 unfold sliced
 rcases h.sl_inv with ⟨rfl,a',hx⟩|⟨b,off,cap',k,f,hx,hb,hbs,q1,q2,q3,hk0,hk,hc,q4,q5⟩
 ·cases hx
  have:m=0:=by omega
  have:hh=0:=by omega
  have:l=0:=by omega
  subst_vars
  simpa using VD.nil full' _
 ·cases hx
  have hlen:((es.take hh).drop l).length=hh - l:=by simp;omega
  have hget:∀i (hi:i<((es.take hh).drop l).length),((es.take hh).drop l)[i]=es[l+i]'(by omega):=by
   intro i hi;simp
  by_cases hml:m=l
  ·have hle:hh - l=0:=by omega
   rw[if_pos hml,<-hlen]
   exact .sl _ _ b off _ k f hb hbs (by omega) (by omega) (by intro hft;have:=hf hft;omega) hk0
    (fun i hi=>by omega) (fun j hj=>by rw[hlen,hle] at hj;omega) (fun i hi=>by omega) (fun i hi=>by omega)
  ·rw[if_neg hml,<-hlen]
   simp only[Option.map_some,add_none]
   by_cases hl0:l=hh
   ·have hle:hh - l=0:=by omega
    exact .sl _ _ b _ _ k f hb hbs (by omega) (by omega) (by intro hft;have:=hf hft;omega) hk0
     (fun i hi=>by omega) (fun j hj=>by rw[hlen,hle] at hj;omega) (fun i hi=>by omega) (fun i hi=>by omega)
   ·have hks:l=0\/k=s:=by
     rcases hs with hs|hs
     ·exact .inl hs
     ·refine .inr ?_
      have h0:l<es.length:=by omega
      rw[<-hk l h0];exact hs _ (List.getElem_mem h0)
    have hoff:off+l*s=off+l*k:=by rcases hks with rfl|rfl<;>simp
    rw[hoff]
    refine .sl _ _ b _ _ k (fun j=>f (l*k+j)) hb hbs (by omega) (by omega) (by intro hft;have:=hf hft;omega) hk0 ?_ ?_ ?_ ?_
    ·intro i hi;rw[hget i hi];exact hk _ _
    ·intro j hj
     rw[Nat.add_assoc]
     refine hc _ ?_
     rw[hlen] at hj
     calc l*k+j<l*k+(hh - l)*k:=by omega
      _=hh*k:=by rw[<-Nat.add_mul];congr 1;omega
      _<=es.length*k:=Nat.mul_le_mul_right _ h2
    ·intro i hi j hj
     simp only[hget i hi] at hj ⊢
     exact q4 _ _ _ _
    ·intro i hi j hj
     simp only[hget i hi] at hj ⊢
     have:=q5 (l+i) (by omega) j hj
     rw[Nat.add_mul,Nat.add_assoc] at this
     exact this
theorem run_sliceAt' {P:Program} {t el:Nat} (hu:P.underlying t=some (.slice el)) (x:Value) (lo hi mx:Option Value) (w:World):
  (Instr.sliceAt t x lo hi mx).run P w=(Instr.slice t x lo hi mx).run P w:=by
 simp[Instr.sliceAt,run_underlying hu]
theorem VR.slice_cap {es:List AV} {full:Bool} {x:Value} (h:VR w (UE e) e G (.sl es full) x):∃a cap,x= .slice a es.length cap/\es.length<=cap/\(full=true->cap=es.length):=by
 rcases h.sl_inv.sl_inv with ⟨rfl,_,rfl⟩|⟨b,off,cap,k,f,rfl,_,_,q1,_,q3,_⟩
 ·exact⟨_,_,rfl,Nat.le_refl _,fun _=>rfl⟩
 ·exact⟨_,_,rfl,q1,q3⟩
def ORelV (w:World) (e:Env) (G:Nat->Prop):Option AV->Option Value->Prop
 |none,none=>True
 |some a,some v=>VR w (UE e) e G a v
 |_,_=>False
theorem slO_val (hr:HRel w e G hp) {id g' off len:Nat} {x:Value} (hx:VR w (UE e) e G (.slO id g' off len) x) {t k:Nat} {es:List AV} (hg:hp.get id=some (g', .own t k es)) (hl:es.length=off+len):
  ∃ee,e id=some ee/\ee.g=g'/\ee.n=es.length/\SlOK ee off len x/\ORel w e G (.own t k es) ee:=by
 obtain⟨_,_,hin⟩:=hx.slO_inv
 obtain⟨ee,he,hgg,_,hor⟩:=hr.live id _ _ hg
 obtain⟨_,hok⟩:=hin ee he hgg
 exact⟨ee,he,hgg,hor.2.1,hok (by rw[hor.2.1];exact hl),hor⟩
theorem SlOK.shape {ee:EE} {off len:Nat} {x:Value} (h:SlOK ee off len x):∃a cap,x= .slice a len cap:=by
 unfold SlOK at h
 cases hb:ee.blk with
 |none=>rw[hb] at h;obtain⟨_,rfl,a,rfl⟩:=h;exact⟨_,_,rfl⟩
 |some q=>
  obtain⟨b,c⟩:=q
  rw[hb] at h
  obtain⟨cap,rfl,_⟩:=h
  exact⟨_,_,rfl⟩
theorem trunc_ok (p:Pre C e G g hp w) {id g' n:Nat} {t k:Nat} {es:List AV} (hg:hp.get id=some (g', .own t k es)) (hn:n<=es.length) {v:AV} {xv:Value}
  (hv:∀ee b bcap,e id=some ee->ee.blk=some (b,bcap)->ee.k=k->ee.n=es.length->∀e':Env,e' id=some ⟨g,some (b,bcap),k,n⟩->VR w (UE e') e' (gadd G g) v xv) (hne:∃ee b bcap,e id=some ee/\ee.blk=some (b,bcap)) {P:Prop}:
  OpOk C e G g hp w (P,v,[(id,some (g, .own t k (es.take n)))]) (.ok (.value xv) w):=by
 obtain⟨ee,he,hgg,hGg,hor⟩:=p.hr.live id _ _ hg
 obtain⟨ee',b,bcap,he',hbl⟩:=hne
 rw[he] at he';cases he'
 obtain⟨hk,hnn,hk0,hkl,h1,hb⟩:=hor
 rw[hbl] at hb
 obtain⟨hm,hcap,cs,hh,hs,hvc⟩:=hb
 have e1:eset e id (some ⟨g,some (b,bcap),k,n⟩) id=some ⟨g,some (b,bcap),k,n⟩:=eset_same _ _ _
 have hObj:∀b1,ObjB (eset e id (some ⟨g,some (b,bcap),k,n⟩)) b1->ObjB e b1:=by
  rintro b1 ⟨j,ej,c1,q1,q2⟩
  by_cases hj:j=id
  ·subst hj;rw[e1] at q1;cases q1;cases q2;exact⟨j,ee,bcap,he,hbl⟩
  ·rw[eset_other _ _ hj] at q1;exact⟨j,ej,c1,q1,q2⟩
 have hOwn:∀b1,OwnB (eset e id (some ⟨g,some (b,bcap),k,n⟩)) b1->OwnB e b1:=by
  rintro b1 (ho|⟨B,c1,hk1,ho⟩)
  ·exact .inl (hObj _ ho)
  ·exact .inr ⟨B,c1,hk1,hObj _ ho⟩
 have ext:Ext w e G w (eset e id (some ⟨g,some (b,bcap),k,n⟩)) (gadd G g):=by
  refine Ext.mk' (Nat.le_refl _) (fun _ h=> .inl h) rfl (fun b1 _ ho=>hOwn b1 ho) (fun _ _ _=>rfl) fun j ej hj hG=>?_
  by_cases hjd:j=id
  ·subst hjd;rw[e1] at hj;cases hj;exact absurd hG p.ng
  ·rw[eset_other _ _ hjd] at hj;exact⟨ej,hj,rfl,rfl, .inl ⟨rfl,rfl⟩⟩
 refine⟨_,w,_,rfl,?_,ext,p.ln.step p.fr.size ext rfl fun b1 _ ho=>hOwn b1 ho,p.fr, .inl ⟨_,rfl,hv ee b bcap he hbl hk hnn _ e1⟩⟩
 refine p.hr.step (fun j=>j=id) ext rfl (fun j hj=>⟨eset_other _ _ hj,by simp only[List.cons_append,List.nil_append];rw[Hp.get_cons_other _ _ hj]⟩) (fun _ _ _ _ _ _ _=>⟨rfl,fun _ _ h=>⟨rfl,h⟩⟩) (fun j hj hn'=>?_) (fun j gj obj hj hgj=>?_) (fun j ej b1 c1 hj hej hbj=>?_)
  p.hr.kl (fun b1 ho=>p.hr.ko b1 (hObj _ ho)) p.hr.kk
 ·subst hj;simp only[List.cons_append,List.nil_append] at hn';rw[Hp.get_cons_same] at hn';cases hn'
 ·subst hj;simp only[List.cons_append,List.nil_append] at hgj;rw[Hp.get_cons_same] at hgj;cases hgj
  refine⟨_,e1,rfl, .inr rfl,rfl,by simp;omega,hk0,?_,?_,?_⟩
  ·intro i hi;simp only[List.getElem_take];exact hkl _ _
  ·intro i hi j hj;simp only[List.getElem_take] at hj ⊢;exact h1 _ _ _ _
  ·refine⟨hm,by simp;omega,cs,hh,hs,fun i hi j hj=>?_⟩
   simp only[List.getElem_take] at hj ⊢
   exact(hvc i (by simp at hi;omega) j hj).ext ext fun b1 hb1=>⟨rfl,hb1⟩
 ·subst hj;rw[e1] at hej;cases hej;cases hbj
  refine⟨p.hr.lt _ _ _ _ he hbl,p.hr.nz _ _ _ _ he hbl,fun j' ej' c' hj' hbj'=>?_⟩
  by_cases h:j'=j
  ·exact h
  ·rw[eset_other _ _ h] at hj';exact p.hr.inj _ _ _ _ _ _ _ hj' he hbj' hbl
theorem opSliceS_ok (p:Pre C e G g hp w) {t el:Nat} (hu:C.P.underlying t=some (.slice el)) {ei:TI} (hfit:ei.size≠0->TFit C.P el ei) {lo hi mx:Option AV} {xl xh xm:Option Value} {av:AV} {x:Value}
  (hx:VR w (UE e) e G av x) (hl:ORelV w e G lo xl) (hh:ORelV w e G hi xh) (hm:ORelV w e G mx xm) (h:(opSliceS ei g hp lo hi mx av).1):
  OpOk C e G g hp w (opSliceS ei g hp lo hi mx av) (((Instr.sliceAt t x xl xh xm).run C.P w).andThen fun v w=> .ok (.value v) w):=by
 have hpe:C.P.underlying t=some (.slice (C.P.elem t)):=by simp[Program.elem,hu]
 have hpe':C.P.elem t=el:=by simp[Program.elem,hu]
 rw[run_sliceAt' hu]
 unfold opSliceS at h ⊢
 split at h
 case h_1 es full=>
  obtain⟨a,cap,rfl,hcap,hfull⟩:=hx.slice_cap
  have hx':=hx.sl_inv
  split at h
  ·obtain⟨rfl⟩:xl=none:=by cases xl<;>simp_all [ORelV]
   obtain⟨rfl⟩:xh=none:=by cases xh<;>simp_all [ORelV]
   obtain⟨rfl⟩:xm=none:=by cases xm<;>simp_all [ORelV]
   have hf:=hfit h
   rw[run_slice_all _ _ _ _ _ hpe,hpe',run_sizeOf' hf]
   simp only[Result.andThen_ok]
   refine .pure p (.dat _ _ ?_)
   have:=hx'.sub (full':=full) 0 es.length cap ei.size (Nat.zero_le _) (Nat.le_refl _) hcap (Nat.le_refl _) (.inl rfl) hfull
   simpa using this
  ·rename_i kl l
   cases xl with
   |none=>exact hl.elim
   |some vl=>
    obtain⟨rfl,_⟩:=hl.lit_inv
    obtain⟨rfl⟩:xh=none:=by cases xh<;>simp_all [ORelV]
    obtain⟨rfl⟩:xm=none:=by cases xm<;>simp_all [ORelV]
    obtain⟨hs,hok,h0,h1⟩:=h
    have hf:=hfit hs
    rw[run_slice_l _ _ _ _ _ hpe kl l h0 h1,hpe',run_sizeOf' hf]
    simp only[Result.andThen_ok]
    refine .pure p (.dat _ _ ?_)
    have:=hx'.sub (full':=full) l.toNat es.length cap ei.size (by omega) (Nat.le_refl _) hcap (Nat.le_refl _) (.inr hok) hfull
    simpa using this
  ·rename_i kh l
   cases xh with
   |none=>exact hh.elim
   |some vl=>
    obtain⟨rfl,_⟩:=hh.lit_inv
    obtain⟨rfl⟩:xl=none:=by cases xl<;>simp_all [ORelV]
    obtain⟨rfl⟩:xm=none:=by cases xm<;>simp_all [ORelV]
    obtain⟨hs,h0,h1⟩:=h
    have hf:=hfit hs
    rw[run_slice_h _ _ _ _ _ hpe kh l h0 (by omega),hpe',run_sizeOf' hf]
    simp only[Result.andThen_ok]
    refine .pure p (.dat _ _ ?_)
    have:=hx'.sub (full':=false) 0 l.toNat cap ei.size (by omega) (by omega) (by omega) (Nat.le_refl _) (.inl rfl) (by simp)
    simpa using this
  ·rename_i kl l kh m
   cases xl with
   |none=>exact hl.elim
   |some vl=>
    cases xh with
    |none=>exact hh.elim
    |some vh=>
     obtain⟨rfl,_⟩:=hl.lit_inv
     obtain⟨rfl,_⟩:=hh.lit_inv
     obtain⟨rfl⟩:xm=none:=by cases xm<;>simp_all [ORelV]
     obtain⟨hs,hok,h0,h1,h2⟩:=h
     have hf:=hfit hs
     rw[run_slice_lh _ _ _ _ _ hpe kl kh l m h0 h1 (by omega),hpe',run_sizeOf' hf]
     simp only[Result.andThen_ok]
     exact .pure p (.dat _ _ (hx'.sub (full':=false) l.toNat m.toNat cap ei.size (by omega) (by omega) (by omega) (Nat.le_refl _) (.inr hok) (by simp)))
  ·rename_i kh hv km m
   cases xh with
   |none=>exact hh.elim
   |some vh=>
    cases xm with
    |none=>exact hm.elim
    |some vm=>
     obtain⟨rfl,_⟩:=hh.lit_inv
     obtain⟨rfl,_⟩:=hm.lit_inv
     obtain⟨rfl⟩:xl=none:=by cases xl<;>simp_all [ORelV]
     obtain⟨hs,h0,rfl,h2⟩:=h
     have hf:=hfit hs
     rw[run_slice_hm _ _ _ _ _ hpe kh km hv hv h0 (Int.le_refl _) (by omega),hpe',run_sizeOf' hf]
     simp only[Result.andThen_ok]
     refine .pure p (.dat _ _ ?_)
     have:=hx'.sub (full':=true) 0 hv.toNat hv.toNat ei.size (by omega) (by omega) (Nat.le_refl _) (by omega) (.inl rfl) (by simp)
     simpa using this
  ·rename_i kl l kh hv km m
   cases xl with
   |none=>exact hl.elim
   |some vl=>
    cases xh with
    |none=>exact hh.elim
    |some vh=>
     cases xm with
     |none=>exact hm.elim
     |some vm=>
      obtain⟨rfl,_⟩:=hl.lit_inv
      obtain⟨rfl,_⟩:=hh.lit_inv
      obtain⟨rfl,_⟩:=hm.lit_inv
      obtain⟨hs,hok,h0,h1,rfl,h2⟩:=h
      have hf:=hfit hs
      rw[run_slice_lhm _ _ _ _ _ hpe kl kh km l hv hv h0 h1 (Int.le_refl _) (by omega),hpe',run_sizeOf' hf]
      simp only[Result.andThen_ok]
      exact .pure p (.dat _ _ (hx'.sub (full':=true) l.toNat hv.toNat hv.toNat ei.size (by omega) (by omega) (Nat.le_refl _) (by omega) (.inr hok) (by simp)))
  ·exact h.elim
 case h_2 id g' off len=>
  split at h
  ·rename_i g'' t' k es hg
   have base:∀(_:g''=g') (_:es.length=off+len) (_:k=ei.size),TFit C.P el ei/\∃ee,e id=some ee/\ee.g=g'/\ee.k=k/\ee.n=es.length/\SlOK ee off len x:=by
    intro h1 h2 h3
    subst h1
    obtain⟨ee,he,hgg,hn,hok,hor⟩:=slO_val p.hr hx hg h2
    exact⟨hfit (by rw[<-h3];exact Nat.pos_iff_ne_zero.1 hor.2.2.1),ee,he,hgg,hor.1,hn,hok⟩
   have blk:∀{ee:EE},SlOK ee off len x->0<len->∃b bcap cap,ee.blk=some (b,bcap)/\x= .slice (some ⟨b,off*ee.k,none⟩) len cap/\off+cap=bcap/\len<=cap:=by
    intro ee hok hl
    unfold SlOK at hok
    cases hbl:ee.blk with
    |none=>rw[hbl] at hok;obtain⟨_,hl0,_⟩:=hok;omega
    |some q=>
     obtain⟨b,bcap⟩:=q
     rw[hbl] at hok
     obtain⟨cap,h1,h2,h3⟩:=hok
     exact⟨b,bcap,cap,rfl,h1,h2,h3⟩
   obtain⟨hG,hone,hin⟩:=hx.slO_inv
   split at h
   ·-- whole
    obtain⟨rfl⟩:xl=none:=by cases xl<;>simp_all [ORelV]
    obtain⟨rfl⟩:xh=none:=by cases xh<;>simp_all [ORelV]
    obtain⟨rfl⟩:xm=none:=by cases xm<;>simp_all [ORelV]
    obtain⟨h1,h2,h3,h4⟩:=h
    obtain⟨hf,ee,he,hgg,hk,hn,hok⟩:=base h1 h2 h3
    obtain⟨b,bcap,cap,hbl,rfl,hcp,hlc⟩:=blk hok h4
    rw[run_slice_all _ _ _ _ _ hpe,hpe',run_sizeOf' hf]
    simp only[Result.andThen_ok]
    refine .pure p ?_
    unfold sliced
    rw[if_neg (by omega)]
    simp only[Option.map_some,add_none,Nat.zero_mul,Nat.add_zero,Nat.sub_zero]
    exact hx
   ·rename_i kl l
    cases xl with
    |none=>exact hl.elim
    |some vl=>
     obtain⟨rfl,_⟩:=hl.lit_inv
     obtain⟨rfl⟩:xh=none:=by cases xh<;>simp_all [ORelV]
     obtain⟨rfl⟩:xm=none:=by cases xm<;>simp_all [ORelV]
     obtain⟨h1,h2,h3,h0,h4⟩:=h
     obtain⟨hf,ee,he,hgg,hk,hn,hok⟩:=base h1 h2 h3
     obtain⟨b,bcap,cap,hbl,rfl,hcp,hlc⟩:=blk hok (by omega)
     rw[run_slice_l _ _ _ _ _ hpe kl l h0 (by omega),hpe',run_sizeOf' hf]
     simp only[Result.andThen_ok]
     refine .pure p ?_
     unfold sliced
     rw[if_neg (by omega)]
     refine .slO _ _ _ _ _ hG rfl fun ee' he' hg'=>?_
     rw[he] at he';cases he'
     refine⟨by omega,fun _=>?_⟩
     unfold SlOK
     rw[hbl]
     refine⟨cap - l.toNat,?_,by omega,by omega⟩
     simp only[Option.map_some,add_none,hk,h3,Nat.add_mul]
   ·rename_i kh l
    cases xh with
    |none=>exact hh.elim
    |some vl=>
     obtain⟨rfl,_⟩:=hh.lit_inv
     obtain⟨rfl⟩:xl=none:=by cases xl<;>simp_all [ORelV]
     obtain⟨rfl⟩:xm=none:=by cases xm<;>simp_all [ORelV]
     obtain⟨h1,h2,h3,h0,h4,h5⟩:=h
     obtain⟨hf,ee,he,hgg,hk,hn,hok⟩:=base h1 h2 h3
     obtain⟨b,bcap,cap,hbl,rfl,hcp,hlc⟩:=blk hok h5
     rw[run_slice_h _ _ _ _ _ hpe kh l h0 (by omega),hpe',run_sizeOf' hf]
     simp only[Result.andThen_ok]
     subst h1
     refine trunc_ok p hg (by omega) (fun ee' b' bcap' he' hbl' hk' hn' e' h'=>?_) ⟨ee,b,bcap,he,hbl⟩
     rw[he] at he';cases he'
     rw[hbl] at hbl';cases hbl'
     unfold sliced
     rw[if_neg (by omega)]
     refine .slO _ _ _ _ _ (.inr rfl) rfl fun ee'' he'' _=>?_
     rw[h'] at he'';cases he''
     refine⟨Nat.le_refl _,fun _=>⟨cap,?_,hcp,by omega⟩⟩
     simp[add_none,hk]
   ·rename_i kl l kh m
    cases xl with
    |none=>exact hl.elim
    |some vl=>
     cases xh with
     |none=>exact hh.elim
     |some vh=>
      obtain⟨rfl,_⟩:=hl.lit_inv
      obtain⟨rfl,_⟩:=hh.lit_inv
      obtain⟨rfl⟩:xm=none:=by cases xm<;>simp_all [ORelV]
      obtain⟨h1,h2,h3,h0,h4,h5,h6⟩:=h
      obtain⟨hf,ee,he,hgg,hk,hn,hok⟩:=base h1 h2 h3
      obtain⟨b,bcap,cap,hbl,rfl,hcp,hlc⟩:=blk hok (by omega)
      rw[run_slice_lh _ _ _ _ _ hpe kl kh l m h0 h4 (by omega),hpe',run_sizeOf' hf]
      simp only[Result.andThen_ok]
      subst h1
      refine trunc_ok p hg (by omega) (fun ee' b' bcap' he' hbl' hk' hn' e' h'=>?_) ⟨ee,b,bcap,he,hbl⟩
      rw[he] at he';cases he'
      rw[hbl] at hbl';cases hbl'
      unfold sliced
      rw[if_neg (by omega)]
      refine .slO _ _ _ _ _ (.inr rfl) rfl fun ee'' he'' _=>?_
      rw[h'] at he'';cases he''
      refine⟨by simp only;omega,fun _=>⟨cap - l.toNat,?_,by omega,by omega⟩⟩
      simp only[Option.map_some,add_none,hk,h3,Nat.add_mul]
   ·rename_i kh hv km m
    cases xh with
    |none=>exact hh.elim
    |some vh=>
     cases xm with
     |none=>exact hm.elim
     |some vm=>
      obtain⟨rfl,_⟩:=hh.lit_inv
      obtain⟨rfl,_⟩:=hm.lit_inv
      obtain⟨rfl⟩:xl=none:=by cases xl<;>simp_all [ORelV]
      obtain⟨h1,h2,h3,rfl,rfl⟩:=h
      obtain⟨hf,ee,he,hgg,hk,hn,hok⟩:=base h1 h2 h3
      obtain⟨a,cap,rfl⟩:=hok.shape
      rw[run_slice_hm _ _ _ _ _ hpe kh km 0 0 (Int.le_refl _) (Int.le_refl _) (by omega),hpe',run_sizeOf' hf]
      simp only[Result.andThen_ok]
      refine .pure p (.dat _ _ ?_)
      unfold sliced
      simpa using VD.nil true _
   ·exact h.elim
  ·exact h.elim
 case h_3=>exact h.elim
theorem ok_strS (p:Pre C e G g hp w) (ob:Prop) (s:ByteArray):OpOk C e G g hp w (ob, .lit (.string s),[]) (.ok (.value (.string s)) w):=
 .pure p (.dat _ _ (.lit _ rfl))
theorem opSliceStr_ok (p:Pre C e G g hp w) {t:Nat} (hu:C.P.underlying t=some .string) (s:ByteArray) {lo hi mx:Option AV} {xl xh xm:Option Value}
  (hl:ORelV w e G lo xl) (hh:ORelV w e G hi xh) (hm:ORelV w e G mx xm) (h:(opSliceStr s lo hi mx).1):
  OpOk C e G g hp w (opSliceStr s lo hi mx) (((Instr.sliceAt t (.string s) xl xh xm).run C.P w).andThen fun v w=> .ok (.value v) w):=by
 have hsz:s.data.toList.length=s.size:=rfl
 have e0:∀lo hi mx,(Instr.sliceAt t (.string s) lo hi mx).run C.P w=(Instr.slice t (.string s) lo hi mx).run C.P w:=fun lo hi mx=>by simp[Instr.sliceAt,run_underlying hu]
 have ex:∀l h:Nat,s.extract l h=strOf ((s.data.toList.take h).drop l):=fun l h=>by rw[Lib.extract_eq,strOf,List.drop_take]
 rw[e0]
 unfold opSliceStr at h ⊢
 split at h
 ·obtain⟨rfl⟩:xl=none:=by cases xl<;>simp_all [ORelV]
  obtain⟨rfl⟩:xh=none:=by cases xh<;>simp_all [ORelV]
  obtain⟨rfl⟩:xm=none:=by cases xm<;>simp_all [ORelV]
  have e1:(Instr.slice t (.string s) none none none).run C.P w= .ok (.string (s.extract 0 s.size)) w:=by
   simp[Instr.slice,Instr.sliceBounds,Instr.sliceBound,asIntOf,run_underlying hu]
  rw[e1,ex,<-hsz,List.take_length,List.drop_zero]
  simp only[Result.andThen_ok]
  exact ok_strS p _ _
 ·rename_i kl l
  cases xl with
  |none=>exact hl.elim
  |some vl=>
   obtain⟨rfl,_⟩:=hl.lit_inv
   obtain⟨rfl⟩:xh=none:=by cases xh<;>simp_all [ORelV]
   obtain⟨rfl⟩:xm=none:=by cases xm<;>simp_all [ORelV]
   obtain⟨h0,h1⟩:=h
   have e1:(Instr.slice t (.string s) (some (.int kl l)) none none).run C.P w= .ok (.string (s.extract l.toNat s.size)) w:=by
    have hj:0<=l/\l<=(s.size:Int):=⟨h0,h1⟩
    simp[Instr.slice,Instr.sliceBounds,Instr.sliceBound,asIntOf,run_underlying hu,hj]
   rw[e1,ex,<-hsz,List.take_length]
   simp only[Result.andThen_ok]
   exact ok_strS p _ _
 ·rename_i kh h'
  cases xh with
  |none=>exact hh.elim
  |some vl=>
   obtain⟨rfl,_⟩:=hh.lit_inv
   obtain⟨rfl⟩:xl=none:=by cases xl<;>simp_all [ORelV]
   obtain⟨rfl⟩:xm=none:=by cases xm<;>simp_all [ORelV]
   obtain⟨h0,h1⟩:=h
   have e1:(Instr.slice t (.string s) none (some (.int kh h')) none).run C.P w= .ok (.string (s.extract 0 h'.toNat)) w:=by
    have hj:0<=h'/\h'<=(s.size:Int):=⟨h0,h1⟩
    simp[Instr.slice,Instr.sliceBounds,Instr.sliceBound,asIntOf,run_underlying hu,hj]
   rw[e1,ex,List.drop_zero]
   simp only[Result.andThen_ok]
   exact ok_strS p _ _
 ·rename_i kl l kh h'
  cases xl with
  |none=>exact hl.elim
  |some vl=>
   cases xh with
   |none=>exact hh.elim
   |some vh=>
    obtain⟨rfl,_⟩:=hl.lit_inv
    obtain⟨rfl,_⟩:=hh.lit_inv
    obtain⟨rfl⟩:xm=none:=by cases xm<;>simp_all [ORelV]
    obtain⟨h0,h1,h2⟩:=h
    rw[run_slice_string w t s kl kh l h' hu h0 h1 (by omega),ex]
    simp only[Result.andThen_ok]
    exact ok_strS p _ _
 ·exact h.elim
theorem opSlice_ok (p:Pre C e G g hp w) (hT:TOk C.P T) {t:Nat} {lo hi mx:Option AV} {xl xh xm:Option Value} {av:AV} {x:Value}
  (hx:VR w (UE e) e G av x) (hl:ORelV w e G lo xl) (hh:ORelV w e G hi xh) (hm:ORelV w e G mx xm) (h:(opSlice T t g hp lo hi mx av).1)
  (hA:∀n el,(tl T t).ty= .array n el->(opSliceA n (tl T el) hp lo hi mx av).1->OpOk C e G g hp w (opSliceA n (tl T el) hp lo hi mx av) (((Instr.sliceAt t x xl xh xm).run C.P w).andThen fun v w=> .ok (.value v) w)):
  OpOk C e G g hp w (opSlice T t g hp lo hi mx av) (((Instr.sliceAt t x xl xh xm).run C.P w).andThen fun v w=> .ok (.value v) w):=by
 cases hel:(tl T t).ty with
 |slice el=>
  obtain⟨d,hu,hd⟩:=(hT.fit hel (by simp)).under
  rw[hel] at hd
  cases hd
  simp only[opSlice,hel] at h ⊢
  exact opSliceS_ok p hu (fun hs=>hT.fits hs) hx hl hh hm h
 |str=>
  obtain⟨d,hu,hd⟩:=(hT.fit hel (by simp)).under
  rw[hel] at hd
  cases hd
  simp only[opSlice,hel] at h ⊢
  cases av with
  |lit v=>
   cases v with
   |string s=>
    obtain⟨rfl,_⟩:=hx.lit_inv
    exact opSliceStr_ok p hu s hl hh hm h
   |_=>exact h.elim
  |_=>exact h.elim
 |array n el=>
  simp only[opSlice,hel] at h ⊢
  exact hA n el hel h
 |_=>simp only[opSlice,hel] at h;exact h.elim
theorem opLen_ok (p:Pre C e G g hp w) (hT:TOk C.P T) {t ty:Nat} {av:AV} {x:Value} (hx:VR w (UE e) e G av x) (h:(opLen T t hp av).1):
  OpOk C e G g hp w (opLen T t hp av) (((Builtin.len_ #[t] ty #[x]).run C.P w).andThen fun v w=> .ok (.value v) w):=by
 cases hel:(tl T t).ty with
 |slice el=>
  obtain⟨d,hu,hd⟩:=(hT.fit hel (by simp)).under
  rw[hel] at hd
  cases hd
  simp only[opLen,hel] at h ⊢
  have key:∀a n c,(Builtin.len_ #[t] ty #[.slice a n c]).run C.P w= .ok (goInt n) w:=fun a n c=>by simp[Builtin.len_,run_underlying hu]
  cases av with
  |sl es full=>
   obtain⟨a,cap,rfl,_⟩:=hx.slice_cap
   rw[key]
   exact ok_int p _ _ _
  |slO id g' off len=>
   cases hg:hp.get id with
   |none=>simp only[hg] at h;exact h.elim
   |some q=>
    obtain⟨g'',ob⟩:=q
    cases ob with
    |box cs=>simp only[hg] at h;exact h.elim
    |mp _=>simp only[hg] at h;exact h.elim
    |ms _=>simp only[hg] at h;exact h.elim
    |bd _ _ _=>simp only[hg] at h;exact h.elim
    |own t' k es=>
     simp only[hg,R.val] at h ⊢
     obtain⟨rfl,hl⟩:=h
     obtain⟨ee,_,_,_,hok,_⟩:=slO_val p.hr hx hg hl
     obtain⟨a,cap,rfl⟩:=hok.shape
     rw[key]
     exact ok_int p _ _ _
  |_=>exact h.elim
 |str=>
  obtain⟨d,hu,hd⟩:=(hT.fit hel (by simp)).under
  rw[hel] at hd
  cases hd
  simp only[opLen,hel] at h ⊢
  cases av with
  |lit v=>
   cases v with
   |string s=>
    obtain⟨rfl,_⟩:=hx.lit_inv
    have:(Builtin.len_ #[t] ty #[.string s]).run C.P w= .ok (goInt s.size) w:=by simp[Builtin.len_,run_underlying hu]
    rw[this]
    exact ok_int p _ _ _
   |_=>exact h.elim
  |_=>exact h.elim
 |array n el=>
  obtain⟨d,hu,hd⟩:=(hT.fit hel (by simp)).under
  rw[hel] at hd
  cases hd
  simp only[opLen,hel] at h ⊢
  have:(Builtin.len_ #[t] ty #[x]).run C.P w= .ok (goInt n) w:=by simp[Builtin.len_,run_underlying hu]
  rw[this]
  exact ok_int p _ _ _
 |_=>simp only[opLen,hel] at h;exact h.elim
end
open Go
theorem mapc_cells {f:AV->AV} {el:AV} (h:∀c,(f c).cells=[f c]\/c.one=false) (hc:∀c∈el.cells,c.one=true):(mapc f el).cells=el.cells.map f:=by
 cases el with
 |agg cs=>rfl
 |bad=>have:=hc .bad (by simp[AV.cells]);cases this
 |tup cs=>have:=hc (.tup cs) (by simp[AV.cells]);cases this
 |_=>exact(h _).resolve_right (by simp[AV.one])
theorem fz_cells (n:Nat) (hp:Hp) (c:AV):(fz n hp c).cells=[fz n hp c]\/c.one=false:=by
 cases c with
 |agg cs=>exact .inr rfl
 |bad=>exact .inr rfl
 |tup cs=>exact .inr rfl
 |slO id g off len=>
  cases n with
  |zero=>exact .inl rfl
  |succ n=>
   refine .inl ?_
   simp only[fz]
   split<;>rfl
 |ptO id g m i off=>
  cases n with
  |zero=>exact .inl rfl
  |succ n=>
   refine .inl ?_
   simp only[fz]
   split<;>rfl
 |fn f cs=>cases n<;>exact .inl rfl
 |kid t k es=>cases n<;>exact .inl rfl
 |sl es full=>cases n<;>exact .inl rfl
 |lit v=>cases n<;>exact .inl rfl
 |ptI cs=>cases n<;>exact .inl rfl
 |gl g=>cases n<;>exact .inl rfl
 |ifn=>cases n<;>exact .inl rfl
 |anyI k=>cases n<;>exact .inl rfl
 |bfn f cs=>cases n<;>exact .inl rfl
 |mpO id g=>cases n<;>exact .inl rfl
theorem mapfz_cells {n:Nat} {hp:Hp} {el:AV} (hc:∀c∈el.cells,c.one=true):(mapc (fz n hp) el).cells=el.cells.map (fz n hp):=
 mapc_cells (fz_cells n hp) hc
theorem fz_one {n:Nat} {hp:Hp} {c:AV} (h:fzP n hp c):(fz n hp c).one=true:=by
 cases c with
 |agg cs=>cases n<;>exact h.elim
 |bad=>cases n<;>exact h.elim
 |tup cs=>cases n<;>exact h.elim
 |slO id g off len=>
  cases n with
  |zero=>exact h.elim
  |succ n=>
   simp only[fz,fzP] at h ⊢
   split at h
   ·rename_i hg;first|rfl|(simp only[hg];rfl)|(rw[hg];rfl)|trace_state
   ·exact h.elim
 |ptO id g m i off=>
  cases n with
  |zero=>exact h.elim
  |succ n=>
   simp only[fz,fzP] at h ⊢
   split at h
   ·rename_i hg;first|rfl|(simp only[hg];rfl)|(rw[hg];rfl)|trace_state
   ·rename_i hg;first|rfl|(simp only[hg];rfl)|(rw[hg];rfl)|trace_state
   ·exact h.elim
 |_=>cases n<;>rfl
section
variable {C:Cx} {e:Env} {G:Nat->Prop} {g:Nat} {hp:Hp} {w:World} {T:Tab}
theorem VD.full {U:Nat->Prop} {es:List AV} {full:Bool} {x:Value} (h:VD w U (.sl es full) x):VD w U (.sl es false) x:=by
 rcases h.sl_inv with ⟨rfl,a,rfl⟩|⟨b,off,cap,k,f,rfl,h1,h2,h3,h4,_,h6,h7,h8,h9,h10⟩
 ·exact .nil _ _
 ·exact .sl _ _ b off cap k f h1 h2 h3 h4 (by simp) h6 h7 h8 h9 h10
theorem fz_vd {U:Nat->Prop}:∀(n:Nat) {v:AV} {x:Value},VD w U v x->fzP n hp v->VD w U (fz n hp v) x
 |0,v,x,h,hP=>by
  cases v with
  |sl es full=>exact h.full
  |lit v=>exact h
  |ptI cs=>exact h
  |gl g=>exact h
  |ifn=>exact h
  |anyI k=>exact h
  |kid t k es=>exact h.kid_no.elim
  |_=>exact hP.elim
 |n+1,v,x,h,hP=>by
  cases v with
  |sl es full=>exact h.full
  |lit v=>exact h
  |ptI cs=>exact h
  |gl g=>exact h
  |ifn=>exact h
  |anyI k=>exact h
  |kid t k es=>exact h.kid_no.elim
  |slO id g off len=>exact h.slO_no.elim
  |ptO id g m i off=>exact h.ptO_no.elim
  |fn f cs=>
   cases h with
   |fn _ _ vs h1 h2=>
    refine .fn _ _ _ (by simpa using h1) fun i hi=>?_
    simp only[List.getElem_map]
    have hi':i<cs.length:=by simpa using hi
    exact fz_vd n (h2 i hi') (hP _ (List.getElem_mem hi'))
  |_=>exact hP.elim
structure Frz (e e':Env) (D:Nat->Prop):Prop where
 un:∀b,UE e b->UE e' b
 dr:∀id ee b c,D id->e id=some ee->ee.blk=some (b,c)->UE e' b/\∀b' c',e.kid b'=some (b,c')->UE e' b'
theorem fz_ok (hr:HRel w e G hp) {e':Env} {D:Nat->Prop} (x:Frz e e' D):∀(n:Nat) {v:AV} {u:Value},VR w (UE e) e G v u->fzP n hp v->(∀i∈fzR n hp v,D i)->VD w (UE e') (fz n hp v) u
 |0,v,u,h,hP,_=>by
  cases h with
  |dat _ _ h=>exact fz_vd 0 (h.mono (Nat.le_refl _) (fun b _ hb=>x.un b hb) (fun _ _ _=>rfl)) hP
  |_=>exact hP.elim
 |n+1,v,u,h,hP,hD=>by
  cases v with
  |slO id g' off len=>
   simp only[fz,fzP,fzR] at hP hD ⊢
   split at hP
   ·rename_i g'' t k es hg
    obtain⟨rfl,hl,hP⟩:=hP
    simp only[hg] at hD ⊢
    obtain⟨ee,he,hgg,hn,hok,hor⟩:=slO_val hr h hg hl
    obtain⟨hk,_,hk0,hkl,h1,hb⟩:=hor
    have hlen:((es.drop off).map (mapc (fz n hp))).length=len:=by simp;omega
    unfold SlOK at hok
    cases hbl:ee.blk with
    |none=>
     rw[hbl] at hok hb
     obtain⟨rfl,rfl,a,rfl⟩:=hok
     subst hb
     exact .nil _ _
    |some q=>
     obtain⟨b,bcap⟩:=q
     rw[hbl] at hok hb
     obtain⟨cap,rfl,hcp,hlc⟩:=hok
     obtain⟨hm,hlb,cs,hh,hs,hv⟩:=hb
     obtain⟨hU,hUk⟩:=x.dr id ee b bcap (hD id List.mem_cons_self) he hbl
     have hget:∀i (hi:i<((es.drop off).map (mapc (fz n hp))).length),((es.drop off).map (mapc (fz n hp)))[i]=mapc (fz n hp) (es[off+i]'(by simp at hi;omega)):=by
      intro i hi;simp
     have hone:∀i (hi:i<es.length),∀c∈es[i].cells,c.one=true:=by
      intro i hi c hc
      obtain⟨j,hj,rfl⟩:=List.getElem_of_mem hc
      exact h1 i hi j hj
     have hel:len=((es.drop off).map (mapc (fz n hp))).length:=hlen.symm
     conv=>arg 4;rw[hel]
     refine .sl _ _ b _ cap k (fun j=>cs.getD (off*ee.k+j) undef) hU (hr.lt _ _ _ _ he hbl) (by omega) (by omega) (by simp) hk0 ?_ ?_ ?_ ?_
     ·intro i hi
      rw[hget i hi,mapfz_cells (hone _ _),List.length_map];exact hkl _ _
     ·intro j hj
      rw[hlen] at hj
      refine hh.cellD ?_
      rw[hs,hk]
      calc off*k+j<off*k+len*k:=by omega
       _=(off+len)*k:=by rw[Nat.add_mul]
       _<=bcap*k:=Nat.mul_le_mul_right _ (by omega)
     ·intro i hi j hj
      simp only[hget i hi] at hj ⊢
      have hio:off+i<es.length:=by rw[hlen] at hi;omega
      simp only[mapfz_cells (hone _ hio),List.getElem_map]
      simp only[mapfz_cells (hone _ hio),List.length_map] at hj
      exact fz_one (hP _ (List.getElem_mem hio) _ (List.getElem_mem hj))
     ·intro i hi j hj
      simp only[hget i hi] at hj ⊢
      have hio:off+i<es.length:=by rw[hlen] at hi;omega
      simp only[mapfz_cells (hone _ hio),List.getElem_map]
      simp only[mapfz_cells (hone _ hio),List.length_map] at hj
      have hvc:=hv (off+i) hio j hj
      have hPc:=hP _ (List.getElem_mem hio) _ (List.getElem_mem hj)
      have hDc:∀k∈fzR n hp es[off+i].cells[j],D k:=fun k hk=>hD k (List.mem_cons_of_mem _ (List.mem_flatMap.2 ⟨_,List.getElem_mem hio,List.mem_flatMap.2 ⟨_,List.getElem_mem hj,hk⟩⟩))
      have e1:off*ee.k+(i*k+j)=(off+i)*k+j:=by rw[hk,Nat.add_mul];omega
      simp only[e1]
      generalize es[off+i].cells[j]=c at hvc hPc hDc
      generalize cs.getD ((off+i)*k+j) undef=u at hvc
      cases hvc with
      |val _ _ hvr=>exact fz_ok hr x n hvr hPc hDc
      |kid0 t' k' a h0=>cases n<;>exact .nil _ _
      |kid t' k' xs b' cap' cs' q1 q2 q3 q4 q5 q6 q7 q8 q9=>
       have hfz:fz n hp (.kid t' k' xs)= .sl xs false:=by cases n<;>rfl
       rw[hfz]
       refine .sl _ _ b' 0 cap' k' (fun j=>cs'.getD j undef) (hUk b' _ q1) (hr.kl _ _ _ q1).1 q5 q6 (by simp) q4 q7 ?_ q8 ?_
       ·intro j hj
        rw[Nat.zero_add]
        refine q2.cellD ?_
        rw[q3]
        exact Nat.lt_of_lt_of_le hj (Nat.mul_le_mul_right _ q5)
       ·intro i hi j hj
        exact(q9 i hi j hj).mono (Nat.le_refl _) (fun b _ hb=>x.un b hb) (fun _ _ _=>rfl)
   ·exact hP.elim
  |ptO id g' m i off=>
   simp only[fz,fzP,fzR] at hP hD ⊢
   obtain⟨_,_,hin⟩:=h.ptO_inv
   split at hP
   ·rename_i g'' cs hg
    obtain⟨rfl,rfl,rfl,hP⟩:=hP
    simp only[hg] at hD ⊢
    obtain⟨ee,he,hgg,_,hor⟩:=hr.live id _ _ hg
    obtain⟨hn,h1,b,c,vs,t,hb,hh,hs,hv⟩:=hor
    obtain⟨_,hin⟩:=hin ee he hgg
    obtain rfl:=hin hn b c hb
    obtain⟨hU,_⟩:=x.dr id ee b c (hD id List.mem_cons_self) he hb
    refine .ptI _ b _ (fun j=>vs.getD (0*ee.k+off+j) undef) hU (hr.lt _ _ _ _ he hb) ?_ ?_ ?_
    ·intro j hj
     refine cell_of_heap hh ?_
     simp at hj;omega
    ·intro j hj
     simp only[List.getElem_map,List.getElem_drop]
     exact fz_one (hP _ (List.getElem_mem _))
    ·intro j hj
     simp only[List.getElem_map,List.getElem_drop,Nat.zero_mul,Nat.zero_add]
     have hj':off+j<cs.length:=by simp at hj;omega
     exact fz_ok hr x n (hv _ hj') (hP _ (List.getElem_mem _)) fun k hk=>hD k (List.mem_cons_of_mem _ (List.mem_flatMap.2 ⟨_,List.getElem_mem hj',hk⟩))
   ·rename_i g'' t k es hg
    obtain⟨rfl,rfl,hi,hP⟩:=hP
    simp only[hg] at hD ⊢
    rw[getD_lt hi] at hP hD ⊢
    obtain⟨ee,he,hgg,_,hor⟩:=hr.live id _ _ hg
    obtain⟨hk,hn,hk0,hkl,h1,hb⟩:=hor
    cases hbl:ee.blk with
    |none=>rw[hbl] at hb;subst hb;simp at hi
    |some q=>
     obtain⟨b,bcap⟩:=q
     rw[hbl] at hb
     obtain⟨hm,hlb,cs,hh,hs,hv⟩:=hb
     obtain⟨_,hin⟩:=hin ee he hgg
     obtain rfl:=hin hn b bcap hbl
     obtain⟨hU,hUk⟩:=x.dr id ee b bcap (hD id List.mem_cons_self) he hbl
     have hsz:i*k+k<=cs.size:=by
      rw[hs]
      calc i*k+k=(i+1)*k:=by rw[Nat.succ_mul]
       _<=bcap*k:=Nat.mul_le_mul_right _ (by omega)
     refine .ptI _ b _ (fun j=>cs.getD (i*ee.k+off+j) undef) hU (hr.lt _ _ _ _ he hbl) ?_ ?_ ?_
     ·intro j hj
      refine hh.cellD ?_
      have:=hkl i hi
      simp at hj;rw[hk];omega
     ·intro j hj
      simp only[List.getElem_map,List.getElem_drop]
      exact fz_one (hP _ (List.getElem_mem _))
     ·intro j hj
      simp only[List.getElem_map,List.getElem_drop]
      have hj':off+j<es[i].cells.length:=by simp at hj;omega
      have hvc:=hv i hi (off+j) hj'
      have hPc:=hP _ (List.getElem_mem hj')
      have hDc:∀k∈fzR n hp es[i].cells[off+j],D k:=fun k hk=>hD k (List.mem_cons_of_mem _ (List.mem_flatMap.2 ⟨_,List.getElem_mem hj',hk⟩))
      have e1:i*ee.k+off+j=i*k+(off+j):=by rw[hk];omega
      simp only[e1]
      generalize es[i].cells[off+j]=c at hvc hPc hDc
      generalize cs.getD (i*k+(off+j)) undef=u at hvc
      cases hvc with
      |val _ _ hvr=>exact fz_ok hr x n hvr hPc hDc
      |kid0 t' k' a h0=>cases n<;>exact .nil _ _
      |kid t' k' xs b' cap' cs' q1 q2 q3 q4 q5 q6 q7 q8 q9=>
       have hfz:fz n hp (.kid t' k' xs)= .sl xs false:=by cases n<;>rfl
       rw[hfz]
       refine .sl _ _ b' 0 cap' k' (fun j=>cs'.getD j undef) (hUk b' _ q1) (hr.kl _ _ _ q1).1 q5 q6 (by simp) q4 q7 ?_ q8 ?_
       ·intro j hj
        rw[Nat.zero_add]
        refine q2.cellD ?_
        rw[q3]
        exact Nat.lt_of_lt_of_le hj (Nat.mul_le_mul_right _ q5)
       ·intro i hi j hj
        exact(q9 i hi j hj).mono (Nat.le_refl _) (fun b _ hb=>x.un b hb) (fun _ _ _=>rfl)
   ·exact hP.elim
  |fn f cs=>
   have key:∃vs:Array Value,u= .func (.func f) #[] vs/\cs.length=vs.size/\∀i (h:i<cs.length),VR w (UE e) e G cs[i] (vs.getD i undef):=by
    cases h with
    |dat _ _ h=>cases h with|fn _ _ vs h1 h2=>exact⟨vs,rfl,h1,fun i hi=> .dat _ _ (h2 i hi)⟩
    |fn _ _ vs h1 h2=>exact⟨vs,rfl,h1,h2⟩
   obtain⟨vs,rfl,q1,q2⟩:=key
   refine .fn _ _ _ (by simpa using q1) fun i hi=>?_
   simp only[List.getElem_map]
   have hi':i<cs.length:=by simpa using hi
   exact fz_ok hr x n (q2 i hi') (hP _ (List.getElem_mem hi')) fun k hk=>hD k (List.mem_flatMap.2 ⟨_,List.getElem_mem hi',hk⟩)
  |sl es full=>exact(h.sl_inv.mono (Nat.le_refl _) (fun b _ hb=>x.un b hb) (fun _ _ _=>rfl)).full
  |lit v=>obtain⟨rfl,h1⟩:=h.lit_inv;exact .lit _ h1
  |ptI cs=>exact h.ptI_inv.mono (Nat.le_refl _) (fun b _ hb=>x.un b hb) (fun _ _ _=>rfl)
  |gl g=>rw[h.gl_inv];exact .gl _
  |ifn=>cases h with|dat _ _ h=>cases h;exact .ifn _ _
  |anyI k=>cases h with|dat _ _ h=>cases h;exact .anyI _ _
  |kid t k es=>exact h.kid_no.elim
  |_=>exact hP.elim
theorem fzv_ok (hr:HRel w e G hp) {e':Env} {D:Nat->Prop} (x:Frz e e' D) {v:AV} {u:Value} (h:VR w (UE e) e G v u) (hP:fzvP hp v) (hD:∀i∈fzvR hp v,D i):VD w (UE e') (fzv hp v) u:=by
 cases v with
 |agg cs=>
  obtain⟨vs,rfl,hl,q1,q2⟩:=h.agg_inv
  refine .agg _ _ (by simpa using hl) ?_ ?_
  ·intro i hi;simp only[List.getElem_map];exact fz_one (hP _ (List.getElem_mem _))
  ·intro i hi'
   simp only[List.getElem_map]
   have hi'':i<cs.length:=by simpa using hi'
   exact fz_ok hr x 4 (q2 i hi'') (hP _ (List.getElem_mem hi'')) fun j hj=>hD j (List.mem_flatMap.2 ⟨_,List.getElem_mem hi'',hj⟩)
 |_=>exact fz_ok hr x 4 h (hP _ List.mem_cons_self) fun j hj=>hD j (List.mem_flatMap.2 ⟨_,List.mem_cons_self,hj⟩)
theorem fzt_ok (hr:HRel w e G hp) {e':Env} {D:Nat->Prop} (x:Frz e e' D) {v:AV} {u:Value} (h:VR w (UE e) e G v u) (hP:fztP hp v) (hD:∀i∈fztR hp v,D i):VD w (UE e') (fzt hp v) u:=by
 cases v with
 |tup cs=>
  obtain⟨vs,rfl,q1,q3⟩:=h.tup_inv
  refine .tup _ _ (by simpa using q1) fun i hi'=>?_
  simp only[List.getElem_map]
  have hi'':i<cs.length:=by simpa using hi'
  exact fzv_ok hr x (q3 i hi'') (hP _ (List.getElem_mem hi'')) fun j hj=>hD j (List.mem_flatMap.2 ⟨_,List.getElem_mem hi'',hj⟩)
 |_=>exact fzv_ok hr x h hP hD
theorem Frz.drops (hr:HRel w e G hp) (ids:List Nat):Frz e (edrop e ids) (·∈ids):=
 ⟨fun b hb=>⟨hb.1,fun ho=>hb.2 ho.edrop⟩,fun id _ _ _ hi he hb=>⟨UE.dropped hr he hb hi,fun _ _ hk=>UE.dropped_kid hr he hb hi hk⟩⟩
end
open Go
structure Grow (w w':World):Prop where
 os:w'.os=w.os
 tape:w'.tape=w.tape
 output:w'.output=w.output
 size:w.heap.size<=w'.heap.size
 same:∀b,b<w.heap.size->w'.heap[b]?=w.heap[b]?
theorem Grow.refl (w:World):Grow w w:=⟨rfl,rfl,rfl,Nat.le_refl _,fun _ _=>rfl⟩
theorem push_same (w:World) (o:Obj) (b:Nat) (hb:b<w.heap.size):(w.heap.push o)[b]?=w.heap[b]?:=by
 rw[Array.getElem?_push,if_neg (by omega)]
theorem Grow.alloc (w:World) (o:Obj):Grow w (w.alloc o):=
 ⟨rfl,rfl,rfl,by show _<=(w.heap.push o).size;simp,fun b hb=>push_same w o b hb⟩
theorem Grow.drew_alloc (w:World) (o:Obj):Grow w (w.drew.alloc o):=
 ⟨rfl,rfl,rfl,by show _<=(w.heap.push o).size;simp,fun b hb=>push_same w o b hb⟩
theorem heap_new (w:World) (o:Obj):(w.alloc o).heap[w.heap.size]?=some o:=by
 show(w.heap.push o)[w.heap.size]?=some o
 simp
theorem size_new (w:World) (o:Obj):(w.alloc o).heap.size=w.heap.size+1:=by
 show(w.heap.push o).size=_
 simp
section
variable {C:Cx} {e:Env} {G:Nat->Prop} {g:Nat} {hp:Hp} {w:World} {T:Tab}
theorem Frm.grow (h:Frm C w) {w':World} (x:Grow w w'):Frm C w':=
 ⟨x.os.trans h.os,x.tape.trans h.tape,x.output.trans h.output,Nat.le_trans h.size x.size,
  fun b hb hl=>(x.same b (Nat.lt_of_lt_of_le hb h.size)).trans (h.same b hb hl)⟩
theorem mk_obj' (p:Pre C e G g hp w) {w':World} (x:Grow w w') {did:Nat} {ee:EE} (hg:ee.g=g)
  (hblk:∀b c,ee.blk=some (b,c)->w.heap.size<=b/\b<w'.heap.size) {ob:Ob} (ho:Ext w e G w' (eset e did (some ee)) (gadd G g)->ORel w' (eset e did (some ee)) (gadd G g) ob ee)
  {v:AV} {xv:Value} {P:Prop} (hv:VR w' (UE (eset e did (some ee))) (eset e did (some ee)) (gadd G g) v xv):
  OpOk C e G g hp w (P,v,[(did,some (g,ob))]) (.ok (.value xv) w'):=by
 subst hg
 have e1:eset e did (some ee) did=some ee:=eset_same _ _ _
 have hObj:∀b1,b1<w.heap.size->ObjB (eset e did (some ee)) b1->ObjB e b1:=by
  rintro b1 hlt ⟨j,ej,c1,q1,q2⟩
  by_cases hj:j=did
  ·subst hj;rw[e1] at q1;cases q1;have:=(hblk _ _ q2).1;omega
  ·rw[eset_other _ _ hj] at q1;exact⟨j,ej,c1,q1,q2⟩
 have hOwn:∀b1,b1<w.heap.size->OwnB (eset e did (some ee)) b1->OwnB e b1:=by
  rintro b1 hlt (ho|⟨B,c1,hk1,ho⟩)
  ·exact .inl (hObj _ hlt ho)
  ·exact .inr ⟨B,c1,hk1,hObj _ (p.hr.kl _ _ _ hk1).2.1 ho⟩
 have ext:Ext w e G w' (eset e did (some ee)) (gadd G ee.g):=by
  refine Ext.mk' x.size (fun _ h=> .inl h) rfl hOwn (fun b hb _=>x.same b hb) fun j ej hj hG=>?_
  by_cases hjd:j=did
  ·subst hjd;rw[e1] at hj;cases hj;exact absurd hG p.ng
  ·rw[eset_other _ _ hjd] at hj;exact⟨ej,hj,rfl,rfl, .inl ⟨rfl,rfl⟩⟩
 refine⟨_,w',_,rfl,?_,ext,p.ln.step p.fr.size ext rfl hOwn,p.fr.grow x, .inl ⟨xv,rfl,hv⟩⟩
 refine p.hr.step (fun j=>j=did) ext rfl (fun j hj=>⟨eset_other _ _ hj,by simp only[List.cons_append,List.nil_append];rw[Hp.get_cons_other _ _ hj]⟩)
  (fun j ej b1 c1 _ hej hbj=>⟨x.same b1 (p.hr.lt _ _ _ _ hej hbj),fun b2 c2 hk2=>⟨x.same b2 (p.hr.kl _ _ _ hk2).1,hk2⟩⟩) (fun j hj hn'=>?_) (fun j gj obj hj hgj=>?_) (fun j ej b1 c1 hj hej hbj=>?_)
  (fun b1 B c1 hk1=>⟨Nat.lt_of_lt_of_le (p.hr.kl _ _ _ hk1).1 x.size,Nat.lt_of_lt_of_le (p.hr.kl _ _ _ hk1).2.1 x.size,(p.hr.kl _ _ _ hk1).2.2⟩) (fun b1 ho=>?_) p.hr.kk
 ·subst hj;simp only[List.cons_append,List.nil_append] at hn';rw[Hp.get_cons_same] at hn';cases hn'
 ·subst hj;simp only[List.cons_append,List.nil_append] at hgj;rw[Hp.get_cons_same] at hgj;cases hgj
  exact⟨ee,e1,rfl, .inr rfl,ho ext⟩
 ·subst hj;rw[e1] at hej;cases hej
  obtain⟨q1,q2⟩:=hblk b1 c1 hbj
  refine⟨q2,not_z p.ln p.fr q1,fun j' ej' c' hj' hbj'=>?_⟩
  by_cases h:j'=j
  ·exact h
  ·rw[eset_other _ _ h] at hj';have:=p.hr.lt _ _ _ _ hj' hbj';omega
 ·cases hk:e.kid b1 with
  |none=>exact hk
  |some q=>
   have hlt:=(p.hr.kl _ q.1 q.2 hk).1
   have:=p.hr.ko b1 (hObj b1 hlt ho)
   rw[hk] at this;cases this
theorem Ext.new (p:Pre C e G g hp w) {w':World} (x:Grow w w') {did:Nat} {ee:EE} (hg:ee.g=g) (hblk:∀b c,ee.blk=some (b,c)->w.heap.size<=b):
  Ext w e G w' (eset e did (some ee)) (gadd G g):=by
 have e1:eset e did (some ee) did=some ee:=eset_same _ _ _
 have hObj:∀b1,b1<w.heap.size->ObjB (eset e did (some ee)) b1->ObjB e b1:=by
  rintro b1 hlt ⟨j,ej,c1,q1,q2⟩
  by_cases hj:j=did
  ·subst hj;rw[e1] at q1;cases q1;have:=(hblk _ _ q2);omega
  ·rw[eset_other _ _ hj] at q1;exact⟨j,ej,c1,q1,q2⟩
 refine Ext.mk' x.size (fun _ h=> .inl h) rfl (fun b1 hlt ho=>?_) (fun b hb _=>x.same b hb) fun j ej hj hG=>?_
 ·rcases ho with ho|⟨B,c1,hk1,ho⟩
  ·exact .inl (hObj _ hlt ho)
  ·exact .inr ⟨B,c1,hk1,hObj _ (p.hr.kl _ _ _ hk1).2.1 ho⟩
 ·by_cases hjd:j=did
  ·subst hjd;rw[e1] at hj;cases hj;rw[hg] at hG;exact absurd hG p.ng
  ·rw[eset_other _ _ hjd] at hj;exact⟨ej,hj,rfl,rfl, .inl ⟨rfl,rfl⟩⟩
theorem mk_obj (p:Pre C e G g hp w) {w':World} (x:Grow w w') {did:Nat} {ee:EE} (hg:ee.g=g)
  (hblk:∀b c,ee.blk=some (b,c)->w.heap.size<=b/\b<w'.heap.size) {ob:Ob} (ho:ORel w' (eset e did (some ee)) (gadd G g) ob ee)
  {v:AV} {xv:Value} {P:Prop} (hv:VR w' (UE (eset e did (some ee))) (eset e did (some ee)) (gadd G g) v xv):
  OpOk C e G g hp w (P,v,[(did,some (g,ob))]) (.ok (.value xv) w'):=mk_obj' p x hg hblk (fun _=>ho) hv
theorem nil_ok (p:Pre C e G g hp w) {did t k:Nat} (hk:k≠0):
  OpOk C e G g hp w (k≠0, .slO did g 0 0,[(did,some (g, .own t k []))]) (.ok (.value (.slice none 0 0)) w):=by
 refine mk_obj p (Grow.refl w) (ee:=⟨g,none,k,0⟩) rfl (by simp) ?_ ?_
 ·exact⟨rfl,rfl,by omega,by simp,by simp,rfl⟩
 ·refine .slO _ _ _ _ _ (.inr rfl) rfl fun ee he _=>?_
  rw[eset_same] at he;cases he
  exact⟨Nat.le_refl _,fun _=>⟨rfl,rfl,none,rfl⟩⟩
theorem cells_vals {v:AV} {x:Value} (hx:VR w (UE e) e G v x) (h1:∀c∈v.cells,c.one=true):
  x.cells.size=v.cells.length/\(∀i (h:i<v.cells.length),VR w (UE e) e G v.cells[i] (x.cells.getD i undef))/\∀u∈x.cells,u.oneCell'=true:=by
 cases v with
 |agg cs=>
  obtain⟨vs,rfl,hl,q1,q2⟩:=hx.agg_inv
  refine⟨hl.symm,q2,fun u hu=>?_⟩
  obtain⟨i,hi,rfl⟩:=Array.mem_iff_getElem.1 hu
  have h1:=(q2 i (by rw[hl];exact hi)).oneCell (q1 i (by rw[hl];exact hi))
  have hi':i<vs.size:=hi
  rw[Array.getD_eq_getD_getElem?,Array.getElem?_eq_getElem hi'] at h1
  exact h1
 |bad=>have:=h1 .bad (by simp[AV.cells]);cases this
 |tup cs=>have:=h1 (.tup cs) (by simp[AV.cells]);cases this
 |_=>
  have h2:=hx.oneCell rfl
  have hc:x.cells=#[x]:=by cases x<;>first|rfl|cases h2
  rw[hc]
  refine⟨rfl,fun i hi=>?_,fun u hu=>by simp at hu;subst hu;exact h2⟩
  have hi0:i=0:=by simp[AV.cells] at hi;omega
  subst hi0
  simpa[AV.cells] using hx
theorem cells_valsD {U:Nat->Prop} {v:AV} {x:Value} (hx:VD w U v x) (h1:∀c∈v.cells,c.one=true):
  x.cells.size=v.cells.length/\(∀i (h:i<v.cells.length),VD w U v.cells[i] (x.cells.getD i undef))/\∀u∈x.cells,u.oneCell'=true:=by
 cases hv:v with
 |agg cs=>
  subst hv
  cases hx with
  |agg _ vs hl q1 q2=>
   refine⟨hl.symm,q2,fun u hu=>?_⟩
   obtain⟨i,hi,rfl⟩:=Array.mem_iff_getElem.1 hu
   have h1:=(q2 i (by rw[hl];exact hi)).oneCell (q1 i (by rw[hl];exact hi))
   have hi':i<vs.size:=hi
   rw[Array.getD_eq_getD_getElem?,Array.getElem?_eq_getElem hi'] at h1
   exact h1
 |bad=>subst hv;have:=h1 .bad (by simp[AV.cells]);cases this
 |tup cs=>subst hv;have:=h1 (.tup cs) (by simp[AV.cells]);cases this
 |_=>
  have h2:=hx.oneCell (by rw[hv];rfl)
  have hc:x.cells=#[x]:=by cases x<;>first|rfl|cases h2
  rw[hc]
  refine⟨rfl,fun i hi=>?_,fun u hu=>by simp at hu;subst hu;exact h2⟩
  have hi0:i=0:=by simp[AV.cells] at hi;omega
  subst hi0
  rw[hv] at hx
  simpa[AV.cells] using hx
theorem box_ok (p:Pre C e G g hp w) {did t:Nat} {v:AV} {x:Value} (hx:VR w (UE e) e G v x) (h1:∀c∈v.cells,c.one=true/\c.noKid=true) {P:Prop}:
  OpOk C e G g hp w (P, .ptO did g 0 0 0,[(did,some (g, .box v.cells))]) (.ok (.value (.pointer (some ⟨w.heap.size,0,none⟩))) (w.alloc (.cells x.cells t))):=by
 obtain⟨hs,hv,_⟩:=cells_vals hx fun c hc=>(h1 c hc).1
 have ext:=Ext.new p (Grow.alloc w (.cells x.cells t)) (did:=did) (ee:=⟨g,some (w.heap.size,0),0,0⟩) rfl (by rintro b c ⟨⟩;exact Nat.le_refl _)
 refine mk_obj p (Grow.alloc w _) (ee:=⟨g,some (w.heap.size,0),0,0⟩) rfl (by rintro b c ⟨⟩;exact⟨Nat.le_refl _,by rw[size_new];omega⟩) ?_ ?_
 ·refine⟨rfl,fun j hj=>(h1 _ (List.getElem_mem hj)).1,w.heap.size,0,x.cells,t,rfl,heap_new w _,hs,fun j hj=>(hv j hj).ext ext⟩
 ·refine .ptO _ _ _ _ _ _ (.inr rfl) rfl fun ee he _=>?_
  rw[eset_same] at he;cases he
  refine⟨Nat.le_refl _,fun _ b c hb=>?_⟩
  cases hb
  simp
theorem zval_zav {P:Program} {t:Nat} {ti:TI} (hf:TFit P t ti) (U:Nat->Prop):VD w U ti.zav ti.zval/\(∀c∈ti.zav.cells,c.one=true)/\ti.zav.cells.length=ti.size:=by
 have hz:∀z:ZC,VD w U z.av z.val/\z.av.one=true/\z.av.cells=[z.av]:=by
  intro z
  cases z<;>first|exact⟨.lit _ rfl,rfl,rfl⟩|exact⟨.nil _ _,rfl,rfl⟩
 unfold TI.zav TI.zval
 cases hag:ti.agg with
 |true=>
  simp only[if_true]
  refine⟨.agg _ _ (by simp) ?_ ?_,?_,?_⟩
  ·intro i hi;simp only[List.getElem_map];exact(hz _).2.1
  ·intro i hi
   simp only[List.getElem_map]
   have hi':i<ti.zs.length:=by simpa using hi
   have:(ti.zs.map ZC.val).toArray.getD i undef=(ti.zs[i]).val:=by
    simp[Array.getD_eq_getD_getElem?,hi']
   rw[this];exact(hz _).1
  ·intro c hc
   simp only[AV.cells,List.mem_map] at hc
   obtain⟨z,_,rfl⟩:=hc
   exact(hz z).2.1
  ·simp only[AV.cells,List.length_map];exact hf.len
 |false=>
  simp only[Bool.false_eq_true,if_false]
  have h1:=hf.one hag
  have hl:=hf.len
  match hzs:ti.zs with
  |[z]=>
   refine⟨(hz z).1,?_,?_⟩
   ·rw[(hz z).2.2];intro c hc;simp at hc;subst hc;exact(hz z).2.1
   ·rw[(hz z).2.2,h1];rfl
  |[]=>rw[hzs,h1] at hl;cases hl
  |_::_::_=>rw[hzs,h1] at hl;simp at hl
theorem zav_noKid (ti:TI):∀c∈ti.zav.cells,c.noKid=true:=by
 have hz:∀z:ZC,z.av.noKid=true/\z.av.cells=[z.av]:=by intro z;cases z<;>exact⟨rfl,rfl⟩
 unfold TI.zav
 cases ti.agg with
 |true=>
  intro c hc
  simp only[if_true,AV.cells,List.mem_map] at hc
  obtain⟨z,_,rfl⟩:=hc
  exact(hz z).1
 |false=>
  simp only[Bool.false_eq_true,if_false]
  split
  ·rw[(hz _).2];intro c hc;simp at hc;subst hc;exact(hz _).1
  ·intro c hc;simp[AV.cells] at hc;subst hc;rfl
theorem run_alloc' {P:Program} {t:Nat} {ti:TI} (hf:TFit P t ti) (w:World):
  (Instr.alloc t true (.tuple #[])).run P w= .ok (.pointer (some ⟨w.heap.size,0,none⟩)) (w.alloc (.cells ti.zval.cells t)):=by
 unfold Instr.alloc
 rw[Sem.run_bind,run_zeroValue' hf,Result.andThen_ok]
 simp[newVar,newRow]
theorem alloc_ok (p:Pre C e G g hp w) (hT:TOk C.P T) {did t:Nat} (h:(tl T t).size≠0) {P:Prop}:
  OpOk C e G g hp w (P, .ptO did g 0 0 0,[(did,some (g, .box (tl T t).zav.cells))]) (((Instr.alloc t true (.tuple #[])).run C.P w).andThen fun v w=> .ok (.value v) w):=by
 have hf:=hT.fits h
 obtain⟨h1,h2,_⟩:=zval_zav (w:=w) hf (UE e)
 rw[run_alloc' hf,Result.andThen_ok]
 exact box_ok p (.dat _ _ h1) fun c hc=>⟨h2 c hc,zav_noKid _ c hc⟩
theorem run_box' {P:Program} (t:Nat) (v:Value) (w:World):
  (Instr.box t v).run P w= .ok (.pointer (some ⟨w.heap.size,0,none⟩)) (w.alloc (.cells v.cells t)):=by
 simp[Instr.box,newVar,newRow]
theorem getD_made {z:Array Value} {n k:Nat} (hz:z.size=k) {i j:Nat} (hi:i<n) (hj:j<k):(madeCells z (n*k)).getD (i*k+j) undef=z.getD j undef:=by
 have hlt:=mul_lt_of hi hj
 have hmod:=(divmod_of (i:=i) hj).2
 simp only[madeCells,Array.getD_eq_getD_getElem?,Array.getElem?_map,Array.getElem?_range,hlt,if_true,Option.map_some,Option.getD_some,hz,hmod]
 have:j<z.size:=by omega
 simp[this]
theorem make_ok (p:Pre C e G g hp w) (hT:TOk C.P T) {did t el:Nat} (ht:(tl T t).ty= .slice el) {kl kc:IntKind} {l c:Int}
  (h0:0<=l) (h1:l<=c) (hby:c*(tl T el).bytes<=140737488355328) (h63:c<=9223372036854775807) (hs:(tl T el).size≠0) {P:Prop}:
  OpOk C e G g hp w (P, .slO did g 0 l.toNat,[(did,some (g, .own el (tl T el).size (List.replicate l.toNat (tl T el).zav)))])
   (((Instr.makeSlice t (.int kl l) (.int kc c)).run C.P w).andThen fun v w=> .ok (.value v) w):=by
 obtain⟨d,hu,hd⟩:=(hT.fit ht (by simp)).under
 rw[ht] at hd
 cases hd
 have hf:=hT.fits hs
 obtain⟨i,hi,hsz,hbytes,hz⟩:=hf.info
 obtain⟨v1,v2,v3⟩:=zval_zav (w:=w) hf (UE e)
 obtain⟨c1,_,_⟩:=cells_valsD v1 v2
 have hzz:(tl T el).zval.cells.size=(tl T el).size:=by rw[c1,v3]
 rw[run_make (P:=C.P) w t el i _ hu hi hz kl kc l c h0 h1 (by rw[hbytes,Int.mul_comm];omega) h63,Result.andThen_ok,hsz]
 have ext:=Ext.new p (Grow.alloc w (.cells (madeCells (tl T el).zval.cells (c.toNat*(tl T el).size)) el)) (did:=did)
  (ee:=⟨g,some (w.heap.size,c.toNat),(tl T el).size,l.toNat⟩) rfl (by rintro b c ⟨⟩;exact Nat.le_refl _)
 refine mk_obj p (Grow.alloc w _) (ee:=⟨g,some (w.heap.size,c.toNat),(tl T el).size,l.toNat⟩) rfl (by rintro b c ⟨⟩;exact⟨Nat.le_refl _,by rw[size_new];omega⟩) ?_ ?_
 ·refine⟨rfl,by simp,by omega,?_,?_,?_⟩
  ·intro i hi;simp only[List.getElem_replicate];exact v3
  ·intro i hi j hj;simp only[List.getElem_replicate] at hj ⊢;exact v2 _ (List.getElem_mem _)
  ·refine⟨?_,by simp;omega,_, .of (heap_new w _),size_madeCells _ _,?_⟩
   ·simp only[maxLen];omega
   ·intro i hi j hj
    simp only[List.getElem_replicate] at hj ⊢
    have hi':i<c.toNat:=by simp at hi;omega
    rw[getD_made hzz hi' (by rw[<-v3];exact hj)]
    have hd:VD w (UE e) (tl T el).zav.cells[j] ((tl T el).zval.cells.getD j undef):=(cells_valsD v1 v2).2.1 j hj
    exact .val _ _ (.dat _ _ (hd.mono ext.size ext.un ext.same))
 ·refine .slO _ _ _ _ _ (.inr rfl) rfl fun ee he _=>?_
  rw[eset_same] at he;cases he
  refine⟨by simp,fun _=>⟨c.toNat,by simp,by simp,by omega⟩⟩
end
open Go
theorem HRel.congr {w:World} {e:Env} {G G':Nat->Prop} {hp hp':Hp} (h:HRel w e G hp) (hg:∀g,G g↔G' g) (hh:∀i,hp'.get i=hp.get i):HRel w e G' hp':=by
 have:G=G':=funext fun g=>propext (hg g)
 subst this
 exact⟨fun i hi=>h.dead i ((hh i).symm.trans hi),fun i g ob hi=>h.live i g ob ((hh i).symm.trans hi),h.inj,h.lt,h.nz,h.kl,h.ko,h.kk⟩
section
variable {C:Cx} {e:Env} {G:Nat->Prop} {g:Nat} {hp:Hp} {w:World} {T:Tab}
theorem fzc_ok (hr:HRel w e G hp) {e':Env} {D:Nat->Prop} (x:Frz e e' D) (n:Nat) {B c:Nat} {v:AV} {u:Value} (h:VC w e G B c v u) (hP:fzP n hp v) (hD:∀i∈fzR n hp v,D i)
  (hUk:∀b',e.kid b'=some (B,c)->UE e' b'):VD w (UE e') (fz n hp v) u:=by
 cases h with
 |val _ _ hvr=>exact fz_ok hr x n hvr hP hD
 |kid0 t' k' a h0=>cases n<;>exact .nil _ _
 |kid t' k' xs b' cap' cs' q1 q2 q3 q4 q5 q6 q7 q8 q9=>
  have hfz:fz n hp (.kid t' k' xs)= .sl xs false:=by cases n<;>rfl
  rw[hfz]
  refine .sl _ _ b' 0 cap' k' (fun j=>cs'.getD j undef) (hUk b' q1) (hr.kl _ _ _ q1).1 q5 q6 (by simp) q4 q7 ?_ q8 ?_
  ·intro j hj
   rw[Nat.zero_add]
   refine q2.cellD ?_
   rw[q3]
   exact Nat.lt_of_lt_of_le hj (Nat.mul_le_mul_right _ q5)
  ·intro i hi j hj
   exact(q9 i hi j hj).mono (Nat.le_refl _) (fun b _ hb=>x.un b hb) (fun _ _ _=>rfl)
theorem att_one {c:AV} (h:attP hp c):(att hp c).one=true:=by
 cases c with
 |slO id g off len=>
  have hh:=fz_one (n:=1) (hp:=hp) (c:= .slO id g off len) h
  simp only[attP,fzP] at h
  cases hg:hp.get id with
  |none=>simp only[hg] at h
  |some q=>
   obtain⟨g',ob⟩:=q
   cases ob with
   |box cs=>simp only[hg] at h
   |mp _=>simp only[hg] at h
   |ms _=>simp only[hg] at h
   |bd _ _ _=>simp only[hg] at h
   |own t k es=>
    simp only[att,hg]
    split
    ·rfl
    ·exact hh
 |bad=>exact h.elim
 |agg=>exact h.elim
 |tup=>exact h.elim
 |kid=>exact h.elim
 |_=>rfl
theorem att_cells (c:AV):(att hp c).cells=[att hp c]\/c.one=false:=by
 cases c with
 |agg cs=>exact .inr rfl
 |bad=>exact .inr rfl
 |tup cs=>exact .inr rfl
 |slO id g off len=>
  refine .inl ?_
  simp only[att]
  split
  ·split
   ·rfl
   ·rcases fz_cells 1 hp (.slO id g off len) with h|h
    ·exact h
    ·cases h
  ·rfl
 |_=>exact .inl rfl
theorem mapatt_cells {el:AV} (hc:∀c∈el.cells,c.one=true):(mapc (att hp) el).cells=el.cells.map (att hp):=mapc_cells att_cells hc
theorem attP_one {c:AV} (h:attP hp c):c.one=true:=by
 cases c<;>first|rfl|exact h.elim
theorem att_agree {hp':Hp} {c:AV} (h:∀i∈attR c,hp'.get i=hp.get i):att hp' c=att hp c/\(attP hp' c↔attP hp c):=by
 cases c with
 |slO id g off len=>
  have h1:=h id (by simp[attR])
  refine⟨?_,?_⟩
  ·simp only[att,h1]
   split
   ·split
    ·have:∀e:AV,mapc (fz 0 hp') e=mapc (fz 0 hp) e:=by
      intro e
      have hf:∀c,fz 0 hp' c=fz 0 hp c:=by intro c;cases c<;>rfl
      cases e<;>simp only[mapc,hf]
      congr 1
      exact List.map_congr_left fun c _=>hf c
     congr 1
     exact List.map_congr_left fun c _=>this c
    ·simp only[fz,h1]
     split
     ·congr 1
      refine List.map_congr_left fun e _=>?_
      have hf:∀c,fz 0 hp' c=fz 0 hp c:=by intro c;cases c<;>rfl
      cases e<;>simp only[mapc,hf]
      congr 1
      exact List.map_congr_left fun c _=>hf c
     ·rfl
   ·rfl
  ·have hf:∀c,fzP 0 hp' c=fzP 0 hp c:=by intro c;cases c<;>rfl
   simp only[attP,fzP,h1,hf]
 |_=>exact⟨rfl,Iff.rfl⟩
theorem attach_ok (hr:HRel w e G hp) {id gi t k:Nat} {es es':List AV} {D:List Nat} (A:Nat->Nat->Prop) (hg:hp.get id=some (gi, .own t k es)) (hid:id∉D) (hlen:es'.length=es.length)
  (hkl':∀i (h:i<es'.length),es'[i].cells.length=k)
  (hc:∀i (h:i<es.length) (h':i<es'.length) j (hj:j<es[i].cells.length) (hj':j<es'[i].cells.length),(es'[i].cells[j]=es[i].cells[j])\/
   (A i j/\∃id',id'∈D/\attR es[i].cells[j]=[id']/\attP hp es[i].cells[j]/\es'[i].cells[j]=att hp es[i].cells[j]))
  (hD:∀id'∈D,∃i j,∃(h:i<es.length) (h':i<es'.length) (hj:j<es[i].cells.length) (hj':j<es'[i].cells.length),attR es[i].cells[j]=[id'])
  (huniq:∀id'∈D,∀i j i' j' (h:i<es.length) (hj:j<es[i].cells.length) (h':i'<es.length) (hj':j'<es[i'].cells.length),A i j->A i' j'->attR es[i].cells[j]=[id']->attR es[i'].cells[j']=[id']->i=i'/\j=j'):
  ∃e',HRel w e' G ((id,some (gi, .own t k es'))::drops D++hp)/\Ext w e G w e' G/\e'.z=e.z/\(∀b,OwnB e' b->OwnB e b)/\(∀b,UE e b->UE e' b)/\(∀j,j∉D->e' j=e j):=by
 classical
 obtain⟨ee,he,hgg,hGg,hor⟩:=hr.live id _ _ hg
 obtain⟨hk,hn,hk0,hkl,h1,hbb⟩:=hor
 cases hbl:ee.blk with
 |none=>
  rw[hbl] at hbb
  subst hbb
  have hD0:D=[]:=by
   cases D with
   |nil=>rfl
   |cons d D=>obtain⟨i,_,h,_⟩:=hD d List.mem_cons_self;simp at h
  subst hD0
  have hes:es'=[]:=List.eq_nil_of_length_eq_zero (by simpa using hlen)
  subst hes
  refine⟨e,hr.congr (fun _=>Iff.rfl) fun i=>?_,Ext.refl _ _ _,rfl,fun _ h=>h,fun _ h=>h,fun _ _=>rfl⟩
  simp only[drops,List.map_nil,List.cons_append,List.nil_append]
  by_cases h:i=id
  ·subst h;rw[Hp.get_cons_same,hg]
  ·rw[Hp.get_cons_other _ _ h]
 |some q=>
  obtain⟨B,bcap⟩:=q
  rw[hbl] at hbb
  obtain⟨hm,hcap,cs,hh,hs,hv⟩:=hbb
  let AtC:Nat->Nat->Prop:=fun b c=>∃id',id'∈D/\∃ee' cap,e id'=some ee'/\ee'.blk=some (b,cap)/\∃i j,∃(h:i<es.length) (hj:j<es[i].cells.length),A i j/\c=i*k+j/\∃g' len,es[i].cells[j]= .slO id' g' 0 len
  let kd:Nat->Option (Nat×Nat):=fun b=>if h:∃c,AtC b c then some (B,Classical.choose h) else match e.kid b with
   |some (B',c')=>if ObjB (edrop e D) B' then some (B',c') else none
   |none=>none
  have atu:∀b c c',AtC b c->AtC b c'->c=c':=by
   rintro b c c' ⟨d,hd,ed,cap,h1,h2,i,j,hi,hj,hA,rfl,g1,l1,hs1⟩ ⟨d',hd',ed',cap',h1',h2',i',j',hi',hj',hA',rfl,g2,l2,hs2⟩
   have:=hr.inj d d' ed ed' b cap cap' h1 h1' h2 h2'
   subst this
   obtain⟨rfl,rfl⟩:=huniq d hd i j i' j' hi hj hi' hj' hA hA' (by rw[hs1];rfl) (by rw[hs2];rfl)
   rfl
  have kd1:∀b c,AtC b c->kd b=some (B,c):=by
   intro b c h
   have hex:∃c,AtC b c:=⟨c,h⟩
   simp only[kd]
   rw[dif_pos hex,atu b _ c (Classical.choose_spec hex) h]
  have kdobj:∀b c,AtC b c->ObjB e b:=by
   rintro b c ⟨d,_,ed,cap,h1,h2,_⟩;exact⟨d,ed,cap,h1,h2⟩
  have kd2:∀b B' c',e.kid b=some (B',c')->ObjB (edrop e D) B'->kd b=some (B',c'):=by
   intro b B' c' h ho
   have hn:¬∃c,AtC b c:=by
    rintro⟨c,hc⟩
    have:=hr.ko b (kdobj b c hc)
    rw[h] at this;cases this
   simp only[kd]
   rw[dif_neg hn,h]
   simp only[if_pos ho]
  have kd3:∀b B' c',kd b=some (B',c')->(AtC b c'/\B'=B)\/(e.kid b=some (B',c')/\ObjB (edrop e D) B'):=by
   intro b B' c' h
   simp only[kd] at h
   split at h
   ·rename_i hex
    simp only[Option.some.injEq,Prod.mk.injEq] at h
    obtain⟨rfl,rfl⟩:=h
    exact .inl ⟨Classical.choose_spec hex,rfl⟩
   ·split at h
    ·rename_i B'' c'' hk'
     split at h
     ·rename_i ho
      cases h
      exact .inr ⟨hk',ho⟩
     ·cases h
    ·cases h
  generalize hkd:kd=kd' at kd1 kd2 kd3
  clear hkd kd
  have hBo:ObjB (edrop e D) B:=⟨id,ee,bcap,by rw[edrop_out hid];exact he,hbl⟩
  let e':Env:=⟨fun j=>if j∈D then none else e j,e.z,kd'⟩
  have ed:∀j,e' j=edrop e D j:=fun j=>rfl
  have hObj:∀b,ObjB e' b↔ObjB (edrop e D) b:=fun b=>Iff.rfl
  have own_of:∀b,OwnB e' b->OwnB e b:=by
   rintro b (ho|⟨B',c',hk',ho⟩)
   ·exact .inl ((hObj b).1 ho).edrop
   ·rcases kd3 _ _ _ hk' with ⟨h,_⟩|⟨h,h'⟩
    ·exact .inl (kdobj _ _ h)
    ·exact .inr ⟨B',c',h,h'.edrop⟩
  have hun:∀b,UE e b->UE e' b:=fun b hb=>⟨hb.1,fun ho=>hb.2 (own_of b ho)⟩
  have ext:Ext w e G w e' G:=Ext.mk' (Nat.le_refl _) (fun _ h=>h) rfl (fun b _ ho=>own_of b ho) (fun _ _ _=>rfl) fun j ej hj _=>⟨ej,(edrop_some hj).2,rfl,rfl, .inl ⟨rfl,rfl⟩⟩
  have hko':∀b,ObjB e' b->e'.kid b=none:=by
   intro b ho
   cases hk':e'.kid b with
   |none=>rfl
   |some q=>
    obtain⟨B',c'⟩:=q
    obtain⟨j,ej,cj,hj,hbj⟩:=ho
    obtain⟨hjD,hj⟩:=edrop_some hj
    rcases kd3 _ _ _ hk' with ⟨⟨d,hd,ed',cap,h1,h2,_⟩,_⟩|⟨h,_⟩
    ·have:=hr.inj j d ej ed' b cj cap hj h1 hbj h2
     subst this;exact absurd hd hjD
    ·have:=hr.ko b ⟨j,ej,cj,hj,hbj⟩
     rw[h] at this;cases this
  have hget:∀i,Hp.get ((id,some (gi, .own t k es'))::drops D++hp) i=if i=id then some (gi, .own t k es') else if i∈D then none else hp.get i:=by
   intro i
   by_cases h:i=id
   ·subst h;rw[List.cons_append,Hp.get_cons_same,if_pos rfl]
   ·rw[List.cons_append,Hp.get_cons_other _ _ h,if_neg h];exact get_drops D hp i
  refine⟨e',?_,ext,rfl,own_of,hun,fun j hj=>by show(if j∈D then none else e j)=_;rw[if_neg hj]⟩
  refine hr.step (fun j=>j=id\/j∈D) ext rfl (fun j hj=>?_) (fun j ej b1 c1 hj hej hbj=>⟨rfl,fun b2 c2 hk2=>⟨rfl,?_⟩⟩) (fun j hj hnn=>?_) (fun j gj obj hj hgj=>?_) (fun j ej b1 c1 hj hej hbj=>?_)
   (fun b1 B1 c1 hk1=>?_) hko' (fun b1 B1 c1 hk1=>?_)
  ·simp only[not_or] at hj
   refine⟨by rw[ed,edrop_out hj.2],?_⟩
   rw[hget,if_neg hj.1,if_neg hj.2]
  ·simp only[not_or] at hj
   exact kd2 _ _ _ hk2 ⟨j,ej,c1,by rw[edrop_out hj.2];exact hej,hbj⟩
  ·rw[hget] at hnn
   rcases hj with rfl|hj
   ·rw[if_pos rfl] at hnn;cases hnn
   ·show(if j∈D then none else e j)=none
    rw[if_pos hj]
  ·rw[hget] at hgj
   by_cases hji:j=id
   ·subst hji
    rw[if_pos rfl] at hgj
    cases hgj
    refine⟨ee,by rw[ed,edrop_out hid];exact he,hgg,hGg,hk,by omega,hk0,hkl',?_,?_⟩
    ·intro i hi j' hj'
     have hi':i<es.length:=by omega
     have hjl:j'<es[i].cells.length:=by rw[hkl i hi'];rw[hkl' i hi] at hj';exact hj'
     rcases hc i hi' hi j' hjl hj' with h|⟨hA,id',hid',hr',hP,h⟩
     ·rw[h];exact h1 _ _ _ _
     ·rw[h];exact att_one hP
    ·rw[hbl]
     refine⟨hm,by omega,cs,hh,hs,fun i hi j' hj'=>?_⟩
     have hi':i<es.length:=by omega
     have hjl:j'<es[i].cells.length:=by rw[hkl i hi'];rw[hkl' i hi] at hj';exact hj'
     have hvc:=hv i hi' j' hjl
     rcases hc i hi' hi j' hjl hj' with h|⟨hA,id',hid',hr',hP,h⟩
     ·rw[h]
      exact hvc.ext ext fun b1 hb1=>⟨rfl,kd2 _ _ _ hb1 hBo⟩
     ·rw[h]
      generalize hcell:es[i].cells[j']=cell at hvc hr' hP
      cases cell with
      |slO id'' g'' off len=>
       simp only[attR,List.cons.injEq,and_true] at hr'
       subst hr'
       simp only[attP,fzP] at hP
       split at hP
       ·rename_i g3 t3 k3 es3 hg3
        obtain⟨rfl,hl3,hP⟩:=hP
        have hvr:=hvc.noKid rfl
        obtain⟨e3,he3,hgg3,hn3,hok3,hor3⟩:=slO_val hr hvr hg3 hl3
        simp only[att,hg3]
        by_cases hoff:off=0
        ·subst hoff
         rw[if_pos rfl]
         obtain⟨hk3,_,hk03,hkl3,h13,hb3⟩:=hor3
         unfold SlOK at hok3
         cases hbl3:e3.blk with
         |none=>
          rw[hbl3] at hok3 hb3
          obtain⟨_,rfl,a,hval⟩:=hok3
          subst hb3
          rw[hval]
          exact .kid0 _ _ a hk03
         |some q3=>
          obtain⟨b3,bcap3⟩:=q3
          rw[hbl3] at hok3 hb3
          obtain⟨cap3,hval,hcp3,hlc3⟩:=hok3
          obtain⟨hm3,hlb3,cs3,hh3,hs3,hv3⟩:=hb3
          have hone3:∀i (hi:i<es3.length),∀c∈es3[i].cells,c.one=true:=by
           intro i hi c hc
           obtain⟨j,hj,rfl⟩:=List.getElem_of_mem hc
           exact h13 i hi j hj
          rw[hval]
          have hlen3:(es3.map (mapc (fz 0 hp))).length=len:=by simp;omega
          have hel:len=(es3.map (mapc (fz 0 hp))).length:=hlen3.symm
          rw[Nat.zero_mul]
          conv=>arg 7;rw[hel]
          refine .kid _ _ _ b3 cap3 cs3 (kd1 _ _ ⟨_,hid',e3,bcap3,he3,hbl3,i,j',hi',hjl,hA,rfl,_,_,hcell⟩) hh3 (by rw[hs3,<-hcp3,Nat.zero_add]) hk03 (by omega) (by omega) ?_ ?_ ?_
          ·intro a ha
           have ha':a<es3.length:=by simpa using ha
           simp only[List.getElem_map]
           rw[mapfz_cells (hone3 a ha'),List.length_map]
           exact hkl3 _ _
          ·intro a ha c hc'
           have ha':a<es3.length:=by simpa using ha
           simp only[List.getElem_map,mapfz_cells (hone3 a ha')] at hc' ⊢
           exact fz_one (hP _ (List.getElem_mem ha') _ (List.getElem_mem _))
          ·intro a ha c hc'
           have ha':a<es3.length:=by simpa using ha
           simp only[List.getElem_map,mapfz_cells (hone3 a ha')] at hc' ⊢
           have hc'':c<es3[a].cells.length:=by simpa using hc'
           refine fzc_ok hr (D:=fun _=>False) ⟨hun,fun _ _ _ _ h=>h.elim⟩ 0 (hv3 a ha' c hc'') (hP _ (List.getElem_mem ha') _ (List.getElem_mem _)) (by
            intro i hi;generalize es3[a].cells[c]=y at hi;cases y<;>simp[fzR] at hi) fun b' hb'=>?_
           refine⟨(hr.kl _ _ _ hb').2.2,?_⟩
           rintro(ho|⟨B',c',hk',ho⟩)
           ·have:=hr.ko b' (((hObj b').1 ho).edrop)
            rw[hb'] at this;cases this
           ·rcases kd3 _ _ _ hk' with ⟨h,_⟩|⟨h,h'⟩
            ·have:=hr.ko b' (kdobj _ _ h)
             rw[hb'] at this;cases this
            ·rw[hb'] at h
             cases h
             obtain⟨j,ej,cj,hj,hbj⟩:=h'
             obtain⟨hjD,hj⟩:=edrop_some hj
             have:=hr.inj j _ ej e3 b3 cj bcap3 hj he3 hbj hbl3
             subst this;exact hjD hid'
        ·rw[if_neg hoff]
         refine .val _ _ (.dat _ _ (fz_ok hr (D:=fun j=>j=id'') ⟨hun,?_⟩ 1 hvr (by simp only[fzP,hg3];exact⟨trivial,hl3,hP⟩) ?_))
         ·rintro a ea ba ca rfl hea hba
          rw[he3] at hea;cases hea
          have nokid:∀c,¬AtC ba c:=by
           rintro c ⟨d,hd,ed',cap,h1,h2,i',j'',hi'',hj'',hA',rfl,g4,l4,hs4⟩
           have:=hr.inj d _ ed' e3 ba cap ca h1 he3 h2 hba
           subst this
           obtain⟨rfl,rfl⟩:=huniq d hd i' j'' i j' hi'' hj'' hi' hjl hA' hA (by rw[hs4];rfl) (by rw[hcell];rfl)
           rw[hcell] at hs4
           simp only[AV.slO.injEq] at hs4
           exact hoff hs4.2.2.1
          have notobj:¬ObjB (edrop e D) ba:=by
           rintro⟨j,ej,cj,hj,hbj⟩
           obtain⟨hjD,hj⟩:=edrop_some hj
           have:=hr.inj j _ ej e3 ba cj ca hj he3 hbj hba
           subst this;exact hjD hid'
          refine⟨⟨hr.nz _ _ _ _ he3 hba,?_⟩,fun b' c' hb'=>⟨(hr.kl _ _ _ hb').2.2,?_⟩⟩
          ·rintro(ho|⟨B',c',hk',ho⟩)
           ·exact notobj ho
           ·rcases kd3 _ _ _ hk' with ⟨h,_⟩|⟨h,h'⟩
            ·exact nokid _ h
            ·have:=hr.ko ba ⟨_,e3,ca,he3,hba⟩
             rw[h] at this;cases this
          ·rintro(ho|⟨B',c'',hk',ho⟩)
           ·have:=hr.ko b' (((hObj b').1 ho).edrop)
            rw[hb'] at this;cases this
           ·rcases kd3 _ _ _ hk' with ⟨h,_⟩|⟨h,h'⟩
            ·have:=hr.ko b' (kdobj _ _ h)
             rw[hb'] at this;cases this
            ·rw[hb'] at h
             cases h
             exact notobj h'
         ·intro a ha
          simp only[fzR,hg3,List.mem_cons] at ha
          rcases ha with rfl|ha
          ·rfl
          ·simp only[List.mem_flatMap] at ha
           obtain⟨y,hy,y',hy',ha⟩:=ha
           have:=hP y hy y' hy'
           cases y'<;>simp[fzR] at ha
       ·exact hP.elim
      |_=>cases hr'
   ·rw[if_neg hji] at hgj
    rcases hj with hj|hj
    ·exact absurd hj hji
    ·rw[if_pos hj] at hgj;cases hgj
  ·obtain⟨hjD,hej⟩:=edrop_some hej
   refine⟨hr.lt _ _ _ _ hej hbj,hr.nz _ _ _ _ hej hbj,fun j' ej' c' hj' hbj'=>?_⟩
   obtain⟨_,hj'⟩:=edrop_some hj'
   exact hr.inj _ _ _ _ _ _ _ hj' hej hbj' hbj
  ·rcases kd3 _ _ _ hk1 with ⟨h,rfl⟩|⟨h,_⟩
   ·exact⟨hr.obj_lt (kdobj _ _ h),hr.lt _ _ _ _ he hbl,hr.obj_nz (kdobj _ _ h)⟩
   ·exact hr.kl _ _ _ h
  ·rcases kd3 _ _ _ hk1 with ⟨h,rfl⟩|⟨_,h⟩
   ·exact hko' B1 ((hObj B1).2 hBo)
   ·exact hko' B1 ((hObj B1).2 h)
end
open Go
section
variable {C:Cx} {e:Env} {G:Nat->Prop} {g:Nat} {hp:Hp} {w:World} {T:Tab}
theorem run_storeCells_cl {P:Program} {b off t:Nat} {fz:Nat×Nat}:∀(vs:List Value) (i:Nat) (cur:Array Value) (w:World),w.heap[b]?=some (.cells cur t fz)->NF fz cur.size->off+i+vs.length<=cur.size->(∀v∈vs,v.oneCell'=true)->
  (storeCells ⟨b,off,none⟩ vs i).run P w= .ok () (w.setRow b (cur.toList.take (off+i)++vs++cur.toList.drop (off+i+vs.length)).toArray)
 |[],i,cur,w,hg,_,_,_=>by
  simp only[storeCells,List.append_nil,List.length_nil,Nat.add_zero,List.take_append_drop,Array.toArray_toList]
  rw[setRow_self w b cur t fz hg]
  rfl
 |v::rest,i,cur,w,hg,hn,hl,h1=>by
  have hi:off+i<cur.size:=by simp at hl;omega
  have hadd:(⟨b,off,none⟩:Addr).add i=⟨b,off+i,none⟩:=by unfold Addr.add;split<;>simp_all
  have hcl:Cl w b cur t:=⟨fz,hg,hn⟩
  have hst:(store ((⟨b,off,none⟩:Addr).add i) v).run P w= .ok () (w.setRow b (cur.setIfInBounds (off+i) v)):=by
   rw[hadd,run_store P w _ v _ (h1 v (by simp)),hcl.cellD hi]
   simp[hcl.frozen hi,setCell_eq_setRow w b (off+i) cur t fz v hg]
  have ih:=run_storeCells_cl (P:=P) (off:=off) rest (i+1) (cur.setIfInBounds (off+i) v) (w.setRow b (cur.setIfInBounds (off+i) v)) (setRow_heap w b cur _ t _ hg) (by simpa using hn) (by simp at hl ⊢;omega) (fun x hx=>h1 x (by simp[hx]))
  simp only[storeCells,Sem.run_bind,hst,Result.andThen_ok,ih,setRow_setRow]
  congr 3
  have e:=list_seg_step cur.toList (off+i) v rest (by simp at hl ⊢;omega)
  simpa[Array.toList_setIfInBounds,Nat.add_assoc] using e
theorem run_storeAt {P:Program} {t:Nat} {ti:TI} (hf:TFit P t ti) {b off:Nat} {cur:Array Value} {T':Nat} (hh:Cl w b cur T') {x:Value}
  (hs:x.cells.size=ti.size) (h1:∀u∈x.cells,u.oneCell'=true) (hl:off+ti.size<=cur.size):
  (Instr.storeAt t (.pointer (some ⟨b,off,none⟩)) x).run P w= .ok () (w.setRow b (cur.toList.take off++x.cells.toList++cur.toList.drop (off+ti.size)).toArray):=by
 unfold Instr.storeAt Instr.sureAddr storeVar
 rw[Sem.run_bind,Sem.run_pure,Result.andThen_ok,Sem.run_bind,run_sizeOf' hf,Result.andThen_ok]
 have hne:¬(x.cells.size≠ti.size):=by omega
 rw[if_neg hne]
 obtain⟨fz,hh,hn⟩:=hh
 have:=run_storeCells_cl (P:=P) (off:=off) x.cells.toList 0 cur w hh hn (by simp;omega) (by simpa using h1)
 rw[this]
 simp[hs]
theorem Cl.setRow {w:World} {b t:Nat} {cs cs':Array Value} (h:Cl w b cs t) (hs:cs'.size=cs.size):Cl (w.setRow b cs') b cs' t:=by
 obtain⟨fz,hh,hn⟩:=h
 exact⟨fz,setRow_heap w b cs cs' t fz hh,by rw[hs];exact hn⟩
theorem getD_splice {cur vs:List Value} {off j:Nat} (hl:off+vs.length<=cur.length):
  (cur.take off++vs++cur.drop (off+vs.length)).toArray.getD j undef=if off<=j/\j<off+vs.length then vs.getD (j - off) undef else cur.toArray.getD j undef:=by
 simp only[Array.getD_eq_getD_getElem?,List.getElem?_toArray,List.getD_eq_getElem?_getD]
 by_cases h1:j<off
 ·rw[if_neg (by omega),List.append_assoc,List.getElem?_append_left (by simp;omega),List.getElem?_take,if_pos h1]
 ·by_cases h2:j<off+vs.length
  ·rw[if_pos ⟨by omega,h2⟩,List.getElem?_append_left (by simp;omega),List.getElem?_append_right (by simp;omega)]
   congr 2
   simp;omega
  ·rw[if_neg (by omega),List.getElem?_append_right (by simp;omega),List.getElem?_drop]
   congr 2
   simp;omega
theorem getElem_splice {cs vs:List AV} {off j:Nat} (hl:off+vs.length<=cs.length) (hj:j<(splice cs off vs).length):
  (splice cs off vs)[j]=if h:off<=j/\j<off+vs.length then vs[j - off]'(by omega) else cs[j]'(by unfold splice at hj;simp at hj;omega):=by
 unfold splice at hj ⊢
 have hjl:j<cs.length:=by simp at hj;omega
 by_cases h1:j<off
 ·rw[dif_neg (by omega)]
  simp only[List.append_assoc]
  rw[List.getElem_append_left (by simp;omega),List.getElem_take]
 ·by_cases h2:j<off+vs.length
  ·rw[dif_pos ⟨by omega,h2⟩,List.getElem_append_left (by simp;omega),List.getElem_append_right (by simp;omega)]
   congr 1
   simp;omega
  ·rw[dif_neg (by omega),List.getElem_append_right (by simp;omega),List.getElem_drop]
   congr 1
   simp;omega
theorem splice_length {cs vs:List AV} {off:Nat} (hl:off+vs.length<=cs.length):(splice cs off vs).length=cs.length:=by
 unfold splice;simp;omega
theorem Ext.write {id:Nat} {ee:EE} {b c:Nat} (he:e id=some ee) (hb:ee.blk=some (b,c)) (cs:Array Value):
  Ext w e G (w.setRow b cs) e (gadd G g):=by
 refine Ext.mk' (by simp) (fun _ h=> .inl h) rfl (fun _ _ h=>h) (fun b' _ hu=>setRow_other w b b' cs ?_) fun _ ee' h _=>⟨ee',h,rfl,rfl, .inl ⟨rfl,rfl⟩⟩
 rintro rfl
 exact hu (.inl ⟨id,ee,c,he,hb⟩)
theorem wr_obj (p:Pre C e G g hp w) {id:Nat} {ee:EE} {b c:Nat} (he:e id=some ee) (hb:ee.blk=some (b,c)) (cs:Array Value) {ob:Ob}
  (ho:ORel (w.setRow b cs) e (gadd G g) ob ee) {P:Prop} {v:AV} {nx:Next} (hnx:(∃xv,nx= .value xv/\VR (w.setRow b cs) (UE e) e (gadd G g) v xv)\/(nx= .skip/\v= .bad)):
  HRel (w.setRow b cs) e (gadd G g) ((id,some (ee.g,ob))::hp)/\OpOk C e G g hp w (P,v,[(id,some (ee.g,ob))]) (.ok nx (w.setRow b cs)):=by
 have ext:=Ext.write (w:=w) (g:=g) (G:=G) he hb cs
 have hbo:ObjB e b:=⟨id,ee,c,he,hb⟩
 have key:HRel (w.setRow b cs) e (gadd G g) ((id,some (ee.g,ob))::hp):=by
  refine p.hr.step (fun j=>j=id) ext rfl (fun j hj=>⟨rfl,Hp.get_cons_other _ _ hj⟩) (fun j ej b1 c1 hj hej hbj=>⟨setRow_other w b b1 cs ?_,fun b2 c2 hk2=>⟨setRow_other w b b2 cs ?_,hk2⟩⟩)
   (fun j hj hn=>by subst hj;rw[Hp.get_cons_same] at hn;cases hn) (fun j gj obj hj hg=>by subst hj;rw[Hp.get_cons_same] at hg;cases hg;exact⟨ee,he,rfl, .inl (p.hr.gen _ _ he),ho⟩)
   (fun j ej b1 c1 hj hej hbj=>?_) (fun b1 B c1 hk1=>by simpa using p.hr.kl b1 B c1 hk1) p.hr.ko p.hr.kk
  ·rintro rfl;exact hj (p.hr.inj j id ej ee b1 c1 c hej he hbj hb)
  ·rintro rfl
   have:=p.hr.ko b2 hbo
   rw[hk2] at this;cases this
  ·subst hj
   rw[he] at hej;cases hej
   rw[hb] at hbj;cases hbj
   exact⟨by simpa using p.hr.lt _ _ _ _ he hb,p.hr.nz _ _ _ _ he hb,fun j' ej' c' hj' hbj'=>p.hr.inj _ _ _ _ _ _ _ hj' he hbj' hb⟩
 refine⟨key,nx,_,e,rfl,key,ext,p.ln.step p.fr.size ext rfl (fun _ _ h=>h),p.fr.step p.ln rfl rfl rfl (by simp) (fun b' _ hu=>setRow_other w b b' cs ?_),hnx⟩
 rintro rfl;exact hu (.inl hbo)
theorem store_box (p:Pre C e G g hp w) (hT:TOk C.P T) {t id g' off:Nat} {x xa:Value} {v:AV} {cs:List AV} (hx:VR w (UE e) e G v x) (ha:VR w (UE e) e G (.ptO id g' 0 0 off) xa)
  (hg:hp.get id=some (g', .box cs)) (hs0:(tl T t).size≠0) (hs:v.cells.length=(tl T t).size) (h1:∀c∈v.cells,c.one=true) (hl:off+(tl T t).size<=cs.length) {P:Prop}:
  OpOk C e G g hp w (P, .bad,[(id,some (g', .box (splice cs off v.cells)))]) (((Instr.storeAt t xa x).run C.P w).andThen fun _ w=> .ok .skip w):=by
 have hf:=hT.fits hs0
 obtain⟨ee,he,hgg,_,hor⟩:=p.hr.live id _ _ hg
 obtain⟨hn,q1,b,c,vs,T',hb,hh,hsz,hv⟩:=hor
 obtain⟨_,_,hin⟩:=ha.ptO_inv
 obtain⟨_,hin⟩:=hin ee he hgg
 obtain rfl:=hin hn b c hb
 obtain⟨c1,c2,c3⟩:=cells_vals hx h1
 have hrun:=run_storeAt (w:=w) hf (.of hh) (c1.trans hs) c3 (off:=0*ee.k+off) (by omega)
 subst hgg
 rw[hrun,Result.andThen_ok]
 refine(wr_obj p he hb _ ?_ (.inr ⟨rfl,rfl⟩)).2
 have ext:=Ext.write (w:=w) (g:=g) (G:=G) he hb (vs.toList.take (0*ee.k+off)++x.cells.toList++vs.toList.drop (0*ee.k+off+(tl T t).size)).toArray
 have hle:off+v.cells.length<=cs.length:=by omega
 refine⟨hn,?_,b,c,_,T',hb,setRow_heap w b vs _ T' (0,0) hh,?_,?_⟩
 ·intro j hj
  rw[getElem_splice hle hj]
  split
  ·exact h1 _ (List.getElem_mem _)
  ·exact q1 _ _
 ·rw[splice_length hle];simp;omega
 ·intro j hj
  refine VR.ext ext ?_
  rw[getElem_splice hle hj]
  have e1:(0*ee.k+off+(tl T t).size)=0*ee.k+off+x.cells.toList.length:=by simp;omega
  rw[e1,getD_splice (by simp;omega)]
  have e2:x.cells.toList.length=v.cells.length:=by simp[c1]
  simp only[Nat.zero_mul,Nat.zero_add,e2]
  split
  ·have:=c2 (j - off) (by omega)
   rw[Array.getD_eq_getD_getElem?] at this
   rw[List.getD_eq_getElem?_getD]
   simpa using this
  ·have:=hv j (by rw[splice_length hle] at hj;exact hj)
   simpa using this
theorem stc_cells {k off:Nat} {el v:AV} (hk:el.cells.length=k) (hl:off+v.cells.length<=k):(stc k el off v).cells=splice el.cells off v.cells:=by
 unfold stc
 split
 ·rename_i h
  obtain⟨rfl,h2⟩:=h
  simp only[splice,List.take_zero,List.nil_append,Nat.zero_add]
  rw[List.drop_eq_nil_of_le (by omega),List.append_nil]
 ·rfl
theorem store_own0 (p:Pre C e G g hp w) (hT:TOk C.P T) {t id g' i off T' k:Nat} {x xa:Value} {v:AV} {es:List AV} (hx:VR w (UE e) e G v x) (ha:VR w (UE e) e G (.ptO id g' es.length i off) xa)
  (hg:hp.get id=some (g', .own T' k es)) (hi:i<es.length) (hs0:(tl T t).size≠0) (hs:v.cells.length=(tl T t).size) (hof:off+(tl T t).size<=k) (h1:∀c∈v.cells,c.one=true) {P:Prop}:
  ∃w',((Instr.storeAt t xa x).run C.P w).andThen (fun _ w=> .ok .skip w)= .ok Next.skip w'/\HRel w' e (gadd G g) ((id,some (g', .own T' k (es.set i (stc k (es.getD i .bad) off v))))::hp)/\Ext w e G w' e (gadd G g)/\Lnt C w' e (gadd G g)/\Frm C w':=by
 obtain⟨ee,he,hgg,hGg,hor⟩:=p.hr.live id _ _ hg
 obtain⟨hk',hn,hk0,hkl,q1,hb⟩:=hor
 have hf:=hT.fits (t:=t) hs0
 cases hbl:ee.blk with
 |none=>rw[hbl] at hb;subst hb;simp at hi
 |some q=>
  obtain⟨b,bcap⟩:=q
  rw[hbl] at hb
  obtain⟨hm,hlb,cs,hh,hsz,hv⟩:=hb
  obtain⟨_,_,hin⟩:=ha.ptO_inv
  obtain⟨_,hin⟩:=hin ee he hgg
  obtain rfl:=hin hn b bcap hbl
  obtain⟨c1,c2,c3⟩:=cells_vals hx h1
  have hik:i*k+k<=cs.size:=by
   rw[hsz]
   calc i*k+k=(i+1)*k:=by rw[Nat.succ_mul]
    _<=bcap*k:=Nat.mul_le_mul_right _ (by omega)
  have hfit:i*ee.k+off+(tl T t).size<=cs.size:=by rw[hk'];omega
  have hrun:=run_storeAt (w:=w) hf hh (by rw[c1];exact hs) c3 hfit
  rw[hrun,Result.andThen_ok]
  subst hgg
  rw[getD_lt hi]
  have hsc:(stc k es[i] off v).cells=splice es[i].cells off v.cells:=stc_cells (hkl i hi) (by omega)
  have hle:off+v.cells.length<=es[i].cells.length:=by rw[hkl i hi];omega
  have hwr:=wr_obj (P:=P) (v:= .bad) p he hbl (cs.toList.take (i*ee.k+off)++x.cells.toList++cs.toList.drop (i*ee.k+off+(tl T t).size)).toArray (ob:= .own T' k (es.set i (stc k es[i] off v))) ?_ (.inr ⟨rfl,rfl⟩)
  ·obtain⟨h1,nx,w',e',r1,r2,r3,r4,r5,r6⟩:=hwr
   have ext:=Ext.write (w:=w) (g:=g) (G:=G) he hbl (cs.toList.take (i*ee.k+off)++x.cells.toList++cs.toList.drop (i*ee.k+off+(tl T t).size)).toArray
   refine⟨_,rfl,h1,ext,?_,?_⟩
   ·exact p.ln.step p.fr.size ext rfl (fun _ _ h=>h)
   ·cases r1;exact r5
  ·have ext:=Ext.write (w:=w) (g:=g) (G:=G) he hbl (cs.toList.take (i*ee.k+off)++x.cells.toList++cs.toList.drop (i*ee.k+off+(tl T t).size)).toArray
   have elem:∀j (hj:j<(es.set i (stc k es[i] off v)).length),(es.set i (stc k es[i] off v))[j]=if i=j then stc k es[i] off v else es[j]'(by simpa using hj):=fun j hj=>by
    rw[List.getElem_set]
   refine⟨hk',by simp[hn],hk0,?_,?_,?_⟩
   ·intro j hj;rw[elem j hj];split
    ·rw[hsc,splice_length hle];exact hkl i hi
    ·exact hkl _ _
   ·intro j hj l hl
    simp only[elem j hj] at hl ⊢
    by_cases hij:i=j
    ·simp only[hij,if_true] at hl ⊢
     subst hij
     simp only[hsc] at hl ⊢
     rw[getElem_splice hle hl]
     split
     ·exact h1 _ (List.getElem_mem _)
     ·exact q1 _ _ _ _
    ·simp only[hij,if_false] at hl ⊢;exact q1 _ _ _ _
   ·rw[hbl]
    refine⟨hm,by simpa using hlb,_,hh.setRow ?_,?_,?_⟩
    ·have hx1:x.cells.size=(tl T t).size:=by rw[c1];exact hs
     simp[hx1];omega
    ·have hx1:x.cells.size=(tl T t).size:=by rw[c1];exact hs
     simp[hx1];omega
    ·intro j hj l hl
     have e1:(i*ee.k+off+(tl T t).size)=i*ee.k+off+x.cells.toList.length:=by simp[c1,hs]
     have e2:x.cells.toList.length=v.cells.length:=by simp[c1]
     have e5:i*ee.k+off+x.cells.toList.length<=cs.toList.length:=by rw[<-e1];simpa using hfit
     have val:∀j l,l<k->(cs.toList.take (i*ee.k+off)++x.cells.toList++cs.toList.drop (i*ee.k+off+(tl T t).size)).toArray.getD (j*k+l) undef=
       if j=i/\off<=l/\l<off+v.cells.length then x.cells.getD (l - off) undef else cs.getD (j*k+l) undef:=by
      intro j l hlk
      rw[e1,getD_splice e5,e2,hk']
      by_cases hji:j=i
      ·subst hji
       by_cases hr:off<=l/\l<off+v.cells.length
       ·rw[if_pos ⟨by omega,by omega⟩,if_pos ⟨rfl,hr⟩]
        have e3:j*k+l - (j*k+off)=l - off:=by omega
        rw[e3]
        simp[List.getD_eq_getElem?_getD,Array.getD_eq_getD_getElem?]
       ·rw[if_neg (by omega),if_neg (by rintro⟨_,h⟩;exact hr h)]
      ·rw[if_neg ?_,if_neg (by rintro⟨h,_⟩;exact hji h)]
       intro⟨h1,h2⟩
       apply hji
       have d1:=(divmod_of (i:=j) hlk).1
       have:(j*k+l) / k=i:=by
        apply Nat.div_eq_of_lt_le<;>(try rw[Nat.succ_mul])<;>omega
       omega
     have hj':j<es.length:=by simpa using hj
     have old:∀(hl':l<es[j].cells.length),VC (w.setRow b (cs.toList.take (i*ee.k+off)++x.cells.toList++cs.toList.drop (i*ee.k+off+(tl T t).size)).toArray) e (gadd G g) b (j*k+l) es[j].cells[l] (cs.getD (j*k+l) undef):=by
      intro hl'
      refine(hv j hj' l hl').ext ext fun b1 hb1=>⟨setRow_other w b b1 _ ?_,hb1⟩
      rintro rfl
      have:=p.hr.ko b1 ⟨id,ee,bcap,he,hbl⟩
      rw[hb1] at this;cases this
     simp only[elem j hj] at hl ⊢
     by_cases hij:i=j
     ·subst hij
      simp only[if_true] at hl ⊢
      simp only[hsc] at hl ⊢
      have hlk:l<k:=by rw[splice_length hle,hkl i hi] at hl;exact hl
      rw[val i l hlk,getElem_splice hle hl]
      by_cases hr:off<=l/\l<off+v.cells.length
      ·rw[if_pos ⟨rfl,hr⟩,dif_pos hr]
       exact .val _ _ ((c2 (l - off) (by omega)).ext ext)
      ·rw[if_neg (by rintro⟨_,h⟩;exact hr h),dif_neg hr]
       exact old _
     ·simp only[hij,if_false] at hl ⊢
      have hlk:l<k:=by have:=hkl j hj';omega
      have hv0:=(val j l hlk).trans (if_neg (by rintro⟨h,_⟩;exact hij h.symm))
      rw[hv0]
      exact old hl
theorem attR_cases (c:AV):attR c=[]/\(∀hp,att hp c=c)\/∃id,attR c=[id]:=by
 cases c with
 |slO id g off len=>exact .inr ⟨id,rfl⟩
 |_=>exact .inl ⟨rfl,fun _=>rfl⟩
theorem attR_uniq:∀{cs:List AV},(cs.flatMap attR).Nodup->∀{i j:Nat} (hi:i<cs.length) (hj:j<cs.length) {id:Nat},attR cs[i]=[id]->attR cs[j]=[id]->i=j
 |[],_,i,_,hi,_,_,_,_=>by simp at hi
 |c::cs,h,i,j,hi,hj,id,h1,h2=>by
  rw[List.flatMap_cons,List.nodup_append] at h
  obtain⟨_,h4,h5⟩:=h
  match i,j with
  |0,0=>rfl
  |0,j+1=>
   simp only[List.getElem_cons_zero] at h1
   simp only[List.getElem_cons_succ] at h2
   exact absurd rfl (h5 id (by rw[h1];simp) id (List.mem_flatMap.2 ⟨_,List.getElem_mem (by simpa using hj),by rw[h2];simp⟩))
  |i+1,0=>
   simp only[List.getElem_cons_zero] at h2
   simp only[List.getElem_cons_succ] at h1
   exact absurd rfl (h5 id (by rw[h2];simp) id (List.mem_flatMap.2 ⟨_,List.getElem_mem (by simpa using hi),by rw[h1];simp⟩))
  |i+1,j+1=>
   simp only[List.getElem_cons_succ] at h1 h2
   rw[attR_uniq h4 (by simpa using hi) (by simpa using hj) h1 h2]
theorem opStore_ok (p:Pre C e G g hp w) (hT:TOk C.P T) {t:Nat} {v av:AV} {x xa:Value} (hx:VR w (UE e) e G v x) (ha:VR w (UE e) e G av xa) (h:(opStore (tl T t) hp v av).1):
  OpOk C e G g hp w (opStore (tl T t) hp v av) (((Instr.storeAt t xa x).run C.P w).andThen fun _ w=> .ok .skip w):=by
 cases av with
 |ptO id g' n i off=>
  simp only[opStore] at h ⊢
  cases hg:hp.get id with
  |none=>simp only[hg] at h;exact h.elim
  |some q=>
   obtain⟨g'',ob⟩:=q
   cases ob with
   |mp _=>simp only[hg] at h;exact h.elim
   |ms _=>simp only[hg] at h;exact h.elim
   |bd _ _ _=>simp only[hg] at h;exact h.elim
   |box cs=>
    simp only[hg] at h ⊢
    obtain⟨rfl,rfl,rfl,h0,h1,h2,h3⟩:=h
    exact store_box p hT hx ha hg h0 h1 (fun c hc=>(h2 c hc).1) h3
   |own T' k es=>
    simp only[hg] at h ⊢
    obtain⟨rfl,rfl,hi,hs0,hs,hof,hP,hnd,hid⟩:=h
    have hone:∀c∈v.cells,c.one=true:=fun c hc=>attP_one (hP c hc)
    obtain⟨w',hrun,hr1,ext1,ln1,fr1⟩:=store_own0 (P:=True) p hT hx ha hg hi hs0 hs hof hone
    rw[hrun]
    obtain⟨_,_,_,_,hor⟩:=p.hr.live id _ _ hg
    have hkl:=hor.2.2.2.1
    rw[getD_lt hi] at hr1 ⊢
    have hle:off+v.cells.length<=es[i].cells.length:=by rw[hkl i hi];omega
    have hmc:(mapc (att hp) v).cells=v.cells.map (att hp):=mapatt_cells hone
    have hsc:(stc k es[i] off v).cells=splice es[i].cells off v.cells:=stc_cells (hkl i hi) (by omega)
    have hle':off+(mapc (att hp) v).cells.length<=es[i].cells.length:=by rw[hmc,List.length_map];exact hle
    have hsc':(stc k es[i] off (mapc (att hp) v)).cells=splice es[i].cells off (mapc (att hp) v).cells:=stc_cells (hkl i hi) (by rw[hmc,List.length_map];omega)
    have agree:∀c∈v.cells,att ((id,some (g'',Ob.own T' k (es.set i (stc k es[i] off v))))::hp) c=att hp c/\(attP ((id,some (g'',Ob.own T' k (es.set i (stc k es[i] off v))))::hp) c↔attP hp c):=by
     intro c hc
     exact att_agree fun a ha'=>Hp.get_cons_other _ _ (fun h=>hid (List.mem_flatMap.2 ⟨c,hc,h ▸ ha'⟩))
    have e1:(es.set i (stc k es[i] off v))[i]'(by simpa using hi)=stc k es[i] off v:=by simp
    have e2:(es.set i (stc k es[i] off (mapc (att hp) v)))[i]'(by simpa using hi)=stc k es[i] off (mapc (att hp) v):=by simp
    have e3:∀a (ha:a<es.length),a≠i->(es.set i (stc k es[i] off v))[a]'(by simpa using ha)=es[a]/\(es.set i (stc k es[i] off (mapc (att hp) v)))[a]'(by simpa using ha)=es[a]:=by
     intro a ha hne
     exact⟨by rw[List.getElem_set,if_neg (Ne.symm hne)],by rw[List.getElem_set,if_neg (Ne.symm hne)]⟩
    have key:=attach_ok hr1 (fun a b=>a=i/\off<=b/\b<off+v.cells.length) (es':=es.set i (stc k es[i] off (mapc (att hp) v))) (D:=v.cells.flatMap attR) (Hp.get_cons_same _ _ _) hid (by simp)
    refine Exists.elim (key ?_ ?_ ?_ ?_) ?_
    ·intro a ha
     have ha':a<es.length:=by simpa using ha
     by_cases hai:a=i
     ·subst hai;rw[e2,hsc',splice_length hle'];exact hkl _ _
     ·rw[(e3 a ha' hai).2];exact hkl _ _
    ·intro a ha ha2 j hj hj'
     have ha':a<es.length:=by simpa using ha
     by_cases hai:a=i
     ·subst hai
      simp only[e1,e2,hsc,hsc'] at hj hj' ⊢
      rw[getElem_splice hle hj,getElem_splice hle' hj']
      have hlm:(mapc (att hp) v).cells.length=v.cells.length:=by rw[hmc,List.length_map]
      by_cases hr:off<=j/\j<off+v.cells.length
      ·rw[dif_pos hr,dif_pos (by rw[hlm];exact hr)]
       have hcell:(mapc (att hp) v).cells[j - off]'(by rw[hlm];omega)=att hp (v.cells[j - off]'(by omega)):=by
        simp only[hmc,List.getElem_map]
       rw[hcell]
       have hmem:v.cells[j - off]'(by omega)∈v.cells:=List.getElem_mem _
       rcases attR_cases (v.cells[j - off]'(by omega)) with ⟨_,h2⟩|⟨id',h2⟩
       ·exact .inl (h2 hp)
       ·exact .inr ⟨⟨trivial,hr⟩,id',List.mem_flatMap.2 ⟨_,hmem,by rw[h2];simp⟩,h2,(agree _ hmem).2.2 (hP _ hmem),(agree _ hmem).1.symm⟩
      ·rw[dif_neg hr,dif_neg (by rw[hlm];exact hr)]
       exact .inl rfl
     ·simp only[(e3 a ha' hai).1,(e3 a ha' hai).2]
      exact .inl trivial
    ·intro id' hid'
     obtain⟨c,hc,hid'⟩:=List.mem_flatMap.1 hid'
     obtain⟨m,hm,rfl⟩:=List.getElem_of_mem hc
     refine⟨i,off+m,by simpa using hi,by simpa using hi,?_⟩
     simp only[e1,e2,hsc,hsc']
     refine⟨by rw[splice_length hle];omega,by rw[splice_length hle'];omega,?_⟩
     rw[getElem_splice hle (by rw[splice_length hle];omega),dif_pos ⟨by omega,by omega⟩]
     have:off+m - off=m:=by omega
     simp only[this]
     rcases attR_cases v.cells[m] with ⟨h1,_⟩|⟨id2,h1⟩
     ·rw[h1] at hid';cases hid'
     ·rw[h1] at hid' ⊢;simp at hid';rw[hid']
    ·rintro id' hid' a j a' j' ha hj ha' hj' ⟨rfl,hb1,hb2⟩ ⟨rfl,hb1',hb2'⟩ h1 h2
     refine⟨rfl,?_⟩
     simp only[e1,hsc] at hj hj' h1 h2
     rw[getElem_splice hle hj,dif_pos ⟨hb1,hb2⟩] at h1
     rw[getElem_splice hle hj',dif_pos ⟨hb1',hb2'⟩] at h2
     have:=attR_uniq hnd _ _ h1 h2
     omega
    ·rintro e' ⟨a1,a2,a3,a4,a5,a6⟩
     refine⟨_,w',e',rfl,a1.congr (fun _=>Iff.rfl) fun j=>?_,ext1.trans a2,?_,fr1, .inr ⟨rfl,rfl⟩⟩
     ·simp only[List.cons_append]
      by_cases hj:j=id
      ·subst hj;rw[Hp.get_cons_same,Hp.get_cons_same]
      ·rw[Hp.get_cons_other _ _ hj,Hp.get_cons_other _ _ hj]
       unfold drops
       rw[get_drops,get_drops,Hp.get_cons_other _ _ hj]
     ·exact⟨a3.trans ln1.zeq,ln1.zlt,ln1.ext.trans a2,fun b hb=>ln1.mine b (a4 b hb)⟩
 |_=>exact h.elim
end
open Go Go.Great
section
variable {C:Cx} {e:Env} {G:Nat->Prop} {g:Nat} {hp:Hp} {w:World} {T:Tab}
theorem zip_of_parts {n:Nat} {ps:List (Nat×Operand)} (h:partsOk n ps=true) (f:Operand->Value):
  ps.map (fun p=>(p.1,f p.2))=((ps.map fun p=>f p.2).zipIdx 0).map fun x=>(x.2,x.1):=by
 have h':ps.map (·.1)=List.range n:=by simpa[partsOk] using h
 have hn:ps.length=n:=by have:=congrArg List.length h';simpa using this
 apply List.ext_getElem?
 intro i
 by_cases hi:i<ps.length
 ·have:ps[i].1=i:=by
   have:=congrArg (fun l=>l[i]?) h'
   simp only[List.getElem?_map,List.getElem?_eq_getElem hi,Option.map_some,List.getElem?_range (show i<n by omega)] at this
   simpa using this
  simp[hi,this]
 ·simp[hi]
theorem flat_getD {vs:List Value} {k:Nat} (hk:0<k) (hv:∀v∈vs,v.cells.size=k) {i j:Nat} (hi:i<vs.length) (hj:j<k):
  ((vs.flatMap fun v=>v.cells.toList).toArray).getD (i*k+j) undef=vs[i].cells.getD j undef:=by
 rw[Array.getD_eq_getD_getElem?,List.getElem?_toArray,flat_get hk vs hv,(divmod_of (i:=i) hj).1,(divmod_of (i:=i) hj).2,List.getElem?_eq_getElem hi]
 simp[Array.getD_eq_getD_getElem?]
theorem flat_length {vs:List Value} {k:Nat} (hv:∀v∈vs,v.cells.size=k):(vs.flatMap fun v=>v.cells.toList).length=vs.length*k:=by
 induction vs with
 |nil=>simp
 |cons v vs ih=>
  have h1:=hv v List.mem_cons_self
  rw[List.flatMap_cons,List.length_append,ih fun u hu=>hv u (List.mem_cons_of_mem _ hu),List.length_cons,Nat.succ_mul]
  simp[h1];omega
theorem buildSlice_ok (p:Pre C e G g hp w) (hT:TOk C.P T) {did t n el:Nat} (ht:(tl T t).ty= .slice el) {ps:Array (Nat×Operand)} {ev:Operand->AV} {xv:Operand->Value}
  (hxv:∀q∈ps,VR w (UE e) e G (ev q.2) (xv q.2)) (h1:partsOk n ps.toList=true) (h2:(tl T el).size≠0) (h3:n*(tl T el).size<=16777216)
  (h4:∀v∈ps.toList.map fun q=>ev q.2,v.cells.length=(tl T el).size/\∀c∈v.cells,c.one=true/\c.noKid=true) {P:Prop}:
  OpOk C e G g hp w (P, .slO did g 0 n,[(did,some (g, .own el (tl T el).size (ps.toList.map fun q=>ev q.2)))])
   (((Instr.buildSlice t n (ps.map fun q=>(q.1,xv q.2))).run C.P w).andThen fun v w=> .ok (.value v) w):=by
 obtain⟨d,hu,hd⟩:=(hT.fit ht (by simp)).under
 rw[ht] at hd
 cases hd
 have hf:=hT.fits h2
 obtain⟨ie,hi,hsz,hbytes,hz⟩:=hf.info
 obtain⟨v1,v2,v3⟩:=zval_zav (w:=w) hf (UE e)
 have hn:ps.toList.length=n:=by
  have h':ps.toList.map (·.1)=List.range n:=by simpa[partsOk] using h1
  have:=congrArg List.length h';simpa using this
 have hdat:∀q∈ps.toList,VR w (UE e) e G (ev q.2) (xv q.2)/\(∀c∈(ev q.2).cells,c.one=true)/\(ev q.2).cells.length=(tl T el).size:=by
  intro q hq
  obtain⟨s1,s2⟩:=h4 _ (List.mem_map.2 ⟨q,hq,rfl⟩)
  exact⟨hxv q (by simpa using hq),fun c hc=>(s2 c hc).1,s1⟩
 have hsize:∀v∈ps.toList.map fun q=>xv q.2,v.cells.size=(tl T el).size:=by
  intro v hv
  obtain⟨q,hq,rfl⟩:=List.mem_map.1 hv
  obtain⟨d1,d2,d3⟩:=hdat q hq
  rw[(cells_vals d1 d2).1,d3]
 have hpos:0<(tl T el).size:=by omega
 have hzz:(tl T el).zval.cells.size=(tl T el).size:=by rw[(cells_valsD v1 v2).1,v3]
 have hlenvs:(ps.toList.map fun q=>xv q.2).length=n:=by simpa using hn
 have hrun:∃cells:Array Value,(Instr.buildSlice t n (ps.map fun q=>(q.1,xv q.2))).run C.P w= .ok (.slice (some ⟨w.heap.size,0,none⟩) n n) (w.alloc (.cells cells el))/\
   cells=((ps.toList.map fun q=>xv q.2).flatMap fun v=>v.cells.toList).toArray:=by
  by_cases hn0:n=0
  ·subst hn0
   have hnil:ps.toList=[]:=List.eq_nil_of_length_eq_zero hn
   have hps:ps=#[]:=by rw[<-Array.toList_eq_nil_iff];exact hnil
   subst hps
   refine⟨#[],?_,by simp⟩
   simp[Instr.buildSlice,run_underlying hu,run_sizeOf' hf,Instr.fill,newRow,Array.range_zero']
  ·refine⟨_,?_,rfl⟩
   refine run_buildSlice w t el n _ _ ie _ hu hi hz (by rw[hsz];omega) (by rw[hsz];exact Nat.mul_ne_zero hn0 h2) ?_
   rw[hsz,Array.toList_map,zip_of_parts h1]
   exact fill_whole hpos _ _ hsize (by simp[hlenvs])
 obtain⟨cells,hrun,hcells⟩:=hrun
 rw[hrun,Result.andThen_ok]
 have hlen:(ps.toList.map fun q=>ev q.2).length=n:=by simpa using hn
 have hcs:cells.size=n*(tl T el).size:=by rw[hcells,List.size_toArray,flat_length hsize,hlenvs]
 refine mk_obj' p (Grow.alloc w _) (ee:=⟨g,some (w.heap.size,n),(tl T el).size,n⟩) rfl (by rintro b c ⟨⟩;exact⟨Nat.le_refl _,by rw[size_new];omega⟩) (fun ext=>?_) ?_
 ·refine⟨rfl,hlen.symm,hpos,?_,?_,?_⟩
  ·intro i hi;simp only[List.getElem_map];exact(hdat _ (List.getElem_mem _)).2.2
  ·intro i hi j hj;simp only[List.getElem_map] at hj ⊢;exact(hdat _ (List.getElem_mem _)).2.1 _ (List.getElem_mem _)
  ·refine⟨?_,by rw[hlen];exact Nat.le_refl _,cells, .of (heap_new w _),hcs,?_⟩
   ·simp only[maxLen];have:n<=n*(tl T el).size:=Nat.le_mul_of_pos_right n hpos;omega
   ·intro i hi j hj
    have hi':i<ps.toList.length:=by simpa using hi
    simp only[List.getElem_map] at hj ⊢
    obtain⟨d1,d2,d3⟩:=hdat _ (List.getElem_mem hi')
    have hj':j<(tl T el).size:=by rw[<-d3];exact hj
    have e2:cells.getD (i*(tl T el).size+j) undef=(xv (ps.toList[i]).2).cells.getD j undef:=by
     rw[hcells,flat_getD hpos hsize (by rw[hlenvs];omega) hj']
     simp
    rw[e2]
    exact .val _ _ (((cells_vals d1 d2).2.1 j hj).ext ext)
 ·refine .slO _ _ _ _ _ (.inr rfl) rfl fun ee he _=>?_
  rw[eset_same] at he;cases he
  exact⟨by simp,fun _=>⟨n,by simp,by simp,Nat.le_refl _⟩⟩
def CRel (w:World) (e:Env) (G:Nat->Prop) (cs:List AV) (cells:Array Value):Prop:=
 cs.length=cells.size/\(∀i (h:i<cs.length),cs[i].one=true)/\∀i (h:i<cs.length),VR w (UE e) e G cs[i] (cells.getD i undef)
theorem fill_struct {place:Nat->Option (Nat×Nat)} {ev:Operand->AV} {xv:Operand->Value} {o:Nat->Nat} {size:Nat}:
  ∀(ps:List (Nat×Operand)) (cs:List AV) (cells:Array Value),CRel w e G cs cells->cs.length=size->
   (∀q∈ps,VR w (UE e) e G (ev q.2) (xv q.2))->
   (∀q∈ps,∃sz,place q.1=some (o q.1,sz)/\(ev q.2).cells.length=sz/\o q.1+sz<=size/\∀c∈(ev q.2).cells,c.one=true)->
   ∃r,Instr.fill place cells (ps.map fun q=>(q.1,xv q.2))=some r/\CRel w e G (ps.foldl (fun cs q=>splice cs (o q.1) (ev q.2).cells) cs) r
 |[],cs,cells,h,_,_,_=>⟨cells,rfl,h⟩
 |q::ps,cs,cells,h,hl,hv,hp=>by
  obtain⟨sz,h1,h2,h3,h4⟩:=hp q List.mem_cons_self
  obtain⟨c1,c2,c3⟩:=cells_vals (hv q List.mem_cons_self) h4
  obtain⟨k1,k2,k3⟩:=h
  generalize hoff:o q.1=off at*
  obtain⟨g1,g2⟩:=foldl_set off (xv q.2).cells.toList 0 cells
  have hsp:off+(ev q.2).cells.length<=cs.length:=by omega
  have hstep:CRel w e G (splice cs off (ev q.2).cells) (((xv q.2).cells.toList.zipIdx 0).foldl (fun cs (x:Value×Nat)=>cs.setIfInBounds (off+x.2) x.1) cells):=by
   refine⟨by rw[splice_length hsp,g1,k1],?_,?_⟩
   ·intro i hi
    rw[getElem_splice hsp hi]
    split
    ·exact h4 _ (List.getElem_mem _)
    ·exact k2 _ _
   ·intro i hi
    have hi':i<cs.length:=by rw[splice_length hsp] at hi;exact hi
    have hr:(((xv q.2).cells.toList.zipIdx 0).foldl (fun cs (x:Value×Nat)=>cs.setIfInBounds (off+x.2) x.1) cells).getD i undef=
      if off<=i/\i<off+(ev q.2).cells.length then(xv q.2).cells.getD (i - off) undef else cells.getD i undef:=by
     rw[Array.getD_eq_getD_getElem?,g2 i]
     simp only[Nat.add_zero,Array.length_toList,c1]
     by_cases hin:off<=i/\i<off+(ev q.2).cells.length
     ·rw[if_pos ⟨hin.1,hin.2,by omega⟩,if_pos hin,Array.getD_eq_getD_getElem?,Array.getElem?_toList]
     ·rw[if_neg (by omega),if_neg hin,Array.getD_eq_getD_getElem?]
    rw[hr,getElem_splice hsp hi]
    split
    ·exact c2 _ _
    ·exact k3 _ hi'
  obtain⟨r,hr1,hr2⟩:=fill_struct ps _ _ hstep (by rw[splice_length hsp];exact hl) (fun q' h'=>hv q' (List.mem_cons_of_mem _ h')) (fun q' h'=>hp q' (List.mem_cons_of_mem _ h'))
  refine⟨r,?_,by rw[List.foldl_cons,hoff];exact hr2⟩
  simp only[List.map_cons]
  unfold Instr.fill
  simp only[h1]
  rw[if_neg (by simp;omega),<-hr1]
  congr 1
  rw[<-Array.foldl_toList,Array.toList_zipIdx]
theorem places_of {P:Program} (a:Array Field) (h:∀f∈a,(P.info? f.type).isSome=true):
  ∃places,a.toList.mapM (fun f=>(P.info? f.type).map fun i=>(f.offset,i.size))=some places/\∀i (hi:i<a.size) j,P.info? a[i].type=some j->places[i]?=some (a[i].offset,j.size):=by
 have key:∀l:List Field,(∀f∈l,(P.info? f.type).isSome=true)->∃places,l.mapM (fun f=>(P.info? f.type).map fun i=>(f.offset,i.size))=some places/\
   ∀i (hi:i<l.length) j,P.info? l[i].type=some j->places[i]?=some (l[i].offset,j.size):=by
  intro l
  induction l with
  |nil=>intro _;exact⟨[],rfl,fun i hi=>by simp at hi⟩
  |cons f l ih=>
   intro hl
   obtain⟨ps,h1,h2⟩:=ih fun f hf=>hl f (List.mem_cons_of_mem _ hf)
   obtain⟨j0,hj0⟩:=Option.isSome_iff_exists.1 (hl f List.mem_cons_self)
   refine⟨(f.offset,j0.size)::ps,?_,?_⟩
   ·simp[List.mapM_cons,hj0,h1]
   ·intro i hi j hj
    cases i with
    |zero=>simp at hj;rw[hj0] at hj;cases hj;rfl
    |succ i=>simpa using h2 i (by simpa using hi) j (by simpa using hj)
 obtain⟨ps,h1,h2⟩:=key a.toList (fun f hf=>h f (by simpa using hf))
 exact⟨ps,h1,fun i hi j hj=>by
  have:=h2 i (by simpa using hi) j (by simpa using hj)
  rw[this];simp⟩
theorem build_ok (p:Pre C e G g hp w) (hT:TOk C.P T) {t:Nat} {fs:List (Nat×Nat)} (ht:(tl T t).ty= .struct fs) {ps:Array (Nat×Operand)} {ev:Operand->AV} {xv:Operand->Value}
  (hxv:∀q∈ps,VR w (UE e) e G (ev q.2) (xv q.2))
  (h:∀q∈ps.toList,q.1<fs.length/\(tl T (fs.getD q.1 (0,0)).2).size≠0/\(ev q.2).cells.length=(tl T (fs.getD q.1 (0,0)).2).size/\(fs.getD q.1 (0,0)).1+(tl T (fs.getD q.1 (0,0)).2).size<=(tl T t).size/\(∀c∈(ev q.2).cells,c.one=true)) {P:Prop}:
  OpOk C e G g hp w (P, .agg (ps.toList.foldl (fun cs q=>splice cs (fs.getD q.1 (0,0)).1 (ev q.2).cells) ((tl T t).zs.map ZC.av)),[])
   (((Instr.build t (ps.map fun q=>(q.1,xv q.2))).run C.P w).andThen fun v w=> .ok (.value v) w):=by
 have hft:=hT.fit ht (by simp)
 obtain⟨d,hu,hd,hag⟩:=hft.desc
 rw[ht] at hd
 obtain⟨a,rfl,ha⟩:=hd
 have hag:(tl T t).agg=true:=hag
 obtain⟨it,hit,hsz,_,hz⟩:=hft.info
 obtain⟨v1,v2,v3⟩:=zval_zav (w:=w) hft (UE e)
 obtain⟨c1,c2,_⟩:=cells_valsD v1 v2
 have hzc:(tl T t).zav.cells=(tl T t).zs.map ZC.av:=by unfold TI.zav;rw[hag];rfl
 obtain⟨places,hp1,hp2⟩:=places_of a (hft.flds a hu)
 obtain⟨r,hr1,hr2⟩:=fill_struct (w:=w) (e:=e) (G:=G) (place:=fun x=>places[x]?) (ev:=ev) (xv:=xv) (o:=fun i=>(fs.getD i (0,0)).1) (size:=(tl T t).size) ps.toList ((tl T t).zs.map ZC.av) (tl T t).zval.cells
  (by rw[<-hzc];exact⟨c1.symm,fun i hi=>v2 _ (List.getElem_mem _),fun i hi=> .dat _ _ (c2 i hi)⟩) (by rw[<-hzc];exact v3) (fun q hq=>hxv q (by simpa using hq)) (by
   intro q hq
   obtain⟨q1,q2,q3,q4,q5⟩:=h q hq
   subst ha
   have hq1:q.1<a.size:=by simpa using q1
   have e1:(a.toList.map fun f=>(f.offset,f.type)).getD q.1 (0,0)=(a[q.1].offset,a[q.1].type):=by simp[List.getD_eq_getElem?_getD,hq1]
   rw[e1] at q2 q3 q4
   show ∃sz,(fun x=>places[x]?) q.1=some ((((a.toList.map fun f=>(f.offset,f.type)).getD q.1 (0,0)).1),sz)/\(ev q.2).cells.length=sz/\((a.toList.map fun f=>(f.offset,f.type)).getD q.1 (0,0)).1+sz<=_/\_
   rw[e1]
   obtain⟨j,hj,hjs,_⟩:=(hT.fits q2).info
   refine⟨j.size,hp2 q.1 hq1 j hj,by rw[hjs];exact q3,by rw[hjs];exact q4,q5⟩)
 have hrun:=run_build (P:=C.P) w t (ps.map fun q=>(q.1,xv q.2)) r (by
  unfold Program.built
  simp only[hit,hu,hz,hp1]
  have e2:(places.toArray[·]?)=fun x:Nat=>places[x]?:=by funext x;simp
  rw[e2,Array.toList_map]
  exact hr1)
 rw[hrun,Result.andThen_ok]
 obtain⟨s1,s2,s3⟩:=hr2
 exact .pure p (.agg _ _ s1 s2 s3)
theorem buildA_ok (p:Pre C e G g hp w) (hT:TOk C.P T) {t n el:Nat} (ht:(tl T t).ty= .array n el) {ps:Array (Nat×Operand)} {ev:Operand->AV} {xv:Operand->Value}
  (hxv:∀q∈ps,VR w (UE e) e G (ev q.2) (xv q.2))
  (h:∀q∈ps.toList,q.1<n/\(tl T el).size≠0/\(ev q.2).cells.length=(tl T el).size/\q.1*(tl T el).size+(tl T el).size<=(tl T t).size/\(∀c∈(ev q.2).cells,c.one=true)) {P:Prop} (hel:ps.toList≠[]):
  OpOk C e G g hp w (P, .agg (ps.toList.foldl (fun cs q=>splice cs (q.1*(tl T el).size) (ev q.2).cells) ((tl T t).zs.map ZC.av)),[])
   (((Instr.build t (ps.map fun q=>(q.1,xv q.2))).run C.P w).andThen fun v w=> .ok (.value v) w):=by
 have hft:=hT.fit ht (by simp)
 obtain⟨d,hu,hd,hag⟩:=hft.desc
 rw[ht] at hd
 obtain rfl:d= .array n el:=hd
 have hag:(tl T t).agg=true:=hag
 obtain⟨it,hit,hsz,_,hz⟩:=hft.info
 obtain⟨v1,v2,v3⟩:=zval_zav (w:=w) hft (UE e)
 obtain⟨c1,c2,_⟩:=cells_valsD v1 v2
 have hzc:(tl T t).zav.cells=(tl T t).zs.map ZC.av:=by unfold TI.zav;rw[hag];rfl
 obtain⟨q0,hq0⟩:=List.exists_mem_of_ne_nil _ hel
 obtain⟨j,hj,hjs,_⟩:=(hT.fits (h q0 hq0).2.1).info
 obtain⟨r,hr1,hr2⟩:=fill_struct (w:=w) (e:=e) (G:=G) (place:=fun i=>some (i*j.size,j.size)) (ev:=ev) (xv:=xv) (o:=fun i=>i*(tl T el).size) (size:=(tl T t).size) ps.toList ((tl T t).zs.map ZC.av) (tl T t).zval.cells
  (by rw[<-hzc];exact⟨c1.symm,fun i hi=>v2 _ (List.getElem_mem _),fun i hi=> .dat _ _ (c2 i hi)⟩) (by rw[<-hzc];exact v3) (fun q hq=>hxv q (by simpa using hq)) (by
   intro q hq
   obtain⟨q1,q2,q3,q4,q5⟩:=h q hq
   exact⟨j.size,by rw[hjs],by rw[hjs];exact q3,by rw[hjs];exact q4,q5⟩)
 have hrun:=run_build (P:=C.P) w t (ps.map fun q=>(q.1,xv q.2)) r (by
  unfold Program.built
  simp only[hit,hu,hz,hj]
  rw[Array.toList_map]
  exact hr1)
 rw[hrun,Result.andThen_ok]
 obtain⟨s1,s2,s3⟩:=hr2
 exact .pure p (.agg _ _ s1 s2 s3)
end
open Go Go.Great
section
variable {C:Cx} {e:Env} {G:Nat->Prop} {g:Nat} {hp:Hp} {w:World} {T:Tab}
structure Src (w:World) (e:Env) (G:Nat->Prop) (ys:List AV) (k:Nat) (x:Value) (news:List Value):Prop where
 len:news.length=ys.length*k
 at_:ys.length=0\/∃b off cap,x= .slice (some ⟨b,off,none⟩) ys.length cap/\∀j v,news[j]?=some v->w.cell? ((⟨b,off,none⟩:Addr).add j)=some v
 shape:∃a cap,x= .slice a ys.length cap
 lens:∀i (h:i<ys.length),ys[i].cells.length=k
 one:∀i (h:i<ys.length) j (h':j<ys[i].cells.length),ys[i].cells[j].one=true
 vals:∀i (h:i<ys.length) j (h':j<ys[i].cells.length),VR w (UE e) e G ys[i].cells[j] (news.getD (i*k+j) undef)
theorem news_get {n:Nat} (f:Nat->Value) {b off:Nat} (hc:∀j,j<n->w.cell? ⟨b,off+j,none⟩=some (f j)):
  ∀j v,((List.range n).map f)[j]?=some v->w.cell? ((⟨b,off,none⟩:Addr).add j)=some v:=by
 intro j v hj
 by_cases h:j<n
 ·simp[h] at hj
  subst hj
  rw[add_none];exact hc j h
 ·simp[h] at hj
theorem news_getD {n:Nat} (f:Nat->Value) {j:Nat} (h:j<n):((List.range n).map f).getD j undef=f j:=by
 simp[List.getD_eq_getElem?_getD,h]
theorem src_ok (hr:HRel w e G hp) {v:AV} {x:Value} (hx:VR w (UE e) e G v x) (h:srcP hp v) {ys:List AV} (hs:srcE hp v=some ys) {k:Nat} (hk0:0<k)
  (hk:∀y∈ys,y.cells.length=k) (hnk:∀y∈ys,∀c∈y.cells,c.noKid=true):∃news,Src w e G ys k x news:=by
 have lens:∀i (h:i<ys.length),ys[i].cells.length=k:=fun i hi=>hk _ (List.getElem_mem hi)
 cases v with
 |sl es full=>
  simp only[srcE,Option.some.injEq] at hs
  subst hs
  rcases hx.sl_inv.sl_inv with ⟨rfl,a,rfl⟩|⟨b,off,cap,k',f,rfl,hb,hbs,_,_,_,hk0',hk',hc,h1',hv⟩
  ·exact⟨[],by simp, .inl rfl,⟨_,_,rfl⟩,fun i hi=>by simp at hi,fun i hi=>by simp at hi,fun i hi=>by simp at hi⟩
  ·by_cases he:es=[]
   ·subst he
    exact⟨[],by simp, .inl rfl,⟨_,_,rfl⟩,fun i hi=>by simp at hi,fun i hi=>by simp at hi,fun i hi=>by simp at hi⟩
   ·have h0:0<es.length:=List.length_pos_iff.2 he
    have hkk:k'=k:=by rw[<-hk' 0 h0,lens 0 h0]
    subst hkk
    refine⟨(List.range (es.length*k')).map f,by simp, .inr ⟨b,off,cap,rfl,news_get f hc⟩,⟨_,_,rfl⟩,lens,h1',fun i hi j hj=>?_⟩
    rw[news_getD f (mul_lt_of hi (by have:=lens i hi;omega))]
    exact .dat _ _ (hv i hi j hj)
 |slO id g' off len=>
  simp only[srcP,srcE] at h hs
  cases hg:hp.get id with
  |none=>simp only[hg] at h
  |some q=>
   obtain⟨g'',ob⟩:=q
   cases ob with
   |box cs=>simp only[hg] at h
   |mp _=>simp only[hg] at h
   |ms _=>simp only[hg] at h
   |bd _ _ _=>simp only[hg] at h
   |own t k' es=>
    simp only[hg] at h hs
    obtain⟨rfl,hl⟩:=h
    cases hs
    obtain⟨ee,he,hgg,hn,hok,hor⟩:=slO_val hr hx hg hl
    obtain⟨hk',_,hk0',hkl,h1,hb⟩:=hor
    have hlen:(es.drop off).length=len:=by simp;omega
    obtain⟨a,cap',hshape⟩:=hok.shape
    unfold SlOK at hok
    by_cases hz:len=0
    ·refine⟨[],by simp[hlen,hz], .inl (by rw[hlen];exact hz),⟨a,cap',by rw[hlen];exact hshape⟩,lens,fun i hi=>by omega,fun i hi=>by omega⟩
    ·cases hbl:ee.blk with
     |none=>rw[hbl] at hok;omega
     |some q=>
      obtain⟨b,bcap⟩:=q
      rw[hbl] at hok hb
      obtain⟨cap,rfl,hcp,hlc⟩:=hok
      obtain⟨hm,hlb,cs,hh,hs,hv⟩:=hb
      have hkk:k'=k:=by rw[<-hkl off (by omega)];have:=lens 0 (by omega);rw[List.getElem_drop] at this;simpa using this
      subst hkk
      have hc:∀j,j<(es.drop off).length*k'->w.cell? ⟨b,off*ee.k+j,none⟩=some (cs.getD (off*ee.k+j) undef):=by
       intro j hj
       rw[hlen] at hj
       refine hh.cellD ?_
       rw[hs,hk']
       calc off*k'+j<off*k'+len*k':=by omega
        _=(off+len)*k':=by rw[Nat.add_mul]
        _<=bcap*k':=Nat.mul_le_mul_right _ (by omega)
      refine⟨(List.range ((es.drop off).length*k')).map (fun j=>cs.getD (off*ee.k+j) undef),by simp, .inr ⟨b,off*ee.k,cap,by rw[hlen],news_get _ hc⟩,⟨_,_,by rw[hlen]⟩,lens,?_,?_⟩
      ·intro i hi j hj
       simp only[List.getElem_drop] at hj ⊢
       exact h1 _ _ _ _
      ·intro i hi j hj
       rw[news_getD _ (mul_lt_of hi (by have:=lens i hi;omega))]
       have hn1:=hnk _ (List.getElem_mem hi) _ (List.getElem_mem hj)
       simp only[List.getElem_drop] at hj hn1 ⊢
       have:=(hv (off+i) (by simp at hi;omega) j hj).noKid hn1
       rw[Nat.add_mul,Nat.add_assoc] at this
       rw[hk']
       exact this
 |_=>cases hs
theorem Src.oneCell {ys:List AV} {k:Nat} {x:Value} {news:List Value} (h:Src w e G ys k x news) (hk:0<k):∀u∈news,u.oneCell'=true:=by
 intro u hu
 obtain⟨p,hp,rfl⟩:=List.getElem_of_mem hu
 have hpl:p<ys.length*k:=by rw[<-h.len];exact hp
 have hi:p / k<ys.length:=(Nat.div_lt_iff_lt_mul hk).2 hpl
 have hj:p % k<ys[p / k].cells.length:=by rw[h.lens _ hi];exact Nat.mod_lt _ hk
 have h1:=(h.vals _ hi _ hj).oneCell (h.one _ hi _ hj)
 have e1:p / k*k+p % k=p:=by rw[Nat.mul_comm];exact Nat.div_add_mod p k
 rw[e1,List.getD_eq_getElem?_getD,List.getElem?_eq_getElem hp] at h1
 exact h1
theorem run_append_room_cl {P:Program} {w:World} (t ty:Nat) {el:Nat} {i:TypeInfo} (ht:P.underlying t=some (.slice el)) (hi:P.info? el=some i)
  (b sLen sCap:Nat) {cur:Array Value} (hg:Cl w b cur el) (a:Addr) (m c:Nat) (news:List Value) (hl:news.length=m*i.size) (hnews:∀j u,news[j]?=some u->w.cell? (a.add j)=some u)
  (h1:∀u∈news,u.oneCell'=true) (hroom:sLen+m<=sCap) (hfit:sLen*i.size+news.length<=cur.size):
  (Builtin.append_ #[t,t] ty #[.slice (some ⟨b,0,none⟩) sLen sCap, .slice (some a) m c]).run P w=
   .ok (.slice (some ⟨b,0,none⟩) (sLen+m) sCap) (w.setRow b (cur.toList.take (sLen*i.size)++news++cur.toList.drop (sLen*i.size+news.length)).toArray):=by
 obtain⟨fz,hg,hn⟩:=hg
 have hf:=run_firstCells_some (P:=P) w i.size m a m c news hl hnews
 have hst:=run_storeCells_cl (P:=P) (off:=sLen*i.size) news 0 cur w hg hn (by simpa using hfit) h1
 simp only[Nat.add_zero] at hst
 simp[Builtin.append_,run_underlying ht,sizeOf,typeInfo,hi,Builtin.lenOf,hroom,hf,Addr.add_lit,hst]
theorem run_append_zero {P:Program} {t el:Nat} {ei:TI} (hu:P.underlying t=some (.slice el)) (hf:TFit P el ei) (ty:Nat) (a a':Option Addr) (n cap cap':Nat) (hn:n<=cap) (w:World):
  (Builtin.append_ #[t,t] ty #[.slice a n cap, .slice a' 0 cap']).run P w= .ok (.slice a n cap) w:=by
 cases a<;>cases a'<;>simp[Builtin.append_,run_underlying hu,run_sizeOf' hf,Builtin.lenOf,hn,Builtin.firstCells,loadCells,loadCellsFrom,storeCells]
theorem run_append_new {P:Program} {t el:Nat} {ei:TI} (hu:P.underlying t=some (.slice el)) (hf:TFit P el ei) (ty:Nat) {a:Option Addr} {n cap m:Nat} {x:Value} {ys:List AV} {news olds:List Value}
  (ho:olds.length=n*ei.size) (hold:∀j v,olds[j]?=some v->∀ad,a=some ad->w.cell? (ad.add j)=some v) (hnil:a=none->n=0/\cap=0) (hs:Src w e G ys ei.size x news) (hm:ys.length=m) (hm0:0<m)
  (hcap:cap<n+m) (h63:n+m<=9223372036854775807) (h48:(n+m)*ei.bytes<=140737488355328):
  ∃nc zs,n+m<=nc/\nc<=maxLen/\zs.length=(nc - (n+m))*ei.size/\(Builtin.append_ #[t,t] ty #[.slice a n cap,x]).run P w=
   .ok (.slice (some ⟨w.heap.size,0,none⟩) (n+m) nc) (w.drew.alloc (.cells (olds++news++zs).toArray el)):=by
 obtain⟨ie,hi,hsz,hby,hz⟩:=hf.info
 obtain⟨b,off,cap',hx,hc⟩:=hs.at_.resolve_left (by omega)
 have hzz:(ei.zval).cells.size=ei.size:=by
  obtain⟨v1,v2,v3⟩:=zval_zav (w:=w) hf (fun _=>True)
  rw[(cells_valsD v1 v2).1,v3]
 subst hx
 rw[hm]
 have hln:news.length=m*ie.size:=by rw[hsz,hs.len,hm]
 refine⟨grownCap w (n+m) cap el,(Builtin.zeroCells ei.zval.cells (grownCap w (n+m) cap el - (n+m))).toList,grownCap_ge _ _ _ _,grownCap_le_maxLen _ _ _ _ (by simp only[maxLen];omega),?_,?_⟩
 ·rw[Array.length_toList,size_zeroCells,hzz]
 ·cases a with
  |none=>
   obtain⟨rfl,rfl⟩:=hnil rfl
   have ho':olds=[]:=List.eq_nil_of_length_eq_zero (by omega)
   subst ho'
   have:=run_append_nil (P:=P) w t ty el ie _ hu hi hz ⟨b,off,none⟩ m cap' news hln hc hm0 (by omega) (by rw[hby];simp only[Nat.zero_add] at h48;omega)
   simp only[Nat.zero_add,List.nil_append]
   rw[this]
   congr 3
   apply Array.ext'
   simp
  |some ad=>
   have:=run_append_grow (P:=P) w t ty el ie _ hu hi hz ad n cap olds (by rw[hsz];exact ho) (fun j v hj=>hold j v hj ad rfl) ⟨b,off,none⟩ m cap' news hln hc hcap (by omega)
    (growslice_fits (by omega) (by rw[hby];exact h48))
   rw[this]
   congr 3
   apply Array.ext'
   simp
theorem append_getD {olds news zs:List Value} {n m k i j:Nat} (ho:olds.length=n*k) (hn:news.length=m*k) (hi:i<n+m) (hj:j<k):
  ((olds++news++zs).toArray).getD (i*k+j) undef=if i<n then olds.getD (i*k+j) undef else news.getD ((i - n)*k+j) undef:=by
 rw[Array.getD_eq_getD_getElem?,List.getElem?_toArray]
 by_cases h:i<n
 ·rw[if_pos h,List.append_assoc,List.getElem?_append_left (by rw[ho];exact mul_lt_of h hj),List.getD_eq_getElem?_getD]
 ·rw[if_neg h]
  have h1:n*k<=i*k+j:=Nat.le_trans (Nat.mul_le_mul_right _ (by omega)) (Nat.le_add_right _ _)
  have h2:i*k+j<(n+m)*k:=mul_lt_of hi hj
  have h3:(i - n)*k=i*k - n*k:=Nat.sub_mul i n k
  have h4:n*k<=i*k:=Nat.mul_le_mul_right _ (by omega)
  rw[List.getElem?_append_left (by rw[List.length_append,ho,hn,<-Nat.add_mul];exact h2),List.getElem?_append_right (by omega),List.getD_eq_getElem?_getD,ho]
  congr 2
  omega
theorem cat_cells {es ys:List AV} {k n m:Nat} {olds news zs:List Value} (ho:olds.length=n*k) (hnw:news.length=m*k) (hn:es.length=n) (hm:ys.length=m)
  (hel:∀i (h:i<es.length),es[i].cells.length=k) (hyl:∀i (h:i<ys.length),ys[i].cells.length=k) {R:Nat->AV->Value->Prop}
  (hev:∀i (h:i<es.length) j (h':j<es[i].cells.length),R (i*k+j) es[i].cells[j] (olds.getD (i*k+j) undef))
  (hyv:∀i (h:i<ys.length) j (h':j<ys[i].cells.length),R ((n+i)*k+j) ys[i].cells[j] (news.getD (i*k+j) undef)):
  ∀i (h:i<(es++ys).length) j (h':j<(es++ys)[i].cells.length),R (i*k+j) (es++ys)[i].cells[j] (((olds++news++zs).toArray).getD (i*k+j) undef):=by
 intro i hi j hj
 have hi':i<n+m:=by simp at hi;omega
 by_cases h:i<es.length
 ·have hg:(es++ys)[i]=es[i]:=List.getElem_append_left h
  simp only[hg] at hj ⊢
  rw[append_getD ho hnw hi' (by have:=hel i h;omega),if_pos (by omega)]
  exact hev i h j hj
 ·have hg:(es++ys)[i]=ys[i - es.length]'(by simp at hi;omega):=List.getElem_append_right (by omega)
  simp only[hg] at hj ⊢
  have hlt:i - es.length<ys.length:=by simp at hi;omega
  rw[append_getD ho hnw hi' (by have:=hyl _ hlt;omega),if_neg (by omega)]
  subst hn
  have:=hyv _ hlt j hj
  rw[Nat.add_sub_cancel' (by omega)] at this
  exact this
theorem cat_lens {es ys:List AV} {k:Nat} (h1:∀i (h:i<es.length),es[i].cells.length=k) (h2:∀i (h:i<ys.length),ys[i].cells.length=k):
  ∀i (h:i<(es++ys).length),(es++ys)[i].cells.length=k:=by
 intro i hi
 rw[List.getElem_append]
 split
 ·exact h1 _ _
 ·exact h2 _ _
theorem cat_ones {es ys:List AV} (h1:∀i (h:i<es.length) j (h':j<es[i].cells.length),es[i].cells[j].one=true) (h2:∀i (h:i<ys.length) j (h':j<ys[i].cells.length),ys[i].cells[j].one=true):
  ∀i (h:i<(es++ys).length) j (h':j<(es++ys)[i].cells.length),(es++ys)[i].cells[j].one=true:=by
 intro i hi j hj
 by_cases h:i<es.length
 ·have hg:(es++ys)[i]=es[i]:=List.getElem_append_left h
  simp only[hg] at hj ⊢
  exact h1 _ _ _ _
 ·have hg:(es++ys)[i]=ys[i - es.length]'(by simp at hi;omega):=List.getElem_append_right (by omega)
  simp only[hg] at hj ⊢
  exact h2 _ _ _ _
theorem esR_uniq:∀{ys:List AV},(esR ys).Nodup->∀{i i' j j':Nat} (hi:i<ys.length) (hi':i'<ys.length) (hj:j<ys[i].cells.length) (hj':j'<ys[i'].cells.length) {id:Nat},attR ys[i].cells[j]=[id]->attR ys[i'].cells[j']=[id]->i=i'/\j=j'
 |[],_,i,_,_,_,hi,_,_,_,_,_,_=>by simp at hi
 |y::ys,h,i,i',j,j',hi,hi',hj,hj',id,h1,h2=>by
  unfold esR at h
  rw[List.flatMap_cons,List.nodup_append] at h
  obtain⟨h3,h4,h5⟩:=h
  match i,i' with
  |0,0=>
   refine⟨rfl,?_⟩
   simp only[List.getElem_cons_zero] at h1 h2 hj hj'
   exact attR_uniq h3 hj hj' h1 h2
  |0,i'+1=>
   simp only[List.getElem_cons_zero] at h1 hj
   simp only[List.getElem_cons_succ] at h2 hj'
   exact absurd rfl (h5 id (List.mem_flatMap.2 ⟨_,List.getElem_mem hj,by rw[h1];simp⟩) id (List.mem_flatMap.2 ⟨_,List.getElem_mem (by simpa using hi'),List.mem_flatMap.2 ⟨_,List.getElem_mem hj',by rw[h2];simp⟩⟩))
  |i+1,0=>
   simp only[List.getElem_cons_zero] at h2 hj'
   simp only[List.getElem_cons_succ] at h1 hj
   exact absurd rfl (h5 id (List.mem_flatMap.2 ⟨_,List.getElem_mem hj',by rw[h2];simp⟩) id (List.mem_flatMap.2 ⟨_,List.getElem_mem (by simpa using hi),List.mem_flatMap.2 ⟨_,List.getElem_mem hj,by rw[h1];simp⟩⟩))
  |i+1,i'+1=>
   simp only[List.getElem_cons_succ] at h1 h2 hj hj'
   obtain⟨h6,h7⟩:=esR_uniq (ys:=ys) h4 (by simpa using hi) (by simpa using hi') hj hj' h1 h2
   exact⟨by rw[h6],h7⟩
theorem attach_tail {id gi t k:Nat} {es ys:List AV} (hr:HRel w e G ((id,some (gi, .own t k (es++ys)))::hp)) (hid:id∉esR ys) (hP:∀y∈ys,∀c∈y.cells,attP hp c) (hnd:(esR ys).Nodup):
  ∃e',HRel w e' G ((id,some (gi, .own t k (es++ys.map (mapc (att hp)))))::drops (esR ys)++hp)/\Ext w e G w e' G/\e'.z=e.z/\(∀b,OwnB e' b->OwnB e b):=by
 obtain⟨_,_,_,_,hor⟩:=hr.live id _ _ (Hp.get_cons_same _ _ _)
 have hkl:=hor.2.2.2.1
 have hone:∀y∈ys,∀c∈y.cells,c.one=true:=fun y hy c hc=>attP_one (hP y hy c hc)
 have agree:∀y∈ys,∀c∈y.cells,att ((id,some (gi,Ob.own t k (es++ys)))::hp) c=att hp c/\(attP ((id,some (gi,Ob.own t k (es++ys)))::hp) c↔attP hp c):=by
  intro y hy c hc
  exact att_agree fun a ha'=>Hp.get_cons_other _ _ (fun h=>hid (List.mem_flatMap.2 ⟨y,hy,List.mem_flatMap.2 ⟨c,hc,h ▸ ha'⟩⟩))
 have e1:∀i (h:i<(es++ys).length),es.length<=i->∃h':i - es.length<ys.length,(es++ys)[i]=ys[i - es.length]:=by
  intro i h hle
  have hlt:i - es.length<ys.length:=by simp at h;omega
  exact⟨hlt,List.getElem_append_right hle⟩
 have e2:∀i (h:i<(es++ys.map (mapc (att hp))).length),es.length<=i->∃h':i - es.length<ys.length,(es++ys.map (mapc (att hp)))[i]=mapc (att hp) ys[i - es.length]:=by
  intro i h hle
  have hlt:i - es.length<ys.length:=by simp at h;omega
  exact⟨hlt,by rw[List.getElem_append_right hle];simp⟩
 have key:=attach_ok hr (fun a _=>es.length<=a) (es':=es++ys.map (mapc (att hp))) (D:=esR ys) (Hp.get_cons_same _ _ _) hid (by simp)
 refine Exists.elim (key ?_ ?_ ?_ ?_) ?_
 ·intro a ha
  have ha':a<(es++ys).length:=by simpa using ha
  by_cases hle:es.length<=a
  ·obtain⟨h1,h2⟩:=e2 a ha hle
   obtain⟨h3,h4⟩:=e1 a ha' hle
   rw[h2,mapatt_cells (hone _ (List.getElem_mem _)),List.length_map,<-h4]
   exact hkl a ha'
  ·rw[List.getElem_append_left (by omega)]
   have:=hkl a ha'
   rw[List.getElem_append_left (by omega)] at this
   exact this
 ·intro a ha ha' j hj hj'
  by_cases hle:es.length<=a
  ·obtain⟨h1,h2⟩:=e2 a ha' hle
   obtain⟨h3,h4⟩:=e1 a ha hle
   have hy:=List.getElem_mem h3
   simp only[h2,h4] at hj hj' ⊢
   have hcell:(mapc (att hp) ys[a - es.length]).cells[j]=att hp (ys[a - es.length].cells[j]):=by
    simp only[mapatt_cells (hone _ hy),List.getElem_map]
   rw[hcell]
   have hmem:=List.getElem_mem hj
   rcases attR_cases (ys[a - es.length].cells[j]) with ⟨_,h5⟩|⟨id',h5⟩
   ·exact .inl (h5 hp)
   ·exact .inr ⟨hle,id',List.mem_flatMap.2 ⟨_,hy,List.mem_flatMap.2 ⟨_,hmem,by rw[h5];simp⟩⟩,h5,(agree _ hy _ hmem).2.2 (hP _ hy _ hmem),(agree _ hy _ hmem).1.symm⟩
  ·have h2:(es++ys.map (mapc (att hp)))[a]=es[a]'(by omega):=List.getElem_append_left (by omega)
   have h4:(es++ys)[a]=es[a]'(by omega):=List.getElem_append_left (by omega)
   simp only[h2,h4]
   exact .inl trivial
 ·intro id' hid'
  obtain⟨y,hy,hid'⟩:=List.mem_flatMap.1 hid'
  obtain⟨c,hc,hid'⟩:=List.mem_flatMap.1 hid'
  obtain⟨i,hi,rfl⟩:=List.getElem_of_mem hy
  obtain⟨j,hj,rfl⟩:=List.getElem_of_mem hc
  have g1:(es++ys)[es.length+i]'(by simp;omega)=ys[i]:=by rw[List.getElem_append_right (by omega)];simp
  have g2:(es++ys.map (mapc (att hp)))[es.length+i]'(by simp;omega)=mapc (att hp) ys[i]:=by rw[List.getElem_append_right (by omega)];simp
  refine⟨es.length+i,j,by simp;omega,by simp;omega,?_⟩
  simp only[g1,g2]
  refine⟨hj,by rw[mapatt_cells (hone _ hy),List.length_map];exact hj,?_⟩
  rcases attR_cases (ys[i].cells[j]) with ⟨h5,_⟩|⟨id2,h5⟩
  ·rw[h5] at hid';cases hid'
  ·rw[h5] at hid' ⊢;simp at hid';rw[hid']
 ·intro id' hid' a j a' j' ha hj ha' hj' hA hA' h1 h2
  obtain⟨q1,q2⟩:=e1 a ha hA
  obtain⟨q3,q4⟩:=e1 a' ha' hA'
  simp only[q2] at hj h1
  simp only[q4] at hj' h2
  obtain⟨q5,q6⟩:=esR_uniq hnd q1 q3 hj hj' h1 h2
  exact⟨by omega,q6⟩
 ·rintro e' ⟨a1,a2,a3,a4,_,_⟩
  refine⟨e',a1.congr (fun _=>Iff.rfl) fun j=>?_,a2,a3,a4⟩
  simp only[List.cons_append]
  by_cases hj:j=id
  ·subst hj;rw[Hp.get_cons_same,Hp.get_cons_same]
  ·rw[Hp.get_cons_other _ _ hj,Hp.get_cons_other _ _ hj]
   unfold drops
   rw[get_drops,get_drops,Hp.get_cons_other _ _ hj]
theorem OpOk.attach {id gi t k:Nat} {es ys:List AV} {P:Prop} {v:AV} {res:Result Next} (h:OpOk C e G g hp w (P,v,[(id,some (gi, .own t k (es++ys)))]) res) (hid:id∉esR ys)
  (hP:∀y∈ys,∀c∈y.cells,attP hp c) (hnd:(esR ys).Nodup) {Q:Prop}:OpOk C e G g hp w (Q,v,(id,some (gi, .own t k (es++ys.map (mapc (att hp)))))::drops (esR ys)) res:=by
 obtain⟨nx,w',e',r1,r2,r3,r4,r5,r6⟩:=h
 obtain⟨e'',a1,a2,a3,a4⟩:=attach_tail r2 hid hP hnd
 refine⟨nx,w',e'',r1,a1,r3.trans a2,⟨a3.trans r4.zeq,r4.zlt,r4.ext.trans a2,fun b hb=>r4.mine b (a4 b hb)⟩,r5,?_⟩
 rcases r6 with ⟨xv,h1,h2⟩|h
 ·exact .inl ⟨xv,h1,h2.ext a2⟩
 ·exact .inr h
theorem attP_noKid {c:AV} (h:attP hp c):c.noKid=true:=by cases c<;>first|rfl|exact h.elim
theorem append_nil_ok (p:Pre C e G g hp w) {t el did ty:Nat} {ei:TI} (hu:C.P.underlying t=some (.slice el)) (hf:TFit C.P el ei) (hs:ei.size≠0) {a:Option Addr} {x:Value} {ys:List AV} {news:List Value}
  (hsrc:Src w e G ys ei.size x news) (h48:ys.length*ei.bytes<=140737488355328) (h63:ys.length<=9223372036854775807) {P:Prop}:
  OpOk C e G g hp w (P, .slO did g 0 ys.length,[(did,some (g, .own el ei.size ys))]) (((Builtin.append_ #[t,t] ty #[.slice a 0 0,x]).run C.P w).andThen fun v w=> .ok (.value v) w):=by
 have hpos:0<ei.size:=by omega
 by_cases hm:ys.length=0
 ·have hy:ys=[]:=List.eq_nil_of_length_eq_zero hm
  subst hy
  obtain⟨a',cap',rfl⟩:=hsrc.shape
  have hrun:=run_append_zero (P:=C.P) hu hf ty a a' 0 0 cap' (Nat.le_refl _) w
  simp only[List.length_nil] at hrun ⊢
  rw[hrun,Result.andThen_ok]
  refine mk_obj p (Grow.refl w) (ee:=⟨g,none,ei.size,0⟩) rfl (by simp) ?_ ?_
  ·exact⟨rfl,rfl,hpos,by simp,by simp,rfl⟩
  refine .slO _ _ _ _ _ (.inr rfl) rfl fun ee he _=>?_
  rw[eset_same] at he;cases he
  exact⟨Nat.le_refl _,fun _=>⟨rfl,rfl,a,rfl⟩⟩
 ·obtain⟨nc,zs,h1,h2,h3,hrun⟩:=run_append_new (P:=C.P) (w:=w) hu hf ty (a:=a) (n:=0) (cap:=0) (olds:=[]) (by simp) (by simp) (fun _=>⟨rfl,rfl⟩) hsrc rfl (by omega) (by omega) (by omega) (by simpa using h48)
  rw[hrun,Result.andThen_ok]
  simp only[Nat.zero_add] at h1 h3 ⊢
  refine mk_obj' p (Grow.drew_alloc w _) (ee:=⟨g,some (w.heap.size,nc),ei.size,ys.length⟩) rfl (by rintro b c ⟨⟩;exact⟨Nat.le_refl _,by rw[show(w.drew.alloc _).heap.size=w.heap.size+1 from size_new w.drew _];omega⟩) (fun x2=>?_) ?_
  ·refine⟨rfl,rfl,hpos,hsrc.lens,hsrc.one,h2,h1,_,(.of (heap_new w.drew _)),?_,?_⟩
   ·rw[List.size_toArray,List.length_append,List.length_append,hsrc.len,h3,List.length_nil,Nat.zero_add,<-Nat.add_mul];congr 1;omega
   ·intro i hi j hj
    have:=cat_cells (R:=fun _ v x=>VR w (UE e) e G v x) (es:=[]) (ys:=ys) (zs:=zs) (olds:=[]) (n:=0) (m:=ys.length) (by simp) hsrc.len rfl rfl (by simp) hsrc.lens (by simp) hsrc.vals i (by simpa using hi) j (by simpa using hj)
    exact .val _ _ (VR.ext x2 (by simpa using this))
  ·refine .slO _ _ _ _ _ (.inr rfl) rfl fun ee he _=>?_
   rw[eset_same] at he;cases he
   refine⟨by simp,fun _=>⟨nc,by simp,by simp,h1⟩⟩
theorem append_full_ok (p:Pre C e G g hp w) {t el did ty:Nat} {ei:TI} (hu:C.P.underlying t=some (.slice el)) (hf:TFit C.P el ei) (hs:ei.size≠0) {es ys:List AV} {xd x:Value} {news:List Value}
  (hd:VR w (UE e) e G (.sl es true) xd) (hes:∀y∈es,y.cells.length=ei.size) (hnk:∀y∈es,∀c∈y.cells,c.noKid=true) (hsrc:Src w e G ys ei.size x news) (hym:0<ys.length)
  (h48:(es.length+ys.length)*ei.bytes<=140737488355328) (h63:es.length+ys.length<=9223372036854775807) {P:Prop}:
  OpOk C e G g hp w (P, .slO did g 0 (es.length+ys.length),[(did,some (g, .own el ei.size (es++ys)))]) (((Builtin.append_ #[t,t] ty #[xd,x]).run C.P w).andThen fun v w=> .ok (.value v) w):=by
 have hpos:0<ei.size:=by omega
 obtain⟨olds,hsd⟩:=src_ok p.hr hd (show srcP hp (.sl es true) from trivial) rfl hpos hes hnk
 obtain⟨a,cap,rfl,_,hfull⟩:=hd.slice_cap
 obtain rfl:cap=es.length:=hfull rfl
 have hold:∀j v,olds[j]?=some v->∀ad,a=some ad->w.cell? (ad.add j)=some v:=by
  intro j v hj ad had
  rcases hsd.at_ with h0|⟨b,off,cap,hx,hc⟩
  ·have hl:=hsd.len
   rw[h0,Nat.zero_mul] at hl
   have:olds=[]:=List.eq_nil_of_length_eq_zero hl
   subst this
   simp at hj
  ·cases hx
   cases had
   exact hc j v hj
 have hnil:a=none->es.length=0/\es.length=0:=by
  intro hn
  rcases hsd.at_ with h0|⟨b,off,cap,hx,hc⟩
  ·exact⟨h0,h0⟩
  ·cases hx;cases hn
 obtain⟨nc,zs,h1,h2,h3,hrun⟩:=run_append_new (P:=C.P) (w:=w) hu hf ty (a:=a) (n:=es.length) (cap:=es.length) (olds:=olds) hsd.len hold hnil hsrc rfl hym (by omega) h63 h48
 rw[hrun,Result.andThen_ok]
 refine mk_obj' p (Grow.drew_alloc w _) (ee:=⟨g,some (w.heap.size,nc),ei.size,es.length+ys.length⟩) rfl (by rintro b c ⟨⟩;exact⟨Nat.le_refl _,by rw[show(w.drew.alloc _).heap.size=w.heap.size+1 from size_new w.drew _];omega⟩) (fun x2=>?_) ?_
 ·refine⟨rfl,by simp,hpos,cat_lens hsd.lens hsrc.lens,cat_ones hsd.one hsrc.one,h2,by simpa using h1,_,(.of (heap_new w.drew _)),?_,?_⟩
  ·rw[List.size_toArray,List.length_append,List.length_append,hsd.len,hsrc.len,h3,<-Nat.add_mul,<-Nat.add_mul];congr 1;omega
  ·intro i hi j hj
   have:=cat_cells (R:=fun _ v x=>VR w (UE e) e G v x) (es:=es) (ys:=ys) (zs:=zs) (olds:=olds) (n:=es.length) (m:=ys.length) hsd.len hsrc.len rfl rfl hsd.lens hsrc.lens hsd.vals hsrc.vals i hi j hj
   exact .val _ _ (VR.ext x2 this)
 ·refine .slO _ _ _ _ _ (.inr rfl) rfl fun ee he _=>?_
  rw[eset_same] at he;cases he
  refine⟨by simp,fun _=>⟨nc,by simp,by simp,h1⟩⟩
theorem append_own_ok (p:Pre C e G g hp w) {t el id ty g':Nat} {ei:TI} (hu:C.P.underlying t=some (.slice el)) (hf:TFit C.P el ei) (hs:ei.size≠0) {es ys:List AV} {xd x:Value} {news:List Value}
  (hd:VR w (UE e) e G (.slO id g' 0 es.length) xd) (hg:hp.get id=some (g', .own el ei.size es)) (hsrc:Src w e G ys ei.size x news) (h48:(es.length+ys.length)*ei.bytes<=140737488355328)
  (h63:es.length+ys.length<=9223372036854775807) {P:Prop}:
  OpOk C e G g hp w (P, .slO id g' 0 (es.length+ys.length),[(id,some (g', .own el ei.size (es++ys)))]) (((Builtin.append_ #[t,t] ty #[xd,x]).run C.P w).andThen fun v w=> .ok (.value v) w):=by
 classical
 have hpos:0<ei.size:=by omega
 obtain⟨ee,he,hgg,hn,hok,hor⟩:=slO_val p.hr hd hg (by omega)
 have hGe:=p.hr.gen id ee he
 obtain⟨hk,_,_,hel,q1,hb⟩:=hor
 by_cases hm:ys.length=0
 ·-- nothing new
  have hy:ys=[]:=List.eq_nil_of_length_eq_zero hm
  subst hy
  obtain⟨a',cap',rfl⟩:=hsrc.shape
  have hrun:(Builtin.append_ #[t,t] ty #[xd, .slice a' 0 cap']).run C.P w= .ok xd w:=by
   have hcap:∃a cap,xd= .slice a es.length cap/\es.length<=cap:=by
    unfold SlOK at hok
    cases hbl:ee.blk with
    |none=>rw[hbl] at hok;obtain⟨_,h0,a,rfl⟩:=hok;exact⟨a,0,by rw[h0],by omega⟩
    |some q=>
     obtain⟨b,bc⟩:=q
     rw[hbl] at hok
     obtain⟨cap,rfl,_,hc⟩:=hok
     exact⟨_,cap,rfl,hc⟩
   obtain⟨a,cap,rfl,hc⟩:=hcap
   exact run_append_zero hu hf ty a a' es.length cap cap' hc w
  simp only[List.length_nil] at hrun ⊢
  rw[hrun,Result.andThen_ok]
  simp only[List.append_nil,Nat.add_zero]
  have x1:=Ext.wide w e G g
  refine⟨_,w,e,rfl,p.hr.wide.congr (fun _=>Iff.rfl) fun j=>?_,x1,p.ln.wide g,p.fr, .inl ⟨xd,rfl,hd.ext x1⟩⟩
  simp only[List.cons_append,List.nil_append]
  by_cases hj:j=id
  ·subst hj;rw[Hp.get_cons_same,hg]
  ·rw[Hp.get_cons_other _ _ hj]
 ·have hym:0<ys.length:=by omega
  have grow:∀(a:Option Addr) (cap:Nat) (olds:List Value),xd= .slice a es.length cap->cap<es.length+ys.length->olds.length=es.length*ei.size->
    (∀j v,olds[j]?=some v->∀ad,a=some ad->w.cell? (ad.add j)=some v)->(a=none->es.length=0/\cap=0)->
    ((∀b bcap,ee.blk=some (b,bcap)->∀i (h:i<es.length) j (h':j<es[i].cells.length),VC w e G b (i*ei.size+j) es[i].cells[j] (olds.getD (i*ei.size+j) undef))/\(ee.blk=none->es=[]))->
    OpOk C e G g hp w (P, .slO id g' 0 (es.length+ys.length),[(id,some (g', .own el ei.size (es++ys)))]) (((Builtin.append_ #[t,t] ty #[xd,x]).run C.P w).andThen fun v w=> .ok (.value v) w):=by
   rintro a cap olds rfl hcap r1 r2 r3 ⟨r5,r6⟩
   obtain⟨nc,zs,h1,h2,h3,hrun⟩:=run_append_new (P:=C.P) (w:=w) hu hf ty (a:=a) (n:=es.length) (cap:=cap) (olds:=olds) r1 r2 r3 hsrc rfl hym hcap h63 h48
   rw[hrun,Result.andThen_ok]
   have hgw:=Grow.drew_alloc w (.cells (olds++news++zs).toArray el)
   have hsz:(w.drew.alloc (.cells (olds++news++zs).toArray el)).heap.size=w.heap.size+1:=size_new w.drew _
   generalize hW:w.drew.alloc (.cells (olds++news++zs).toArray el)=w' at hgw hsz
   have hnew:w'.heap[w.heap.size]?=some (.cells (olds++news++zs).toArray el (0,0)):=by rw[<-hW];exact heap_new w.drew _
   let kd:Nat->Option (Nat×Nat):=fun b=>match e.kid b with
    |some (B,c)=>if(∃cap,ee.blk=some (B,cap)) then some (w.heap.size,c) else some (B,c)
    |none=>none
   have kd1:∀b B c,kd b=some (B,c)->∃B0,e.kid b=some (B0,c)/\((∃cap,ee.blk=some (B0,cap))/\B=w.heap.size\/(¬(∃cap,ee.blk=some (B0,cap))/\B=B0)):=by
    intro b B c h
    simp only[kd] at h
    split at h
    ·rename_i B0 c0 hk0
     split at h
     ·rename_i hx;simp only[Option.some.injEq,Prod.mk.injEq] at h;obtain⟨rfl,rfl⟩:=h;exact⟨_,hk0, .inl ⟨hx,rfl⟩⟩
     ·rename_i hx;simp only[Option.some.injEq,Prod.mk.injEq] at h;obtain⟨rfl,rfl⟩:=h;exact⟨_,hk0, .inr ⟨hx,rfl⟩⟩
    ·cases h
   have kd2:∀b B c,e.kid b=some (B,c)->¬(∃cap,ee.blk=some (B,cap))->kd b=some (B,c):=by
    intro b B c h hx
    simp only[kd,h,if_neg hx]
   have kd3:∀b B c cap,e.kid b=some (B,c)->ee.blk=some (B,cap)->kd b=some (w.heap.size,c):=by
    intro b B c cap h hx
    simp only[kd,h,if_pos (show ∃cap,ee.blk=some (B,cap) from⟨cap,hx⟩)]
   have kd4:∀b,e.kid b=none->kd b=none:=by
    intro b h;simp only[kd,h]
   generalize hkd:kd=kd' at kd1 kd2 kd3 kd4
   clear hkd kd
   generalize hE:(⟨fun j=>if j=id then some ⟨g',some (w.heap.size,nc),ei.size,es.length+ys.length⟩ else e j,e.z,kd'⟩:Env)=e'
   have e1:e' id=some ⟨g',some (w.heap.size,nc),ei.size,es.length+ys.length⟩:=by subst hE;simp
   have e2:∀j,j≠id->e' j=e j:=by intro j hj;subst hE;simp[hj]
   have e3:e'.z=e.z:=by subst hE;rfl
   have e4:e'.kid=kd':=by subst hE;rfl
   have hObj:∀b,ObjB e' b->b=w.heap.size\/(ObjB e b/\¬∃cap,ee.blk=some (b,cap)):=by
    rintro b ⟨j,ej,c,h1,h2⟩
    by_cases hj:j=id
    ·subst hj;rw[e1] at h1;cases h1;cases h2;exact .inl rfl
    ·rw[e2 j hj] at h1
     refine .inr ⟨⟨j,ej,c,h1,h2⟩,?_⟩
     rintro⟨cap',h3⟩
     exact hj (p.hr.inj _ _ _ _ _ _ _ h1 he h2 h3)
   have hOwn:∀b,b<w.heap.size->OwnB e' b->OwnB e b:=by
    rintro b hlt (ho|⟨B,c,hk',ho⟩)
    ·rcases hObj b ho with rfl|⟨h,_⟩
     ·omega
     ·exact .inl h
    ·rw[e4] at hk'
     obtain⟨B0,h1,h2⟩:=kd1 _ _ _ hk'
     rcases h2 with ⟨⟨cap',h2⟩,rfl⟩|⟨h2,rfl⟩
     ·exact .inr ⟨B0,c,h1,⟨id,ee,cap',he,h2⟩⟩
     ·rcases hObj B ho with rfl|⟨h,_⟩
      ·have:=(p.hr.kl _ _ _ h1).2.1;omega
      ·exact .inr ⟨B,c,h1,h⟩
   have ext:Ext w e G w' e' (gadd G g):=by
    refine Ext.mk' hgw.size (fun _ h=> .inl h) e3 hOwn (fun b hb _=>hgw.same b hb) fun j ej hj hG=>?_
    by_cases hjd:j=id
    ·subst hjd;rw[e1] at hj;cases hj
     exact⟨ee,he,hgg,hk, .inr (by rw[hn];show es.length<es.length+ys.length;omega)⟩
    ·rw[e2 j hjd] at hj;exact⟨ej,hj,rfl,rfl, .inl ⟨rfl,rfl⟩⟩
   refine⟨_,w',e',rfl,?_,ext,p.ln.step p.fr.size ext e3 hOwn,p.fr.grow hgw, .inl ⟨_,rfl,?_⟩⟩
   ·refine p.hr.step (fun j=>j=id) ext e3 (fun j hj=>⟨e2 j hj,by simp only[List.cons_append,List.nil_append];rw[Hp.get_cons_other _ _ hj]⟩) (fun j ej b1 c1 hj hej hbj=>⟨hgw.same b1 (p.hr.lt _ _ _ _ hej hbj),fun b2 c2 hk2=>⟨hgw.same b2 (p.hr.kl _ _ _ hk2).1,?_⟩⟩)
     (fun j hj hnn=>by subst hj;simp only[List.cons_append,List.nil_append] at hnn;rw[Hp.get_cons_same] at hnn;cases hnn) (fun j gj obj hj hgj=>?_) (fun j ej b1 c1 hj hej hbj=>?_) (fun b1 B c1 hk1=>?_) (fun b1 ho=>?_) (fun b1 B c1 hk1=>?_)
    ·rw[e4]
     refine kd2 _ _ _ hk2 ?_
     rintro⟨cap',h⟩
     exact hj (p.hr.inj _ _ _ _ _ _ _ hej he hbj h)
    ·subst hj;simp only[List.cons_append,List.nil_append] at hgj;rw[Hp.get_cons_same] at hgj;cases hgj
     refine⟨_,e1,rfl, .inl (by rw[<-hgg];exact hGe),rfl,by simp,hpos,cat_lens hel hsrc.lens,cat_ones q1 hsrc.one,h2,by simpa using h1,_,(.of hnew),?_,?_⟩
     ·rw[List.size_toArray,List.length_append,List.length_append,r1,hsrc.len,h3,<-Nat.add_mul,<-Nat.add_mul];congr 1;omega
     ·refine cat_cells (R:=fun c v x=>VC w' e' (gadd G g) w.heap.size c v x) (zs:=zs) r1 hsrc.len rfl rfl hel hsrc.lens (fun i hi j hj=>?_) (fun i hi j hj=> .val _ _ ((hsrc.vals i hi j hj).ext ext))
      cases hbl:ee.blk with
      |none=>have:=r6 hbl;subst this;simp at hi
      |some q=>
       obtain⟨b,bcap⟩:=q
       refine(r5 b bcap hbl i hi j hj).ext ext fun b1 hb1=>⟨hgw.same b1 (p.hr.kl _ _ _ hb1).1,?_⟩
       rw[e4];exact kd3 _ _ _ bcap hb1 hbl
    ·subst hj;rw[e1] at hej;cases hej;cases hbj
     refine⟨by omega,not_z p.ln p.fr (Nat.le_refl _),fun j' ej' c' hj' hbj'=>?_⟩
     by_cases h:j'=j
     ·exact h
     ·rw[e2 j' h] at hj'
      have:=p.hr.lt _ _ _ _ hj' hbj'
      omega
    ·rw[e4] at hk1
     obtain⟨B0,h1,h2⟩:=kd1 _ _ _ hk1
     obtain⟨q1,q2,q3⟩:=p.hr.kl _ _ _ h1
     refine⟨by omega,?_,q3⟩
     rcases h2 with ⟨_,rfl⟩|⟨_,rfl⟩<;>omega
    ·rw[e4]
     rcases hObj b1 ho with rfl|⟨h,_⟩
     ·refine kd4 _ ?_
      cases hk1:e.kid w.heap.size with
      |none=>rfl
      |some q=>have:=(p.hr.kl _ q.1 q.2 hk1).1;omega
     ·exact kd4 _ (p.hr.ko _ h)
    ·rw[e4] at hk1 ⊢
     obtain⟨B0,h1,h2⟩:=kd1 _ _ _ hk1
     rcases h2 with ⟨_,rfl⟩|⟨_,rfl⟩
     ·refine kd4 _ ?_
      cases hk1:e.kid w.heap.size with
      |none=>rfl
      |some q=>have:=(p.hr.kl _ q.1 q.2 hk1).1;omega
     ·exact kd4 _ (p.hr.kk _ _ _ h1)
   ·refine .slO _ _ _ _ _ (.inl (by rw[<-hgg];exact hGe)) rfl fun ee' he' _=>?_
    rw[e1] at he';cases he'
    exact⟨by simp,fun _=>⟨nc,by simp,by simp,h1⟩⟩
  unfold SlOK at hok
  cases hbl:ee.blk with
  |none=>
   rw[hbl] at hok hb
   obtain⟨_,h0,a,rfl⟩:=hok
   subst hb
   exact grow a 0 [] rfl (by omega) (by simp) (by simp) (fun _=>⟨rfl,rfl⟩) ⟨fun _ _ h=>(by rw[hbl] at h;cases h),fun _=>rfl⟩
  |some q=>
   obtain⟨b,bcap⟩:=q
   rw[hbl] at hok hb
   obtain⟨cap,rfl,hcp,hlc⟩:=hok
   obtain⟨hmx,hlb,cs,hh,hsz,hv⟩:=hb
   simp only[Nat.zero_add] at hcp
   subst hcp
   have hfit:es.length*ei.size<=cs.size:=by rw[hsz];exact Nat.mul_le_mul_right _ hlb
   by_cases hroom:es.length+ys.length<=cap
   ·obtain⟨b',off',cap',hx',hc'⟩:=hsrc.at_.resolve_left (by omega)
    obtain⟨ie,hi,hisz,_,_⟩:=hf.info
    have hfit2:es.length*ei.size+news.length<=cs.size:=by rw[hsrc.len,hsz,<-Nat.add_mul];exact Nat.mul_le_mul_right _ hroom
    have hrun:=run_append_room_cl (P:=C.P) t ty hu hi b es.length cap hh ⟨b',off',none⟩ ys.length cap' news (by rw[hisz];exact hsrc.len) hc' (hsrc.oneCell hpos) hroom (by rw[hisz];exact hfit2)
    rw[<-hx'] at hrun
    simp only[Nat.zero_mul]
    rw[hrun,Result.andThen_ok,hisz]
    have hbo:ObjB e b:=⟨id,ee,cap,he,hbl⟩
    generalize hcs':(cs.toList.take (es.length*ei.size)++news++cs.toList.drop (es.length*ei.size+news.length)).toArray=cs'
    have e1:eset e id (some ⟨g',some (b,cap),ei.size,es.length+ys.length⟩) id=some ⟨g',some (b,cap),ei.size,es.length+ys.length⟩:=eset_same _ _ _
    have hObj:∀b1,ObjB (eset e id (some ⟨g',some (b,cap),ei.size,es.length+ys.length⟩)) b1->ObjB e b1:=by
     rintro b1 ⟨j,ej,c1,q1,q2⟩
     by_cases hj:j=id
     ·subst hj;rw[e1] at q1;cases q1;cases q2;exact hbo
     ·rw[eset_other _ _ hj] at q1;exact⟨j,ej,c1,q1,q2⟩
    have hOwn:∀b1,OwnB (eset e id (some ⟨g',some (b,cap),ei.size,es.length+ys.length⟩)) b1->OwnB e b1:=by
     rintro b1 (ho|⟨B,c1,hk1,ho⟩)
     ·exact .inl (hObj _ ho)
     ·exact .inr ⟨B,c1,hk1,hObj _ ho⟩
    have hother:∀b',¬OwnB e b'->(w.setRow b cs').heap[b']?=w.heap[b']?:=fun b' hu'=>setRow_other w b b' cs' (by rintro rfl;exact hu' (.inl hbo))
    have ext:Ext w e G (w.setRow b cs') (eset e id (some ⟨g',some (b,cap),ei.size,es.length+ys.length⟩)) (gadd G g):=by
     refine Ext.mk' (by simp) (fun _ h=> .inl h) rfl (fun b1 _ ho=>hOwn b1 ho) (fun b' _ hu'=>hother b' hu') fun j ej hj hG=>?_
     by_cases hjd:j=id
     ·subst hjd;rw[e1] at hj;cases hj
      exact⟨ee,he,hgg,hk, .inr (by rw[hn];show es.length<es.length+ys.length;omega)⟩
     ·rw[eset_other _ _ hjd] at hj;exact⟨ej,hj,rfl,rfl, .inl ⟨rfl,rfl⟩⟩
    have kidne:∀b2 B2 c2,e.kid b2=some (B2,c2)->b2≠b:=by
     rintro b2 B2 c2 hk2 rfl
     have:=p.hr.ko b2 hbo
     rw[hk2] at this;cases this
    refine⟨_,_,_,rfl,?_,ext,p.ln.step p.fr.size ext rfl (fun b1 _ ho=>hOwn b1 ho),p.fr.step p.ln rfl rfl rfl (by simp) (fun b' _ hu'=>hother b' hu'), .inl ⟨_,rfl,?_⟩⟩
    ·refine p.hr.step (fun j=>j=id) ext rfl (fun j hj=>⟨eset_other _ _ hj,by simp only[List.cons_append,List.nil_append];rw[Hp.get_cons_other _ _ hj]⟩)
      (fun j ej b1 c1 hj hej hbj=>⟨setRow_other w b b1 cs' ?_,fun b2 c2 hk2=>⟨setRow_other w b b2 cs' (kidne _ _ _ hk2),hk2⟩⟩)
      (fun j hj hnn=>by subst hj;simp only[List.cons_append,List.nil_append] at hnn;rw[Hp.get_cons_same] at hnn;cases hnn) (fun j gj obj hj hgj=>?_) (fun j ej b1 c1 hj hej hbj=>?_)
      (fun b1 B c1 hk1=>by simpa using p.hr.kl b1 B c1 hk1) (fun b1 ho=>p.hr.ko b1 (hObj _ ho)) p.hr.kk
     ·rintro rfl;exact hj (p.hr.inj _ _ _ _ _ _ _ hej he hbj hbl)
     ·subst hj;simp only[List.cons_append,List.nil_append] at hgj;rw[Hp.get_cons_same] at hgj;cases hgj
      refine⟨_,e1,rfl, .inl (by rw[<-hgg];exact hGe),rfl,by simp,hpos,cat_lens hel hsrc.lens,cat_ones q1 hsrc.one,hmx,by simpa using hroom,_,hh.setRow ?_,?_,?_⟩
      ·subst hcs';simp only[List.size_toArray,List.length_append,List.length_take,List.length_drop,Array.length_toList];omega
      ·subst hcs';simp only[List.size_toArray,List.length_append,List.length_take,List.length_drop,Array.length_toList];omega
      ·subst hcs'
       have r1:(cs.toList.take (es.length*ei.size)).length=es.length*ei.size:=by simp;omega
       refine cat_cells (R:=fun c v x=>VC _ _ (gadd G g) b c v x) r1 hsrc.len rfl rfl hel hsrc.lens (fun i hi'' j hj'=>?_) (fun i hi j hj=> .val _ _ ((hsrc.vals i hi j hj).ext ext))
       have hlt:i*ei.size+j<es.length*ei.size:=mul_lt_of hi'' (by have:=hel i hi'';omega)
       rw[List.getD_eq_getElem?_getD,List.getElem?_take,if_pos hlt,Array.getElem?_toList,<-Array.getD_eq_getD_getElem?]
       exact(hv i hi'' j hj').ext ext fun b1 hb1=>⟨setRow_other w b b1 _ (kidne _ _ _ hb1),hb1⟩
     ·subst hj;rw[e1] at hej;cases hej;cases hbj
      refine⟨by simpa using p.hr.lt _ _ _ _ he hbl,p.hr.nz _ _ _ _ he hbl,fun j' ej' c' hj' hbj'=>?_⟩
      by_cases h:j'=j
      ·exact h
      ·rw[eset_other _ _ h] at hj';exact p.hr.inj _ _ _ _ _ _ _ hj' he hbj' hbl
    ·refine .slO _ _ _ _ _ (.inl (by rw[<-hgg];exact hGe)) rfl fun ee' he' _=>?_
     rw[e1] at he';cases he'
     exact⟨by simp,fun _=>⟨cap,by simp,by simp,hroom⟩⟩
   ·refine grow (some ⟨b,0*ee.k,none⟩) cap ((List.range (es.length*ei.size)).map fun j=>cs.getD j undef) rfl (by omega) (by simp) ?_ (by simp) ⟨?_,fun h=>by rw[hbl] at h;cases h⟩
    ·rintro j v hj ad ⟨⟩
     refine news_get (b:=b) (off:=0*ee.k) _ (fun j hj=>?_) j v hj
     rw[Nat.zero_mul,Nat.zero_add]
     exact hh.cellD (by omega)
    ·intro b0 bcap0 hb0 i hi' j hj
     rw[hbl] at hb0;cases hb0
     rw[news_getD _ (mul_lt_of hi' (by have:=hel i hi';omega))]
     exact hv i hi' j hj
theorem opAppend_ok (p:Pre C e G g hp w) (hT:TOk C.P T) {t ty did el:Nat} (hty:(tl T t).ty= .slice el) {d x:AV} {xd xx:Value} (hd:VR w (UE e) e G d xd) (hx:VR w (UE e) e G x xx) (h:(opAppend T t did g hp d x).1):
  OpOk C e G g hp w (opAppend T t did g hp d x) (((Builtin.append_ #[t,t] ty #[xd,xx]).run C.P w).andThen fun v w=> .ok (.value v) w):=by
 obtain⟨dd,hu,hdd⟩:=(hT.fit hty (by simp)).under
 rw[hty] at hdd;cases hdd
 have hel:elemOf T t=el:=by simp[elemOf,hty]
 simp only[opAppend,hel] at h ⊢
 cases hs:srcE hp x with
 |none=>simp only[hs] at h;exact h.elim
 |some ys=>
  simp only[hs] at h ⊢
  cases d with
  |sl es full=>
   cases full with
   |false=>exact h.elim
   |true=>
    simp only at h ⊢
    by_cases he0:es.length=0
    ·rw[if_pos he0] at h ⊢
     obtain rfl:es=[]:=List.eq_nil_of_length_eq_zero he0
     obtain⟨⟨h1,h2,h3,h4,h5⟩,h6,h7,h8⟩:=h
     obtain⟨news,hsrc⟩:=src_ok p.hr hx h1 hs (by omega) h3 fun y hy c hc=>attP_noKid (h4 y hy c hc)
     obtain⟨a,cap,hxd,_,hfull⟩:=hd.slice_cap
     obtain rfl:cap=0:=hfull rfl
     subst hxd
     have:=append_nil_ok (P:=True) (ty:=ty) p hu (hT.fits h2) h2 (did:=did) (a:=a) hsrc h7 h8
     exact OpOk.attach (Q:=True) (es:=[]) this h6 h4 h5
    ·rw[if_neg he0] at h ⊢
     by_cases hy0:ys.length=0
     ·rw[if_pos hy0] at h ⊢
      obtain rfl:ys=[]:=List.eq_nil_of_length_eq_zero hy0
      obtain⟨h1,h2,h3,h4,h5⟩:=h
      obtain⟨news,hsrc⟩:=src_ok p.hr hx h1 hs (by omega) h3 fun y hy c hc=>attP_noKid (h4 y hy c hc)
      obtain⟨a',cap',rfl⟩:=hsrc.shape
      have hd0:=hd.sl_inv.full
      obtain⟨a,cap,hxd,hcap,_⟩:=hd.slice_cap
      subst hxd
      rw[show([]:List AV).length=0 from rfl,run_append_zero (P:=C.P) hu (hT.fits h2) ty a a' _ cap cap' hcap w,Result.andThen_ok]
      exact OpOk.pure p (.dat _ _ hd0)
     ·rw[if_neg hy0] at h ⊢
      obtain⟨⟨h1,h2,h3,h4,h5⟩,h6,⟨h9,h10⟩,h7,h8⟩:=h
      obtain⟨news,hsrc⟩:=src_ok p.hr hx h1 hs (by omega) h3 fun y hy c hc=>attP_noKid (h4 y hy c hc)
      have:=append_full_ok (P:=True) (ty:=ty) p hu (hT.fits h2) h2 (did:=did) hd h9 h10 hsrc (by omega) h7 h8
      exact OpOk.attach (Q:=True) this h6 h4 h5
  |slO id g' off len=>
   simp only at h ⊢
   cases hg:hp.get id with
   |none=>simp only[hg] at h;exact h.elim
   |some q=>
    obtain⟨g'',ob⟩:=q
    cases ob with
    |box cs=>simp only[hg] at h;exact h.elim
    |mp _=>simp only[hg] at h;exact h.elim
    |ms _=>simp only[hg] at h;exact h.elim
    |bd _ _ _=>simp only[hg] at h;exact h.elim
    |own e' k es=>
     simp only[hg] at h ⊢
     obtain⟨⟨h1,h2,h3,h4,h5⟩,h6,rfl,rfl,rfl,rfl,rfl,h7,h8⟩:=h
     obtain⟨news,hsrc⟩:=src_ok p.hr hx h1 hs (by omega) h3 fun y hy c hc=>attP_noKid (h4 y hy c hc)
     exact OpOk.attach (Q:=True) (append_own_ok (P:=True) (ty:=ty) p hu (hT.fits h2) h2 hd hg hsrc h7 h8) h6 h4 h5
  |_=>exact h.elim
end
end Go.Sym
