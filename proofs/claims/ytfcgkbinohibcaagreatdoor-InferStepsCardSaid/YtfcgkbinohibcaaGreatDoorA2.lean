/- Lemmas towards inferSteps_card: no conditions of their own. -/
import Derived.Test.YtfcgkbinohibcaaGreatDoorA1
import Derived.MapKept
import Derived.Lib.ConvBytes
import Derived.TacticsIn
import Derived.RangeFuncLeaves
import Derived.RangeFuncRecord
import Derived.OrdersIn
set_option linter.all false
namespace Go.Sym
open Go
section
variable{C:Cx}{e:bQ}{G:Nat->Prop}{g:Nat}{hp:Hp}{w:World}{T:vp}
theorem VR.La{U:Nat->Prop}{id g:Nat}{x:Value}(h:VR w U e G (.Ic id g) x):G g/\x.oneCell'=true/\
  ∀ee,e id=some ee->ee.g=g->ee.n=0->∀b c,ee.Rr=some (b,c)->x=.map (some b):=by
 cases h with
 |rC _ _ h=>cases h
 |Ic _ _ _ h1 h2 h3=>exact⟨h1,h2,h3⟩
def Mc(p:Int×Int):Value×Value:=(.int .i64 p.1,.int .i64 p.2)
theorem Gp{n:Int}:∀(es:List MapEntry)(l:List (Int×Int))(i:Nat),es.map (fun m=>(m.key,m.val))=l.map Mc->
  Instr.findNow (.int .i64) (.int .i64 n) es i=some ((L7 n l i).map fun q=>(q.1,.int .i64 q.2))
 |[],[],_,_=>rfl|[],_::_,_,h=>tC|_::_,[],_,h=>tC|m::es,p::l,i,h=>by
  simp only[b_,bD]at h;obtain⟨h1,h2⟩:=h;have hk:m.key=.int .i64 p.1:=rD Prod.fst h1;have hv:m.val=.int .i64 p.2:=rD Prod.snd h1;have ih:=Gp (n:=n) es l (i+1) h2;simp only[Instr.findNow,hk,Instr.sameNow,ql,L7];by_cases hn:n=p.1
  .subst hn;simp[hv]
  rw[iN hn];have:(n==p.1)=false:=dB;rw[this];exact ih
theorem Hg{n:Int}:∀{l:List (Int×Int)}{i j:Nat}{v:Int},L7 n l i=some (j,v)->i<=j/\j<i+l.length/\l[j - i]?=some (n,v)
 |[],_,_,_,h=>C3|p::l,i,j,v,h=>by
  rw[L7]at h;split at h
  .next hn=>
   cases h
   subst hn;refine⟨lR _,sM,sM⟩
  obtain⟨h1,h2,h3⟩:=Hg h;refine⟨oM,xF,?_⟩;have:j - i=(j-(i+1))+1:=oM;rw[this,Dh];exact h3
def arf(p:jC C e G g hp w)(hT:JE C.P T){t:Nat}{m k:AV}{xm xk:Value}(hm:VR w (UE e) e G m xm)(hk:VR w (UE e) e G k xk)(h:(Pp T t hp m k).1):
  Bm C e G g hp w (Pp T t hp m k) (((Instr.lookup t xm xk false).run C.P w).andThen fun v w=>.ok (.value v) w):=by
 unfold Pp at h ⊢;split at h
 .rename_i kt et id g' n tW;obtain⟨rfl,_⟩:=hk.VI;cases hg:hp.get id with
  |none=>simp only[hg]at h;exact h.elim|some q=>
   obtain⟨g'',ob⟩:=q;cases ob with
   |box _=>simp only[hg]at h;exact h.elim|own _ _ _=>simp only[hg]at h;exact h.elim|ms _=>simp only[hg]at h;exact h.elim|bd _ _ _=>simp only[hg]at h;exact h.elim|mp es=>
    simp only[hg,R.val]at h ⊢;obtain⟨rfl,Rb,xB,hz⟩:=h;obtain⟨_,_,QB⟩:=hm.La;obtain⟨ee,he,V8,_,jz⟩:=p.hr.live id _ _ hg;obtain⟨Sn,b,c,vs,cl,hb,hh,ec⟩:=jz;obtain rfl:=QB ee he V8 Sn b c hb;obtain⟨d,hu,hd⟩:=(hT.fit tW sM).under;rw[tW]at hd;cases hd;obtain⟨d2,ol,SA⟩:=(hT.fit Rb sM).under;rw[Rb]at SA;cases SA;have wV:=ZW (hT.fits xB) w;rw[hz]at wV;have hf:=QI (P:=C.P) (w:=w) ol (Gp (n:=n) vs.toList es 0 ec);have hc:=yP (P:=C.P) (w:=w) ol (k:=.int .i64 n) Qs vs.isEmpty 9999;have:(Instr.lookup t (.map (some b)) (.int .i64 n) false).run C.P w=.ok (.int .i64 (bN es n)) w:=by
     unfold bN;cases N7:L7 n es 0 with
     |none=>rw[N7]at hf;simp only[fY]at hf;simp[Instr.lookup,pP hu,JU hh,hc,hf,wV,Result.andThen]|some q=>rw[N7]at hf;simp only[rL]at hf;simp[Instr.lookup,pP hu,JU hh,hc,hf,Result.andThen]
    rw[this,GQ];exact Cu p _ _ _
 exact h.elim
def Yj(p:jC C e G g hp w){id:Nat}{ee:EE}{b c:Nat}(he:e id=some ee)(hb:ee.Rr=some (b,c)){w':World}(xB:w'.heap.size=w.heap.size)(aF:∀b',b'≠b->w'.heap[b']?=w.heap[b']?)(h1:w'.os=w.os)(h2:w'.tape=w.tape)(h3:w'.output=w.output){ob:Ob}(ho:Jh w' e (Bb G g) ob ee){P:Prop}(hd:w.drawn<=w'.drawn:=by exact lR _):Bm C e G g hp w (P,.bad,[(id,some (ee.g,ob))]) (.ok .skip w'):=by
 have HL:I2 e b:=⟨id,ee,c,he,hb⟩;have ext:Z7 w e G w' e (Bb G g):=by refine Z7.mk' oM (fun _ h=>.inl h) rfl (fun _ _ h=>h) (fun b' _ hu=>aF b' ?_) fun _ SV h _=>⟨SV,h,rfl,rfl,.inl ⟨rfl,rfl⟩⟩;rintro rfl;exact hu (.inl HL)
 have key:cH w' e (Bb G g) ((id,some (ee.g,ob))::hp):=by
  refine p.hr.step (fun j=>j=id) ext rfl (fun j hj=>⟨rfl,Hp.RG _ _ hj⟩) (fun j ej b1 c1 hj AQ FZ=>⟨aF b1 ?_,fun b2 c2 BF=>⟨aF b2 ?_,BF⟩⟩)
   (fun j hj hn=>by subst hj;rw[Hp.mz]at hn;cases hn) (fun j gj obj hj hg=>by subst hj;rw[Hp.mz]at hg;cases hg;exact⟨ee,he,rfl,.inl (p.hr.gen _ _ he),ho⟩)
   (fun j ej b1 c1 hj AQ FZ=>?_) (fun b1 B c1 P'=>by rw[xB];exact p.hr.kl b1 B c1 P') p.hr.ko p.hr.kk
  .rintro rfl;exact hj (p.hr.inj j id ej ee b1 c1 c AQ he FZ hb)
  .rintro rfl;have:=p.hr.ko b2 HL;rw[BF]at this;cases this
  subst hj;rw[he]at AQ;cases AQ;rw[hb]at FZ;cases FZ;exact⟨by rw[xB];exact p.hr.lt _ _ _ _ he hb,p.hr.nz _ _ _ _ he hb,fun j' JA c' tw s7=>p.hr.inj _ _ _ _ _ _ _ tw he s7 hb⟩
 refine⟨.skip,w',e,rfl,key,ext,p.ln.step p.fr.size ext rfl (fun _ _ h=>h),p.fr.step p.ln h1 h2 h3 oM (fun b' _ hu=>aF b' ?_) hd,.inr ⟨rfl,rfl⟩⟩;rintro rfl;exact hu (.inl HL)
def ae7(p:jC C e G g hp w)(hT:JE C.P T){t:Nat}{m k v:AV}{xm xk xv:Value}(hm:VR w (UE e) e G m xm)(hk:VR w (UE e) e G k xk)(hv:VR w (UE e) e G v xv)(h:(aW T t hp m k v).1):
  Bm C e G g hp w (aW T t hp m k v) (((Instr.mapUpdate t xm xk xv).run C.P w).andThen fun _ w=>.ok .skip w):=by
 unfold aW at h ⊢;split at h
 .rename_i kt et id g' n x tW;obtain⟨rfl,_⟩:=hk.VI;obtain⟨rfl,_⟩:=hv.VI;cases hg:hp.get id with
  |none=>simp only[hg]at h;exact h.elim|some q=>
   obtain⟨g'',ob⟩:=q;cases ob with
   |box _=>simp only[hg]at h;exact h.elim|own _ _ _=>simp only[hg]at h;exact h.elim|ms _=>simp only[hg]at h;exact h.elim|bd _ _ _=>simp only[hg]at h;exact h.elim|mp es=>
    simp only[hg]at h ⊢;obtain⟨rfl,Rb⟩:=h;obtain⟨_,_,QB⟩:=hm.La;obtain⟨ee,he,V8,_,jz⟩:=p.hr.live id _ _ hg;obtain⟨Sn,b,c,vs,cl,hb,hh,ec⟩:=jz;obtain rfl:=QB ee he V8 Sn b c hb;obtain⟨d,hu,hd⟩:=(hT.fit tW sM).under;rw[tW]at hd;cases hd;obtain⟨d2,ol,SA⟩:=(hT.fit Rb sM).under;rw[Rb]at SA;cases SA;have hf:=QI (P:=C.P) (w:=w) ol (Gp (n:=n) vs.toList es 0 ec);have hc:=yP (P:=C.P) (w:=w) ol (k:=.int .i64 n) Qs false 9999;have hlen:vs.toList.length=es.length:=by have:=rD List.length ec;simpa using this
    have Vb:∀o,(setObj b o).run C.P w=.ok () {w with heap:=w.heap.setIfInBounds b o}:=fun o=>MapKept.run_setObj_map o hh;have fin:∀(qD:Array MapEntry)(ki:Nat),qD.toList.map (fun m=>(m.key,m.val))=(IF es n x).map Mc->
      Bm C e G g hp w (True,.bad,[(id,some (ee.g,.mp (IF es n x)))]) (.ok .skip {w with heap:=w.heap.setIfInBounds b (.map qD ki)}):=by
     intro qD ki h';obtain⟨s1,s2⟩:=MapKept.heap_set (o':=.map qD ki) hh;exact Yj (ob:=.mp (IF es n x)) p he hb (w':={w with heap:=w.heap.setIfInBounds b (.map qD ki)}) sM s2 rfl rfl rfl ⟨Sn,b,c,qD,ki,hb,s1,h'⟩
    subst V8;unfold IF at fin ⊢;cases N7:L7 n es 0 with
    |none=>
     rw[N7]at hf;simp only[N7]at fin ⊢;have:(Instr.mapUpdate t (.map (some b)) (.int .i64 n) (.int .i64 x)).run C.P w=.ok () {w with heap:=w.heap.setIfInBounds b (.map (vs.push {key:=.int .i64 n,val:=.int .i64 x,born:=cl}) (cl+1))}:=by simp only[fY]at hf;simp[Instr.mapUpdate,pP hu,JU hh,hc,hf,Vb,Result.andThen]
     rw[this,GQ];have:=fin (vs.push {key:=.int .i64 n,val:=.int .i64 x,born:=cl}) (cl+1) (by simp only[Array.toList_push,Mx,ec];rfl);obtain⟨nx,w1,e1,r⟩:=this;exact⟨nx,w1,e1,r⟩
    |some q=>
     obtain⟨j,y⟩:=q;rw[N7]at hf;simp only[N7]at fin ⊢;obtain⟨_,hj,U_⟩:=Hg N7;simp only[cy,Oz]at hj U_;have Se:j<vs.size:=by rw[<-Dr];omega
     have hold:((vs[j]?).map (·.key)).getD (.int .i64 n)=.int .i64 n:=by
      have e1:=rD (fun l=>l[j]?) ec;simp only[YO,U_,rL]at e1;rw[CO]at e1;cases hx:vs[j]? with
      |none=>rfl|some m=>rw[hx]at e1;simp only[rL,Kh,jH]at e1;exact e1.1
     have Dn:=MapKept.run_keyThatStays (P:=C.P) (w:=w) (d:=.int .i64) (k:=.int .i64 n) Qs;have:(Instr.mapUpdate t (.map (some b)) (.int .i64 n) (.int .i64 x)).run C.P w=.ok () {w with heap:=w.heap.setIfInBounds b (.map (vs.modify j fun e=>{e with key:=.int .i64 n,val:=.int .i64 x}) cl)}:=by simp only[rL]at hf;simp[Instr.mapUpdate,pP hu,JU hh,hc,hf,hold,Dn,Vb,Result.andThen]
     rw[this,GQ];have:=fin (vs.modify j fun e=>{e with key:=.int .i64 n,val:=.int .i64 x}) cl (by
      refine te fun i=>?_;have e1:=rD (fun l=>l[i]?) ec;simp only[YO,CO]at e1 ⊢;rw[YX,List.getElem?_set];by_cases U7:j=i
      ·subst U7;simp only[ql,hj];have:vs[j]?=some vs[j]:=by simp[Se]
       rw[this];rfl
      simp only[U7,j4];exact e1)
     obtain⟨nx,w1,e1,r⟩:=this;exact⟨nx,w1,e1,r⟩
 exact h.elim
def adM(p:jC C e G g hp w){did t:Nat}:Bm C e G g hp w (True,.Ic did g,[(did,some (g,.mp []))]) (((Instr.makeMap t none).run C.P w).andThen fun v w=>.ok (.value v) w):=by
 have:(Instr.makeMap t none).run C.P w=.ok (.map (some w.heap.size)) (w.alloc (.map #[] 0)):=by rfl
 rw[this,GQ];refine sO p (Qw.alloc w _) (ee:=⟨g,some (w.heap.size,0),0,0⟩) rfl Rl ?_ ?_
 ·exact⟨rfl,w.heap.size,0,#[],0,rfl,sg w _,rfl⟩
 refine .Ic _ _ _ (.inr rfl) rfl fun ee he _ _ b c hb=>?_;rw[nq]at he;cases he
 cases hb
 rfl
theorem akO(p:jC C e G g hp w)(hT:JE C.P T)(op:BinOp){t:Nat}{x y:Operand}{va vb:AV}{xa xb:Value}(ha:VR w (UE e) e G va xa)(hy:Cb y=true->xb=.slice none 0 0)(hb:Cb y=false->Bm C e G g hp w (l9 op (tl T t) va vb) (((do eqGuard op t x y xa xb;let v<-binOp op t xa xb;Pure.pure (Next.value v)):Sem Next).run C.P w))(h:(gW (Cb y) op (tl T t) va vb).1):
  Bm C e G g hp w (gW (Cb y) op (tl T t) va vb) (((do eqGuard op t x y xa xb;let v<-binOp op t xa xb;Pure.pure (Next.value v)):Sem Next).run C.P w):=by
 cases hn:Cb y with
 |false=>rw[hn]at h;exact hb hn|true=>
  rw[hn]at h;obtain rfl:=hy hn;unfold gW at h ⊢;simp only at h ⊢;have key:∀{es:List AV}{full:Bool}{el:Nat},(tl T t).ty=.slice el->va=.sl es full->0<es.length->(eqGuard op t x y xa (.slice none 0 0)).run C.P w=.ok () w/\(Op.equalIn Op.maxDepth t xa (.slice none 0 0)).run C.P w=.ok false w:=by
   rintro es full el tW rfl hl;obtain⟨d,hu,hd⟩:=(hT.fit tW sM).under;rw[tW]at hd;cases hd;rcases ha.Rv.Rv with ⟨rfl,_⟩|⟨b,off,cap,k',f,rfl,_⟩
   .simp at hl
   refine⟨by cases op<;>simp[eqGuard],?_⟩;rw[show Op.maxDepth=9999+1 from rfl,Op.equalIn,ig,pP hu];rfl
  split at h
  .rename_i tW;obtain⟨k1,k2⟩:=key tW rfl h;have:(binOp .eql t xa (.slice none 0 0)).run C.P w=.ok (.bool false) w:=by
    rcases ha.Rv.Rv with ⟨rfl,_⟩|⟨b,off,cap,k',f,rfl,_⟩
    .simp[R.val]at h
    simp[binOp,Op.equal,k2]
   rw[ig,k1,GQ,ig,this];exact re p _ _
  .rename_i tW;obtain⟨k1,k2⟩:=key tW rfl h;have:(binOp .neq t xa (.slice none 0 0)).run C.P w=.ok (.bool true) w:=by
    rcases ha.Rv.Rv with ⟨rfl,_⟩|⟨b,off,cap,k',f,rfl,_⟩
    .simp[R.val]at h
    simp[binOp,Op.equal,k2]
   rw[ig,k1,GQ,ig,this];exact re p _ _
  exact h.elim
end
open Go
section
variable{C:Cx}{e:bQ}{G:Nat->Prop}{g:Nat}{hp:Hp}{w:World}{T:vp}
def asI{a b:ByteArray}(h:a.data.toList=b.data.toList):a=b:=by
 cases a;cases b
 simp only at h;rw[We]at h;simp[h]
def I7(k:List UInt8):List (ByteArray×AV)->Nat->Option Nat
 |[],_=>none|p::l,i=>if p.1.data.toList=k then some i else I7 k l (i+1)
theorem tU{k:List UInt8}{z:AV}:∀{l:List (ByteArray×AV)}{i j:Nat},I7 k l i=some j->i<=j/\(∃p,l[j - i]?=some p/\JF k z l=p.2)/\qz k l=true
 |[],_,_,h=>C3|p::l,i,j,h=>by
  rw[I7]at h;split at h
  .next hp=>
   cases h
   refine⟨lR _,⟨p,sM,by rw[JF,iP hp]⟩,by simp[qz,hp]⟩
  next hp=>
  obtain⟨h1,⟨q,h2,h3⟩,h4⟩:=tU (z:=z) h;have e1:j - i=(j-(i+1))+1:=oM;refine⟨oM,⟨q,by rw[e1,Dh];exact h2,by rw[JF,iN hp];exact h3⟩,by simp[qz,h4]⟩
theorem jp{k:List UInt8}{z:AV}:∀{l:List (ByteArray×AV)}{i:Nat},I7 k l i=none->JF k z l=z/\qz k l=false
 |[],_,_=>⟨rfl,rfl⟩|p::l,i,h=>by
  rw[I7]at h;split at h
  .cases h
  next hp=>
  obtain⟨h1,h2⟩:=jp (z:=z) h;exact⟨by rw[JF,iN hp];exact h1,by simp[qz,hp,h2]⟩
theorem IV{s:ByteArray}:∀(vs:List MapEntry)(l:List (ByteArray×AV))(i:Nat),vs.length=l.length->(∀(j:Nat)(m:MapEntry)(p:ByteArray×AV),vs[j]?=some m->l[j]?=some p->m.key=.string p.1)->
  Instr.findNow .string (.string s) vs i=some ((I7 s.data.toList l i).bind fun j=>(vs[j - i]?).map fun m=>(j,m.val))
 |[],[],_,_,_=>rfl|[],_::_,_,h,_=>tC|_::_,[],_,h,_=>tC|m::vs,p::l,i,h,hk=>by
  have zU:m.key=.string p.1:=hk 0 m p rfl rfl;have ih:=IV (s:=s) vs l (i+1) A6 fun j m' p' h1 h2=>hk (j+1) m' p' Cd H0;simp only[Instr.findNow,zU,Instr.sameNow,I7];by_cases hs:p.1.data.toList=s.data.toList
  .have hb:(s==p.1)=true:=(MapKept.bytes_beq _ _).2 (asI hs).symm;rw[hb,iP hs];simp
  have hb:(s==p.1)=false:=by
   cases hq:(s==p.1)with
   |false=>rfl|true=>exact absurd (by rw[(MapKept.bytes_beq _ _).1 hq]) hs
  rw[hb,iN hs];simp only[ih];cases hf:I7 s.data.toList l (i+1)with
  |none=>rfl|some j=>obtain⟨h1,_⟩:=tU (z:=.bad) hf;have e1:j - i=(j-(i+1))+1:=oM;simp only[iD,e1,Dh]
def apK(p:jC C e G g hp w)(hT:JE C.P T){t:Nat}{m k:AV}{xm xk:Value}(hm:VR w (UE e) e G m xm)(hk:VR w (UE e) e G k xk)(h:(Cv T t hp m k).1):
  Bm C e G g hp w (Cv T t hp m k) (((Instr.lookup t xm xk true).run C.P w).andThen fun v w=>.ok (.value v) w):=by
 unfold Cv at h ⊢;split at h
 .rename_i kt et id g' s tW;obtain⟨rfl,_⟩:=hk.VI;cases hg:hp.get id with
  |none=>simp only[hg]at h;exact h.elim|some q=>
   obtain⟨g'',ob⟩:=q;cases ob with
   |box _=>simp only[hg]at h;exact h.elim|own _ _ _=>simp only[hg]at h;exact h.elim|mp _=>simp only[hg]at h;exact h.elim|bd _ _ _=>simp only[hg]at h;exact h.elim|ms es=>
    simp only[hg,R.val]at h ⊢;obtain⟨rfl,Rb,xB,m9⟩:=h;obtain⟨_,_,QB⟩:=hm.La;obtain⟨ee,he,V8,_,jz⟩:=p.hr.live id _ _ hg;obtain⟨Sn,b,c,vs,cl,hb,hh,hlen,ec⟩:=jz;obtain rfl:=QB ee he V8 Sn b c hb;obtain⟨d,hu,hd⟩:=(hT.fit tW sM).under;rw[tW]at hd;cases hd;obtain⟨d2,ol,SA⟩:=(hT.fit Rb sM).under;rw[Rb]at SA;cases SA;have wV:=ZW (hT.fits xB) w;have zJ:=(Ge (w:=w) (hT.fits xB) (UE e)).1;have hf:=QI (P:=C.P) (w:=w) ol (IV (s:=s) vs.toList es 0 (by simpa using hlen) fun j m' p' h1 h2=>(ec j m' p' Cd h2).1);have hc:=yP (P:=C.P) (w:=w) ol (k:=.string s) Qs vs.isEmpty 9999;cases qr:I7 s.data.toList es 0 with
    |none=>
     rw[qr]at hf;simp only[Option.bind_none]at hf;obtain⟨h1,h2⟩:=jp (z:=(tl T et).OR) qr;have:(Instr.lookup t (.map (some b)) (.string s) true).run C.P w=.ok (.tuple #[(tl T et).H3,.bool false]) w:=by simp[Instr.lookup,pP hu,JU hh,hc,hf,wV,Result.andThen]
     rw[this,GQ,h1,h2];refine .pure p (.F1 _ _ rfl fun i hi=>?_);rcases(by simp at hi;omega:i=0\/i=1)with rfl|rfl
     ·exact .rC _ _ zJ
     exact .rC _ _ (.lit _ rfl)
    |some j=>
     rw[qr]at hf;obtain⟨_,⟨q,hq,h1⟩,h2⟩:=tU (z:=(tl T et).OR) qr;rw[Oz]at hq;have Se:j<vs.size:=by have:=(VL.1 hq).1;omega
     have Am:vs[j]?=some vs[j]:=by simp[Se]
     simp only[iD,Oz,CO,Am,rL]at hf;have:(Instr.lookup t (.map (some b)) (.string s) true).run C.P w=.ok (.tuple #[vs[j].val,.bool true]) w:=by simp[Instr.lookup,pP hu,JU hh,hc,hf,Result.andThen]
     rw[this,GQ,h1,h2];refine .pure p (.F1 _ _ rfl fun i hi=>?_);rcases(by simp at hi;omega:i=0\/i=1)with rfl|rfl
     ·exact(ec j _ q Am hq).2.2
     exact .rC _ _ (.lit _ rfl)
 exact h.elim
def eu(p:jC C e G g hp w)(hT:JE C.P T){t:Nat}{m k v:AV}{xm xk xv:Value}(hm:VR w (UE e) e G m xm)(hk:VR w (UE e) e G k xk)(hv:VR w (UE e) e G v xv)(h:(XE T t hp m k v).1):
  Bm C e G g hp w (XE T t hp m k v) (((Instr.mapUpdate t xm xk xv).run C.P w).andThen fun _ w=>.ok .skip w):=by
 unfold XE at h ⊢;split at h
 .rename_i kt et id g' s tW;obtain⟨rfl,_⟩:=hk.VI;cases hg:hp.get id with
  |none=>simp only[hg]at h;exact h.elim|some q=>
   obtain⟨g'',ob⟩:=q;cases ob with
   |box _=>simp only[hg]at h;exact h.elim|own _ _ _=>simp only[hg]at h;exact h.elim|mp _=>simp only[hg]at h;exact h.elim|bd _ _ _=>simp only[hg]at h;exact h.elim|ms es=>
    simp only[hg]at h ⊢;obtain⟨rfl,Rb,Ov,h1,h2⟩:=h;obtain⟨_,_,QB⟩:=hm.La;obtain⟨ee,he,V8,_,jz⟩:=p.hr.live id _ _ hg;obtain⟨Sn,b,c,vs,cl,hb,hh,hlen,ec⟩:=jz;obtain rfl:=QB ee he V8 Sn b c hb;obtain⟨d,hu,hd⟩:=(hT.fit tW sM).under;rw[tW]at hd;cases hd;obtain⟨d2,ol,SA⟩:=(hT.fit Rb sM).under;rw[Rb]at SA;cases SA;have hf:=QI (P:=C.P) (w:=w) ol (IV (s:=s) vs.toList es 0 (by simpa using hlen) fun j m' p' h1 h2=>(ec j m' p' Cd h2).1);have hc:=yP (P:=C.P) (w:=w) ol (k:=.string s) Qs false 9999;have Vb:∀o,(setObj b o).run C.P w=.ok () {w with heap:=w.heap.setIfInBounds b o}:=fun o=>MapKept.run_setObj_map o hh;have qr:I7 s.data.toList es 0=none:=by
     cases hq:I7 s.data.toList es 0 with
     |none=>rfl|some j=>rw[(tU (z:=.bad) hq).2.2]at Ov;cases Ov
    rw[qr]at hf;simp only[Option.bind_none]at hf;have:(Instr.mapUpdate t (.map (some b)) (.string s) xv).run C.P w=.ok () {w with heap:=w.heap.setIfInBounds b (.map (vs.push {key:=.string s,val:=xv,born:=cl}) (cl+1))}:=by simp[Instr.mapUpdate,pP hu,JU hh,hc,hf,Vb,Result.andThen]
    rw[this,GQ];obtain⟨s1,s2⟩:=MapKept.heap_set (o':=.map (vs.push {key:=.string s,val:=xv,born:=cl}) (cl+1)) hh;subst V8;have HL:I2 e b:=⟨id,ee,c,he,hb⟩;have ext:Z7 w e G {w with heap:=w.heap.setIfInBounds b (.map (vs.push {key:=.string s,val:=xv,born:=cl}) (cl+1))} e (Bb G g):=by refine Z7.mk' sM (fun _ h=>.inl h) rfl (fun _ _ h=>h) (fun b' _ hu=>s2 b' ?_) fun _ SV h _=>⟨SV,h,rfl,rfl,.inl ⟨rfl,rfl⟩⟩;rintro rfl;exact hu (.inl HL)
    have:=Yj (P:=True) (ob:=.ms (es++[(s,v)])) p he hb (w':={w with heap:=w.heap.setIfInBounds b (.map (vs.push {key:=.string s,val:=xv,born:=cl}) (cl+1))}) sM s2 rfl rfl rfl
     ⟨Sn,b,c,_,_,hb,s1,by simp[hlen],fun i m' p' Qo hp'=>by
      rw[Array.getElem?_push]at Qo;split at Qo
      ·next hi=>
       cases Qo
       subst hi;rw[hlen,Ga (lR _),vW]at hp';cases hp'
       exact⟨rfl,h1,hv.ext ext⟩
      have hi:i<es.length:=by have:=(DH.1 Qo).1;omega
      rw[fd hi]at hp';obtain⟨q1,q2,q3⟩:=ec i m' p' Qo hp';exact⟨q1,q2,q3.ext ext⟩⟩
    obtain⟨nx,w1,e1,r⟩:=this;exact⟨nx,w1,e1,r⟩
 exact h.elim
def asn(p:jC C e G g hp w){did t:Nat}:Bm C e G g hp w (True,.Ic did g,[(did,some (g,.ms []))]) (((Instr.makeMap t none).run C.P w).andThen fun v w=>.ok (.value v) w):=by
 have:(Instr.makeMap t none).run C.P w=.ok (.map (some w.heap.size)) (w.alloc (.map #[] 0)):=by rfl
 rw[this,GQ];refine sO p (Qw.alloc w _) (ee:=⟨g,some (w.heap.size,0),0,0⟩) rfl Rl ?_ ?_
 ·exact⟨rfl,w.heap.size,0,#[],0,rfl,sg w _,rfl,fun i m p h=>tC⟩
 refine .Ic _ _ _ (.inr rfl) rfl fun ee he _ _ b c hb=>?_;rw[nq]at he;cases he
 cases hb
 rfl
theorem af0(p:jC C e G g hp w)(hT:JE C.P T)(op:BinOp){t:Nat}{x y:Operand}{va:AV}{xa xb:Value}{r:R}(ha:VR w (UE e) e G va xa)(hy:K4 y=true->xb=.nilIface)(hb:K4 y=false->Bm C e G g hp w r (((do eqGuard op t x y xa xb;let v<-binOp op t xa xb;Pure.pure (Next.value v)):Sem Next).run C.P w))(h:(Bp (K4 y) op (tl T t) va r).1):
  Bm C e G g hp w (Bp (K4 y) op (tl T t) va r) (((do eqGuard op t x y xa xb;let v<-binOp op t xa xb;Pure.pure (Next.value v)):Sem Next).run C.P w):=by
 cases hn:K4 y with
 |false=>rw[hn]at h;exact hb hn|true=>
  rw[hn]at h;obtain rfl:=hy hn;obtain⟨vc,rfl⟩:∃vc,y=.const vc:=by
   cases y with
   |const v=>exact⟨v,rfl⟩|_=>cases hn
  unfold Bp at h ⊢;simp only at h ⊢;have und:(tl T t).ty=.iface->∃m,C.P.underlying t=some (.interface m):=by intro tW;obtain⟨d,hu,hd⟩:=(hT.fit tW sM).under;rw[tW]at hd;obtain⟨m,rfl⟩:=hd;exact⟨m,hu⟩
  have e1:∀(tW:(tl T t).ty=.iface) tt pp,(Op.equalIn Op.maxDepth t (.iface tt pp) .nilIface).run C.P w=.ok false w:=by intro tW tt pp;obtain⟨m,hu⟩:=und tW;rw[show Op.maxDepth=9999+1 from rfl,Op.equalIn,ig,pP hu];rfl
  have e2:∀(tW:(tl T t).ty=.iface),(Op.equalIn Op.maxDepth t .nilIface .nilIface).run C.P w=.ok true w:=by intro tW;obtain⟨m,hu⟩:=und tW;rw[show Op.maxDepth=9999+1 from rfl,Op.equalIn,ig,pP hu];rfl
  have g1:∀tt pp,(eqGuard op t x (.const vc) (.iface tt pp) .nilIface).run C.P w=.ok () w:=by intro tt pp;cases op<;>simp[eqGuard]
  have g2:(eqGuard op t x (.const vc) .nilIface .nilIface).run C.P w=.ok () w:=by cases op<;>simp[eqGuard]
  split at h
  .rename_i tW;cases ha with
   |rC _ _ ha=>
    cases ha with
    |tY tt pp=>
     have:(binOp .eql t (.iface tt pp) .nilIface).run C.P w=.ok (.bool false) w:=by simp[binOp,Op.equal,e1 tW]
     rw[ig,g1,GQ,ig,this];exact re p _ _
  .rename_i tW;cases ha with
   |rC _ _ ha=>
    cases ha with
    |tY tt pp=>
     have:(binOp .neq t (.iface tt pp) .nilIface).run C.P w=.ok (.bool true) w:=by simp[binOp,Op.equal,e1 tW]
     rw[ig,g1,GQ,ig,this];exact re p _ _
  .rename_i tW;obtain⟨rfl,_⟩:=ha.VI;have:(binOp .eql t .nilIface .nilIface).run C.P w=.ok (.bool true) w:=by simp[binOp,Op.equal,e2 tW]
   rw[ig,g2,GQ,ig,this];exact re p _ _
  .rename_i tW;obtain⟨rfl,_⟩:=ha.VI;have:(binOp .neq t .nilIface .nilIface).run C.P w=.ok (.bool false) w:=by simp[binOp,Op.equal,e2 tW]
   rw[ig,g2,GQ,ig,this];exact re p _ _
  exact h.elim
end
open Go
section
variable{C:Cx}{e:bQ}{G:Nat->Prop}{g:Nat}{hp:Hp}{w:World}{T:vp}
def asl(p:jC C e G g hp w)(hT:JE C.P T){t n el:Nat}(tW:(tl T t).ty=.array n el){lo hi mx:Option AV}{xl xh xm:Option Value}{av:AV}{x:Value}(hx:VR w (UE e) e G av x)(hl:O3 w e G lo xl)(hh:O3 w e G hi xh)(hm:O3 w e G mx xm)(h:(V7 n (tl T el) hp lo hi mx av).1):
  Bm C e G g hp w (V7 n (tl T el) hp lo hi mx av) (((Instr.sliceAt t x xl xh xm).run C.P w).andThen fun v w=>.ok (.value v) w):=by
 unfold V7 at h ⊢;split at h
 .rename_i id g' m i off;split at h
  .rename_i g'' cs hg;obtain⟨rfl,rfl,rfl,rfl,hs,hlen,CY,hP⟩:=h;obtain rfl:xl=none:=rH;obtain rfl:xh=none:=uk;obtain rfl:xm=none:=yg;obtain⟨_,_,QB⟩:=hx.nj;obtain⟨ee,he,V8,_,jz⟩:=p.hr.live id _ _ hg;obtain⟨hn,h1,b,c,vs,T',hb,atv,xB,hv⟩:=jz;obtain⟨_,QB⟩:=QB ee he V8;obtain rfl:=QB hn b c hb;obtain⟨d,hu,hd⟩:=(hT.fit tW sM).under;rw[tW]at hd;cases hd;have EK:=xO (hT.fits (t:=el) oM) w;have Ik:(Instr.sliceAt t (.pointer (some ⟨b,0*ee.k+0,none⟩)) none none none).run C.P w=.ok (.slice (some ⟨b,0,none⟩) n n) w:=by
    by_cases Sn:n=0
    .simp[Instr.sliceAt,pP hu,Instr.sureAddr,Instr.sliceBounds,EK,Sn]
    have rN:¬(0=n):=fun h=>Sn h.symm;simp[Instr.sliceAt,pP hu,Instr.sureAddr,Instr.sliceBounds,EK,Sn,Rw]
   rw[Ik,GQ];have x0:=(Z7.qq w e G [id]).trans (Z7.wide w (nO e [id]) G g);refine⟨_,w,nO e [id],rfl,(p.hr.qq [id]).wide,x0,(p.ln.qq [id]).wide g,p.fr,.inl ⟨_,rfl,?_⟩⟩;have akp:UE (nO e [id]) b:=UE.dropped p.hr he hb sM;have iS:∀j (hj:j<cs.length),(cs[j].cells)=[cs[j]]:=by
    intro j hj;have:=h1 j hj;cases hq:cs[j]with
    |agg _=>rw[hq]at this;cases this
    |_=>rfl
   have L_:∀j (hj:j<cs.length),(cK (fz 0 hp) cs[j])=fz 0 hp cs[j]:=by
    intro j hj;have:=h1 j hj;cases hq:cs[j]with
    |agg _=>rw[hq]at this;cases this
    |_=>rfl
   have HA:∀j (hj:j<cs.length),Xa 0 hp cs[j]:=fun j hj=>hP _ (gM hj) _ (by rw[iS j hj];simp);have wE:∀j (hj:j<cs.length),(fz 0 hp cs[j]).one=true:=fun j hj=>o9 (HA j hj);have Om:∀j (hj:j<cs.length),(fz 0 hp cs[j]).cells=[fz 0 hp cs[j]]:=fun j hj=>(HR 0 hp cs[j]).resolve_right (by rw[h1 j hj];simp);have tf:(cs.map (cK (fz 0 hp))).length=n:=by simpa using hlen
   have key:VD w (UE (nO e [id])) (.sl (cs.map (cK (fz 0 hp))) false) (.slice (some ⟨b,0,none⟩) (cs.map (cK (fz 0 hp))).length n):=by
    refine .sl _ _ b 0 n 1 (fun j=>vs.getD j undef) akp (p.hr.lt _ _ _ _ he hb) oM yG sM oM ?_ ?_ ?_ ?_
    .intro j hj;simp only[E3]at hj;simp only[nw,L_ j hj,Om j hj,WC]
    .intro j hj;rw[cy];exact cell_of_heap atv oM
    .intro j hj j' tw;simp only[E3]at hj;simp only[nw,L_ j hj,Om j hj,WC]at tw ⊢;obtain rfl:j'=0:=oM;simp only[E6];exact wE j hj
    intro j hj j' tw;simp only[E3]at hj;simp only[nw,L_ j hj,Om j hj,WC]at tw ⊢;obtain rfl:j'=0:=oM;simp only[E6,B3,dq];exact i8 p.hr (WD.qq p.hr [id]) 0 (hv j hj) (HA j hj) (by intro i hi;simp[qg]at hi)
   rw[tf]at key;exact .rC _ _ key
  exact h.elim
 exact h.elim
def aes(p:jC C e G g hp w){did el src dst:Nat}(hs:C.P.underlying src=some .string)(hd:C.P.underlying dst=some (.slice el))(he:C.P.underlying el=some (.int .u8))(s:ByteArray)(hl:s.data.toList.length<=9223372036854775807)(h5:el=5){P:Prop}:
  Bm C e G g hp w (P,.l did g 0 s.data.toList.length,[(did,some (g,.own el 1 (s.data.toList.map Kk)))]) (((convert src dst (.string s)).run C.P w).andThen fun v w=>.ok (.value v) w):=by
 have xB:s.size=s.data.toList.length:=by rw[Dr];rfl
 have LU:=grownCap_ge w s.size 0 el;have CY:=Qv w s.size 0 el yG;have LF:(Lib.bytesCells w el s).size=grownCap w s.size 0 el:=by simp only[Lib.bytesCells,Array.size_append,Array.size_map,Array.size_replicate];have:s.data.size=s.size:=rfl;omega
 have iS:Cl (Lib.bytesWorld w el s) w.heap.size (Lib.bytesCells w el s) el:=
  ⟨_,Lib.bytesWorld_at_new w el s,fun j hj h=>by simp only at h;omega,.inr h5⟩
 rw[Lib.run_convert_string_bytes w src dst el s hs hd he,GQ];refine sO p (w':=Lib.bytesWorld w el s) ⟨?_,?_,?_,?_,fun b hb=>Lib.bytesWorld_at_old w el s b hb,ug _⟩ (ee:=⟨g,some (w.heap.size,grownCap w s.size 0 el),1,s.data.toList.length⟩) rfl ?_ ?_ ?_
 .rfl
 .rfl
 .rfl
 .rw[Lib.bytesWorld_size];omega
 .rintro b c ⟨⟩;exact⟨lR _,by rw[Lib.bytesWorld_size];omega⟩
 .refine⟨rfl,sM,oM,?_,?_,CY,xF,_,iS,by rw[LF];omega,?_⟩
  .intro i hi;simp[Kk,AV.cells]
  .intro i hi j hj;simp[Kk,AV.cells,AV.one]
  intro i hi j hj;have T6:i<s.data.toList.length:=Ks;have K0:j=0:=by simp[Kk,AV.cells]at hj;omega
  subst K0;have e1:(s.data.toList.map Kk)[i].cells[0]=Kk s.data.toList[i]:=by simp[Kk,AV.cells]
  have e2:(Lib.bytesCells w el s).getD (i*1+0) undef=.int .u8 (s.data.toList[i]).toNat:=by
   have h1:i<s.data.size:=by simpa using T6
   rw[gA,show i*1+0=i by omega,Lib.bytesCells,Jl Cd];have h2:s.data[i]?=some s.data[i]:=by simp[h1]
   simp[h2]
  rw[e1,e2];exact .val _ _ (.rC _ _ (.lit _ rfl))
 refine .l _ _ _ _ _ (.inr rfl) rfl fun ee X6 _=>?_;rw[nq]at X6;cases X6
 refine⟨sM,fun _=>⟨grownCap w s.size 0 el,?_,sM,oM⟩⟩;show Value.slice _ _ _=Value.slice _ _ _;congr 1
def akw(p:jC C e G g hp w)(hT:JE C.P T){did t el:Nat}(h:(tl T t).size≠0)(hz:(tl T t).zs=[.ptr,.sl])(ha:(tl T t).agg=true){P:Prop}:
  Bm C e G g hp w (P,.p did g 0 0 0,[(did,some (g,.bd t el []))]) (((Instr.alloc t true (.tuple #[])).run C.P w).andThen fun v w=>.ok (.value v) w):=by
 have hf:=hT.fits h;rw[Eg hf,GQ];have adA:(tl T t).H3=.agg #[.pointer none,.slice none 0 0]:=by simp[TI.H3,ha,hz,ZC.val]
 rw[adA];refine sO p (Qw.alloc w _) (ee:=⟨g,some (w.heap.size,0),0,0⟩) rfl Rl ?_ ?_
 ·exact⟨rfl,w.heap.size,0,_,_,rfl,sg w _,.inl rfl,.inl ⟨rfl,rfl⟩⟩
 refine .p _ _ _ _ _ _ (.inr rfl) rfl fun ee he _=>?_;rw[nq]at he;cases he
 refine⟨lR _,fun _ b c hb=>?_⟩;cases hb
 rfl
end
open Go Go.Great
section
variable{C:Cx}{e:bQ}{G:Nat->Prop}{g:Nat}{hp:Hp}{w:World}{T:vp}
def vS(p:jC C e G g hp w)(op:BinOp)(t:TypeId)(k k':IntKind)(a b:Int)(x y:Operand)(h:(Vs op k a b).1):
  Bm C e G g hp w (Vs op k a b) (((do eqGuard op t x y (.int k a) (.int k' b);let v<-binOp op t (.int k a) (.int k' b);Pure.pure (Next.value v)):Sem Next).run C.P w):=by
 cases op<;>simp only[Vs,R.val,R.no]at h ⊢
 all_goals first|exact h.elim|skip
 all_goals
  have hb:¬b<0:=oM;simp only[eqGuard,binOp,Op.shift,hb,go_sem,ig,fX,GQ,j4,RB,ql];exact Cu p _ _ _
def aqj(p:jC C e G g hp w)(ob:Prop)(s:ByteArray):Bm C e G g hp w (ob,.lit (.string s),[]) (.ok (.value (.string s)) w):=
 .pure p (.rC _ _ (.lit _ rfl))
def Hj(a b:ByteArray):(a.toList==b.toList)=decide (a.data.toList=b.data.toList):=by rw[sK,sK,VY];simp
def amr(p:jC C e G g hp w)(op:BinOp)(t:TypeId)(a b:ByteArray)(x y:Operand)(h:(FB op a b).1):
  Bm C e G g hp w (FB op a b) (((do eqGuard op t x y (.string a) (.string b);let v<-binOp op t (.string a) (.string b);Pure.pure (Next.value v)):Sem Next).run C.P w):=by
 have hg:(eqGuard op t x y (.string a) (.string b)).run C.P w=.ok () w:=by cases op<;>simp[eqGuard]
 rw[ig,hg,GQ,ig];cases op<;>simp only[FB,R.val,R.no]at h ⊢
 case add=>
  rw[binOp_string_add,run_string_add_sum _ a b h];exact aqj p _ _
 case eql=>rw[binOp_string_eql,Hj];exact re p _ _
 case neq=>
  rw[binOp_string_neq,Hj];have:(!decide (a.data.toList=b.data.toList))=decide (a.data.toList≠b.data.toList):=sM;rw[this];exact re p _ _
 case lss=>rw[binOp_string_lss,sK,sK];exact re p _ _
 case leq=>rw[binOp_string_leq,Hj,sK,sK];exact re p _ _
 case gtr=>rw[binOp_string_gtr,Hj,sK,sK];exact re p _ _
 case geq=>rw[binOp_string_geq,sK,sK];exact re p _ _
 all_goals exact h.elim
def agr(p:jC C e G g hp w)(hT:JE C.P T)(op:BinOp){t:Nat}{x y:Operand}{va vb:AV}{xa xb:Value}(ha:VR w (UE e) e G va xa)(hb:VR w (UE e) e G vb xb)(h:(l9 op (tl T t) va vb).1):
  Bm C e G g hp w (l9 op (tl T t) va vb) (((do eqGuard op t x y xa xb;let v<-binOp op t xa xb;Pure.pure (Next.value v)):Sem Next).run C.P w):=by
 unfold l9 at h ⊢;split at h
 .obtain⟨rfl,_⟩:=ha.VI;obtain⟨rfl,_⟩:=hb.VI;split at h
  .exact vS p .shl t _ _ _ _ x y h
  .exact vS p .shr t _ _ _ _ x y h
  obtain⟨rfl,h⟩:=h;exact ae0 p _ t _ _ _ x y h
 .obtain⟨rfl,_⟩:=ha.VI;obtain⟨rfl,_⟩:=hb.VI;exact amr p op t _ _ x y h
 .rename_i a b;obtain⟨rfl,_⟩:=ha.VI;obtain⟨rfl,_⟩:=hb.VI;unfold yC at h ⊢;split at h
  .rename_i tW;obtain⟨d,hu,hd⟩:=(hT.fit tW sM).under;rw[tW]at hd;cases hd;simp only[go_sem,ig,fX,GQ,run_eql_bool _ t a b hu];exact re p _ _
  .rename_i tW;obtain⟨d,hu,hd⟩:=(hT.fit tW sM).under;rw[tW]at hd;cases hd;simp only[go_sem,ig,fX,GQ,run_neq_bool _ t a b hu];exact re p _ _
  exact h.elim
 .exact adD p hT op ha hb h
 exact h.elim
def Ea{P:Program}(s:Sem Value)(w:World):((do Pure.pure (Next.value (<-s))):Sem Next).run P w=(s.run P w).andThen fun v w=>.ok (.value v) w:=by rw[ig];rfl
def Pm{P:Program}(s:Sem Unit)(w:World):((do s;Pure.pure Next.skip):Sem Next).run P w=(s.run P w).andThen fun _ w=>.ok .skip w:=by rw[ig];rfl
theorem ah{a:Act}{ev:Operand->AV}(hv:∀x,VR w (UE e) e G (ev x) (a.eval x))(o:Option Operand):O3 w e G (o.map ev) (o.map a.eval):=by
 cases o with
 |none=>trivial|some x=>exact hv x
theorem B6(p:jC C e G g hp w)(hC:PT C T)(o:Oper){a:Act}{ev:Operand->AV}(hv:∀x,VR w (UE e) e G (ev x) (a.eval x))(h:(r9 T o ev hp g).1):
  Bm C e G g hp w (r9 T o ev hp g) ((execOp a.eval o).run C.P w):=by
 have hT:=hC.ty;obtain⟨dst,op,type,pos,after,guard⟩:=o;cases op with
 |move x=>exact .pure p (hv x)|assign x=>
  simp only[r9]at h ⊢;split at h
  .exact asb p h
  exact .pure p (hv _)
 |pick c x y=>
  simp only[r9]at h ⊢;split at h
  .rename_i b hb;have hc:=hv c;rw[hb]at hc;obtain⟨hc,_⟩:=hc.VI;have:(execOp a.eval ⟨dst,.pick c x y,type,pos,after,guard⟩).run C.P w=.ok (.value (if b then a.eval x else a.eval y)) w:=by simp[execOp,hc,asBool]
   rw[this];refine .pure p ?_;cases b
   .exact hv y
   exact hv x
  exact h.elim
 |binOp op t x y yt=>
  have e1:(execOp a.eval ⟨dst,.binOp op t x y yt,type,pos,after,guard⟩).run C.P w=
    ((do eqGuard op t x y (a.eval x) (a.eval y);let v<-binOp op t (a.eval x) (a.eval y);Pure.pure (Next.value v)):Sem Next).run C.P w:=by
   simp only[execOp,ig];cases (eqGuard op t x y (a.eval x) (a.eval y)).run C.P w<;>rfl
  rw[e1];refine af0 p hT op (hv x) (fun hn=>?_) (fun hi=>?_) h
  .unfold K4 at hn;split at hn
   .rfl
   cases hn
  have h0:(gW (Cb y) op (tl T t) (ev x) (ev y)).1:=by simp only[r9]at h;rw[hi]at h;exact h
  refine akO p hT op (hv x) (fun hn=>?_) (fun hn=>agr p hT op (hv x) (hv y) (by rw[hn]at h0;exact h0)) h0;unfold Cb at hn;split at hn
  .rfl
  cases hn
 |makeMap t r=>
  cases r with
  |some _=>exact h.elim|none=>
   have e1:(execOp a.eval ⟨dst,.makeMap t none,type,pos,after,guard⟩).run C.P w=((Instr.makeMap t none).run C.P w).andThen fun v w=>.ok (.value v) w:=Ea _ _;rw[e1];simp only[r9];split
   .exact asn p
   exact adM p
 |lookup t m k ok=>
  cases ok with
  |true=>have e1:(execOp a.eval ⟨dst,.lookup t m k true,type,pos,after,guard⟩).run C.P w=((Instr.lookup t (a.eval m) (a.eval k) true).run C.P w).andThen fun v w=>.ok (.value v) w:=Ea _ _;rw[e1];exact apK p hT (hv m) (hv k) h|false=>have e1:(execOp a.eval ⟨dst,.lookup t m k false,type,pos,after,guard⟩).run C.P w=((Instr.lookup t (a.eval m) (a.eval k) false).run C.P w).andThen fun v w=>.ok (.value v) w:=Ea _ _;rw[e1];exact arf p hT (hv m) (hv k) h
 |mapUpdate t m k v=>
  have e1:(execOp a.eval ⟨dst,.mapUpdate t m k v,type,pos,after,guard⟩).run C.P w=((Instr.mapUpdate t (a.eval m) (a.eval k) (a.eval v)).run C.P w).andThen fun _ w=>.ok .skip w:=Pm _ _;rw[e1];simp only[r9]at h ⊢;split at h
  .rename_i hs;rw[iP hs];exact eu p hT (hv m) (hv k) (hv v) h
  rename_i hs;rw[iN hs];exact ae7 p hT (hv m) (hv k) (hv v) h
 |insert t m k v=>have e1:(execOp a.eval ⟨dst,.insert t m k v,type,pos,after,guard⟩).run C.P w=((Instr.mapUpdate t (a.eval m) (a.eval k) (a.eval v)).run C.P w).andThen fun _ w=>.ok .skip w:=Pm _ _;rw[e1];exact eu p hT (hv m) (hv k) (hv v) h|unOp op t x=>
  have hx:=hv x;cases op with
  |not=>
   simp only[r9]at h ⊢;split at h
   .rename_i b hb;rw[hb]at hx;obtain⟨hx,_⟩:=hx.VI;have e1:(execOp a.eval ⟨dst,.unOp .not t x,type,pos,after,guard⟩).run C.P w=.ok (.value (.bool (!b))) w:=by simp[execOp,hx,Op.unary]
    rw[e1];exact re p _ _
   exact h.elim
  |neg=>
   simp only[r9]at h ⊢;split at h
   .rename_i k n hb;rw[hb]at hx;obtain⟨hx,_⟩:=hx.VI;have e1:(execOp a.eval ⟨dst,.unOp .neg t x,type,pos,after,guard⟩).run C.P w=.ok (.value (.int k (k.wrap (0-n)))) w:=by simp[execOp,hx,Op.unary,Op.intArith]
    rw[e1];exact Wz p k _ h
   exact h.elim
  |_=>exact h.elim
 |nilCheck x=>
  have hx:=hv x;simp only[r9]at h ⊢;split at h
  .rename_i n hb;rw[hb]at hx;have he:=hx.Cc;have e1:(execOp a.eval ⟨dst,.nilCheck x,type,pos,after,guard⟩).run C.P w=.ok (.value (a.eval x)) w:=by simp[execOp,he]
   rw[e1];exact .pure p hx
  .rename_i cs hb;rw[hb]at hx;obtain⟨b,off,f,he,_⟩:=hx.Si.Si;have e1:(execOp a.eval ⟨dst,.nilCheck x,type,pos,after,guard⟩).run C.P w=.ok (.value (a.eval x)) w:=by simp[execOp,he]
   rw[e1];exact .pure p hx
  .rename_i id g' n i off hb;rw[hb]at hx;obtain⟨ee,b,c,_,_,_,_,he⟩:=wY p.hr hx h;have e1:(execOp a.eval ⟨dst,.nilCheck x,type,pos,after,guard⟩).run C.P w=.ok (.value (a.eval x)) w:=by simp[execOp,he]
   rw[e1];exact .pure p hx
  exact h.elim
 |extract x i=>
  have hx:=hv x;simp only[r9]at h ⊢;split at h
  .rename_i vs hb;rw[hb]at hx;obtain⟨xs,he,Ig,ec⟩:=hx.oJ;have hi:i<vs.length:=h;have e1:(execOp a.eval ⟨dst,.extract x i,type,pos,after,guard⟩).run C.P w=.ok (.value (xs.getD i undef)) w:=by have:i<xs.size:=oM;simp[execOp,he,Instr.extract,this,gA]
   rw[e1];refine .pure p ?_;rw[gE,gG hi];exact ec i hi
  exact h.elim
 |load t x=>have e1:(execOp a.eval ⟨dst,.load t x,type,pos,after,guard⟩).run C.P w=((Instr.loadAt t (a.eval x)).run C.P w).andThen fun v w=>.ok (.value v) w:=Ea _ _;rw[e1];simp only[r9]at h ⊢;exact akK p (fun hs=>hT.fits hs) (hC.Hm p.ln (hv x)) h|store t x v=>have e1:(execOp a.eval ⟨dst,.store t x v,type,pos,after,guard⟩).run C.P w=((Instr.storeAt t (a.eval x) (a.eval v)).run C.P w).andThen fun _ w=>.ok .skip w:=Pm _ _;rw[e1];exact alT p hT (hv v) (hv x) h|indexAddr t x i=>have e1:(execOp a.eval ⟨dst,.indexAddr t x i,type,pos,after,guard⟩).run C.P w=((Instr.indexAt t (a.eval x) (a.eval i)).run C.P w).andThen fun v w=>.ok (.value v) w:=Ea _ _;rw[e1];exact abE p hT (hC.Hm p.ln (hv x)) (hv i) h|fieldAddr t x f=>have e1:(execOp a.eval ⟨dst,.fieldAddr t x f,type,pos,after,guard⟩).run C.P w=((Instr.fieldAt t (a.eval x) f).run C.P w).andThen fun v w=>.ok (.value v) w:=Ea _ _;rw[e1];exact apr p hT (hC.Hm p.ln (hv x)) h|field t x f=>have e1:(execOp a.eval ⟨dst,.field t x f,type,pos,after,guard⟩).run C.P w=((Instr.field t (a.eval x) f).run C.P w).andThen fun v w=>.ok (.value v) w:=Ea _ _;rw[e1];exact ali p hT (hv x) h|index t x i=>have e1:(execOp a.eval ⟨dst,.index t x i,type,pos,after,guard⟩).run C.P w=((Instr.index t (a.eval x) (a.eval i)).run C.P w).andThen fun v w=>.ok (.value v) w:=Ea _ _;rw[e1];exact ajF p hT (hv x) (hv i) h|slice t x lo hi mx=>have e1:(execOp a.eval ⟨dst,.slice t x lo hi mx,type,pos,after,guard⟩).run C.P w=((Instr.sliceAt t (a.eval x) (lo.map a.eval) (hi.map a.eval) (mx.map a.eval)).run C.P w).andThen fun v w=>.ok (.value v) w:=Ea _ _;rw[e1];exact abu p hT (hv x) (ah hv lo) (ah hv hi) (ah hv mx) h fun n el tW h=>asl p hT tW (hv x) (ah hv lo) (ah hv hi) (ah hv mx) h|makeSlice t l c=>
  have e1:(execOp a.eval ⟨dst,.makeSlice t l c,type,pos,after,guard⟩).run C.P w=((Instr.makeSlice t (a.eval l) (a.eval c)).run C.P w).andThen fun v w=>.ok (.value v) w:=Ea _ _;rw[e1];have KM:=hv l;have Uu:=hv c;simp only[r9]at h ⊢;split at h
  .rename_i el kl l' kc c' tW Ig Zp;rw[Ig]at KM;rw[Zp]at Uu;obtain⟨KM,_⟩:=KM.VI;obtain⟨Uu,_⟩:=Uu.VI;rw[KM,Uu];obtain⟨h0,h1,h2,h3,h4⟩:=h;exact afY p hT tW h0 h1 h2 h3 h4
  exact h.elim
 |buildSlice t n ps=>
  have e1:(execOp a.eval ⟨dst,.buildSlice t n ps,type,pos,after,guard⟩).run C.P w=((Instr.buildSlice t n (ps.map fun q=>(q.1,a.eval q.2))).run C.P w).andThen fun v w=>.ok (.value v) w:=Ea _ _;rw[e1];simp only[r9]at h ⊢;split at h
  .rename_i el tW;obtain⟨h1,h2,h3,h4⟩:=h;exact aqP p hT tW (fun q _=>hv q.2) h1 h2 h3 h4
  exact h.elim
 |build t ps=>
  have e1:(execOp a.eval ⟨dst,.build t ps,type,pos,after,guard⟩).run C.P w=((Instr.build t (ps.map fun q=>(q.1,a.eval q.2))).run C.P w).andThen fun v w=>.ok (.value v) w:=Ea _ _;rw[e1];simp only[r9]at h ⊢;split at h
  .rename_i fs tW;exact aqh p hT tW (fun q _=>hv q.2) h
  .rename_i n el tW;exact as7 p hT tW (fun q _=>hv q.2) h.2 h.1
  exact h.elim
 |alloc t=>
  have e1:(execOp a.eval ⟨dst,.alloc t,type,pos,after,guard⟩).run C.P w=((Instr.alloc t true (.tuple #[])).run C.P w).andThen fun v w=>.ok (.value v) w:=Ea _ _
  rw[e1];simp only[r9]at h ⊢;split at h
  ·exact akw p hT h.1 h.2.1 h.2.2
  exact afx p hT h
 |box t x=>have e1:(execOp a.eval ⟨dst,.box t x,type,pos,after,guard⟩).run C.P w=((Instr.box t (a.eval x)).run C.P w).andThen fun v w=>.ok (.value v) w:=Ea _ _;rw[e1,ahY,GQ];exact aax p (hv x) h.2|convert s d x=>
  have e1:(execOp a.eval ⟨dst,.convert s d x,type,pos,after,guard⟩).run C.P w=((convert s d (a.eval x)).run C.P w).andThen fun v w=>.ok (.value v) w:=Ea _ _;rw[e1];have hx:=hv x;simp only[r9]at h ⊢;split at h
  ·rename_i ks kd k n hs hd hb;rw[hb]at hx;obtain⟨hx,_⟩:=hx.VI;rw[hx];obtain⟨d1,Ui,al⟩:=(hT.fit hs sM).under;obtain⟨d2,ol,SA⟩:=(hT.fit hd sM).under;rw[hs]at al;cases al;rw[hd]at SA;cases SA;have:(convert s d (.int k n)).run C.P w=.ok (.int kd (kd.wrap n)) w:=by simp[Go.convert,pP Ui,pP ol,Conv.intToInt]
   rw[this];exact Cu p _ _ _
  ·rename_i el b hs hd hb;split at h
   ·rename_i hu8;rw[hb]at hx;obtain⟨hx,_⟩:=hx.VI;rw[hx];obtain⟨d1,Ui,al⟩:=(hT.fit hs sM).under;obtain⟨d2,ol,SA⟩:=(hT.fit hd sM).under;obtain⟨d3,lT,IN⟩:=(hT.fit hu8 sM).under;rw[hs]at al;cases al;rw[hd]at SA;cases SA;rw[hu8]at IN;cases IN;exact aes p Ui ol lT b h.1 h.2
   exact h.elim
  ·rename_i el hs hd;split at h
   ·rename_i ys hu8 Es;split at h
    ·rename_i bs Mp;obtain⟨d1,Ui,al⟩:=(hT.fit hs sM).under;obtain⟨d2,ol,SA⟩:=(hT.fit hd sM).under;obtain⟨d3,lT,IN⟩:=(hT.fit hu8 sM).under;rw[hs]at al;cases al;rw[hd]at SA;cases SA;rw[hu8]at IN;cases IN;exact asj p Ui lT ol hx Es h Mp
    exact h.elim
   exact h.elim
  exact h.elim
 |call c=>
  obtain⟨callee,args,argTypes⟩:=c;cases callee with
  |builtin b=>
   simp only[r9]at h ⊢;split at h
   ·rename_i x t ha ht;have fR:args=#[x]:=CP
    have qS:argTypes=#[t]:=Nv
    subst fR;subst qS;have e1:(execOp a.eval ⟨dst,.call {callee:=.builtin .len,args:=#[x],argTypes:=#[t]},type,pos,after,guard⟩).run C.P w=
      ((Builtin.len_ #[t] type #[a.eval x]).run C.P w).andThen fun v w=>.ok (.value v) w:=by
     simp[execOp,resolve,invoke,builtin]
    rw[e1];exact adu p hT (hv x) h
   ·rename_i d x t t' ha ht;have fR:args=#[d,x]:=CP
    have qS:argTypes=#[t,t']:=Nv
    subst fR;subst qS;split at h
    ·rename_i el tW;obtain⟨lm,h⟩:=h;subst lm;have e1:(execOp a.eval ⟨dst,.call {callee:=.builtin .append,args:=#[d,x],argTypes:=#[t',t']},type,pos,after,guard⟩).run C.P w=
       ((Builtin.append_ #[t',t'] type #[a.eval d,a.eval x]).run C.P w).andThen fun v w=>.ok (.value v) w:=by
      simp[execOp,resolve,invoke,builtin]
     rw[e1];exact ab8 p hT tW (hv d) (hv x) h
    exact h.elim
   ·rename_i d x t t' ha ht;have fR:args=#[d,x]:=CP
    have qS:argTypes=#[t,t']:=Nv
    subst fR;subst qS;have e1:(execOp a.eval ⟨dst,.call {callee:=.builtin .copy,args:=#[d,x],argTypes:=#[t,t']},type,pos,after,guard⟩).run C.P w=
      ((Builtin.copy_ #[t,t'] type #[a.eval d,a.eval x]).run C.P w).andThen fun v w=>.ok (.value v) w:=by
     simp[execOp,resolve,invoke,builtin]
    rw[e1];exact ahv p hT (hv d) (hv x) h
   ·rename_i d t ha ht;have fR:args=#[d]:=CP
    have qS:argTypes=#[t]:=Nv
    subst fR;subst qS;have e1:(execOp a.eval ⟨dst,.call {callee:=.builtin .clear,args:=#[d],argTypes:=#[t]},type,pos,after,guard⟩).run C.P w=
      ((Builtin.clear_ #[t] type #[a.eval d]).run C.P w).andThen fun v w=>.ok (.value v) w:=by
     simp[execOp,resolve,invoke,builtin]
    rw[e1];exact afy p hT (hv d) h
   ·rename_i x y t t' ha ht;have fR:args=#[x,y]:=CP
    have qS:argTypes=#[t,t']:=Nv
    subst fR;subst qS;have hx:=hv x;have hy:=hv y;split at h
    ·rename_i k m k' n aZ Wx;rw[aZ]at hx;rw[Wx]at hy;obtain⟨hx,_⟩:=hx.VI;obtain⟨hy,_⟩:=hy.VI;have e1:(execOp a.eval ⟨dst,.call {callee:=.builtin .min,args:=#[x,y],argTypes:=#[t,t']},type,pos,after,guard⟩).run C.P w=.ok (.value (.int k (if n<m then n else m))) w:=by simp[execOp,resolve,invoke,builtin,hx,hy,run_min_int2]
     rw[e1];exact Cu p _ _ _
    exact h.elim
   ·rename_i x y t t' ha ht;have fR:args=#[x,y]:=CP
    have qS:argTypes=#[t,t']:=Nv
    subst fR;subst qS;have hx:=hv x;have hy:=hv y;split at h
    ·rename_i k m k' n aZ Wx;rw[aZ]at hx;rw[Wx]at hy;obtain⟨hx,_⟩:=hx.VI;obtain⟨hy,_⟩:=hy.VI;have e1:(execOp a.eval ⟨dst,.call {callee:=.builtin .max,args:=#[x,y],argTypes:=#[t,t']},type,pos,after,guard⟩).run C.P w=.ok (.value (.int k (if m<n then n else m))) w:=by simp[execOp,resolve,invoke,builtin,hx,hy,run_max_int2]
     rw[e1];exact Cu p _ _ _
    exact h.elim
   exact h.elim
  |_=>exact h.elim
 |makeFunc fn first caps=>
  simp only[r9]at h ⊢;split at h
  ·rename_i f hf;have ir:first=#[]:=by rw[<-We];exact hf
   subst ir;have e1:(execOp a.eval ⟨dst,.makeFunc (.func f) #[] caps,type,pos,after,guard⟩).run C.P w=.ok (.value (.func (.func f) #[] (caps.map a.eval))) w:=by simp[execOp,Instr.makeFunc]
   rw[e1];refine .pure p (.fn f _ _ sM fun i hi=>?_);have jk:i<caps.size:=Ks;have e2:(caps.map a.eval).getD i undef=a.eval caps[i]:=by simp[gA,jk]
   rw[e2];simp only[nw,Jf];exact hv _
  ·rename_i f x xs hf;have ir:first=(x::xs).toArray:=by rw[<-We];exact hf
   have Zp:caps=#[]:=by rw[<-We];exact h
   subst ir;subst Zp;have e1:(execOp a.eval ⟨dst,.makeFunc (.func f) (x::xs).toArray #[],type,pos,after,guard⟩).run C.P w=.ok (.value (.func (.func f) ((x::xs).map a.eval).toArray #[])) w:=by simp[execOp,Instr.makeFunc]
   rw[e1];refine .pure p (.Ep f _ _ sM fun i hi=>?_);have jk:i<(x::xs).length:=Ks;have e2:((x::xs).map a.eval).toArray.getD i undef=a.eval (x::xs)[i]:=by rw[gA,n_,YO,gG jk];rfl
   rw[e2];simp only[nw];exact hv _
  exact h.elim
 |_=>exact h.elim
end
open Go Go.Great
abbrev Nm:=List (Nat×Nat×Az)
def lk:Nm->Nat->Option (Nat×Az)
 |[],_=>none|(i,gi,a,ga)::l,n=>if a=n then some (i,gi,ga) else lk l n
def bw:Nm->Nat->Option (Nat×Az)
 |[],_=>none|(i,gi,a,ga)::l,n=>if i=n then some (gi,a,ga) else bw l n
def gq(m:Bool)(τ:Nm)(hp:Hp):AV->AV
 | .l a g off len=>match lk τ a with
  |some (i,gi,ga)=>if g=ga then .l i gi off len else .bad|none=>fz 4 hp (.l a g off len)
 | .p a g n j off=>match lk τ a with
  |some (i,gi,ga)=>if g=ga then .p i gi n j off else .bad|none=>fz 4 hp (.p a g n j off)
 | .Ic a g=>match lk τ a with
  |some (i,gi,ga)=>if g=ga then .Ic i gi else .bad|none=>fz 4 hp (.Ic a g)
 |v=>if m then fz 4 hp v else v
def Ah(m:Bool)(τ:Nm)(hp:Hp):AV->Prop
 | .l a g off len=>match lk τ a with
  |some (_,_,ga)=>g=ga|none=>Xa 4 hp (.l a g off len)
 | .p a g n j off=>match lk τ a with
  |some (_,_,ga)=>g=ga|none=>Xa 4 hp (.p a g n j off)
 | .Ic a g=>match lk τ a with
  |some (_,_,ga)=>g=ga|none=>Xa 4 hp (.Ic a g)
 |v=>if m then Xa 4 hp v else Xa 0 hp v
def pg(m:Bool)(τ:Nm)(hp:Hp):AV->List Nat
 | .l a g off len=>match lk τ a with
  |some _=>[]|none=>qg 4 hp (.l a g off len)
 | .p a g n j off=>match lk τ a with
  |some _=>[]|none=>qg 4 hp (.p a g n j off)
 | .Ic a g=>match lk τ a with
  |some _=>[]|none=>qg 4 hp (.Ic a g)
 |v=>if m then qg 4 hp v else[]
def OB(m:Bool)(τ:Nm)(hp:Hp):AV->AV
 | .fn f cs=>.fn f (cs.map (gq m τ hp))|v=>gq m τ hp v
def m_(m:Bool)(τ:Nm)(hp:Hp):AV->Prop
 | .fn _ cs=>∀c∈cs,Ah m τ hp c|v=>Ah m τ hp v
def l8(m:Bool)(τ:Nm)(hp:Hp):AV->List Nat
 | .fn _ cs=>cs.flatMap (pg m τ hp)|v=>pg m τ hp v
def GV(m:Bool)(τ:Nm)(hp:Hp):AV->AV
 | .Rc t k es=>.Rc t k es|v=>OB m τ hp v
def MO(m:Bool)(τ:Nm)(hp:Hp):AV->Prop
 | .Rc _ _ _=>True|v=>m_ m τ hp v
def AB(m:Bool)(τ:Nm)(hp:Hp):AV->List Nat
 | .Rc _ _ _=>[]|v=>l8 m τ hp v
def C5(m:Bool)(τ:Nm)(hp:Hp)(v:AV):AV:=cK (OB m τ hp) v
def Fj(m:Bool)(τ:Nm)(hp:Hp)(v:AV):Prop:=∀c∈v.cells,m_ m τ hp c
def y_(m:Bool)(τ:Nm)(hp:Hp)(v:AV):List Nat:=v.cells.flatMap (l8 m τ hp)
def qO(m:Bool)(τ:Nm)(hp:Hp):AV->AV
 | .F1 vs=>.F1 (vs.map (C5 m τ hp))|v=>C5 m τ hp v
def TK(m:Bool)(τ:Nm)(hp:Hp):AV->Prop
 | .F1 vs=>∀v∈vs,Fj m τ hp v|v=>Fj m τ hp v
def GB(m:Bool)(τ:Nm)(hp:Hp):AV->List Nat
 | .F1 vs=>vs.flatMap (y_ m τ hp)|v=>y_ m τ hp v
def Ds(m:Bool)(τ:Nm)(hp:Hp):Ob->Ob
 | .own t k es=>.own t k (es.map (cK (GV m τ hp)))| .box cs=>.box (cs.map (OB m τ hp))| .mp es=>.mp es| .ms es=>.ms es| .bd t e bs=>.bd t e bs
def IC(es:List (ByteArray×AV)):Prop:=∀p∈es,match p.2 with| .lit _=>True|_=>False
theorem IC.vr{es:List (ByteArray×AV)}(h:IC es){i:Nat}{p:ByteArray×AV}(hp:es[i]?=some p){w w':World}{U U':Nat->Prop}{e e':bQ}{G G':Nat->Prop}{x:Value}(hv:VR w U e G p.2 x):VR w' U' e' G' p.2 x:=by
 have h1:=h p (List.mem_of_getElem? hp);generalize p.2=c at h1 hv;cases c with
 |lit v=>obtain⟨h3,h4⟩:=hv.VI;rw[h3];exact .rC _ _ (.lit _ h4)
 |_=>exact h1.elim
def Lf(m:Bool)(τ:Nm)(hp:Hp):Ob->Prop
 | .own _ _ es=>∀e∈es,∀c∈e.cells,MO m τ hp c| .box cs=>∀c∈cs,m_ m τ hp c| .mp _=>True| .ms es=>IC es| .bd _ _ _=>True
def rZ(m:Bool)(τ:Nm)(hp:Hp):Ob->List Nat
 | .own _ _ es=>es.flatMap fun e=>e.cells.flatMap (AB m τ hp)| .box cs=>cs.flatMap (l8 m τ hp)| .mp _=>[]| .ms _=>[]| .bd _ _ _=>[]
def yO(m:Bool)(τ:Nm)(hp:Hp):Hp:=τ.map fun q=>(q.1,(hp.get q.2.2.1).map fun x=>(q.2.1,Ds m τ hp x.2))
def Dg(m:Bool)(τ:Nm)(hp:Hp):Nm->Prop
 |[]=>True|(_,_,a,ga)::l=>(match hp.get a with|some (g,ob)=>g=ga/\Lf m τ hp ob|none=>False)/\Dg m τ hp l
def N_(m:Bool)(τ:Nm)(hp:Hp):Nm->List Nat
 |[]=>[]|(_,_,a,_)::l=>(match hp.get a with|some (_,ob)=>rZ m τ hp ob|none=>[])++N_ m τ hp l
theorem vC:∀{τ:Nm}{a i gi ga:Nat},lk τ a=some (i,gi,ga)->(i,gi,a,ga)∈τ
 |[],_,_,_,_,h=>C3|(i',Gz,a',M7)::l,a,i,gi,ga,h=>by
  simp only[lk]at h;split at h
  .rename_i ha;subst ha;cases h;exact mS
  exact mC _ (vC h)
theorem Ae:∀{τ:Nm}{a i gi ga:Nat},bw τ i=some (gi,a,ga)->(i,gi,a,ga)∈τ
 |[],_,_,_,_,h=>C3|(i',Gz,a',M7)::l,a,i,gi,ga,h=>by
  simp only[bw]at h;split at h
  .rename_i ha;subst ha;cases h;exact mS
  exact mC _ (Ae h)
structure Xk(τ:Nm):Prop where
 n1:(τ.map (·.1)).Nodup
 n2:(τ.map (·.2.2.1)).Nodup
theorem Xk.bw:∀{τ:Nm},(τ.map (·.1)).Nodup->∀{a i gi ga:Nat},(i,gi,a,ga)∈τ->Sym.bw τ i=some (gi,a,ga)
 |[],_,_,_,_,_,h=>C3|(i',Gz,a',M7)::l,h,a,i,gi,ga,hm=>by
  simp only[b_,TV]at h;simp only[Sym.bw];rcases rX.1 hm with h1|h1
  .cases h1;rw[iP rfl]
  rw[iN ?_]
  .exact Xk.bw h.2 h1
  rintro rfl;exact h.1 (A2.2 ⟨_,h1,rfl⟩)
theorem Xk.lk:∀{τ:Nm},(τ.map (·.2.2.1)).Nodup->∀{a i gi ga:Nat},(i,gi,a,ga)∈τ->Sym.lk τ a=some (i,gi,ga)
 |[],_,_,_,_,_,h=>C3|(i',Gz,a',M7)::l,h,a,i,gi,ga,hm=>by
  simp only[b_,TV]at h;simp only[Sym.lk];rcases rX.1 hm with h1|h1
  .cases h1;rw[iP rfl]
  rw[iN ?_]
  .exact Xk.lk h.2 h1
  rintro rfl;exact h.1 (A2.2 ⟨_,h1,rfl⟩)
theorem U9{m:Bool}{τ:Nm}{hp:Hp}{σ:Nm}(i:Nat):Hp.get (σ.map fun q=>(q.1,(hp.get q.2.2.1).map fun x=>(q.2.1,Ds m τ hp x.2))) i=
  match Sym.bw σ i with|some (gi,a,_)=>(hp.get a).map fun x=>(gi,Ds m τ hp x.2)|none=>none:=by
 induction σ with
 |nil=>rfl|cons q σ ih=>
  obtain⟨i',Gz,a',M7⟩:=q;simp only[b_,Hp.get,Sym.bw];split
  .rfl
  exact ih
theorem A5{m:Bool}{τ:Nm}{hp:Hp}:∀{σ:Nm},Dg m τ hp σ->∀{i gi a ga:Nat},(i,gi,a,ga)∈σ->∃ob,hp.get a=some (ga,ob)/\Lf m τ hp ob
 |[],_,_,_,_,_,h=>C3|(i',Gz,a',M7)::l,h,i,gi,a,ga,hm=>by
  obtain⟨h1,h2⟩:=h;rcases rX.1 hm with h3|h3
  .cases h3
   split at h1
   .rename_i g ob hg;obtain⟨rfl,h1⟩:=h1;exact⟨ob,hg,h1⟩
   exact h1.elim
  exact A5 h2 h3
theorem Do{m:Bool}{τ:Nm}{hp:Hp}:∀{σ:Nm}{i gi a ga g:Nat}{ob:Ob}{d:Nat},(i,gi,a,ga)∈σ->hp.get a=some (g,ob)->d∈rZ m τ hp ob->d∈N_ m τ hp σ
 |[],_,_,_,_,_,_,_,h,_,_=>C3|(i',Gz,a',M7)::l,i,gi,a,ga,g,ob,d,hm,hg,hd=>by
  rcases rX.1 hm with h3|h3
  .cases h3
   simp only[N_,hg];exact XI _ hd
  exact mO _ (Do h3 hg hd)
def XA(e:bQ)(id b:Nat):Prop:=(∃ee c,e id=some ee/\ee.Rr=some (b,c))\/∃B c' ee c,e.Rc b=some (B,c')/\e id=some ee/\ee.Rr=some (B,c)
def XA.own{e:bQ}{id b:Nat}(h:XA e id b):TT e b:=by
 rcases h with ⟨ee,c,h1,h2⟩|⟨B,c',ee,c,h1,h2,h3⟩
 .exact .inl ⟨id,ee,c,h1,h2⟩
 exact .inr ⟨B,c',h1,id,ee,c,h2,h3⟩
def XA.uniq{w:World}{e:bQ}{G:Nat->Prop}{hp:Hp}(hr:cH w e G hp){id qJ b:Nat}(h:XA e id b)(h':XA e qJ b):id=qJ:=by
 rcases h with ⟨ee,c,h1,h2⟩|⟨B,c1,ee,c,h1,h2,h3⟩<;>rcases h' with ⟨SV,c',oS,D8⟩|⟨B',c1',SV,c',oS,D8,aiI⟩
 .exact hr.inj _ _ _ _ _ _ _ h1 oS h2 D8
 .have:=hr.ko b ⟨id,ee,c,h1,h2⟩;rw[oS]at this;cases this
 .have:=hr.ko b ⟨qJ,SV,c',oS,D8⟩;rw[h1]at this;cases this
 rw[h1]at oS;cases oS;exact hr.inj _ _ _ _ _ _ _ h2 D8 h3 aiI
section
open Classical in
noncomputable def eN(τ:Nm)(e:bQ)(z':Nat->Prop):bQ:=
 ⟨fun i=>match Sym.bw τ i with|some (gi,a,_)=>(e a).map fun ee=>{ee with g:=gi}|none=>none,z',
  fun b=>match e.Rc b with
  |some (B,c)=>if ∃q∈τ,∃ee cc,e q.2.2.1=some ee/\ee.Rr=some (B,cc) then some (B,c) else none
  |none=>none⟩
end
theorem tN{τ:Nm}{e:bQ}{z':Nat->Prop}{i:Nat}{SV:EE}(h:eN τ e z' i=some SV):∃gi a ga ee,(i,gi,a,ga)∈τ/\e a=some ee/\SV={ee with g:=gi}:=by
 simp only[eN]at h;cases hb:Sym.bw τ i with
 |none=>rw[hb]at h;cases h
 |some q=>
  obtain⟨gi,a,ga⟩:=q;rw[hb]at h;cases he:e a with
  |none=>simp only[he]at h;cases h
  |some ee=>simp only[he,rL,Kh]at h;exact⟨gi,a,ga,ee,Ae hb,he,h.symm⟩
def R3{τ:Nm}(hn:Xk τ){e:bQ}{z':Nat->Prop}{i gi a ga:Nat}{ee:EE}(h:(i,gi,a,ga)∈τ)(he:e a=some ee):eN τ e z' i=some {ee with g:=gi}:=by simp only[eN,Xk.bw hn.n1 h,he,rL]
def fq{τ:Nm}{e:bQ}{z':Nat->Prop}{b:Nat}(h:I2 (eN τ e z') b):∃q∈τ,∃ee c,e q.2.2.1=some ee/\ee.Rr=some (b,c):=by obtain⟨i,SV,c,h1,h2⟩:=h;obtain⟨gi,a,ga,ee,h3,h4,rfl⟩:=tN h1;exact⟨_,h3,ee,c,h4,h2⟩
def j8{τ:Nm}{e:bQ}{z':Nat->Prop}{b B c:Nat}(h:(eN τ e z').Rc b=some (B,c)):e.Rc b=some (B,c)/\∃q∈τ,∃ee cc,e q.2.2.1=some ee/\ee.Rr=some (B,cc):=by
 simp only[eN]at h;split at h
 .rename_i B' c' hk;split at h
  .rename_i hx;cases h;exact⟨hk,hx⟩
  cases h
 cases h
def iX{τ:Nm}{e:bQ}{z':Nat->Prop}{b B c:Nat}(h:e.Rc b=some (B,c))(hx:∃q∈τ,∃ee cc,e q.2.2.1=some ee/\ee.Rr=some (B,cc)):(eN τ e z').Rc b=some (B,c):=by simp only[eN,h,iP hx]
def dP{τ:Nm}{e:bQ}{z':Nat->Prop}{b:Nat}(h:TT (eN τ e z') b):∃q∈τ,XA e q.2.2.1 b:=by
 rcases h with h|⟨B,c,hk,ho⟩
 .obtain⟨q,hq,ee,c,h1,h2⟩:=fq h;exact⟨q,hq,.inl ⟨ee,c,h1,h2⟩⟩
 obtain⟨h1,_⟩:=j8 hk;obtain⟨q,hq,ee,cc,h3,h4⟩:=fq ho;exact⟨q,hq,.inr ⟨B,c,ee,cc,h1,h3,h4⟩⟩
theorem arE{m:Bool}{τ:Nm}{hp:Hp}{c:AV}(h:Ah m τ hp c):(gq m τ hp c).one=true:=by
 cases c with
 |l a g off len=>
  simp only[gq,Ah]at h ⊢;cases hl:lk τ a with
  |none=>simp only[hl]at h ⊢;exact o9 h|some q=>obtain⟨i,gi,ga⟩:=q;simp only[hl]at h ⊢;rw[iP h];rfl
 |p a g n j off=>
  simp only[gq,Ah]at h ⊢;cases hl:lk τ a with
  |none=>simp only[hl]at h ⊢;exact o9 h|some q=>obtain⟨i,gi,ga⟩:=q;simp only[hl]at h ⊢;rw[iP h];rfl
 |Ic a g=>
  simp only[gq,Ah]at h ⊢;cases hl:lk τ a with
  |none=>simp only[hl]at h ⊢;exact o9 h|some q=>obtain⟨i,gi,ga⟩:=q;simp only[hl]at h ⊢;rw[iP h];rfl
 |_=>
  cases m with
  |true=>exact o9 (n:=4) h|false=>first|rfl|exact h.elim
theorem Ce{m:Bool}{τ:Nm}{hp:Hp}{c:AV}(h:m_ m τ hp c):(OB m τ hp c).one=true:=by
 cases c with
 |fn f cs=>rfl|_=>(simp only[OB,m_]at h ⊢;exact arE h)
theorem Sd{m:Bool}{τ:Nm}{hp:Hp}{c:AV}(h:MO m τ hp c):(GV m τ hp c).one=true:=by
 cases c with
 |Rc t k es=>rfl|_=>(simp only[GV,MO]at h ⊢;exact Ce h)
def RU{c:AV}(h:c.one=true):c.cells=[c]:=by cases c<;>first|rfl|cases h
theorem X_{m:Bool}{τ:Nm}{hp:Hp}{el:AV}(hc:∀c∈el.cells,c.one=true)(hP:∀c∈el.cells,MO m τ hp c):(cK (GV m τ hp) el).cells=el.cells.map (GV m τ hp):=by
 cases el with
 |agg cs=>rfl|bad=>have:=hc .bad p9;cases this
 |F1 cs=>have:=hc (.F1 cs) p9;cases this
 |_=>exact RU (Sd (hP _ mS))
section
variable{C:Cx}{e:bQ}{G G':Nat->Prop}{g:Nat}{hp:Hp}{w:World}{T:vp}{m:Bool}{τ:Nm}{D:List Nat}{z':Nat->Prop}
structure mX(m:Bool)(e:bQ)(hp:Hp)(G':Nat->Prop)(τ:Nm)(D:List Nat)(z':Nat->Prop):Prop where
 nm:Xk τ
 Yq:Dg m τ hp τ
 rh:∀d∈N_ m τ hp τ,d∈D
 SH:∀d∈D,lk τ d=none
 gen:∀q∈τ,G' q.2.1
 z1:∀b,e.z b->z' b
 z2:∀b,z' b->e.z b\/∃id,id∉D/\lk τ id=none/\XA e id b
def mX.GL(h:mX m e hp G' τ D z')(hr:cH w e G hp):WD e (eN τ e z') (·∈D):=by
 have notin:∀{id b},id∈D->XA e id b->UE (eN τ e z') b:=by
  intro id b hid ho;refine⟨fun hz=>?_,fun X1=>?_⟩
  .rcases h.z2 b hz with hz|⟨qJ,h1,_,h3⟩
   .exact hr.PQ ho.own hz
   have:=XA.uniq hr ho h3;subst this;exact h1 hid
  obtain⟨q,hq,h1⟩:=dP X1;have:=XA.uniq hr ho h1;subst this;have h2:=h.SH _ hid;rw[Xk.lk h.nm.n2 (show(q.1,q.2.1,q.2.2.1,q.2.2.2)∈τ from hq)]at h2;cases h2
 refine⟨fun b hb=>⟨fun hz=>?_,fun ho=>?_⟩,fun id ee b c hid he hb=>⟨notin hid (.inl ⟨ee,c,he,hb⟩),fun b' c' hk=>notin hid (.inr ⟨b,c',ee,c,hk,he,hb⟩)⟩⟩
 .rcases h.z2 b hz with hz|⟨qJ,_,_,h3⟩
  .exact hb.1 hz
  exact hb.2 h3.own
 obtain⟨q,_,h1⟩:=dP ho;exact hb.2 h1.own
theorem mX.On(h:mX m e hp G' τ D z')(hr:cH w e G hp){v:AV}{x:Value}(hv:VR w (UE e) e G v x)(hP:Ah m τ hp v)(hD:∀d∈pg m τ hp v,d∈D):VR w (UE (eN τ e z')) (eN τ e z') G' (gq m τ hp v) x:=by
 have x1:=h.GL hr;cases v with
 |l a g' off len=>
  simp only[gq,Ah,pg]at hP hD ⊢;cases hl:lk τ a with
  |none=>simp only[hl]at hP hD ⊢;exact .rC _ _ (i8 hr x1 4 hv hP hD)|some q=>
   obtain⟨i,gi,ga⟩:=q;simp only[hl]at hP ⊢;subst hP;rw[iP rfl];have hm:=vC hl;obtain⟨h1,h2,h3⟩:=hv.UF;refine .l _ _ _ _ _ (h.gen _ hm) h2 fun SV X6 X0=>?_;obtain⟨Gz,a',M7,ee,h4,h5,rfl⟩:=tN X6;have h6:=Xk.bw h.nm.n1 hm;rw[Xk.bw h.nm.n1 h4]at h6;cases h6
   obtain⟨ob,h7,_⟩:=A5 h.Yq hm;obtain⟨ee2,h8,h9,_⟩:=hr.live _ _ _ h7;rw[h5]at h8;cases h8;obtain⟨bF,ED⟩:=h3 ee h5 h9;exact⟨bF,fun hn=>ED hn⟩
 |p a g' n j off=>
  simp only[gq,Ah,pg]at hP hD ⊢;cases hl:lk τ a with
  |none=>simp only[hl]at hP hD ⊢;exact .rC _ _ (i8 hr x1 4 hv hP hD)|some q=>
   obtain⟨i,gi,ga⟩:=q;simp only[hl]at hP ⊢;subst hP;rw[iP rfl];have hm:=vC hl;obtain⟨h1,h2,h3⟩:=hv.nj;refine .p _ _ _ _ _ _ (h.gen _ hm) h2 fun SV X6 X0=>?_;obtain⟨Gz,a',M7,ee,h4,h5,rfl⟩:=tN X6;have h6:=Xk.bw h.nm.n1 hm;rw[Xk.bw h.nm.n1 h4]at h6;cases h6
   obtain⟨ob,h7,_⟩:=A5 h.Yq hm;obtain⟨ee2,h8,h9,_⟩:=hr.live _ _ _ h7;rw[h5]at h8;cases h8;obtain⟨bF,ED⟩:=h3 ee h5 h9;exact⟨bF,fun hn=>ED hn⟩
 |Ic a g'=>
  simp only[gq,Ah,pg]at hP hD ⊢;cases hl:lk τ a with
  |none=>simp only[hl]at hP hD ⊢;exact .rC _ _ (i8 hr x1 4 hv hP hD)|some q=>
   obtain⟨i,gi,ga⟩:=q;simp only[hl]at hP ⊢;subst hP;rw[iP rfl];have hm:=vC hl;obtain⟨h1,h2,h3⟩:=hv.La;refine .Ic _ _ _ (h.gen _ hm) h2 fun SV X6 X0=>?_;obtain⟨Gz,a',M7,ee,h4,h5,rfl⟩:=tN X6;have h6:=Xk.bw h.nm.n1 hm;rw[Xk.bw h.nm.n1 h4]at h6;cases h6
   obtain⟨ob,h7,_⟩:=A5 h.Yq hm;obtain⟨ee2,h8,h9,_⟩:=hr.live _ _ _ h7;rw[h5]at h8;cases h8;exact h3 ee h5 h9
 |_=>
  cases m with
  |true=>exact .rC _ _ (i8 hr x1 4 hv hP hD)|false=>
   have mono:∀{v:AV},VD w (UE e) v x->VD w (UE (eN τ e z')) v x:=fun h=>h.mono (lR _) (fun b _ hb=>x1.un b hb) (fun _ _ _=>rfl);cases hv with
   |rC _ _ hv=>exact .rC _ _ (mono hv)|_=>exact hP.elim
theorem sj{f:FuncId}{cs:List AV}{x:Value}{U:Nat->Prop}(h:VR w U e G (.fn f cs) x):∃vs:Array Value,x=.func (.func f) #[] vs/\cs.length=vs.size/\∀i (h:i<cs.length),VR w U e G cs[i] (vs.getD i undef):=by
 cases h with
 |rC _ _ h=>cases h with|fn _ _ vs h1 h2=>exact⟨vs,rfl,h1,fun i hi=>.rC _ _ (h2 i hi)⟩
 |fn _ _ vs h1 h2=>exact⟨vs,rfl,h1,h2⟩
theorem mX.ZE(h:mX m e hp G' τ D z')(hr:cH w e G hp){v:AV}{x:Value}(hv:VR w (UE e) e G v x)(hP:m_ m τ hp v)(hD:∀d∈l8 m τ hp v,d∈D):VR w (UE (eN τ e z')) (eN τ e z') G' (OB m τ hp v) x:=by
 cases v with
 |fn f cs=>obtain⟨vs,rfl,q1,q2⟩:=sj hv;refine .fn _ _ _ US fun i hi=>?_;have jk:i<cs.length:=Ks;simp only[nw];exact h.On hr (q2 i jk) (hP _ (gM jk)) fun d hd=>hD d (CJ.2 ⟨_,gM jk,hd⟩)
 |_=>exact h.On hr hv hP hD
theorem mX.Lb(h:mX m e hp G' τ D z')(hr:cH w e G hp){v:AV}{x:Value}(hv:VR w (UE e) e G v x)(hP:Fj m τ hp v)(hD:∀d∈y_ m τ hp v,d∈D):VR w (UE (eN τ e z')) (eN τ e z') G' (C5 m τ hp v) x:=by
 cases v with
 |agg cs=>
  obtain⟨vs,rfl,hl,q1,q2⟩:=hv.IX;refine .agg _ _ w9 ?_ ?_
  .intro i hi;simp only[nw];exact Ce (hP _ (gM _))
  intro i hi;have jk:i<cs.length:=Ks;simp only[nw];exact h.ZE hr (q2 i jk) (hP _ (gM jk)) fun d hd=>hD d (CJ.2 ⟨_,gM jk,hd⟩)
 |_=>exact h.ZE hr hv (hP _ mS) fun d hd=>hD d (CJ.2 ⟨_,mS,hd⟩)
theorem mX.Np(h:mX m e hp G' τ D z')(hr:cH w e G hp){v:AV}{x:Value}(hv:VR w (UE e) e G v x)(hP:TK m τ hp v)(hD:∀d∈GB m τ hp v,d∈D):VR w (UE (eN τ e z')) (eN τ e z') G' (qO m τ hp v) x:=by
 cases v with
 |F1 cs=>obtain⟨vs,rfl,q1,q3⟩:=hv.oJ;refine .F1 _ _ US fun i hi=>?_;have jk:i<cs.length:=Ks;simp only[nw];exact h.Lb hr (q3 i jk) (hP _ (gM jk)) fun d hd=>hD d (CJ.2 ⟨_,gM jk,hd⟩)
 |_=>exact h.Lb hr hv hP hD
theorem mX.rel(h:mX m e hp G' τ D z')(hr:cH w e G hp):cH w (eN τ e z') G' (yO m τ hp):=by
 have aQ:∀b,UE e b->UE (eN τ e z') b:=(h.GL hr).un;have Za:∀q∈τ,∀b,XA e q.2.2.1 b->¬z' b:=by
  intro q hq b ho hz;rcases h.z2 b hz with hz|⟨qJ,_,h2,h3⟩
  .exact hr.PQ ho.own hz
  have:=XA.uniq hr ho h3;subst this;rw[Xk.lk h.nm.n2 (show(q.1,q.2.1,q.2.2.1,q.2.2.2)∈τ from hq)]at h2;cases h2
 constructor
 .intro i hi;unfold yO at hi;rw[U9]at hi;simp only[eN];cases hb:Sym.bw τ i with
  |none=>rfl|some q=>obtain⟨gi,a,ga⟩:=q;obtain⟨ob,h1,_⟩:=A5 h.Yq (Ae hb);simp only[hb,h1,rL]at hi;cases hi
 .intro i g' LZ hi;unfold yO at hi;rw[U9]at hi;cases hb:Sym.bw τ i with
  |none=>simp only[hb]at hi;cases hi
  |some q=>
   obtain⟨gi,a,ga⟩:=q;have hm:=Ae hb;obtain⟨ob,h1,h2⟩:=A5 h.Yq hm;simp only[hb,h1,rL,Kh,jH]at hi;obtain⟨rfl,rfl⟩:=hi;obtain⟨ee,he,V8,_,jz⟩:=hr.live _ _ _ h1;refine⟨_,R3 h.nm hm he,rfl,h.gen _ hm,?_⟩;have hDo:∀d∈rZ m τ hp ob,d∈D:=fun d hd=>h.rh d (Do hm h1 hd);cases ob with
   |own t k es=>
    obtain⟨q1,q2,q3,q4,q5,q6⟩:=jz;have wE:∀i (hi:i<es.length),∀c∈es[i].cells,c.one=true:=by intro i hi c hc;obtain⟨j,hj,rfl⟩:=G_ hc;exact q5 i hi j hj
    have hP:∀i (hi:i<es.length),∀c∈es[i].cells,MO m τ hp c:=fun i hi c hc=>h2 _ (gM hi) c hc;refine⟨q1,by simpa using q2,q3,?_,?_,?_⟩
    .intro i hi;have jk:i<es.length:=Ks;simp only[nw];rw[X_ (wE i jk) (hP i jk),E3];exact q4 _ _
    .intro i hi j hj;have jk:i<es.length:=Ks;simp only[nw,X_ (wE i jk) (hP i jk)]at hj ⊢;exact Sd (hP i jk _ (gM _))
    show(match ee.Rr with|none=>_|some (b,bcap)=>_);cases OT:ee.Rr with
    |none=>rw[OT]at q6;subst q6;rfl|some q=>
     obtain⟨b,bcap⟩:=q;rw[OT]at q6;obtain⟨q7,q8,cs,q9,q10,q11⟩:=q6;refine⟨q7,by simpa using q8,cs,q9,q10,fun i hi j hj=>?_⟩;have jk:i<es.length:=Ks;simp only[nw,X_ (wE i jk) (hP i jk)]at hj ⊢;have tw:j<es[i].cells.length:=Ou;have Uu:=q11 i jk j tw;have AZ:=hP i jk _ (gM tw);have TP:∀d∈AB m τ hp es[i].cells[j],d∈D:=fun d hd=>hDo d (CJ.2 ⟨_,gM jk,CJ.2 ⟨_,gM tw,hd⟩⟩);generalize es[i].cells[j]=c at Uu AZ TP;generalize cs.getD (i*k+j) undef=x at Uu;cases Uu with
     |val _ _ Wi=>
      cases c with
      |Rc=>exact Wi.rE.elim|_=>exact .val _ _ (h.ZE hr Wi AZ TP)
     |Mt t' k' a h0=>exact .Mt _ _ a h0|Rc t' k' xs b' cap F8 k1 k2 k3 k4 k5 k6 k7 k8 k9=>exact .Rc _ _ _ b' cap F8 (iX k1 ⟨_,hm,ee,bcap,he,OT⟩) k2 k3 k4 k5 k6 k7 k8 fun i hi j hj=>(k9 i hi j hj).mono (lR _) (fun b _ hb=>aQ b hb) (fun _ _ _=>rfl)
   |box cs=>
    obtain⟨q1,q2,b,c,vs,t,q3,q4,q5,q6⟩:=jz;refine⟨q1,?_,b,c,vs,t,q3,q4,by simpa using q5,fun j hj=>?_⟩
    .intro j hj;simp only[nw];exact Ce (h2 _ (gM _))
    have tw:j<cs.length:=Ou;simp only[nw];exact h.ZE hr (q6 j tw) (h2 _ (gM _)) fun d hd=>hDo d (CJ.2 ⟨_,gM tw,hd⟩)
   |mp es=>exact jz|ms es=>obtain⟨q1,b,c,vs,cl,q3,q4,q5,q6⟩:=jz;exact⟨q1,b,c,vs,cl,q3,q4,q5,fun i m p hm hp=>⟨(q6 i m p hm hp).1,(q6 i m p hm hp).2.1,IC.vr h2 hp (q6 i m p hm hp).2.2⟩⟩
   |bd t e bs=>obtain⟨q1,b,c,p,v,q3,q4,q5,q6⟩:=jz;exact⟨q1,b,c,p,v,q3,q4,q5,q6.ext fun g hg=>⟨rfl,iX hg ⟨_,hm,ee,c,he,q3⟩⟩⟩
 .intro i j ei ej b c c' hi hj Jj FZ;obtain⟨gi,a,ga,ee,h1,h2,rfl⟩:=tN hi;obtain⟨gj,a',M7,SV,oS,D8,rfl⟩:=tN hj;have:=hr.inj a a' ee SV b c c' h2 D8 Jj FZ;subst this;have h3:=Xk.lk h.nm.n2 h1;rw[Xk.lk h.nm.n2 oS]at h3;cases h3;rfl
 .intro i ei b c hi hb;obtain⟨gi,a,ga,ee,h1,h2,rfl⟩:=tN hi;exact hr.lt _ _ _ _ h2 hb
 .intro i ei b c hi hb;obtain⟨gi,a,ga,ee,h1,h2,rfl⟩:=tN hi;exact Za _ h1 b (.inl ⟨ee,c,h2,hb⟩)
 .intro b B c hk;obtain⟨h1,q,hq,ee,cc,h2,h3⟩:=j8 hk;exact⟨(hr.kl _ _ _ h1).1,(hr.kl _ _ _ h1).2.1,Za _ hq b (.inr ⟨B,c,ee,cc,h1,h2,h3⟩)⟩
 .intro b ho;obtain⟨q,hq,ee,c,h1,h2⟩:=fq ho;cases hk:(eN τ e z').Rc b with
  |none=>rfl|some p=>have:=hr.ko b ⟨_,ee,c,h1,h2⟩;rw[(j8 (B:=p.1) (c:=p.2) hk).1]at this;cases this
 intro b B c hk;obtain⟨h1,q,hq,ee,cc,h2,h3⟩:=j8 hk;cases tF:(eN τ e z').Rc B with
 |none=>rfl|some p=>have:=hr.ko B ⟨_,ee,cc,h2,h3⟩;rw[(j8 (B:=p.1) (c:=p.2) tF).1]at this;cases this
end
open Go Go.Great
structure iK(e:bQ)(w w':World):Prop where
 os:w'.os=w.os
 tape:w'.tape=w.tape
 output:w'.output=w.output
 size:w.heap.size<=w'.heap.size
 same:∀b,b<w.heap.size->¬TT e b->w'.heap[b]?=w.heap[b]?
 drawn:w.drawn<=w'.drawn
def Enters(P:Program)(f:FuncId):Prop:=∃fn,P.funcs[f]?=some fn/\(fn.name== "runtime.NumGoroutine")=false/\fn.body.isNone=false
def UB(P:Program)(T:vp)(f:FuncId)(hp:Hp)(az:List AV)(hp':Hp)(r:AV):Prop:=
 Enters P f/\∀(w:World)(e:bQ)(pk:Array Value),cH w e (rM 1) hp->(∀b,e.z b->b<w.heap.size)->XO T w (UE e)->az.length=pk.size->
  (∀i (h:i<az.length),VR w (UE e) e (rM 1) az[i] (pk.getD i undef))->
  Calls P f pk w fun en w'=>∃v e',en=.returned v/\cH w' e' (rM 2) hp'/\VR w' (UE e') e' (rM 2) r v/\Z7 w e (rM 1) w' e' (rM 2)/\e'.z=e.z/\
   (∀b,TT e' b->w.heap.size<=b\/TT e b)/\iK e w w'
def AT:AV->Prop
 | .lit _=>True|_=>False
def mj(keep:Bool)(L:List Nat):AV->Prop
 | .l id _ _ _=>id∈L| .p id _ _ _ _=>id∈L| .Ic id _=>id∈L| .lit _| .gl _| .tY| .anyI _=>True| .sl es full=>keep=false\/(es=[]/\full=true)| .Rc _ _ es=>keep=false\/∀e∈es,∀c∈e.cells,AT c| .bad=>True| .fn _ cs=>keep=false/\∀c∈cs,match c with| .l id _ _ _=>id∈L| .p id _ _ _ _=>id∈L| .lit _| .sl _ _| .P _| .gl _=>True|_=>False
 | .P _=>keep=false|_=>False
def QV(keep:Bool)(L:List Nat)(v:AV):Prop:=∀c∈v.cells,mj keep L c
def kU(keep:Bool)(L:List Nat):AV->Prop
 | .F1 vs=>∀v∈vs,QV keep L v|v=>QV keep L v
def lr(keep:Bool)(L:List Nat):Ob->Prop
 | .own _ _ es=>∀e∈es,QV keep L e| .box cs=>∀c∈cs,mj keep L c| .mp _=>True| .ms es=>IC es| .bd _ _ _=>True
def FP(keep:Bool)(L:List Nat):Hp->Prop
 |[]=>True|(_,some (_,ob))::h=>lr keep L ob/\FP keep L h|(_,none)::h=>FP keep L h
theorem ft{keep:Bool}{L:List Nat}:∀{hp:Hp},FP keep L hp->∀{i g:Nat}{ob:Ob},hp.get i=some (g,ob)->lr keep L ob
 |[],_,_,_,_,h=>C3|(j,none)::hp,h,i,g,ob,hg=>by
  simp only[Hp.get]at hg;split at hg
  .cases hg
  exact ft (hp:=hp) h hg
 |(j,some (g',LZ))::hp,h,i,g,ob,hg=>by
  simp only[Hp.get]at hg;split at hg
  .cases hg;exact h.1
  exact ft (hp:=hp) h.2 hg
section
variable{C:Cx}{e:bQ}{G G':Nat->Prop}{g:Nat}{hp:Hp}{w:World}{T:vp}
def ani{w:World}{U U':Nat->Prop}{c:AV}{x:Value}(h:AT c)(hv:VD w U c x):VD w U' c x:=by cases hv<;>first|exact .lit _ (by assumption)|exact h.elim
theorem Ba{w:World}{e1 e2:bQ}{G:Nat->Prop}{keep:Bool}{L:List Nat}(hU:keep=false->∀b,UE e1 b->UE e2 b)(hm:∀id∈L,e2 id=e1 id){v:AV}{x:Value}(hv:VR w (UE e1) e1 G v x)(h:mj keep L v):
  VR w (UE e2) e2 G v x:=by
 have drop:∀{v:AV}{x:Value},keep=false->VD w (UE e1) v x->VD w (UE e2) v x:=fun hk hv=>hv.mono (lR _) (fun b _ hb=>hU hk b hb) (fun _ _ _=>rfl);cases v with
 |l id g' off len=>obtain⟨h1,h2,h3⟩:=hv.UF;exact .l _ _ _ _ _ h1 h2 fun ee he=>h3 ee ((hm id h).symm.trans he)
 |p id g' n i off=>obtain⟨h1,h2,h3⟩:=hv.nj;exact .p _ _ _ _ _ _ h1 h2 fun ee he=>h3 ee ((hm id h).symm.trans he)
 |Ic id g'=>obtain⟨h1,h2,h3⟩:=hv.La;exact .Ic _ _ _ h1 h2 fun ee he=>h3 ee ((hm id h).symm.trans he)
 |lit v=>obtain⟨rfl,h1⟩:=hv.VI;exact .rC _ _ (.lit _ h1)
 |gl g'=>rw[hv.Cc];exact .rC _ _ (.gl _)|tY=>cases hv with|rC _ _ hv=>cases hv;exact .rC _ _ (.tY _ _)
 |anyI k=>cases hv with|rC _ _ hv=>cases hv;exact .rC _ _ (.anyI _ _)
 |sl es full=>
  rcases h with hk|⟨rfl,rfl⟩
  .exact .rC _ _ (drop hk hv.Rv)
  obtain⟨a,cap,rfl,_,hc⟩:=hv.tv;rw[hc rfl];exact .rC _ _ (.nil _ _)
 |Rc t k es=>exact hv.rE.elim|bad=>exact .rC _ _ (.bad _)|P cs=>exact .rC _ _ (drop h hv.Si)|fn f cs=>
  obtain⟨hk,h⟩:=h;obtain⟨vs,rfl,q1,q2⟩:=sj hv;refine .fn _ _ _ q1 fun i hi=>?_;have h1:=h _ (gM hi);have h2:=q2 i hi;generalize cs[i]=c at h1 h2;generalize vs.getD i undef=x at h2;cases c with
  |l id g' off len=>obtain⟨k1,k2,k3⟩:=h2.UF;exact .l _ _ _ _ _ k1 k2 fun ee he=>k3 ee ((hm id h1).symm.trans he)
  |p id g' n i off=>obtain⟨k1,k2,k3⟩:=h2.nj;exact .p _ _ _ _ _ _ k1 k2 fun ee he=>k3 ee ((hm id h1).symm.trans he)
  |lit v=>obtain⟨rfl,k1⟩:=h2.VI;exact .rC _ _ (.lit _ k1)
  |gl g'=>rw[h2.Cc];exact .rC _ _ (.gl _)|sl es full=>exact .rC _ _ (drop hk h2.Rv)|P cs=>exact .rC _ _ (drop hk h2.Si)|_=>exact h1.elim
 |_=>exact h.elim
theorem Tc{w:World}{e1 e2:bQ}{G:Nat->Prop}{keep:Bool}{L:List Nat}(hU:keep=false->∀b,UE e1 b->UE e2 b)(hm:∀id∈L,e2 id=e1 id){v:AV}{x:Value}(hv:VR w (UE e1) e1 G v x)(h:QV keep L v):
  VR w (UE e2) e2 G v x:=by
 cases v with
 |agg cs=>obtain⟨vs,rfl,hl,q1,q2⟩:=hv.IX;exact .agg _ _ hl q1 fun i hi=>Ba hU hm (q2 i hi) (h _ (gM hi))
 |_=>exact Ba hU hm hv (h _ mS)
theorem ahN{w:World}{e1 e2:bQ}{G:Nat->Prop}{keep:Bool}{L:List Nat}(hU:keep=false->∀b,UE e1 b->UE e2 b)(hm:∀id∈L,e2 id=e1 id){v:AV}{x:Value}(hv:VR w (UE e1) e1 G v x)(h:kU keep L v):
  VR w (UE e2) e2 G v x:=by
 cases v with
 |F1 cs=>obtain⟨vs,rfl,q1,q3⟩:=hv.oJ;exact .F1 _ _ q1 fun i hi=>Tc hU hm (q3 i hi) (h _ (gM hi))
 |_=>exact Tc hU hm hv h
theorem amu{w:World}{e1 e2:bQ}{G:Nat->Prop}{keep:Bool}{L:List Nat}(hU:keep=false->∀b,UE e1 b->UE e2 b)(hm:∀id∈L,e2 id=e1 id){ob:Ob}{ee:EE}(ho:Jh w e1 G ob ee)(h:lr keep L ob)(hk:∀b c b' c',ee.Rr=some (b,c)->e1.Rc b'=some (b,c')->e2.Rc b'=some (b,c')):Jh w e2 G ob ee:=by
 cases ob with
 |own t k es=>
  obtain⟨h1,h2,h3,h4,h5,h6⟩:=ho;refine⟨h1,h2,h3,h4,h5,?_⟩;cases OT:ee.Rr with
  |none=>rw[OT]at h6;exact h6|some p=>
   obtain⟨b,bcap⟩:=p;rw[OT]at h6;obtain⟨h7,h8,cs,h9,bF,ED⟩:=h6;refine⟨h7,h8,cs,h9,bF,fun i hi j hj=>?_⟩;have Uu:=ED i hi j hj;have ht:=h _ (gM hi) _ (gM hj);generalize es[i].cells[j]=c at Uu ht;generalize cs.getD (i*k+j) undef=x at Uu;cases Uu with
   |val _ _ Wi=>exact .val _ _ (Ba hU hm Wi ht)|Mt _ _ a h0=>exact .Mt _ _ a h0|Rc t' k' xs b' cap F8 k1 k2 k3 k4 k5 k6 k7 k8 k9=>
    refine .Rc _ _ _ b' cap F8 (hk b bcap b' _ OT k1) k2 k3 k4 k5 k6 k7 k8 fun a ha c hc=>?_;rcases ht with ht|ht
    .exact(k9 a ha c hc).mono (lR _) (fun b _ hb=>hU ht b hb) (fun _ _ _=>rfl)
    exact ani (ht _ (gM ha) _ (gM hc)) (k9 a ha c hc)
 |box cs=>obtain⟨h1,h2,b,c,vs,t,h3,h4,h5,h6⟩:=ho;exact⟨h1,h2,b,c,vs,t,h3,h4,h5,fun j hj=>Ba hU hm (h6 j hj) (h _ (gM hj))⟩
 |mp es=>exact ho|ms es=>obtain⟨q1,b,c,vs,cl,q3,q4,q5,q6⟩:=ho;exact⟨q1,b,c,vs,cl,q3,q4,q5,fun i m p hm hp=>⟨(q6 i m p hm hp).1,(q6 i m p hm hp).2.1,IC.vr h hp (q6 i m p hm hp).2.2⟩⟩
 |bd t e bs=>obtain⟨q1,b,c,p,v,q3,q4,q5,q6⟩:=ho;exact⟨q1,b,c,p,v,q3,q4,q5,q6.ext fun g hg=>⟨rfl,hk b c g _ q3 hg⟩⟩
section
open Classical in
noncomputable def eJ(e e1:bQ)(L:List Nat):bQ:=
 ⟨fun id=>if id∈L then e1 id else e id,e.z,
  fun b=>match e1.Rc b with
  |some q=>some q|none=>match e.Rc b with
   |some (B,c)=>if ∃id,id∉L/\∃ee cc,e id=some ee/\ee.Rr=some (B,cc) then some (B,c) else none
   |none=>none⟩
end
def ahG(p:jC C e G g hp w){w':World}{e0 e1:bQ}{hp1 hp2:Hp}{L D:List Nat}{keep:Bool}{τ:Nm}(IA:cH w' e1 (Bb G g) hp1)(LD:∀b,TT e0 b->∃id,lk τ id≠none/\XA e id b)(Lm:∀b,e.z b->e1.z b)(L3:∀id b,id∉D->lk τ id=none->XA e id b->e1.z b)(fk:∀b,TT e1 b->w.heap.size<=b\/TT e0 b)(qk:∀b B c,e1.Rc b=some (B,c)->I2 e1 B)(Zw:iK e0 w w')(gu:∀id SV,e1 id=some SV->G SV.g->∃ee,e id=some ee/\ee.g=SV.g/\ee.k=SV.k/\((ee.n=SV.n/\ee.Rr=SV.Rr)\/ee.n<SV.n))(hLτ:∀id,lk τ id≠none->id∈L)(Wg:∀id,e1 id≠none->id∈L)(amD:keep=false->∀id∈D,id∈L)(vy:∀id,hp2.get id=if id∈L then hp1.get id else hp.get id)(htr:FP keep L hp1):
  ∃e2,cH w' e2 (Bb G g) hp2/\Z7 w e G w' e2 (Bb G g)/\ke C w' e2 (Bb G g)/\OL C w'/\(∀v x,kU keep L v->VR w' (UE e1) e1 (Bb G g) v x->VR w' (UE e2) e2 (Bb G g) v x):=by
 have eL:∀id,id∈L->eJ e e1 L id=e1 id:=fun id h=>by simp only[eJ,iP h]
 have eR:∀id,id∉L->eJ e e1 L id=e id:=fun id h=>by simp only[eJ,iN h]
 have kd1:∀b q,e1.Rc b=some q->(eJ e e1 L).Rc b=some q:=fun b q h=>by simp only[eJ,h]
 have kd2:∀b B c,(eJ e e1 L).Rc b=some (B,c)->e1.Rc b=some (B,c)\/(e.Rc b=some (B,c)/\∃id,id∉L/\∃ee cc,e id=some ee/\ee.Rr=some (B,cc)):=by
  intro b B c h;simp only[eJ]at h;split at h
  .rename_i q hq;cases h;exact .inl hq
  split at h
  .rename_i B' c' hk;split at h
   .rename_i hx;cases h;exact .inr ⟨hk,hx⟩
   cases h
  cases h
 have G6:∀b,b<w.heap.size->TT e1 b->∃id,id∈L/\XA e id b:=by
  intro b PP ho;rcases fk b ho with h|h
  .omega
  obtain⟨id,h1,h2⟩:=LD b h;exact⟨id,hLτ id h1,h2⟩
 have kd3:∀b B c,e.Rc b=some (B,c)->(∃id,id∉L/\∃ee cc,e id=some ee/\ee.Rr=some (B,cc))->(eJ e e1 L).Rc b=some (B,c):=by
  rintro b B c hk ⟨id,hid,ee,cc,h1,h2⟩;cases h3:e1.Rc b with
  |some q=>obtain⟨qJ,h4,h5⟩:=G6 b (p.hr.kl _ _ _ hk).1 (.inr ⟨q.1,q.2,h3,qk _ _ q.2 h3⟩);have:=XA.uniq p.hr h5 (.inr ⟨B,c,ee,cc,hk,h1,h2⟩);subst this;exact absurd h4 hid
  |none=>simp only[eJ,h3,hk];rw[iP ⟨id,hid,ee,cc,h1,h2⟩]
 have objJ:∀b,I2 (eJ e e1 L) b->(∃id∈L,∃ee c,e1 id=some ee/\ee.Rr=some (b,c))\/(∃id,id∉L/\∃ee c,e id=some ee/\ee.Rr=some (b,c)):=by
  rintro b ⟨id,ee,c,h1,h2⟩;by_cases h:id∈L
  .rw[eL id h]at h1;exact .inl ⟨id,h,ee,c,h1,h2⟩
  rw[eR id h]at h1;exact .inr ⟨id,h,ee,c,h1,h2⟩
 have ownJ:∀b,TT (eJ e e1 L) b->TT e1 b\/(∃id,id∉L/\XA e id b):=by
  rintro b (ho|⟨B,c,hk,ho⟩)
  .rcases objJ b ho with ⟨id,_,ee,c,h1,h2⟩|⟨id,h0,ee,c,h1,h2⟩
   .exact .inl (.inl ⟨id,ee,c,h1,h2⟩)
   exact .inr ⟨id,h0,.inl ⟨ee,c,h1,h2⟩⟩
  rcases kd2 _ _ _ hk with h|⟨h,id,h0,ee,cc,h1,h2⟩
  .exact .inl (.inr ⟨B,c,h,qk _ _ _ h⟩)
  exact .inr ⟨id,h0,.inr ⟨B,c,ee,cc,h,h1,h2⟩⟩
 have ownJe:∀b,b<w.heap.size->TT (eJ e e1 L) b->TT e b:=by
  intro b PP ho;rcases ownJ b ho with h|⟨id,_,h⟩
  .obtain⟨id,_,h⟩:=G6 b PP h;exact h.own
  exact h.own
 have same:∀b,b<w.heap.size->¬TT e b->w'.heap[b]?=w.heap[b]?:=fun b PP hn=>Zw.same b PP fun ho=>by obtain⟨id,_,h⟩:=LD b ho;exact hn h.own
 have sameR:∀id b,id∉L->XA e id b->w'.heap[b]?=w.heap[b]?:=fun id b hid ho=>Zw.same b (p.hr.N2 ho.own) fun X1=>by obtain⟨qJ,h1,h⟩:=LD b X1;have:=XA.uniq p.hr ho h;subst this;exact hid (hLτ _ h1)
 have ext:Z7 w e G w' (eJ e e1 L) (Bb G g):=by
  refine Z7.mk' Zw.size (fun _ h=>.inl h) rfl ownJe same fun id SV X6 hG=>?_;by_cases h:id∈L
  .rw[eL id h]at X6;exact gu id SV X6 hG
  rw[eR id h]at X6;exact⟨SV,X6,rfl,rfl,.inl ⟨rfl,rfl⟩⟩
 have hU:keep=false->∀b,UE e1 b->UE (eJ e e1 L) b:=by
  intro hk b hb;refine⟨fun hz=>hb.1 (Lm b hz),fun ho=>?_⟩;rcases ownJ b ho with h|⟨id,h0,h⟩
  .exact hb.2 h
  refine hb.1 (L3 id b (fun hd=>h0 (amD hk id hd)) ?_ h);cases hl:lk τ id with
  |none=>rfl|some q=>exact absurd (hLτ id (by rw[hl];simp)) h0
 have koJ:∀b,I2 (eJ e e1 L) b->(eJ e e1 L).Rc b=none:=by
  intro b ho;cases hk:(eJ e e1 L).Rc b with
  |none=>rfl|some q=>
   exfalso;rcases kd2 b q.1 q.2 hk with h|⟨h,qJ,dY,SV,asX,oS,D8⟩<;>rcases objJ b ho with ⟨id,hid,ee,c,h1,h2⟩|⟨id,h0,ee,c,h1,h2⟩
   .have:=IA.ko b ⟨id,ee,c,h1,h2⟩;rw[h]at this;cases this
   .have PP:=p.hr.lt _ _ _ _ h1 h2;obtain⟨id2,h3,h4⟩:=G6 b PP (.inr ⟨q.1,q.2,h,qk _ _ q.2 h⟩);have:=XA.uniq p.hr h4 (.inl ⟨ee,c,h1,h2⟩);subst this;exact h0 h3
   .obtain⟨id2,h3,h4⟩:=G6 b (p.hr.kl _ _ _ h).1 (.inl ⟨id,ee,c,h1,h2⟩);have:=XA.uniq p.hr h4 (.inr ⟨q.1,q.2,SV,asX,h,oS,D8⟩);subst this;exact dY h3
   have:=p.hr.ko b ⟨id,ee,c,h1,h2⟩;rw[h]at this;cases this
 have hm:∀id∈L,eJ e e1 L id=e1 id:=eL;have ltn:∀id ee b c,e1 id=some ee->ee.Rr=some (b,c)->∀qJ,qJ∉L->∀SV c',e qJ=some SV->SV.Rr=some (b,c')->False:=by intro id ee b c h1 h2 qJ h0 SV c' oS D8;obtain⟨id2,h3,h4⟩:=G6 b (p.hr.lt _ _ _ _ oS D8) (.inl ⟨id,ee,c,h1,h2⟩);have:=XA.uniq p.hr h4 (.inl ⟨SV,c',oS,D8⟩);subst this;exact h0 h3
 refine⟨eJ e e1 L,?_,ext,p.ln.step p.fr.size ext rfl ownJe,p.fr.step p.ln Zw.os Zw.tape Zw.output Zw.size same Zw.drawn,fun v x ht hv=>ahN hU hm hv ht⟩;constructor
 .intro id hid;rw[vy]at hid;by_cases h:id∈L
  .rw[iP h]at hid;rw[eL id h];exact IA.dead id hid
  rw[iN h]at hid;rw[eR id h];exact p.hr.dead id hid
 .intro id g' ob hid;rw[vy]at hid;by_cases h:id∈L
  .rw[iP h]at hid;obtain⟨ee,h1,h2,h3,h4⟩:=IA.live id g' ob hid;exact⟨ee,(eL id h).trans h1,h2,h3,amu hU hm h4 (ft htr hid) fun b c b' c' hb hk=>kd1 _ _ hk⟩
  rw[iN h]at hid;obtain⟨ee,h1,h2,h3,h4⟩:=p.hr.live id g' ob hid;refine⟨ee,(eR id h).trans h1,h2,.inl h3,h4.ext ext fun b c hb=>⟨sameR id b h (.inl ⟨ee,c,h1,hb⟩),fun b' c' hk=>⟨sameR id b' h (.inr ⟨b,c',ee,c,hk,h1,hb⟩),kd3 _ _ _ hk ⟨id,h,ee,c,h1,hb⟩⟩⟩⟩
 .intro i j ei ej b c c' hi hj Jj FZ;by_cases h1:i∈L<;>by_cases h2:j∈L
  .rw[eL i h1]at hi;rw[eL j h2]at hj;exact IA.inj _ _ _ _ _ _ _ hi hj Jj FZ
  .rw[eL i h1]at hi;rw[eR j h2]at hj;exact(ltn _ _ _ _ hi Jj _ h2 _ _ hj FZ).elim
  .rw[eR i h1]at hi;rw[eL j h2]at hj;exact(ltn _ _ _ _ hj FZ _ h1 _ _ hi Jj).elim
  rw[eR i h1]at hi;rw[eR j h2]at hj;exact p.hr.inj _ _ _ _ _ _ _ hi hj Jj FZ
 .intro i ei b c hi hb;by_cases h1:i∈L
  .rw[eL i h1]at hi;exact IA.lt _ _ _ _ hi hb
  rw[eR i h1]at hi;exact tL (p.hr.lt _ _ _ _ hi hb) Zw.size
 .intro i ei b c hi hb;by_cases h1:i∈L
  .rw[eL i h1]at hi;exact fun hz=>IA.nz _ _ _ _ hi hb (Lm b hz)
  rw[eR i h1]at hi;exact p.hr.nz _ _ _ _ hi hb
 .intro b B c hk;rcases kd2 _ _ _ hk with h|⟨h,_⟩
  .obtain⟨q1,q2,q3⟩:=IA.kl _ _ _ h;exact⟨q1,q2,fun hz=>q3 (Lm b hz)⟩
  obtain⟨q1,q2,q3⟩:=p.hr.kl _ _ _ h;exact⟨tL q1 Zw.size,tL q2 Zw.size,q3⟩
 .exact koJ
 intro b B c hk;rcases kd2 _ _ _ hk with h|⟨h,id,h0,ee,cc,h1,h2⟩
 .obtain⟨id,ee,cc,h1,h2⟩:=qk _ _ _ h;exact koJ B ⟨id,ee,cc,(eL id (Wg id (by rw[h1];simp))).trans h1,h2⟩
 exact koJ B ⟨id,ee,cc,(eR id h0).trans h1,h2⟩
end
open Go Go.Great
def xG(τ σ:Nm)(D:List Nat)(keep:Bool):List Nat:=τ.map (·.2.2.1)++(σ.map (·.1)++(if keep then[] else D))
structure pZ(P:Program)(T:vp)(f:FuncId)(g:Nat)(hp:Hp)(vs:List AV)(τ σ:Nm)(D:List Nat)(keep:Bool)(hp1:Hp)(rc:AV):Prop where
 nmτ:Xk τ
 gτ:∀q∈τ,q.2.1=0
 Yq:Dg true τ hp τ
 rh:∀d∈N_ true τ hp τ,d∈D
 jc:∀v∈vs,TK true τ hp v
 ZN:∀v∈vs,∀d∈GB true τ hp v,d∈D
 SH:∀d∈D,lk τ d=none
 sat:UB P T f (yO true τ hp) (vs.map (qO true τ hp)) hp1 rc
 nmσ:Xk σ
 gσ:∀q∈σ,(q.2.2.2=0/\(q.2.2.1,0,q.1,q.2.1)∈τ)\/(q.2.2.2=1/\q.2.1=g)
 bP:Dg false σ hp1 σ
 bR:∀d∈N_ false σ hp1 σ,False
 rP:TK false σ hp1 rc
 rR:∀d∈GB false σ hp1 rc,False
 K1:FP keep (xG τ σ D keep) (yO false σ hp1)
 S9:kU keep (xG τ σ D keep) (qO false σ hp1 rc)
def wZ(σ:Nm)(hp1:Hp)(rc:AV):AV:=qO false σ hp1 rc
def bU(τ σ:Nm)(D:List Nat)(keep:Bool)(hp1:Hp):List Up:=yO false σ hp1++qq ((xG τ σ D keep).filter fun i=>!(σ.map (·.1)).contains i)
theorem aul{l1 l2:Hp}{id:Nat}:(∃q∈l1,q.1=id)->Hp.get (l1++l2) id=Hp.get l1 id:=by
 induction l1 with
 |nil=>rintro⟨q,hq,_⟩;cases hq
 |cons p l1 ih=>
  obtain⟨j,x⟩:=p;rintro⟨q,hq,rfl⟩;simp only[Mb,Hp.get];split
  .rfl
  rename_i SO;refine ih ?_;rcases rX.1 hq with rfl|hq
  .exact absurd rfl SO
  exact⟨q,hq,rfl⟩
theorem agc{l1 l2:Hp}{id:Nat}:(∀q∈l1,q.1≠id)->Hp.get (l1++l2) id=Hp.get l2 id/\Hp.get l1 id=none:=by
 induction l1 with
 |nil=>exact fun _=>⟨rfl,rfl⟩|cons p l1 ih=>obtain⟨j,x⟩:=p;intro h;have h1:=h (j,x) mS;simp only[Mb,Hp.get,iN h1];exact ih fun q hq=>h q (mC _ hq)
section
variable{C:Cx}{e:bQ}{G:Nat->Prop}{g:Nat}{hp:Hp}{w:World}{T:vp}
def io(p:jC C e G g hp w)(hC:PT C T){f:FuncId}{vs:List AV}{pk:Array Value}(xB:vs.length=pk.size)(ec:∀i (h:i<vs.length),VR w (UE e) e G vs[i] (pk.getD i undef)){τ σ:Nm}{D:List Nat}{keep:Bool}{hp1:Hp}{rc:AV}(h:pZ C.P T f g hp vs τ σ D keep hp1 rc):
  Enters C.P f/\Calls C.P f pk w fun en w'=>∃v,en=.returned v/\Bm C e G g hp w (True,wZ σ hp1 rc,bU τ σ D keep hp1) (.ok (.value v) w'):=by
 let z':Nat->Prop:=fun b=>e.z b\/∃id,id∉D/\lk τ id=none/\XA e id b
 have rk:mX true e hp (rM 1) τ D z':=⟨h.nmτ,h.Yq,h.rh,h.SH,fun q hq=>by rw[h.gτ q hq];exact Sp,fun b hb=>.inl hb,fun b hb=>hb⟩;have AF:=rk.rel p.hr;have vY:=rk.GL p.hr;have e0z:(eN τ e z').z=z':=rfl;refine⟨h.sat.1,(h.sat.2 w (eN τ e z') pk AF ?_ ?_ (by simpa using xB) ?_).mono ?_⟩
 .rintro b (hb|⟨id,_,_,ho⟩)
  .rw[p.ln.tI]at hb;exact tL (p.ln.BA b hb) p.fr.size
  exact p.hr.N2 ho.own
 .exact(hC.gl.mono p.ln.ext.size p.ln.ext.un p.ln.ext.same).mono (lR _) (fun b _ hb=>vY.un b hb) (fun _ _ _=>rfl)
 .intro i hi;have jk:i<vs.length:=Ks;simp only[nw];exact rk.Np p.hr (ec i jk) (h.jc _ (gM jk)) (h.ZN _ (gM jk))
 rintro en w' ⟨v,e1,rfl,IA,nQ,H7,Lm,Gl,JX⟩;refine⟨v,rfl,?_⟩;have live:∀q∈τ,∃ee,e q.2.2.1=some ee/\ee.g=q.2.2.2/\G q.2.2.2:=by intro q hq;obtain⟨ob,h1,_⟩:=A5 h.Yq (show(q.1,q.2.1,q.2.2.1,q.2.2.2)∈τ from hq);obtain⟨ee,h2,h3,h4,_⟩:=p.hr.live _ _ _ h1;exact⟨ee,h2,h3,h4⟩
 have rk1:mX false e1 hp1 (Bb G g) σ [] e1.z:=by
  refine⟨h.nmσ,h.bP,fun d hd=>(h.bR d hd).elim,fun d hd=>(by cases hd),fun q hq=>?_,fun b hb=>hb,fun b hb=>.inl hb⟩;rcases h.gσ q hq with ⟨_,h2⟩|⟨_,h2⟩
  .obtain⟨_,_,_,h3⟩:=live _ h2;exact .inl h3
  exact .inr h2
 have w6:=rk1.rel IA;have oU:=rk1.Np IA nQ h.rP fun d hd=>(h.rR d hd).elim;have memL:∀id,id∈xG τ σ D keep↔(∃q∈τ,q.2.2.1=id)\/(∃q∈σ,q.1=id)\/(keep=false/\id∈D):=by intro id;simp only[xG,ym,A2];cases keep<;>simp
 have lkmem:∀id,lk τ id≠none->∃q∈τ,q.2.2.1=id:=by
  intro id hn;cases hl:lk τ id with
  |none=>exact absurd hl hn|some q=>exact⟨_,vC (show lk τ id=some (q.1,q.2.1,q.2.2) from hl),rfl⟩
 obtain⟨e2,k1,k2,k3,k4,k5⟩:=ahG p (w':=w') (e0:=eN τ e z') (e1:=eN σ e1 e1.z) (hp1:=yO false σ hp1) (hp2:=bU τ σ D keep hp1++hp) (L:=xG τ σ D keep) (D:=D) (keep:=keep) (τ:=τ) w6
  (fun b ho=>by
   obtain⟨q,hq,h1⟩:=dP ho;exact⟨_,by rw[Xk.lk h.nmτ.n2 (show(q.1,q.2.1,q.2.2.1,q.2.2.2)∈τ from hq)];simp,h1⟩)
  (fun b hb=>by show e1.z b;rw[Lm];exact .inl hb)
  (fun id b h1 h2 h3=>by show e1.z b;rw[Lm];exact .inr ⟨id,h1,h2,h3⟩)
  (fun b ho=>by
   obtain⟨q,hq,h1⟩:=dP ho;exact Gl b h1.own)
  (fun b B c hk=>by
   obtain⟨_,q,hq,ee,cc,h1,h2⟩:=j8 hk;exact⟨q.1,_,cc,R3 h.nmσ (show(q.1,q.2.1,q.2.2.1,q.2.2.2)∈σ from hq) h1,h2⟩)
  JX
  (fun id SV X6 hG=>by
   obtain⟨g',i,gi,ee1,hm,h1,rfl⟩:=tN X6;rcases h.gσ _ hm with ⟨h2,h3⟩|⟨h2,h3⟩
   ·simp only at h2 h3;obtain⟨ob,h4,_⟩:=A5 h.bP hm;obtain⟨ee1',h5,h6,_⟩:=IA.live _ _ _ h4;rw[h1]at h5;cases h5;rw[h2]at h6;obtain⟨ee0,h7,h8,h9,bF⟩:=H7.Ia i ee1 h1 (by rw[h6];exact Sp);obtain⟨Gz,a,ga,ee,ED,zo,rfl⟩:=tN h7;have Zr:=Xk.bw h.nmτ.n1 ED;rw[Xk.bw h.nmτ.n1 h3]at Zr;cases Zr
    obtain⟨SV,XT,Qb,_⟩:=live _ ED;simp only at XT Qb;rw[zo]at XT;cases XT;exact⟨ee,zo,Qb,h9,bF⟩
   simp only at h3;subst h3;exact absurd hG p.ng)
  (fun id hn=>(memL id).2 (.inl (lkmem id hn)))
  (fun id hn=>by
   cases he:eN σ e1 e1.z id with
   |none=>exact absurd he hn|some ee=>
    obtain⟨g',i,gi,ee1,hm,_,_⟩:=tN he;exact(memL id).2 (.inr (.inl ⟨_,hm,rfl⟩)))
  (fun hk id hd=>(memL id).2 (.inr (.inr ⟨hk,hd⟩)))
  (fun id=>by
   unfold bU;rw[Z5];by_cases hs:∃q∈yO false σ hp1,q.1=id
   ·rw[aul hs];obtain⟨q,hq,rfl⟩:=hs;simp only[yO,A2]at hq;obtain⟨q',ahj,rfl⟩:=hq;rw[iP ((memL _).2 (.inr (.inl ⟨q',ahj,rfl⟩)))]
   obtain⟨h1,h2⟩:=agc (l1:=yO false σ hp1) (l2:=qq ((xG τ σ D keep).filter fun i=>!(σ.map (·.1)).contains i)++hp) (id:=id) fun q hq heq=>hs ⟨q,hq,heq⟩;rw[h1,h2];unfold qq;rw[wx];have bE:¬∃q∈σ,q.1=id:=by rintro⟨q,hq,rfl⟩;exact hs ⟨_,A2.2 ⟨q,hq,rfl⟩,rfl⟩
   have hc:(σ.map (·.1)).contains id=false:=by rw[Bool.eq_false_iff];intro hc;simp only[List.contains_iff_mem,A2]at hc;exact bE hc
   by_cases hL:id∈xG τ σ D keep
   ·rw[iP (Yu.2 ⟨hL,by simp only[hc,RB]⟩),iP hL]
   rw[iN (fun h=>hL (Yu.1 h).1),iN hL])
  h.K1
 exact⟨_,w',e2,rfl,k1,k2,k3,k4,.inl ⟨v,rfl,k5 _ _ h.S9 oU⟩⟩
end
open Go Go.Great
def E8(rd:Option Nat):Fence:={Fence.wide with round:=rd}
def ad4{rd:Option Nat}{P:Program}{f:FuncId}{args:Array Value}{w:World}{R:Ending->World->Prop}(h:Calls P f args w R):CallsIn (E8 rd) 0 P f args w R:=
 (callsIn_wide (n:=0)).2 h
def ci{rd:Option Nat}{P:Program}{o:Oper}{a:Act}{next:Act->World->Prop}{Q:Exit->Act->World->Prop}{f:FuncId}{args:Array Value}{w:World}(h:Calls P f args w fun
   | .returned v,w''=>next (a.put o.dst v) w''| .panicked chain,w''=>Q (.panic chain) a w''
   | .outgrown,_=>LetsOut Q):o.uponIn (E8 rd) 0 P a next Q (.ok (.enter f args) w):=by
 rw[Oper.uponIn_enter];exact⟨fun h=>C3,ad4 h⟩
def Tn(C:Cx)(s:St)(a:Act)(w:World):Prop:=mc C (rM s.ck) s.tm s.hp a w
def St.put(s:St)(dst:Option Nat)(v:AV)(z7:List Up):St:=
 ⟨match dst with|some d=>(d,v)::s.tm|none=>s.tm,z7++s.hp,s.ck+1⟩
def rA(s:St)(xs:Array Operand):List AV:=xs.toList.map s.ev
def J8(P:Program)(T:vp)(f:FuncId)(g:Nat)(hp:Hp)(vs:List AV)(K:AV->List Up->List Nat->Prop):Prop:=
 ∃τ σ D keep hp1 rc,pZ P T f g hp vs τ σ D keep hp1 rc/\K (wZ σ hp1 rc) (bU τ σ D keep hp1) (τ.map (·.2.2.1)++D)
@[congr] theorem auN{P:Program}{T:vp}{f:FuncId}{g g':Nat}{hp hp':Hp}{vs qD:List AV}{K:AV->List Up->List Nat->Prop}(hg:g=g')(hh:hp=hp')(h':vs=qD):J8 P T f g hp vs K=J8 P T f g' hp' qD K:=by rw[hg,hh,h']
def GK(b want:Bool)(A B:Prop):Prop:=(b=want->A)/\(b≠want->B)
@[congr] theorem auT{b b' want:Bool}{A B:Prop}(h:b=b'):GK b want A B=GK b' want A B:=by rw[h]
def GM(x:Option AV)(want:Bool)(A B:Prop):Prop:=
 match x with
 |some (.lit (.bool b))=>GK b want A B|some (.F1 [])=>B|_=>False
@[congr] theorem auB{x x':Option AV}{want:Bool}{A B:Prop}(h:x=x'):GM x want A B=GM x' want A B:=by rw[h]
def dQ(P:Program)(T:vp)(o:Oper)(s:St)(K:St->Prop):Prop:=
 match o.op with
 | .call {callee:=.value f,args,argTypes:=_}=>match mL (s.ev f) (rA s args)with
  |some (fid,vs)=>J8 P T fid s.ck s.hp vs fun v z7 _=>K (s.put o.dst v z7)|none=>False
 |_=>(r9 T o s.ev s.hp s.ck).1/\K (s.put o.dst (r9 T o s.ev s.hp s.ck).2.1 (r9 T o s.ev s.hp s.ck).2.2)
def Ht(ops:List Oper)(j:Nat):Option Nat:=(ops[j]?).bind (·.dst)
def aa(P:Program)(T:vp)(all:List Oper):List Oper->St->(St->Prop)->Prop
 |[],s,K=>K s|o::So,s,K=>
  match o.guard with
  |none=>dQ P T o s fun s'=>aa P T all So s' K|some (j,want)=>GM ((Ht all j).map (L5 s.tm)) want (dQ P T o s fun s'=>aa P T all So s' K) (aa P T all So (s.put o.dst (.F1 []) []) K)
def fU{T:vp}{o:Oper}{ev:Operand->AV}{hp:Hp}{g:Nat}(h:(r9 T o ev hp g).1):∀c,o.op≠.defer c:=by intro c hc;obtain⟨dst,op,type,pos,after,guard⟩:=o;simp only at hc;subst hc;exact h.elim
section
variable{C:Cx}{T:vp}
def X8(n:Nat):Bb (rM n) n=rM (n+1):=by
 funext g
 simp only[Bb,rM,eq_iff_iff];omega
theorem Jq{e:bQ}{G:Nat->Prop}{w:World}{s:St}{a:Act}(h:∀t,VR w (UE e) e G (L5 s.tm t) (a.tmps.getD t undef)):∀x,VR w (UE e) e G (s.ev x) (a.eval x):=by
 intro x;cases x with
 |tmp t=>exact h t|const v=>exact .rC _ _ (VD.bk v)
 |func f=>exact .rC _ _ (.fn f [] #[] rfl (fun i hi=>yr))
 |global g=>exact .rC _ _ (.gl g)
theorem Qk{s:St}{a:Act}{w w':World}(JD:Tn C s a w){e e':bQ}(hv:∀t,VR w (UE e) e (rM s.ck) (L5 s.tm t) (a.tmps.getD t undef)){z7:List Up}{v:AV}{xv:Value}{dst:Option Nat}(Y_:dst.getD 0<C.N)(h1:cH w' e' (rM (s.ck+1)) (z7++s.hp))(h2:Z7 w e (rM s.ck) w' e' (rM (s.ck+1)))(h3:ke C w' e' (rM (s.ck+1)))(h4:OL C w')(h5:VR w' (UE e') e' (rM (s.ck+1)) v xv):
  Tn C (s.put dst v z7) (a.put dst xv) w':=by
 refine⟨?_,?_,h4,e',h1,h3,fun t=>?_⟩
 .cases dst<;>exact JD.defers
 .cases dst with
  |none=>exact JD.size|some d=>simp only[Act.put,yY];exact JD.size
 cases dst with
 |none=>exact(hv t).ext h2|some d=>
  simp only[St.put,L5,Act.put];by_cases h:d=t
  .subst h;rw[iP rfl];have hd:d<a.tmps.size:=by rw[JD.size];exact Y_
   rw[gA,z_ hd];exact h5
  rw[iN h];have:(a.tmps.setIfInBounds d xv).getD t undef=a.tmps.getD t undef:=by rw[gA,gA,CX h]
  rw[this];exact(hv t).ext h2
theorem sq{e:bQ}{G:Nat->Prop}{w:World}{f:AV}{xf:Value}{us vs:List AV}{xs:Array Value}{fid:FuncId}(hf:mL f us=some (fid,vs))(IK:VR w (UE e) e G f xf)(hl:us.length=xs.size)(cg:∀i (h:i<us.length),VR w (UE e) e G us[i] (xs.getD i undef)):
  ∃fst cap:Array Value,xf=.func (.func fid) fst cap/\vs.length=(fst++xs++cap).size/\∀i (h:i<vs.length),VR w (UE e) e G vs[i] ((fst++xs++cap).getD i undef):=by
 have app:∀{az bs:List AV}{x y:Array Value},az.length=x.size->(∀i (h:i<az.length),VR w (UE e) e G az[i] (x.getD i undef))->(∀i (h:i<bs.length),VR w (UE e) e G bs[i] (y.getD i undef))->
   ∀i (h:i<(az++bs).length),VR w (UE e) e G (az++bs)[i] ((x++y).getD i undef):=by
  intro az bs x y hx h1 h2 i h;by_cases hi:i<az.length
  .have e2:(x++y).getD i undef=x.getD i undef:=by rw[gA,Jl oM,gA]
   rw[Tx hi,e2];exact h1 i hi
  have pU:i-az.length<bs.length:=lM;have e2:(x++y).getD i undef=y.getD (i-az.length) undef:=by rw[gA,Fo oM,gA,hx]
  rw[Mg oM,e2];exact h2 _ pU
 cases f with
 |fn f caps=>
  cases hf
  have xS:∃cs:Array Value,xf=.func (.func fid) #[] cs/\caps.length=cs.size/\∀i (h:i<caps.length),VR w (UE e) e G caps[i] (cs.getD i undef):=by
   cases IK with
   |rC _ _ h=>cases h with|fn _ _ vs h1 h2=>exact⟨vs,rfl,h1,fun i hi=>.rC _ _ (h2 i hi)⟩
   |fn _ _ vs h1 h2=>exact⟨vs,rfl,h1,h2⟩
  obtain⟨cs,rfl,h1,h2⟩:=xS;refine⟨#[],cs,rfl,by simp[hl,h1],?_⟩
  rw[Ec];exact app hl cg h2
 |Ep f first=>
  cases hf
  cases IK with
  |rC _ _ h=>cases h
  |Ep _ _ cs h1 h2=>
   refine⟨cs,#[],rfl,by simp[hl,h1],?_⟩
   rw[Array.append_empty];exact app h1 h2 cg
 |_=>cases hf
def sG(hC:PT C T){o:Oper}(Y_:o.dst.getD 0<C.N){s:St}{a:Act}{w:World}(JD:Tn C s a w){K:St->Prop}(h:dQ C.P T o s K){Q:Exit->Act->World->Prop}{next:Act->World->Prop}(hn:∀s' a' w',Tn C s' a' w'->K s'->next a' w'):o.wpIn (E8 C.rd) 0 C.P a w next Q:=by
 obtain⟨e,hr,fo,hv⟩:=JD.body;have p:jC C e (rM s.ck) s.ck s.hp w:=⟨hr,fo,JD.xt,by simp[rM]⟩;have Uy:=Jq (s:=s) hv;have main:∀(P:Prop)(v:AV)(z7:List Up)(res:Result Next),Bm C e (rM s.ck) s.ck s.hp w (P,v,z7) res->K (s.put o.dst v z7)->
   (∃xv w',res=.ok (.value xv) w'/\next (a.put o.dst xv) w')\/(∃w',res=.ok .skip w'/\next (a.put o.dst undef) w'):=by
  rintro P v z7 res ⟨nx,w',e',r1,r2,r3,r4,r5,r6⟩ hK;rw[X8]at r2 r3 r4 r6;rcases r6 with ⟨xv,rfl,r6⟩|⟨rfl,rfl⟩
  .exact .inl ⟨xv,w',r1,hn _ _ _ (Qk JD hv Y_ r2 r3 r4 r5 r6) hK⟩
  exact .inr ⟨w',r1,hn _ _ _ (Qk JD hv Y_ r2 r3 r4 r5 (.rC _ _ (.bad _))) hK⟩
 have plain:(r9 T o s.ev s.hp s.ck).1/\K (s.put o.dst (r9 T o s.ev s.hp s.ck).2.1 (r9 T o s.ev s.hp s.ck).2.2)->o.wpIn (E8 C.rd) 0 C.P a w next Q:=by
  rintro⟨h1,h2⟩;have:=B6 p hC o Uy h1;refine⟨fun _ _=>trivial,?_⟩;rw[E1 _ _ _ (fU h1)];rcases main _ _ _ _ this h2 with ⟨xv,w',ur,RK⟩|⟨w',ur,RK⟩
  .rw[ur,Ta];exact RK
  rw[ur,Oper.uponIn_skip];exact RK
 unfold dQ at h;split at h
 .rename_i f args at_ Ph;split at h
  .rename_i fid vs hf;obtain⟨τ,σ,D,keep,hp1,rc,hc,hK⟩:=h;obtain⟨fst,cap,KO,KM,BC⟩:=sq (xs:=args.map a.eval) hf (Uy f) (by simp[rA]) fun i hi=>by
    have jk:i<args.size:=by simpa[rA] using hi
    have e1:(rA s args)[i]=s.ev args[i]:=by simp[rA]
    have e2:(args.map a.eval).getD i undef=a.eval args[i]:=by rw[gA];simp[jk]
    rw[e1,e2];exact Uy _
   obtain⟨⟨fn,xH,px,eP⟩,Oq⟩:=io p hC (vs:=vs) (pk:=fst++args.map a.eval++cap) KM BC hc;have Ik:(execOp a.eval o).run C.P w=.ok (.enter fid (fst++args.map a.eval++cap)) w:=by unfold execOp;simp only[Ph,resolve,KO,Deferred.ofValue,invoke,callFunc,ig,fX,GQ,yT,xH,px,eP,C9,j4,Ec]
   refine⟨fun _ _=>trivial,?_⟩;rw[E1 _ _ _ (by intro c hc;rw[Ph]at hc;cases hc),Ik];refine ci (Oq.mono ?_);rintro en w' ⟨xv,rfl,sL⟩;rcases main _ _ _ _ sL hK with ⟨xv',w'',ur,RK⟩|⟨w'',ur,RK⟩
   .cases ur;exact RK
   cases ur
  exact h.elim
 exact plain h
def Tn.skip{s:St}{a:Act}{w:World}(JD:Tn C s a w){dst:Option Nat}(Y_:dst.getD 0<C.N):Tn C (s.put dst (.F1 []) []) (a.put dst undef) w:=by
 obtain⟨e,hr,fo,hv⟩:=JD.body;have x:=Z7.wide w e (rM s.ck) s.ck;rw[X8]at x;exact Qk JD hv Y_ (by rw[<-X8];exact hr.wide) x (by rw[<-X8];exact fo.wide _) JD.xt (.rC _ _ (.F1 [] #[] rfl (fun i hi=>yr)))
theorem EV{a:Act}{d:Nat}{w:World}{U:Nat->Prop}{e:bQ}{G:Nat->Prop}{all:List Oper}{j:Nat}(X9:Ht all j=some d)(gI:VR w U e G (.F1 []) (a.tmps.getD d undef)):yielded all.toArray a.tmps j=none:=by
 obtain⟨vs,gI,_⟩:=gI.oJ;unfold yielded;have e1:(all.toArray[j]?).bind (·.dst)=some d:=by simpa[Ht] using X9
 rw[e1];rw[gA]at gI;cases hx:a.tmps[d]? with
 |none=>simp[hx]|some v=>rw[hx]at gI;simp at gI;subst gI;simp[hx]
def aO{o:Oper}(h:o.guard=none)(y:Nat->Option Bool):Region.wanted o y=true:=by simp[Region.wanted,h]
theorem Vp(hC:PT C T){all:List Oper}(Q:Exit->Act->World->Prop){K:St->Prop}(hQ:∀s' a' w',Tn C s' a' w'->K s'->Q .normal a' w'):
  ∀(So:List Oper),(∀o∈So,o.dst.getD 0<C.N)->∀(s:St)(a:Act)(w:World),Tn C s a w->aa C.P T all So s K->wpListIn (E8 C.rd) 0 C.P all.toArray Q So a w
 |[],_,s,a,w,JD,h=>hQ s a w JD h|o::So,hd,s,a,w,JD,h=>by
  have ih:=Vp hC (all:=all) Q hQ So (fun o' ho=>hd o' (mC _ ho));have Cm:=hd o mS;unfold aa at h;unfold wpListIn;cases hg:o.guard with
  |none=>simp only[hg]at h;rw[iP (aO hg _)];exact sG hC Cm JD h fun s' a' w' h1 h2=>ih s' a' w' h1 h2|some q=>
   obtain⟨j,want⟩:=q;simp only[hg]at h;cases X9:Ht all j with
   |none=>simp only[X9,fY,GM]at h|some d=>
    simp only[X9,rL,GM]at h;split at h
    .rename_i b hb;obtain⟨e,hr,fo,hv⟩:=JD.body;have gI:=hv d;simp only[Kh]at hb;rw[hb]at gI;obtain⟨gI,_⟩:=gI.VI;have hy:yielded all.toArray a.tmps j=some b:=by
      unfold yielded;have e1:(all.toArray[j]?).bind (·.dst)=some d:=by simpa[Ht] using X9
      rw[e1];rw[gA]at gI;cases hx:a.tmps[d]? with
      |none=>rw[hx]at gI;cases gI
      |some v=>rw[hx]at gI;simp at gI;subst gI;simp[hx]
     by_cases EW:b=want
     .rw[iP DD];exact sG hC Cm JD (h.1 EW) fun s' a' w' h1 h2=>ih s' a' w' h1 h2
     rw[iN DD];exact⟨fun _ _=>trivial,ih _ _ _ (JD.skip Cm) (h.2 EW)⟩
    .rename_i hb;obtain⟨e,hr,fo,hv⟩:=JD.body;have gI:=hv d;simp only[Kh]at hb;rw[hb]at gI;rw[iN (by simp[Region.wanted,hg,EV X9 gI])];exact⟨fun _ _=>trivial,ih _ _ _ (JD.skip Cm) h⟩
    exact h.elim
def Ex(C:Cx)(c:Code)(Q:Exit->St->Prop)(s:St):Prop:=
 ∀a w,Tn C s a w->c.wpIn (E8 C.rd) 0 C.P (fun ex a' w'=>(∃s',Tn C s' a' w'/\Q ex s')\/(ex=.ret/\C.WV a' w')) a w
def AI(next:St->Prop)(Q:Exit->St->Prop):Exit->St->Prop
 | .normal,s=>next s|e,s=>Q e s
def Sf(id:Nat)(Q:Exit->St->Prop):Exit->St->Prop
 | .exit qJ,s=>if qJ=id then Q .normal s else Q (.exit qJ) s|e,s=>Q e s
def ii{c:Code}{Q Q':Exit->St->Prop}{s:St}(h:Ex C c Q s)(hq:∀e s,Q e s->Q' e s):Ex C c Q' s:=
 fun a w hr=>K_ (h a w hr) fun e a' w' h=>h.imp (fun⟨s',h1,h2⟩=>⟨s',h1,hq e s' h2⟩) id
def GA{x y:Code}{Q:Exit->St->Prop}{s:St}(h:Ex C x (AI (Ex C y Q) Q) s):Ex C (.seq x y) Q s:=by
 intro a w hr;refine iQ (K_ (h a w hr) ?_);rintro e a' w' (⟨s',h1,h2⟩|⟨rfl,h⟩)
 .cases e<;>first|exact h2 a' w' h1|exact .inl ⟨s',h1,h2⟩
 exact .inr ⟨rfl,h⟩
def md{Q:Exit->St->Prop}{s:St}(h:Q .normal s):Ex C .skip Q s:=fun _ _ hr=>wpIn_skip (.inl ⟨s,hr,h⟩)
def A_{Q:Exit->St->Prop}{s:St}(h:Q .ret s):Ex C .ret Q s:=fun _ _ hr=>wpIn_ret (.inl ⟨s,hr,h⟩)
def El{id:Nat}{Q:Exit->St->Prop}{s:St}(h:Q (.exit id) s):Ex C (.exit id) Q s:=fun _ _ hr=>wpIn_exit (.inl ⟨s,hr,h⟩)
def lK{id:Nat}{c:Code}{Q:Exit->St->Prop}{s:St}(h:Ex C c (Sf id Q) s):Ex C (.block id c) Q s:=by
 intro a w hr;refine It (K_ (h a w hr) ?_);rintro e a' w' (⟨s',h1,h2⟩|⟨rfl,h⟩)
 .cases e with
  |exit qJ=>
   simp only[Exit.inBlock,Sf]at h2 ⊢;by_cases hid:qJ=id
   .rw[iP hid]at h2 ⊢;exact .inl ⟨s',h1,h2⟩
   rw[iN hid]at h2 ⊢;exact .inl ⟨s',h1,h2⟩
  |_=>exact .inl ⟨s',h1,h2⟩
 exact .inr ⟨rfl,h⟩
def rV{c:Operand}{x y:Code}{Q:Exit->St->Prop}{s:St}(b:Bool)(hc:s.ev c=.lit (.bool b))(ht:b=true->Ex C x Q s)(hf:b=false->Ex C y Q s):Ex C (.cond c x y) Q s:=by
 intro a w hr;obtain⟨e,_,_,hv⟩:=hr.body;have:=Jq (s:=s) hv c;rw[hc]at this;obtain⟨he,_⟩:=this.VI;refine wpIn_cond he ?_;cases b
 .exact hf rfl a w hr
 exact ht rfl a w hr
def ZZ{id:Nat}{l:List Oper}{Q:Exit->St->Prop}{s:St}(hC:PT C T)(hd:(l.all fun o=>decide (o.dst.getD 0<C.N))=true)(h:∀K:St->Prop,(∀s',Q .normal s'->K s')->aa C.P T l l s K):Ex C (.region id l.toArray false) Q s:=by
 intro a w hr;refine kI ?_;rw[FR]at hd;exact Vp (K:=fun s'=>Q .normal s') hC _ (fun s' _ _ h1 h2=>.inl ⟨s',h1,h2⟩) l (fun o ho=>by simpa using hd o ho) s a w hr (h _ fun _ h=>h)
theorem least(p:Nat->Prop):∀n,p n->∃k,p k/\∀j,p j->k<=j:=by
 intro n;induction n using Nat.strongRecOn with
 |_ n ih=>
  intro hn;by_cases h:∃j,j<n/\p j
  .obtain⟨j,hj,hp⟩:=h;exact ih j hj hp
  refine⟨n,hn,fun j hj=>?_⟩;by_cases PP:j<n
  .exact absurd ⟨j,PP,hj⟩ h
  omega
def ard{ι:Type}{c:Code}{Q:Exit->St->Prop}(inv:ι->St)(ok:ι->Prop)(m:ι->Nat)(i0:ι)(h0:ok i0)(round:∀i,ok i->Ex C c (AI (fun s'=>∃j,ok j/\m j<m i/\∀a w,Tn C s' a w->Tn C (inv j) a w) Q) (inv i)):Ex C (.loop c) Q (inv i0):=by
 intro a w hr;have hex:∃μ:Act->World->Nat,∀a w,(∃i,ok i/\Tn C (inv i) a w)->(∃i,ok i/\Tn C (inv i) a w/\m i=μ a w)/\∀i,ok i->Tn C (inv i) a w->μ a w<=m i:=by
  have h1:∀a w,∃n,(∃i,ok i/\Tn C (inv i) a w)->(∃i,ok i/\Tn C (inv i) a w/\m i=n)/\∀i,ok i->Tn C (inv i) a w->n<=m i:=by
   intro a w;by_cases h:∃i,ok i/\Tn C (inv i) a w
   .obtain⟨i,aX,pU⟩:=h;obtain⟨k,⟨i',h1,h2,h3⟩,h4⟩:=least (fun n=>∃i,ok i/\Tn C (inv i) a w/\m i=n) (m i) ⟨i,aX,pU,rfl⟩;exact⟨k,fun _=>⟨⟨i',h1,h2,h3⟩,fun i hi hr=>h4 _ ⟨i,hi,hr,rfl⟩⟩⟩
   exact⟨0,fun h'=>absurd h' h⟩
  exact⟨fun a w=>Classical.choose (h1 a w),fun a w=>vB (h1 a w)⟩
 obtain⟨μ,hμ⟩:=hex;refine wpIn_loop (fun a w=>∃i,ok i/\Tn C (inv i) a w) μ ⟨i0,h0,hr⟩ ?_;intro a w hI;obtain⟨⟨i,hi,Hk,hm⟩,_⟩:=hμ a w hI;refine K_ (round i hi a w Hk) ?_;rintro e a' w' (⟨s',h1,h2⟩|⟨rfl,h⟩)
 .cases e with
  |normal=>obtain⟨j,hj,PP,hs⟩:=h2;have A4:∃i,ok i/\Tn C (inv i) a' w':=⟨j,hj,hs a' w' h1⟩;refine⟨A4,?_⟩;have:=(hμ a' w' A4).2 j hj (hs a' w' h1);omega
  |_=>exact .inl ⟨s',h1,h2⟩
 exact .inr ⟨rfl,h⟩
def WH(hp:Hp):AV->AV
 | .Rc t k es=>.Rc t k es|v=>fz 3 hp v
def U5(hp:Hp):AV->Prop
 | .Rc _ _ _=>True|v=>Xa 3 hp v
def zd(hp:Hp):AV->List Nat
 | .Rc _ _ _=>[]|v=>qg 3 hp v
inductive Km(hp hp':Hp):Ob->Ob->Prop
 |same (ob:Ob):Km hp hp' ob ob|own (t k:Nat) (es:List AV):(∀e∈es,∀c∈e.cells,U5 hp c)->(∀i∈es.flatMap (fun e=>e.cells.flatMap (zd hp)),hp'.get i=none)->Km hp hp' (.own t k es) (.own t k (es.map (cK (WH hp))))|box (cs F8:List AV):F8.length=cs.length->(∀j (h:j<cs.length) (h':j<F8.length),F8[j]=cs[j]\/(Xa 4 hp cs[j]/\F8[j]=fz 4 hp cs[j]/\∀i∈qg 4 hp cs[j],hp'.get i=none))->Km hp hp' (.box cs) (.box F8)
structure Kd(s s':St):Prop where
 ck:s.ck<=s'.ck
 hp:∀id,s'.hp.get id=none\/∃g ob LZ,s.hp.get id=some (g,ob)/\s'.hp.get id=some (g,LZ)/\Km s.hp s'.hp ob LZ
 tm:∀t,L5 s'.tm t=.bad\/L5 s'.tm t=L5 s.tm t\/
  (pj s.hp (L5 s.tm t)/\L5 s'.tm t=mH s.hp (L5 s.tm t)/\∀i∈ui s.hp (L5 s.tm t),s'.hp.get i=none)
noncomputable def Bh(e:bQ)(hp:Hp):bQ:=⟨fun i=>match hp.get i with|none=>none|some _=>e i,e.z,e.Rc⟩
theorem Pf{e:bQ}{hp:Hp}{i:Nat}{ee:EE}(h:Bh e hp i=some ee):e i=some ee/\hp.get i≠none:=by
 simp only[Bh]at h;cases hg:hp.get i with
 |none=>rw[hg]at h;cases h
 |some q=>rw[hg]at h;exact⟨h,sM⟩
theorem akR{e:bQ}{hp:Hp}{i:Nat}(h:hp.get i≠none):Bh e hp i=e i:=by
 simp only[Bh];cases hg:hp.get i with
 |none=>exact absurd hg h|some q=>rfl
def zX{e:bQ}{hp:Hp}{b:Nat}(h:I2 (Bh e hp) b):I2 e b:=by obtain⟨id,ee,c,h1,h2⟩:=h;exact⟨id,ee,c,(Pf h1).1,h2⟩
def Vr{e:bQ}{hp:Hp}{b:Nat}(h:TT (Bh e hp) b):TT e b:=by
 rcases h with h|⟨B,c,h1,h2⟩
 .exact .inl (zX h)
 exact .inr ⟨B,c,h1,zX h2⟩
def Z7.pick(w:World)(e:bQ)(hp:Hp){n m:Nat}(h:n<=m):Z7 w e (rM n) w (Bh e hp) (rM m):=
 Z7.mk' (lR _) (fun g (hg:g<n)=>(tL hg h:g<m)) rfl (fun _ _ ho=>Vr ho) (fun _ _ _=>rfl) fun _ SV hi _=>⟨SV,(Pf hi).1,rfl,rfl,.inl ⟨rfl,rfl⟩⟩
def WD.pick{e:bQ}{w:World}{hp:Hp}{G:Nat->Prop}(hr:cH w e G hp)(hp':Hp):WD e (Bh e hp') (fun i=>hp'.get i=none):=by
 have key:∀id b,hp'.get id=none->XA e id b->UE (Bh e hp') b:=by
  intro id b hid ho;refine⟨fun hz=>hr.PQ ho.own hz,?_⟩;rintro(⟨qJ,ee,c,h1,h2⟩|⟨B,c,hk,qJ,ee,c',h1,h2⟩)
  .obtain⟨h3,h4⟩:=Pf h1;have:=XA.uniq hr ho (.inl ⟨ee,c,h3,h2⟩);subst this;exact h4 hid
  obtain⟨h3,h4⟩:=Pf h1;have:=XA.uniq hr ho (.inr ⟨B,c,ee,c',hk,h3,h2⟩);subst this;exact h4 hid
 exact⟨fun b hb=>⟨hb.1,fun ho=>hb.2 (Vr ho)⟩,fun id ee b c hid he hb=>⟨key id b hid (.inl ⟨ee,c,he,hb⟩),fun b' c' hk=>key id b' hid (.inr ⟨b,c',ee,c,hk,he,hb⟩)⟩⟩
theorem Ox{hp:Hp}{el:AV}(hc:∀c∈el.cells,c.one=true)(hP:∀c∈el.cells,U5 hp c):(cK (WH hp) el).cells=el.cells.map (WH hp):=by
 have h1:∀c,U5 hp c->(WH hp c).one=true:=by
  intro c h;cases c with
  |Rc=>rfl|_=>exact o9 (n:=3) h
 cases el with
 |agg cs=>rfl|bad=>have:=hc .bad p9;cases this
 |F1 cs=>have:=hc (.F1 cs) p9;cases this
 |_=>exact RU (h1 _ (hP _ mS))
theorem aqm{hp:Hp}{c:AV}(h:U5 hp c):(WH hp c).one=true:=by
 cases c with
 |Rc=>rfl|_=>exact o9 (n:=3) h
theorem Km.rel{e:bQ}{w:World}{hp hp':Hp}{n m:Nat}(hr:cH w e (rM n) hp)(jh:n<=m){ob LZ:Ob}(h:Km hp hp' ob LZ){ee:EE}(ho:Jh w e (rM n) ob ee):Jh w (Bh e hp') (rM m) LZ ee:=by
 have x:=Z7.pick w e hp' jh;have fr:=WD.pick hr hp';cases h with
 |same=>exact ho.ext x fun _ _ _=>⟨rfl,fun _ _ h=>⟨rfl,h⟩⟩|own t k es hP hD=>
  obtain⟨h1,h2,h3,h4,h5,h6⟩:=ho;have wE:∀i (hi:i<es.length),∀c∈es[i].cells,c.one=true:=by intro i hi c hc;obtain⟨j,hj,rfl⟩:=G_ hc;exact h5 i hi j hj
  have C_:∀i (hi:i<es.length),∀c∈es[i].cells,U5 hp c:=fun i hi c hc=>hP _ (gM hi) c hc;refine⟨h1,H0,h3,?_,?_,?_⟩
  .intro i hi;have jk:i<es.length:=Ks;simp only[nw];rw[Ox (wE i jk) (C_ i jk),E3];exact h4 _ _
  .intro i hi j hj;have jk:i<es.length:=Ks;simp only[nw,Ox (wE i jk) (C_ i jk)]at hj ⊢;exact aqm (C_ i jk _ (gM _))
  cases OT:ee.Rr with
  |none=>rw[OT]at h6;subst h6;rfl|some q=>
   obtain⟨b,bcap⟩:=q;rw[OT]at h6;obtain⟨q7,q8,cs,q9,q10,q11⟩:=h6;refine⟨q7,by simpa using q8,cs,q9,q10,fun i hi j hj=>?_⟩;have jk:i<es.length:=Ks;simp only[nw,Ox (wE i jk) (C_ i jk)]at hj ⊢;have tw:j<es[i].cells.length:=Ou;have Uu:=q11 i jk j tw;have AZ:=C_ i jk _ (gM tw);have TP:∀d∈zd hp es[i].cells[j],hp'.get d=none:=fun d hd=>hD d (CJ.2 ⟨_,gM jk,CJ.2 ⟨_,gM tw,hd⟩⟩);generalize es[i].cells[j]=c at Uu AZ TP;generalize cs.getD (i*k+j) undef=u at Uu;cases Uu with
   |val _ _ Wi=>
    cases c with
    |Rc=>exact Wi.rE.elim|_=>exact .val _ _ (.rC _ _ (i8 hr fr 3 Wi AZ TP))
   |Mt t' k' a h0=>exact .Mt _ _ a h0|Rc t' k' xs b' cap F8 k1 k2 k3 k4 k5 k6 k7 k8 k9=>exact .Rc _ _ _ b' cap F8 k1 k2 k3 k4 k5 k6 k7 k8 fun i hi j hj=>(k9 i hi j hj).mono (lR _) (fun b _ hb=>fr.un b hb) (fun _ _ _=>rfl)
 |box cs F8 hl LF=>
  obtain⟨q1,q2,b,c,vs,t,q3,q4,q5,q6⟩:=ho;refine⟨q1,?_,b,c,vs,t,q3,q4,oM,fun j hj=>?_⟩
  .intro j hj;rcases LF j oM hj with h|⟨h1,h2,_⟩
   .rw[h];exact q2 _ _
   rw[h2];exact o9 h1
  rcases LF j oM hj with h|⟨h1,h2,h3⟩
  .rw[h];exact(q6 j oM).ext x
  rw[h2];exact .rC _ _ (i8 hr fr 4 (q6 j oM) h1 h3)
section
variable{C:Cx}{T:vp}
def Kd.JD{s s':St}(h:Kd s s'){w:World}{e:bQ}(h1:cH w e (rM s.ck) s.hp):cH w (Bh e s'.hp) (rM s'.ck) s'.hp:=by
 have Dn:∀{id},s'.hp.get id≠none->∃g ob LZ,s.hp.get id=some (g,ob)/\s'.hp.get id=some (g,LZ)/\Km s.hp s'.hp ob LZ:=fun hn=>(h.hp _).resolve_left hn;constructor
 .intro id hid;simp only[Bh,hid]
 .intro id g LZ hid;obtain⟨g',ob,ob2,q1,q2,q3⟩:=Dn (id:=id) (by rw[hid];simp);rw[hid]at q2;cases q2;obtain⟨ee,k1,k2,k3,k4⟩:=h1.live id _ ob q1;exact⟨ee,by rw[akR (by rw[hid];simp)];exact k1,k2,tL k3 h.ck,q3.rel h1 h.ck k4⟩
 .intro i j ei ej b c c' hi hj;exact h1.inj i j ei ej b c c' (Pf hi).1 (Pf hj).1
 .intro i ei b c hi;exact h1.lt i ei b c (Pf hi).1
 .intro i ei b c hi;exact h1.nz i ei b c (Pf hi).1
 .exact h1.kl
 .intro b ho;exact h1.ko b (zX ho)
 exact h1.kk
def ke.pick{w:World}{e:bQ}{n m:Nat}(h:ke C w e (rM n))(hp:Hp)(jh:n<=m):ke C w (Bh e hp) (rM m):=
 ⟨h.tI,h.BA,h.ext.trans (Z7.pick w e hp jh),fun b hb=>h.jR b (Vr hb)⟩
def Kd.rel{s s':St}(h:Kd s s'){a:Act}{w:World}(hr:Tn C s a w):Tn C s' a w:=by
 obtain⟨e,h1,h2,h3⟩:=hr.body;refine⟨hr.defers,hr.size,hr.xt,Bh e s'.hp,h.JD h1,h2.pick _ h.ck,fun t=>?_⟩;rcases h.tm t with ht|ht|⟨Ll,tM,UU⟩
 .rw[ht];exact .rC _ _ (.bad _)
 .rw[ht];exact(h3 t).ext (Z7.pick w e _ h.ck)
 rw[tM];exact .rC _ _ (at4 h1 (WD.pick h1 s'.hp) (h3 t) Ll UU)
def AR{c:Code}{Q:Exit->St->Prop}{s s':St}(hw:Kd s s')(h:Ex C c Q s'):Ex C c Q s:=fun a w hr=>h a w (hw.rel hr)
end
end
open Go Go.Great
section
variable{C:Cx}{e:bQ}{G:Nat->Prop}{hp:Hp}{w:World}{T:vp}
def UL(ti:TI)(hp:Hp):AV->Prop×AV
 | .P cs=>((F2 ti cs).1,(F2 ti cs).2.1)| .p id g n i off=>match hp.get id with
  |some (g',.box cs)=>(g'=g/\n=0/\i=0/\(F2 ti (cs.drop off)).1,(F2 ti (cs.drop off)).2.1)|_=>(False,.bad)
 |_=>(False,.bad)
def FT(T:vp)(s:St):ResultVar->Prop×AV
 | .tmp t=>(True,L5 s.tm t)| .cell t ty=>UL (tl T ty) s.hp (L5 s.tm t)
def e_(T:vp)(s:St):List ResultVar->Prop×AV
 |[x]=>FT T s x|xs=>(∀x∈xs,(FT T s x).1,.F1 (xs.map fun x=>(FT T s x).2))
def HW(tmps:Array Value):ResultVar->Sem Value
 | .tmp t=>pure (tmps.getD t undef)| .cell ad t=>do loadVar t (<-asAddr (tmps.getD ad undef))
def asR(fn:Func)(tmps:Array Value):results fn tmps=(do let vs<-fn.results.mapM (HW tmps);pure (if h:vs.size=1 then vs[0] else .tuple vs)):=by unfold results;congr 1
theorem ajW(hT:JE C.P T){s:St}{a:Act}(hr:cH w e G s.hp)(hv:∀t,VR w (UE e) e G (L5 s.tm t) (a.tmps.getD t undef))(x:ResultVar)(h:(FT T s x).1):
  ∃xv,(HW a.tmps x).run C.P w=.ok xv w/\VR w (UE e) e G (FT T s x).2 xv:=by
 cases x with
 |tmp t=>exact⟨_,rfl,hv t⟩|cell ad t=>
  simp only[FT]at h ⊢;have hx:=hv ad;have key:∀{b off:Nat}{cs:List AV}{f:Nat->Value},a.tmps.getD ad undef=.pointer (some ⟨b,off,none⟩)->(∀j,j<cs.length->w.cell? ⟨b,off+j,none⟩=some (f j))->(∀i (h:i<cs.length),cs[i].one=true)->
    (∀i (h:i<cs.length),VR w (UE e) e G cs[i] (f i))->(F2 (tl T t) cs).1->∃xv,(HW a.tmps (.cell ad t)).run C.P w=.ok xv w/\VR w (UE e) e G (F2 (tl T t) cs).2.1 xv:=by
   intro b off cs f hp hc h1 hv h;obtain⟨xv,h2,h3⟩:=qw (C:=C) (hT.fits (t:=t) h.1) hc h1 hv h;refine⟨xv,?_,h3⟩;rw[<-h2];unfold Instr.loadAt;simp only[HW,hp];rfl
  generalize kY:L5 s.tm ad=av at h hx ⊢;cases av with
  |P cs=>obtain⟨b,off,f,he,h1,h2,h3,h4,h5⟩:=hx.Si.Si;exact key he h3 h4 (fun i hi=>.rC _ _ (h5 i hi)) h
  |p id g' n i off=>
   simp only[UL]at h ⊢;cases hg:s.hp.get id with
   |none=>simp only[hg]at h|some q=>
    obtain⟨g'',ob⟩:=q;cases ob with
    |own t k es=>simp only[hg]at h|mp _=>simp only[hg]at h|ms _=>simp only[hg]at h|bd _ _ _=>simp only[hg]at h|box cs=>simp only[hg]at h ⊢;obtain⟨rfl,rfl,rfl,h⟩:=h;obtain⟨_,_,hi⟩:=hx.nj;obtain⟨ee,he,V8,_,jz⟩:=hr.live id _ _ hg;obtain⟨hn,h1,b,c,vs,T',hb,hh,hs,ec⟩:=jz;obtain⟨_,hi⟩:=hi ee he V8;have t8:=hi hn b c hb;rw[gw,cy]at t8;exact key t8 (cs:=cs.drop off) (f:=fun j=>vs.getD (off+j) undef) (fun j hj=>by rw[cell_of_heap hh YH]) (Cs h1 off) (fun j hj=>by simp only[qY];exact ec _ _) h
  |_=>exact h.elim
theorem sZ{P:Program}{α:Type}(g:α->Sem Value):∀(xs:List α)(f:α->Value),(∀x∈xs,(g x).run P w=.ok (f x) w)->(xs.mapM g).run P w=.ok (xs.map f) w
 |[],_,_=>sM|x::xs,f,h=>by rw[List.mapM_cons,ig,h x mS,GQ,ig,sZ g xs f fun y hy=>h y (mC _ hy),GQ];rfl
theorem ago(hT:JE C.P T){s:St}{a:Act}(hr:cH w e G s.hp)(hv:∀t,VR w (UE e) e G (L5 s.tm t) (a.tmps.getD t undef)){fn:Func}(h:(e_ T s fn.results.toList).1):
  ∃xv,(results fn a.tmps).run C.P w=.ok xv w/\VR w (UE e) e G (e_ T s fn.results.toList).2 xv:=by
 have AS:∀x∈fn.results.toList,(FT T s x).1:=by
  unfold e_ at h;split at h
  .rename_i x hx;intro y hy;rw[hx]at hy;simp at hy;subst hy;exact h
  exact h
 have afS:∃f:ResultVar->Value,∀x∈fn.results.toList,(HW a.tmps x).run C.P w=.ok (f x) w/\
   VR w (UE e) e G (FT T s x).2 (f x):=by
  have h1:∀x,∃v,x∈fn.results.toList->(HW a.tmps x).run C.P w=.ok v w/\VR w (UE e) e G (FT T s x).2 v:=by
   intro x;by_cases hx:x∈fn.results.toList
   .obtain⟨v,h2,h3⟩:=ajW hT hr hv x (AS x hx);exact⟨v,fun _=>⟨h2,h3⟩⟩
   exact⟨undef,fun h=>absurd h hx⟩
  exact⟨fun x=>Classical.choose (h1 x),fun x=>vB (h1 x)⟩
 obtain⟨f,hf⟩:=afS;have Ik:=sZ (P:=C.P) (w:=w) (HW a.tmps) fn.results.toList f fun x hx=>(hf x hx).1;have ur:(results fn a.tmps).run C.P w=.ok (if h:(fn.results.toList.map f).toArray.size=1 then(fn.results.toList.map f).toArray[0] else .tuple (fn.results.toList.map f).toArray) w:=by rw[asR,ig,Array.mapM_eq_mapM_toList,Sem.run_map];rw[Ik];rfl
 refine⟨_,ur,?_⟩;unfold e_;split
 .rename_i x hx;have hm:=hf x (by rw[hx];simp);simp only[hx,b_,FV,Nn,dO,N9];simpa using hm.2
 rename_i SO;rw[sD]
 .refine .F1 _ _ sM fun i hi=>?_;have jk:i<fn.results.toList.length:=Ks;simp only[nw];have:(fn.results.toList.map f).toArray.getD i undef=f fn.results.toList[i]:=by rw[gA,n_,YO,gG jk];rfl
  rw[this];exact(hf _ (gM jk)).2
 intro xB;have:fn.results.toList.length=1:=by simpa using xB
 match hl:fn.results.toList,this with
 |[x],_=>exact SO x hl
def bZ(az:List AV):List (Nat×AV):=(az.zipIdx 0).map fun p=>(p.2,p.1)
theorem uG:∀(az:List AV)(k t:Nat),L5 ((az.zipIdx k).map fun p=>(p.2,p.1)) (k+t)=az.getD t .bad
 |[],_,_=>rfl|a::az,k,t=>by
  simp only[List.zipIdx_cons,b_,L5];cases t with
  |zero=>simp|succ t=>rw[iN oM];have:=uG az (k+1) t;rw[show k+1+t=k+(t+1) from by omega]at this;rw[this];rfl
def akU(az:List AV)(t:Nat):L5 (bZ az) t=az.getD t .bad:=by have:=uG az 0 t;rwa[cy]at this
structure Nu(T:vp)(rs:List ResultVar)(σ:Nm)(D:List Nat)(hp':Hp)(r:AV)(s:St):Prop where
 res:(e_ T s rs).1
 nm:Xk σ
 gen:∀q∈σ,(q.2.1=0/\q.2.2.1=q.1/\q.2.2.2=0)\/q.2.1=1
 Yq:Dg true σ s.hp σ
 rh:∀d∈N_ true σ s.hp σ,d∈D
 vP:TK true σ s.hp (e_ T s rs).2
 vR:∀d∈GB true σ s.hp (e_ T s rs).2,d∈D
 SH:∀d∈D,lk σ d=none
 val:qO true σ s.hp (e_ T s rs).2=r
 hp:yO true σ s.hp=hp'
def aly(T:vp)(rs:List ResultVar)(hp':Hp)(r:AV):Exit->St->Prop
 | .ret,s| .normal,s=>∃σ D,Nu T rs σ D hp' r s|_,_=>False
def Ends(P:Program)(w:World)(e:bQ)(hp':Hp)(r:AV)(v:Value)(w':World):Prop:=
 ∃e',cH w' e' (rM 2) hp'/\VR w' (UE e') e' (rM 2) r v/\Z7 w e (rM 1) w' e' (rM 2)/\e'.z=e.z/\(∀b,TT e' b->w.heap.size<=b\/TT e b)/\iK e w w'
def aP(D:Nat):Deferred:={target:=.collected D,args:=#[]}
def uB(P:Program)(fn:Func)(w:World)(e:bQ)(hp':Hp)(r:AV)(a':Act)(w':World):Prop:=
 ∃D,a'.defers=[aP D]/\w'.heap[D]?=some (.deferred (some []))/\∃v,(results fn a'.tmps).run P (w'.putObj D (.deferred none))=.ok v (w'.putObj D (.deferred none))/\Ends P w e hp' r v (w'.putObj D (.deferred none))
abbrev Vo(P:Program)(fn:Func)(w:World)(e:bQ)(X:Act->World->Prop):Cx:=⟨P,fn.ntmps,w,e,none,[],X⟩
def Bx{P:Program}{C:Cx}(hP:C.P=P){fn:Func}{T:vp}(hT:JE P T){w:World}{e:bQ}(hw:C.w0=w)(he:C.e0=e){hp':Hp}{r:AV}{s:St}{a':Act}{w':World}(hr:Tn C s a' w')(hq:∃σ D,Nu T fn.results.toList σ D hp' r s):∃v,(results fn a'.tmps).run P w'=.ok v w'/\Ends P w e hp' r v w':=by
 subst hP hw he;obtain⟨σ,D,m6⟩:=hq;obtain⟨e1,IA,fo,hv⟩:=hr.body;obtain⟨xv,Ik,T7⟩:=ago (C:=C) (s:=s) hT IA hv m6.res;have rk:mX true e1 s.hp (rM 2) σ D e1.z:=⟨m6.nm,m6.Yq,m6.rh,m6.SH,fun q hq=>by
  rcases m6.gen q hq with ⟨h,_⟩|h
  ·rw[h];exact(by decide:(0:Nat)<2)
  rw[h];exact(by decide:(1:Nat)<2),fun _ h=>h,fun _ h=>.inl h⟩
 have w6:=rk.rel IA;have oU:=rk.Np IA T7 m6.vP m6.vR;have fz:=rk.GL IA;have G6:∀b,TT (eN σ e1 e1.z) b->TT e1 b:=fun b ho=>by obtain⟨q,_,h⟩:=dP ho;exact h.own
 rw[m6.hp]at w6;rw[m6.val]at oU;refine⟨xv,Ik,eN σ e1 e1.z,w6,oU,?_,fo.tI,fun b ho=>fo.jR b (G6 b ho),⟨hr.xt.os,hr.xt.tape,hr.xt.output,hr.xt.size,hr.xt.same,hr.xt.drawn⟩⟩;refine⟨fo.ext.size,fun g (hg:g<1)=>(by show g<2;omega),fun b hb hu=>fz.un b (fo.ext.un b hb hu),fo.ext.same,fun id SV X6 hg=>?_⟩;obtain⟨gi,a,ga,ee,hm,h6,rfl⟩:=tN X6;rcases m6.gen _ hm with ⟨h7,h8,h9⟩|h7
 .simp only at h7 h8 h9;subst h7 h8 h9;obtain⟨ob,bF,_⟩:=A5 m6.Yq hm;obtain⟨ee2,ED,zo,_⟩:=IA.live _ _ _ bF;rw[h6]at ED;cases ED;obtain⟨ee0,k1,k2,k3,k4⟩:=fo.ext.Ia a ee h6 jn;exact⟨ee0,k1,k2.trans zo,k3,k4⟩
 simp only at h7;subst h7;exact absurd hg (by simp[rM])
def AO{P:Program}{f:FuncId}{fn:Func}{c:Code}{hp hp':Hp}{az:List AV}{r:AV}(hT:JE P T)(hf:P.funcs[f]?=some fn)(hb:fn.body=some c)(abg:(fn.name== "runtime.NumGoroutine")=false)(hN:az.length<=fn.ntmps)(h:∀(w:World) (e:bQ) (X:Act->World->Prop),(∀a' w',uB P fn w e hp' r a' w'->X a' w')->PT ⟨P,fn.ntmps,w,e,none,[],X⟩ T->Ex ⟨P,fn.ntmps,w,e,none,[],X⟩ c (aly T fn.results.toList hp' r) ⟨bZ az,hp,1⟩):UB P T f hp az hp' r:=by
 refine⟨⟨fn,hf,abg,by rw[hb];rfl⟩,fun w e pk h1 h2 h3 h4 h5=>?_⟩;have hC:PT (Vo P fn w e (uB P fn w e hp' r)) T:=⟨hT,h3⟩;have JD:Tn (Vo P fn w e (uB P fn w e hp' r)) ⟨bZ az,hp,1⟩ {tmps:=pk++Array.replicate (fn.ntmps-pk.size) undef,defers:=[]} w:=by
  refine⟨rfl,xF,⟨rfl,rfl,rfl,lR _,fun _ _ _=>rfl,lR _⟩,e,h1,⟨rfl,h2,Z7.refl _ _ _,fun _ h=>.inr h⟩,fun t=>?_⟩;simp only[akU];by_cases ht:t<az.length
  .have e1:az.getD t .bad=az[t]:=by rw[gE,gG ht];rfl
   have e2:(pk++Array.replicate (fn.ntmps-pk.size) undef).getD t undef=pk.getD t undef:=by rw[gA,Jl oM,gA]
   rw[e1,e2];exact h5 t ht
  have e1:az.getD t .bad=.bad:=by rw[gE,Zo oM];rfl
  rw[e1];exact .rC _ _ (.bad _)
 refine(callsIn_wide (n:=0)).1 (callsIn_of_wp_marks (F:=Fence.wide) hf hb trivial (K_ (h w e _ (fun _ _ h=>h) hC _ w JD) ?_));have fin:∀a' w',((∃s',Tn (Vo P fn w e (uB P fn w e hp' r)) s' a' w'/\∃σ D,Nu T fn.results.toList σ D hp' r s')\/uB P fn w e hp' r a' w')->LeavesInM Fence.wide 0 P fn a'.tmps (fun en w'=>∃v e',en=.returned v/\cH w' e' (rM 2) hp'/\VR w' (UE e') e' (rM 2) r v/\Z7 w e (rM 1) w' e' (rM 2)/\e'.z=e.z/\
   (∀b,TT e' b->w.heap.size<=b\/TT e b)/\iK e w w') a'.defers .returning w':=by
  rintro a' w' (⟨s,hr,hq⟩|⟨D,hd,hD,v,Ik,e',k1,k2,k3,k4,k5,k6⟩)
  .have hd:a'.defers=[]:=hr.defers;obtain⟨v,Ik,e',k1,k2,k3,k4,k5,k6⟩:=Bx (C:=Vo P fn w e (uB P fn w e hp' r)) rfl hT rfl rfl hr hq;rw[hd];exact⟨v,Ik,v,e',rfl,k1,k2,k3,k4,k5,k6⟩
  rw[hd];exact⟨sM,.inl ⟨D,_,rfl,run_takeDeferred hD,v,Ik,v,e',rfl,k1,k2,k3,k4,k5,k6⟩⟩
 rintro ex a' w' (⟨s,hr,hq⟩|⟨rfl,h⟩)
 .cases ex with
  |ret=>exact fin a' w' (.inl ⟨s,hr,hq⟩)|normal=>exact fin a' w' (.inl ⟨s,hr,hq⟩)|_=>exact hq.elim
 exact fin a' w' (.inr h)
end
open Go Go.Great
def S4:Ty->TypeDesc->Bool
 | .int k,.int k'=>decide (k=k')| .bool,.bool=>true| .str,.string=>true| .slice e,.slice e'=>e==e'| .array n e,.array n' e'=>n==n'&&e==e'| .struct fs,.struct a=>a.toList.map (fun f=>(f.offset,f.type))==fs| .ptr e,.pointer e'=>e==e'| .map k e,.map k' e'=>k==k'&&e==e'| .other,_=>true| .iface,.interface _=>true| .ra _,_=>true|_,_=>false
def zB:ZC->Value->Bool
 | .int k,.int k' n=>decide (k=k')&&decide (n=0)| .bool,.bool b=>!b| .str,.string s=>s.data.toList.isEmpty| .sl,.slice none 0 0=>true| .ptr,.pointer none=>true| .map,.map none=>true| .fn,.nilFunc=>true| .iface,.nilIface=>true|_,_=>false
def vQ:List ZC->List Value->Bool
 |[],[]=>true|z::zs,v::vs=>zB z v&&vQ zs vs|_,_=>false
def bK:ZC->TypeDesc->Bool
 | .int _,.int _=>true| .bool,.bool=>true| .str,.string=>true|_,_=>false
def VK(P:Program):Nat->Nat->List Field->List ZC->Bool
 |_,_,[],[]=>true|0,_,_,_=>false| m + 1, o, f :: fs, zs => f.name != "_" && f.offset == o && match P.underlying f.type with
  |some (.struct _)=>match P.info? f.type with
   |some i=>!P.stoodInHeld f.type&&i.size<=zs.length&&VK P m 0 (P.fieldsOf f.type).toList (zs.take i.size)&&VK P m (o+i.size) fs (zs.drop i.size)|none=>false
  |some d=>match zs with
   |z::zs=>bK z d&&VK P m (o+1) fs zs|[]=>false
  |none=>false
 |_,_,_,_=>false
def kH(P:Program)(t:Nat)(zs:List ZC):Bool:=
 (match P.underlying t with|some (.struct _)=>true|_=>false)&&!P.stoodInHeld t&&!P.eqGuardType P.depth t&&VK P 40 0 (P.fieldsOf t).toList zs
theorem am5{P:Program}{n o:Nat}{fs:List Field}{zs:List ZC}(h:Fb P n o fs zs):Fb P (n+1) o fs zs:=by
 induction h with
 |nil n o=>exact .nil _ _|one n o f fs z zs d f1 f2 f3 f4 _ ih=>exact .one _ _ _ _ _ _ d f1 f2 f3 f4 ih|sub n o f fs z1 z2 i f1 f2 f3 f4 f5 f6 _ _ ih1 ih2=>exact .sub _ _ _ _ _ _ i f1 f2 f3 f4 f5 f6 ih1 ih2
theorem P1{P:Program}{n n' o:Nat}{fs:List Field}{zs:List ZC}(h:Fb P n o fs zs)(hn:n<=n'):Fb P n' o fs zs:=by
 induction n' with
 |zero=>obtain rfl:n=0:=oM;exact h
 |succ m ih=>
  by_cases hm:n=m+1
  .subst hm;exact h
  exact am5 (ih oM)
def abt{P:Program}{t:Nat}{a:Array Field}(h:P.underlying t=some (.struct a)):P.fieldsOf t=a:=by unfold Program.fieldsOf;rw[h]
theorem mM{P:Program}:∀{m o:Nat}{fs:List Field}{zs:List ZC},VK P m o fs zs=true->∃n,n<=m/\Fb P n o fs zs
 |_,_,[],[],_=>⟨0,zL _,.nil _ _⟩|m+1,o,f::fs,zs,h=>by
  simp only[VK,TF,bne_iff_ne,ne_eq,Lr]at h;obtain⟨⟨h1,h2⟩,h3⟩:=h;split at h3
  .rename_i a hu;split at h3
   .rename_i i hi;simp only[TF,Oc,Vd]at h3;obtain⟨⟨⟨q1,q2⟩,q3⟩,q4⟩:=h3;obtain⟨n1,l1,k1⟩:=mM q3;obtain⟨n2,l2,k2⟩:=mM q4;have hf:=abt hu;have e1:=Fb.sub (max n1 n2) o f fs (zs.take i.size) (zs.drop i.size) i h1 h2 (by rw[hf];exact hu) q1 hi xF (P1 k1 oM) (by
     rw[Hh,Q5 q2];exact P1 k2 oM)
    rw[pH]at e1;exact⟨_,oM,e1⟩
   cases h3
  .rename_i d bE hu;split at h3
   .rename_i z zs';simp only[TF]at h3;obtain⟨q1,q2⟩:=h3;obtain⟨n2,l2,k2⟩:=mM q2;refine⟨n2,oM,.one _ _ _ _ _ _ d h1 h2 hu ?_ k2⟩;unfold bK at q1;split at q1<;>first|exact⟨_,rfl⟩|rfl|cases q1
   cases h3
  cases h3
 |0,_,_::_,_,h=>by simp[VK]at h|0,_,[],_::_,h=>by simp[VK]at h|_+1,_,[],_::_,h=>by simp[VK]at h
theorem acs{P:Program}{t:Nat}{zs:List ZC}(h:kH P t zs=true):vv P t zs:=by
 simp only[kH,TF,Oc]at h;obtain⟨⟨⟨h1,h2⟩,h3⟩,h4⟩:=h;obtain⟨n,l1,k1⟩:=mM h4;refine⟨?_,h2,h3,P1 k1 oM⟩;unfold Program.fieldsOf;cases hu:P.underlying t with
 |none=>simp[hu]at h1|some d=>cases d<;>simp_all
def JI(P:Program)(t:Nat)(ti:TI):Bool:=
 match P.info? t,P.underlying t with
 |some i,some d=>
  i.size==ti.size&&i.bytes==ti.bytes&&S4 ti.ty d&&(ti.agg==(match d with| .struct _| .array _ _=>true|_=>false))&&ti.zs.length==ti.size&&(ti.agg||ti.size==1)&&(!ti.eq||kH P t ti.zs)&&
  (match d with| .struct a=>a.all fun f=>(P.info? f.type).isSome|_=>true)&&
  (match i.zero with
   |some (.agg cs)=>ti.agg&&vQ ti.zs cs.toList|some v=>!ti.agg&&vQ ti.zs [v]
   |none=>false)
 |_,_=>false
def at9{ty:Ty}{d:TypeDesc}(h:S4 ty d=true):ty.fits d:=by cases ty<;>cases d<;>simp[S4,Ty.fits]at h ⊢<;>first|exact h|(simp_all;done)|skip
theorem aep{z:ZC}{v:Value}(h:zB z v=true):v=z.val:=by
 unfold zB at h;split at h<;>simp_all [ZC.val]
 rename_i s;cases s with
 |mk d=>cases d with|mk l=>simp at h;subst h;rfl
theorem nr:∀{zs:List ZC}{vs:List Value},vQ zs vs=true->vs=zs.map ZC.val
 |[],[],_=>rfl|z::zs,v::vs,h=>by simp only[vQ,TF]at h;rw[aep h.1,nr h.2];rfl|[],_::_,h=>C3|_::_,[],h=>C3
def abx{P:Program}{t:Nat}{ti:TI}(h:JI P t ti=true):uz P t ti:=by
 unfold JI at h;split at h
 .rename_i i d hi hd;simp only[TF,Lr,eo]at h;obtain⟨⟨⟨⟨⟨⟨⟨⟨h1,h2⟩,h3⟩,h4⟩,h5⟩,h6⟩,h9⟩,h7⟩,h8⟩:=h;refine⟨⟨i,hi,h1,h2,?_⟩,⟨d,hd,at9 h3,?_⟩,h5,?_,?_,?_⟩
  .split at h8
   .rename_i cs hz;simp only[TF]at h8;rw[hz];unfold TI.H3;rw[iP h8.1,<-nr h8.2]
   .rename_i v SO hz;simp only[TF,Oc]at h8;rw[hz];unfold TI.H3;rw[iN (by simp[h8.1])];have:=nr h8.2
    match Kf:ti.zs with
    |[z]=>rw[Kf]at this;simp at this;rw[this]|[]=>rw[Kf]at this;simp at this|_::_::_=>rw[Kf]at this;simp at this
   cases h8
  .exact h4.trans (by cases d<;>rfl)
  .intro a ha f hf;rw[hd]at ha;cases ha
   rw[Array.all_eq_true_iff_forall_mem]at h7;exact h7 f hf
  .intro m9;rcases h6 with h6|h6
   .rw[m9]at h6;cases h6
   exact h6
  intro he;rcases h9 with h9|h9
  .rw[he]at h9;cases h9
  exact acs h9
 cases h
def ade{P:Program}{T:vp}(h:(T.ty.all fun p=>JI P p.1 p.2)=true):JE P T:=by
 intro t;have key:∀T:List (Nat×TI),(T.all fun p=>JI P p.1 p.2)=true->Wu T t=.none\/uz P t (Wu T t):=by
  intro T;induction T with
  |nil=>exact fun _=>.inl rfl|cons p T ih=>
   intro h;simp only[List.all_cons,TF]at h;obtain⟨i,x⟩:=p;simp only[Wu];by_cases hi:i=t
   .subst hi;rw[iP rfl];exact .inr (abx h.1)
   rw[iN hi];exact ih h.2
 exact key T.ty h
open Go Go.Great
def W2:AV->List Nat
 | .l id _ _ _=>[id]| .p id _ _ _ _=>[id]| .Ic id _=>[id]|_=>[]
def Vf:AV->List Nat
 | .fn _ cs=>cs.flatMap W2| .Ep _ cs=>cs.flatMap W2|v=>W2 v
def Cq:AV->List Nat
 | .agg cs=>cs.flatMap Vf|v=>Vf v
def H9:AV->List Nat
 | .F1 cs=>cs.flatMap Cq|v=>Cq v
def aeC{c:AV}{i:Nat}(h:i∈JR c):i∈Vf c:=by
 cases c<;>simp[JR]at h
 subst h;simp[Vf,W2]
theorem anh{v:AV}{i:Nat}(h:i∈v.cells.flatMap JR):i∈H9 v:=by
 cases v with
 |agg cs=>simp only[AV.cells,CJ]at h;obtain⟨c,hc,h⟩:=h;simp only[H9,Cq,CJ];exact⟨c,hc,aeC h⟩
 |l id g off len=>simpa[AV.cells,JR,H9,Cq,Vf,W2] using h|_=>simp[AV.cells,JR]at h
def Vz(hp:Hp)(v:AV):List Nat:=match Ym hp v with|some ys=>uo ys|none=>[]
def Py:Op->List Operand
 | .move _=>[]| .extract _ _=>[]|op=>op.operands.toList
def agv{op:Op}{x:Operand}(h:x∈Py op):x∈op.operands:=by cases op<;>first|exact K5.1 h|cases h
def nI(o:Oper)(ev:Operand->AV)(hp:Hp):List Nat:=
 ((Py o.op).flatMap fun x=>H9 (ev x))++
  match o.op with
  | .call {callee:=.builtin .append,args,argTypes:=_}=>match args.toList with
   |[_,x]=>Vz hp (ev x)|_=>[]
  |_=>[]
theorem Bz{hp hp':Hp}{v:AV}(h:∀i∈v.cells.flatMap JR,hp'.get i=hp.get i):cK (vZ hp') v=cK (vZ hp) v/\((∀c∈v.cells,Kr hp' c)↔∀c∈v.cells,Kr hp c):=by
 have h1:∀c∈v.cells,vZ hp' c=vZ hp c/\(Kr hp' c↔Kr hp c):=fun c hc=>kD fun i hi=>h i (CJ.2 ⟨c,hc,hi⟩);refine⟨?_,⟨fun h2 c hc=>(h1 c hc).2.1 (h2 c hc),fun h2 c hc=>(h1 c hc).2.2 (h2 c hc)⟩⟩;cases v with
 |agg cs=>have h2:∀c∈cs,vZ hp' c=vZ hp c:=fun c hc=>(h1 c hc).1;simp only[cK];rw[zT h2]|_=>exact(h1 _ mS).1
theorem G5{hp hp':Hp}{v:AV}(h:∀i∈H9 v,hp'.get i=hp.get i):Ym hp' v=Ym hp v/\HN hp' v=HN hp v:=by
 cases v with
 |l id g off len=>simp only[Ym,HN,h id Aj,be]|_=>exact⟨rfl,rfl⟩
section
variable{T:vp}{t:Nat}{hp hp':Hp}{v:AV}(h2:∀i∈H9 v,hp'.get i=hp.get i)
include h2
theorem aoR{u:AV}:Pp T t hp' v u=Pp T t hp v u:=by
 unfold Pp;generalize (tl T t).ty=ty;cases v with
 |Ic id g=>have h6:=h2 id Aj;cases ty<;>first|rfl|(cases u<;>first|rfl|(rename_i u;cases u<;>first|rfl|(rename_i kk _;cases kk<;>first|rfl|simp only[h6])))
 |_=>cases ty<;>rfl
theorem adg{u:AV}:Cv T t hp' v u=Cv T t hp v u:=by
 unfold Cv;generalize (tl T t).ty=ty;cases v with
 |Ic id g=>have h6:=h2 id Aj;cases ty<;>first|rfl|(cases u<;>first|rfl|(rename_i u;cases u<;>first|rfl|simp only[h6]))
 |_=>cases ty<;>rfl
theorem apA{u y:AV}:aW T t hp' v u y=aW T t hp v u y:=by
 unfold aW;generalize (tl T t).ty=ty;cases v with
 |Ic id g=>have h6:=h2 id Aj;cases ty<;>first|rfl|(cases u<;>first|rfl|(rename_i u;cases u<;>first|rfl|(rename_i kk _;cases kk<;>first|rfl|(cases y<;>first|rfl|(rename_i y;cases y<;>first|rfl|(rename_i kk _;cases kk<;>first|rfl|simp only[h6]))))))
 |_=>cases ty<;>rfl
theorem aaj{u y:AV}:XE T t hp' v u y=XE T t hp v u y:=by
 unfold XE;generalize (tl T t).ty=ty;cases v with
 |Ic id g=>have h6:=h2 id Aj;cases ty<;>first|rfl|(cases u<;>first|rfl|(rename_i u;cases u<;>first|rfl|simp only[h6]))
 |_=>cases ty<;>rfl
end
theorem adt{T:vp}(o:Oper){ev ev':Operand->AV}{hp hp':Hp}(g:Nat)(he:∀x∈o.op.operands,ev' x=ev x)(fK:∀i∈nI o ev hp,hp'.get i=hp.get i):r9 T o ev' hp' g=r9 T o ev hp g:=by
 obtain⟨dst,op,type,pos,after,guard⟩:=o;by_cases hm:∃x,op=.move x
 .obtain⟨x,rfl⟩:=hm;simp only[r9,he x aM]
 by_cases qf:∃x i,op=.extract x i
 .obtain⟨x,i,rfl⟩:=qf;simp only[r9,he x aM]
 have aqv:Py op=op.operands.toList:=by cases op<;>first|rfl|exact absurd ⟨_,rfl⟩ hm|exact absurd ⟨_,_,rfl⟩ qf
 have hh:∀x∈op.operands,∀i∈H9 (ev x),hp'.get i=hp.get i:=fun x hx i hi=>fK i (XI _ (CJ.2 ⟨x,by show x∈Py op;rw[aqv];simpa using hx,hi⟩));cases op with
 |move x=>simp only[r9,he x aM]|assign x=>have:=he x aM;simp only[r9,this]|pick c a b=>simp only[r9,he c aM,he a aM,he b aM]|binOp op t x y yt=>simp only[r9,he x aM,he y aM]|unOp op t x=>have:=he x aM;cases op<;>simp only[r9,this]
 |nilCheck x=>
  have h1:=he x aM;have h2:=hh x aM;simp only[r9,h1];generalize ev x=v at h2;cases v with
  |p id g n i off=>simp only[Hp.has,h2 id Aj]|_=>rfl
 |extract x i=>simp only[r9,he x aM]|load t x=>
  have h1:=he x aM;have h2:=hh x aM;simp only[r9,h1];generalize ev x=v at h2;cases v with
  |p id g n i off=>simp only[Hm,YU,h2 id Aj]|gl n=>simp only[Hm];cases Sb T.gl n<;>rfl
  |_=>rfl
 |store t x y=>
  have h1:=he x aM;have h2:=hh x aM;have h3:=he y aM;have h4:=hh y aM;simp only[r9,h1,h3];generalize ev x=v at h2;generalize ev y=u at h4;cases v with
  |p id g n i off=>have hs:=Bz (hp:=hp) (hp':=hp') (v:=u) fun i hi=>h4 i (anh hi);simp only[dc,h2 id Aj,hs.1,hs.2]|_=>rfl
 |indexAddr t x i=>
  have h1:=he x aM;have h2:=hh x aM;have h3:=he i aM;simp only[r9,h1,h3];generalize ev x=v at h2;generalize ev i=u;cases v with
  |p id g n i off=>cases u<;>first|rfl|(rename_i u;cases u<;>first|rfl|simp only[Hm,pb,Hp.has,h2 id Aj])
  |l id g off len=>cases u<;>first|rfl|(rename_i u;cases u<;>first|rfl|simp only[Hm,pb,h2 id Aj])
  |gl n=>simp only[Hm];cases Sb T.gl n<;>(cases u<;>first|rfl|(rename_i u;cases u<;>rfl))
  |_=>cases u<;>first|rfl|(rename_i u;cases u<;>rfl)
 |fieldAddr t x f=>
  have h1:=he x aM;have h2:=hh x aM;simp only[r9,h1];generalize ev x=v at h2;cases v with
  |p id g n i off=>simp only[Hm,ta,Hp.has,h2 id Aj]|gl n=>simp only[Hm];cases Sb T.gl n<;>rfl
  |_=>rfl
 |field t x f=>simp only[r9,he x aM]|index t x i=>simp only[r9,he x aM,he i aM]|slice t x lo hi mx=>
  have h1:=he x aM;have h2:=hh x aM;have e1:lo.map ev'=lo.map ev:=by cases lo<;>simp_all [Op.operands]
  have e2:hi.map ev'=hi.map ev:=by cases hi<;>simp_all [Op.operands]
  have e3:mx.map ev'=mx.map ev:=by cases mx<;>simp_all [Op.operands]
  simp only[r9,h1,e1,e2,e3];generalize ev x=v at h2;cases v with
  |l id g off len=>simp only[P3,D9,V7,h2 id Aj]|p id g n i off=>
   have hf:fz 0 hp'=fz 0 hp:=funext fun c=>by cases c<;>rfl
   have hP:Xa 0 hp'=Xa 0 hp:=funext fun c=>by cases c<;>rfl
   simp only[P3,D9,V7,h2 id Aj,hf,hP]
  |_=>rfl
 |makeSlice t l c=>simp only[r9,he l aM,he c aM]|buildSlice t n ps=>have hm:ps.toList.map (fun p=>ev' p.2)=ps.toList.map fun p=>ev p.2:=zT fun p hp=>he p.2 (by simp[Op.operands];exact⟨p.1,by simpa using hp⟩);simp only[r9,hm]|build t ps=>
  have X6:∀p∈ps.toList,ev' p.2=ev p.2:=fun p hp=>he p.2 (by simp[Op.operands];exact⟨p.1,by simpa using hp⟩);simp only[r9];split
  .rename_i fs tW;have e1:(∀p∈ps.toList,p.1<fs.length/\(tl T (fs.getD p.1 (0,0)).2).size≠0/\(ev' p.2).cells.length=(tl T (fs.getD p.1 (0,0)).2).size/\(fs.getD p.1 (0,0)).1+(tl T (fs.getD p.1 (0,0)).2).size<=(tl T t).size/\(∀c∈(ev' p.2).cells,c.one=true))=
     (∀p∈ps.toList,p.1<fs.length/\(tl T (fs.getD p.1 (0,0)).2).size≠0/\(ev p.2).cells.length=(tl T (fs.getD p.1 (0,0)).2).size/\(fs.getD p.1 (0,0)).1+(tl T (fs.getD p.1 (0,0)).2).size<=(tl T t).size/\(∀c∈(ev p.2).cells,c.one=true)):=
    propext ⟨fun h p hp=>by have:=h p hp;rw[X6 p hp]at this;exact this,fun h p hp=>by rw[X6 p hp];exact h p hp⟩
   have e2:∀(l:List (Nat×Operand))(z:List AV),(∀p∈l,ev' p.2=ev p.2)->l.foldl (fun cs p=>Wj cs (fs.getD p.1 (0,0)).1 (ev' p.2).cells) z=l.foldl (fun cs p=>Wj cs (fs.getD p.1 (0,0)).1 (ev p.2).cells) z:=by
    intro l;induction l with
    |nil=>intro z _;rfl|cons p l ih=>intro z h;simp only[Xi,h p mS];exact ih _ fun q hq=>h q (mC _ hq)
   rw[e1,e2 _ _ X6]
  .rename_i n el tW;have e1:(∀p∈ps.toList,p.1<n/\(tl T el).size≠0/\(ev' p.2).cells.length=(tl T el).size/\p.1*(tl T el).size+(tl T el).size<=(tl T t).size/\(∀c∈(ev' p.2).cells,c.one=true))=
     (∀p∈ps.toList,p.1<n/\(tl T el).size≠0/\(ev p.2).cells.length=(tl T el).size/\p.1*(tl T el).size+(tl T el).size<=(tl T t).size/\(∀c∈(ev p.2).cells,c.one=true)):=
    propext ⟨fun h p hp=>by have:=h p hp;rw[X6 p hp]at this;exact this,fun h p hp=>by rw[X6 p hp];exact h p hp⟩
   have e2:∀(l:List (Nat×Operand))(z:List AV),(∀p∈l,ev' p.2=ev p.2)->l.foldl (fun cs p=>Wj cs (p.1*(tl T el).size) (ev' p.2).cells) z=l.foldl (fun cs p=>Wj cs (p.1*(tl T el).size) (ev p.2).cells) z:=by
    intro l;induction l with
    |nil=>intro z _;rfl|cons p l ih=>intro z h;simp only[Xi,h p mS];exact ih _ fun q hq=>h q (mC _ hq)
   rw[e1,e2 _ _ X6]
  rfl
 |alloc t=>rfl|box t x=>simp only[r9,he x aM]|convert a b x=>
  have h1:=he x aM;have h2:=G5 (hp:=hp) (hp':=hp') (hh x aM);simp only[r9,h1];generalize ev x=v at h2;split
  .rfl
  .rfl
  .simp only[h2.1,h2.2]
  rfl
 |makeFunc fn first caps=>
  have:caps.toList.map ev'=caps.toList.map ev:=zT fun x hx=>he x (by simp[Op.operands];exact .inr Wa);have h2:∀x∈first.toList,ev' x=ev x:=fun x hx=>he x (by simp[Op.operands];exact .inl Wa);simp only[r9,this];generalize first.toList=l at h2;cases fn with
  |func f=>cases l with
   |nil=>rfl|cons x xs=>simp only[zT h2]
  |_=>rfl
 |call c=>
  obtain⟨callee,args,argTypes⟩:=c;cases callee with
  |builtin b=>
   simp only[r9];split
   .rename_i x t ha ht;have hx:x∈args:=Oi;have h1:=he x iy;have h2:=hh x iy;rw[h1];generalize ev x=v at h2;cases v with
    |l id g off len=>simp only[Ey,h2 id Aj]|_=>rfl
   .rename_i d x t t' ha ht;have hd:d∈args:=Oi;have hx:x∈args:=Oi;have h1:=he x iy;have h2:=G5 (hp:=hp) (hp':=hp') (hh x iy);have h3:=he d Mu;have h4:=hh d Mu;have h5:∀i∈Vz hp (ev x),hp'.get i=hp.get i:=fun i hi=>fK i (mO _ (by simp only[ha];exact hi));rw[h1,h3];have:nL T t (100+dst.getD 0) g hp' (ev d) (ev x)=nL T t (100+dst.getD 0) g hp (ev d) (ev x):=by
     unfold nL;rw[h2.1,h2.2];unfold Vz at h5;cases JY:Ym hp (ev x)with
     |none=>rfl|some ys=>
      rw[JY]at h5;have zK:∀y∈ys,cK (vZ hp') y=cK (vZ hp) y/\((∀c∈y.cells,Kr hp' c)↔∀c∈y.cells,Kr hp c):=fun y hy=>Bz fun i hi=>h5 i (CJ.2 ⟨y,hy,hi⟩);have e1:ys.map (cK (vZ hp'))=ys.map (cK (vZ hp)):=zT fun y hy=>(zK y hy).1;have e2:(∀y∈ys,∀c∈y.cells,Kr hp' c)=(∀y∈ys,∀c∈y.cells,Kr hp c):=propext ⟨fun h y hy=>(zK y hy).2.1 (h y hy),fun h y hy=>(zK y hy).2.2 (h y hy)⟩;simp only[e1,e2];generalize ev d=u at h4;cases u with
      |l id g off len=>simp only[h4 id Aj]|sl es full=>cases full<;>rfl
      |_=>rfl
    rw[this]
   .rename_i d x t t' ha ht;have hd:d∈args:=Oi;have hx:x∈args:=Oi;have h1:=he x iy;have h2:=G5 (hp:=hp) (hp':=hp') (hh x iy);have h3:=he d Mu;have h4:=hh d Mu;rw[h1,h3];unfold JK;rw[h2.1,h2.2];have hf:∀c,Xa 0 hp' c=Xa 0 hp c:=Pn;simp only[hf];generalize ev d=u at h4;generalize Ym hp (ev x)=ox;generalize (tl T t).ty=ty;cases u with
    |l id g off len=>have h6:=h4 id Aj;cases ty<;>first|rfl|(cases ox<;>first|rfl|simp only[h6])
    |_=>cases ty<;>rfl
   .rename_i d t ha ht;have hd:d∈args:=Oi;have h3:=he d Mu;have h4:=hh d Mu;rw[h3];unfold B4;generalize ev d=u at h4;generalize (tl T t).ty=ty;cases u with
    |l id g off len=>have h6:=h4 id Aj;cases ty<;>first|rfl|simp only[h6]
    |_=>cases ty<;>rfl
   .rename_i x y t t' ha ht;have hx:x∈args:=Oi;have hy:y∈args:=Oi;rw[he x iy,he y (by simpa[Op.operands,Call.operands] using hy)]
   .rename_i x y t t' ha ht;have hx:x∈args:=Oi;have hy:y∈args:=Oi;rw[he x iy,he y (by simpa[Op.operands,Call.operands] using hy)]
   rfl
  |_=>rfl
 |makeMap t r=>cases r<;>rfl
 |lookup t m k ok=>
  have h1:=he m aM;have h2:=hh m aM;have h3:=he k aM;cases ok with
  |true=>simp only[r9,h1,h3];exact adg h2|false=>simp only[r9,h1,h3];exact aoR h2
 |mapUpdate t m k x=>have h1:=he m aM;have h2:=hh m aM;have h3:=he k aM;have h4:=he x aM;simp only[r9,h1,h3,h4];rw[apA h2,aaj h2]|insert t m k x=>have h1:=he m aM;have h2:=hh m aM;have h3:=he k aM;have h4:=he x aM;simp only[r9,h1,h3,h4];exact aaj h2|_=>rfl
theorem yL{hp hp':Hp}:∀(n:Nat){v:AV},(∀i∈qg n hp v,hp'.get i=hp.get i)->fz n hp' v=fz n hp v/\(Xa n hp' v↔Xa n hp v)/\qg n hp' v=qg n hp v
 |0,v,_=>by cases v<;>exact⟨rfl,HO,rfl⟩
 |n+1,v,h=>by
  cases v with
  |l id g off len=>
   have h1:=h id (by simp[qg]);simp only[fz,Xa,qg,h1];cases hg:hp.get id with
   |none=>exact⟨rfl,HO,rfl⟩|some q=>
    obtain⟨g',ob⟩:=q;cases ob with
    |box cs=>exact⟨rfl,HO,rfl⟩|mp _=>exact⟨rfl,HO,rfl⟩|ms _=>exact⟨rfl,HO,rfl⟩|bd _ _ _=>exact⟨rfl,HO,rfl⟩|own t k es=>
     simp only[qg,hg]at h;have h2:∀e∈es,∀c∈e.cells,fz n hp' c=fz n hp c/\(Xa n hp' c↔Xa n hp c)/\qg n hp' c=qg n hp c:=fun e he c hc=>yL n fun i hi=>h i (mC _ (CJ.2 ⟨e,he,CJ.2 ⟨c,hc,hi⟩⟩));refine⟨?_,⟨fun⟨a,b,c⟩=>⟨a,b,fun e he y hy=>(h2 e he y hy).2.1.1 (c e he y hy)⟩,fun⟨a,b,c⟩=>⟨a,b,fun e he y hy=>(h2 e he y hy).2.1.2 (c e he y hy)⟩⟩,?_⟩
     .simp only;congr 1
      refine zT fun e he=>?_;have X6:=DS he;cases e with
      |agg cs=>have h3:∀c∈cs,fz n hp' c=fz n hp c:=fun c hc=>(h2 _ X6 c hc).1;simp only[cK];rw[zT h3]|_=>exact(h2 _ X6 _ mS).1
     simp only;congr 1
     have:∀(l:List AV),(∀e∈l,e∈es)->l.flatMap (fun e=>e.cells.flatMap (qg n hp'))=l.flatMap fun e=>e.cells.flatMap (qg n hp):=by
      intro l;induction l with
      |nil=>intro _;rfl|cons e l ih=>
       intro hl;simp only[kA];rw[ih fun x hx=>hl x (mC _ hx)];congr 1
       have h3:=h2 e (hl e mS);generalize e.cells=cs at h3;clear hl ih;induction cs with
       |nil=>rfl|cons c cs ih=>simp only[kA,(h3 c mS).2.2,ih fun x hx=>h3 x (mC _ hx)]
     exact this es fun _ h=>h
  |p id g m i off=>
   have h1:=h id (by simp[qg]);simp only[fz,Xa,qg,h1];have fm:∀{cs:List AV},(∀c∈cs,fz n hp' c=fz n hp c/\(Xa n hp' c↔Xa n hp c)/\qg n hp' c=qg n hp c)->cs.flatMap (qg n hp')=cs.flatMap (qg n hp):=by
    intro cs h3;induction cs with
    |nil=>rfl|cons c cs ih=>simp only[kA,(h3 c mS).2.2,ih fun x hx=>h3 x (mC _ hx)]
   cases hg:hp.get id with
   |none=>exact⟨rfl,HO,rfl⟩|some q=>
    obtain⟨g',ob⟩:=q;cases ob with
    |mp _=>exact⟨rfl,HO,rfl⟩|ms _=>exact⟨rfl,HO,rfl⟩|bd _ _ _=>exact⟨rfl,HO,rfl⟩|box cs=>
     simp only[qg,hg]at h;have h2:∀c∈cs,fz n hp' c=fz n hp c/\(Xa n hp' c↔Xa n hp c)/\qg n hp' c=qg n hp c:=fun c hc=>yL n fun i hi=>h i (mC _ (CJ.2 ⟨c,hc,hi⟩));refine⟨?_,⟨fun⟨a,b,c,d⟩=>⟨a,b,c,fun y hy=>(h2 y hy).2.1.1 (d y hy)⟩,fun⟨a,b,c,d⟩=>⟨a,b,c,fun y hy=>(h2 y hy).2.1.2 (d y hy)⟩⟩,?_⟩
     .simp only;rw[zT fun c hc=>(h2 c (DS hc)).1]
     simp only;rw[fm h2]
    |own t k es=>
     simp only[qg,hg]at h;have h2:∀c∈(es.getD i .bad).cells,fz n hp' c=fz n hp c/\(Xa n hp' c↔Xa n hp c)/\qg n hp' c=qg n hp c:=fun c hc=>yL n fun j hj=>h j (mC _ (CJ.2 ⟨c,hc,hj⟩));refine⟨?_,⟨fun⟨a,b,c,d⟩=>⟨a,b,c,fun y hy=>(h2 y hy).2.1.1 (d y hy)⟩,fun⟨a,b,c,d⟩=>⟨a,b,c,fun y hy=>(h2 y hy).2.1.2 (d y hy)⟩⟩,?_⟩
     .simp only;rw[zT fun c hc=>(h2 c (DS hc)).1]
     simp only;rw[fm h2]
  |fn f cs=>
   simp only[qg]at h;have h2:∀c∈cs,fz n hp' c=fz n hp c/\(Xa n hp' c↔Xa n hp c)/\qg n hp' c=qg n hp c:=fun c hc=>yL n fun i hi=>h i (CJ.2 ⟨c,hc,hi⟩);refine⟨?_,⟨fun d y hy=>(h2 y hy).2.1.1 (d y hy),fun d y hy=>(h2 y hy).2.1.2 (d y hy)⟩,?_⟩
   .simp only[fz];rw[zT fun c hc=>(h2 c hc).1]
   simp only[qg];induction cs with
   |nil=>rfl|cons c cs ih=>simp only[kA,(h2 c mS).2.2];rw[ih (fun i hi=>h i (by simp only[kA,ym];exact .inr hi)) fun x hx=>h2 x (mC _ hx)]
  |_=>exact⟨rfl,HO,rfl⟩
section
variable{hp hp':Hp}{τ:Nm}{D:List Nat}
structure Rf(hp hp':Hp)(τ:Nm)(D:List Nat):Prop where
 t:∀q∈τ,hp'.get q.2.2.1=hp.get q.2.2.1
 d:∀i∈D,hp'.get i=hp.get i
theorem Rf.A(h:Rf hp hp' τ D){v:AV}(hR:∀d∈pg true τ hp v,d∈D):gq true τ hp' v=gq true τ hp v/\(Ah true τ hp' v↔Ah true τ hp v)/\pg true τ hp' v=pg true τ hp v:=by
 have key:∀{v:AV},(∀d∈qg 4 hp v,d∈D)->fz 4 hp' v=fz 4 hp v/\(Xa 4 hp' v↔Xa 4 hp v)/\qg 4 hp' v=qg 4 hp v:=fun h1=>yL 4 fun i hi=>h.d i (h1 i hi);cases v with
 |l a g off len=>
  simp only[gq,Ah,pg]at hR ⊢;cases hl:lk τ a with
  |none=>simp only[hl]at hR;exact key hR|some q=>exact⟨rfl,HO,rfl⟩
 |p a g n j off=>
  simp only[gq,Ah,pg]at hR ⊢;cases hl:lk τ a with
  |none=>simp only[hl]at hR;exact key hR|some q=>exact⟨rfl,HO,rfl⟩
 |Ic a g=>
  simp only[gq,Ah,pg]at hR ⊢;cases hl:lk τ a with
  |none=>simp only[hl]at hR;exact key hR|some q=>exact⟨rfl,HO,rfl⟩
 |_=>exact key hR
theorem xg{α β:Type}{f g:α->List β}:∀{l:List α},(∀x∈l,f x=g x)->l.flatMap f=l.flatMap g
 |[],_=>rfl|x::l,h=>by simp only[kA,h x mS,xg (l:=l) fun y hy=>h y (mC _ hy)]
theorem Rf.B(h:Rf hp hp' τ D){v:AV}(hR:∀d∈l8 true τ hp v,d∈D):OB true τ hp' v=OB true τ hp v/\(m_ true τ hp' v↔m_ true τ hp v)/\l8 true τ hp' v=l8 true τ hp v:=by
 cases v with
 |fn f cs=>have h2:∀c∈cs,_:=fun c hc=>h.A (v:=c) fun d hd=>hR d (CJ.2 ⟨c,hc,hd⟩);refine⟨?_,⟨fun d y hy=>(h2 y hy).2.1.1 (d y hy),fun d y hy=>(h2 y hy).2.1.2 (d y hy)⟩,xg fun c hc=>(h2 c hc).2.2⟩;simp only[OB];rw[zT fun c hc=>(h2 c hc).1]|_=>(simp only[OB,m_,l8]at hR ⊢;exact h.A hR)
theorem Rf.K(h:Rf hp hp' τ D){v:AV}(hR:∀d∈AB true τ hp v,d∈D):GV true τ hp' v=GV true τ hp v/\(MO true τ hp' v↔MO true τ hp v)/\AB true τ hp' v=AB true τ hp v:=by
 cases v with
 |Rc=>exact⟨rfl,HO,rfl⟩|_=>(simp only[GV,MO,AB]at hR ⊢;exact h.B hR)
theorem Rf.v(h:Rf hp hp' τ D){v:AV}(hR:∀d∈y_ true τ hp v,d∈D):C5 true τ hp' v=C5 true τ hp v/\(Fj true τ hp' v↔Fj true τ hp v)/\y_ true τ hp' v=y_ true τ hp v:=by
 have h2:∀c∈v.cells,_:=fun c hc=>h.B (v:=c) fun d hd=>hR d (CJ.2 ⟨c,hc,hd⟩);refine⟨?_,⟨fun d y hy=>(h2 y hy).2.1.1 (d y hy),fun d y hy=>(h2 y hy).2.1.2 (d y hy)⟩,xg fun c hc=>(h2 c hc).2.2⟩;cases v with
 |agg cs=>have h3:∀c∈cs,OB true τ hp' c=OB true τ hp c:=fun c hc=>(h2 c hc).1;simp only[C5,cK];rw[zT h3]|_=>exact(h2 _ mS).1
theorem Rf.tt(h:Rf hp hp' τ D){v:AV}(hR:∀d∈GB true τ hp v,d∈D):qO true τ hp' v=qO true τ hp v/\(TK true τ hp' v↔TK true τ hp v)/\GB true τ hp' v=GB true τ hp v:=by
 cases v with
 |F1 vs=>have h2:∀c∈vs,_:=fun c hc=>h.v (v:=c) fun d hd=>hR d (CJ.2 ⟨c,hc,hd⟩);refine⟨?_,⟨fun d y hy=>(h2 y hy).2.1.1 (d y hy),fun d y hy=>(h2 y hy).2.1.2 (d y hy)⟩,xg fun c hc=>(h2 c hc).2.2⟩;simp only[qO];rw[zT fun c hc=>(h2 c hc).1]|_=>(simp only[qO,TK,GB]at hR ⊢;exact h.v hR)
theorem Rf.O(h:Rf hp hp' τ D){ob:Ob}(hR:∀d∈rZ true τ hp ob,d∈D):Ds true τ hp' ob=Ds true τ hp ob/\(Lf true τ hp' ob↔Lf true τ hp ob)/\rZ true τ hp' ob=rZ true τ hp ob:=by
 cases ob with
 |own t k es=>
  have h2:∀e∈es,∀c∈e.cells,_:=fun e he c hc=>h.K (v:=c) fun d hd=>hR d (CJ.2 ⟨e,he,CJ.2 ⟨c,hc,hd⟩⟩);refine⟨?_,⟨fun d e he y hy=>(h2 e he y hy).2.1.1 (d e he y hy),fun d e he y hy=>(h2 e he y hy).2.1.2 (d e he y hy)⟩,xg fun e he=>xg fun c hc=>(h2 e he c hc).2.2⟩;simp only[Ds];congr 1
  refine zT fun e he=>?_;cases e with
  |agg cs=>have h3:∀c∈cs,GV true τ hp' c=GV true τ hp c:=fun c hc=>(h2 _ he c hc).1;simp only[cK];rw[zT h3]|_=>exact(h2 _ he _ mS).1
 |box cs=>have h2:∀c∈cs,_:=fun c hc=>h.B (v:=c) fun d hd=>hR d (CJ.2 ⟨c,hc,hd⟩);refine⟨?_,⟨fun d y hy=>(h2 y hy).2.1.1 (d y hy),fun d y hy=>(h2 y hy).2.1.2 (d y hy)⟩,xg fun c hc=>(h2 c hc).2.2⟩;simp only[Ds];rw[zT fun c hc=>(h2 c hc).1]|mp es=>exact⟨rfl,HO,rfl⟩|ms es=>exact⟨rfl,HO,rfl⟩|bd t e bs=>exact⟨rfl,HO,rfl⟩
def pZ.congr{P:Program}{T:vp}{f:FuncId}{g:Nat}{vs:List AV}{σ:Nm}{keep:Bool}{hp1:Hp}{rc:AV}(h:pZ P T f g hp vs τ σ D keep hp1 rc)(hh:∀i∈τ.map (·.2.2.1)++D,hp'.get i=hp.get i):
  pZ P T f g hp' vs τ σ D keep hp1 rc:=by
 have s:Rf hp hp' τ D:=⟨fun q hq=>hh _ (XI _ (A2.2 ⟨q,hq,rfl⟩)),fun i hi=>hh i (mO _ hi)⟩;have e1:∀(l:Nm),(∀q∈l,q∈τ)->Dg true τ hp l->(∀d∈N_ true τ hp l,d∈D)->Dg true τ hp' l/\(∀d∈N_ true τ hp' l,d∈D)/\
   l.map (fun q=>(q.1,(hp'.get q.2.2.1).map fun x=>(q.2.1,Ds true τ hp' x.2)))=l.map (fun q=>(q.1,(hp.get q.2.2.1).map fun x=>(q.2.1,Ds true τ hp x.2))):=by
  intro l;induction l with
  |nil=>intro _ _ _;exact⟨trivial,fun d hd=>(by simp[N_]at hd),rfl⟩|cons q l ih=>
   obtain⟨i,gi,a,ga⟩:=q;intro hl h1 h2;obtain⟨h3,h4⟩:=h1;obtain⟨k1,k2,k3⟩:=ih (fun q hq=>hl q (mC _ hq)) h4 fun d hd=>h2 d (mO _ hd);have hg:=s.t _ (hl _ mS);simp only at hg;simp only[Dg,N_,b_,hg,k3];cases DO:hp.get a with
   |none=>simp only[DO]at h3|some x=>
    obtain⟨g',ob⟩:=x;simp only[DO]at h3 ⊢;simp only[N_,DO]at h2;obtain⟨o1,o2,o3⟩:=s.O (ob:=ob) fun d hd=>h2 d (XI _ hd);refine⟨⟨⟨h3.1,o2.2 h3.2⟩,k1⟩,fun d hd=>?_,?_⟩
    .rw[o3]at hd;rcases ym.1 hd with hd|hd
     .exact h2 d (XI _ hd)
     exact k2 d hd
    simp only[rL,o1]
 obtain⟨k1,k2,k3⟩:=e1 τ (fun _ h=>h) h.Yq h.rh;have e2:∀v∈vs,_:=fun v hv=>s.tt (v:=v) (h.ZN v hv);refine⟨h.nmτ,h.gτ,k1,k2,fun v hv=>(e2 v hv).2.1.2 (h.jc v hv),fun v hv d hd=>h.ZN v hv d (by rw[<-(e2 v hv).2.2];exact hd),h.SH,?_,h.nmσ,h.gσ,h.bP,h.bR,h.rP,h.rR,h.K1,h.S9⟩;have e3:yO true τ hp'=yO true τ hp:=k3;rw[e3,zT fun v hv=>(e2 v hv).1];exact h.sat
end
open Go Go.Great
def mc.congr{C:Cx}{G G':Nat->Prop}{tm RI:List (Nat×AV)}{hp hp':Hp}{a:Act}{w:World}(h:mc C G tm hp a w)(hg:∀g,G g↔G' g)(ht:∀t,L5 RI t=L5 tm t)(hh:∀i,hp'.get i=hp.get i):mc C G' RI hp' a w:=by
 have:G=G':=funext fun g=>propext (hg g);subst this;obtain⟨h1,h2,h3,e,h4,h5,h6⟩:=h;exact⟨h1,h2,h3,e,h4.congr (fun _=>HO) hh,h5,fun t=>by rw[ht t];exact h6 t⟩
def L6(P:Program)(T:vp)(o:Oper)(ev:Operand->AV)(hp:Hp)(g:Nat)(v:AV)(z7:List Up)(acc:List Nat):Prop:=
 match o.op with
 | .call {callee:=.value f,args,argTypes:=_}=>match mL (ev f) (args.toList.map ev)with
  |some (fid,vs)=>∃τ σ D keep hp1 rc,pZ P T fid g hp vs τ σ D keep hp1 rc/\v=wZ σ hp1 rc/\z7=bU τ σ D keep hp1/\acc=τ.map (·.2.2.1)++D|none=>False
 |_=>(r9 T o ev hp g).1/\v=(r9 T o ev hp g).2.1/\z7=(r9 T o ev hp g).2.2/\acc=nI o ev hp
def Yl(P:Program)(T:vp)(o:Oper)(s:St)(K:AV->List Up->List Nat->Prop):Prop:=
 match o.op with
 | .call {callee:=.value f,args,argTypes:=_}=>match mL (s.ev f) (args.toList.map s.ev)with
  |some (fid,vs)=>J8 P T fid s.ck s.hp vs K|none=>False
 |_=>(r9 T o s.ev s.hp s.ck).1/\K (r9 T o s.ev s.hp s.ck).2.1 (r9 T o s.ev s.hp s.ck).2.2 (nI o s.ev s.hp)
def Dd{P:Program}{T:vp}{o:Oper}{s:St}{K:AV->List Up->List Nat->Prop}(h:Yl P T o s K):
  ∃v z7 acc,L6 P T o s.ev s.hp s.ck v z7 acc/\K v z7 acc:=by
 unfold Yl at h;split at h
 .rename_i f args at_ Ph;split at h
  .rename_i fid vs hf;obtain⟨τ,σ,D,keep,hp1,rc,h1,h2⟩:=h;refine⟨_,_,_,?_,h2⟩;unfold L6;simp only[Ph,hf];exact⟨τ,σ,D,keep,hp1,rc,h1,rfl,rfl,rfl⟩
  exact h.elim
 rename_i Ph;refine⟨_,_,_,?_,h.2⟩;unfold L6;split
 .rename_i f args at_ NV;exact absurd NV (Ph _ _ _)
 exact⟨h.1,rfl,rfl,rfl⟩
theorem ar0{P:Program}{T:vp}{o:Oper}{ev ev':Operand->AV}{hp hp':Hp}{g:Nat}{v:AV}{z7:List Up}{acc:List Nat}(h:L6 P T o ev hp g v z7 acc)(he:∀x∈o.op.operands,ev' x=ev x)(hh:∀i∈acc,hp'.get i=hp.get i):L6 P T o ev' hp' g v z7 acc:=by
 unfold L6 at h ⊢;split at h
 .rename_i f args at_ Ph;simp only[Ph,Op.operands,Call.operands]at he;have e1:ev' f=ev f:=he f sM;have e2:args.toList.map ev'=args.toList.map ev:=zT fun x hx=>he x (by simp only[Array.mem_append,K5]at*;simp[K5]at hx ⊢;exact .inr hx);split at h
  .rename_i fid vs hf;simp only[e1,hf,e2];obtain⟨τ,σ,D,keep,hp1,rc,h1,h2,h3,h4⟩:=h;subst h4;exact⟨τ,σ,D,keep,hp1,rc,h1.congr hh,h2,h3,rfl⟩
  exact h.elim
 obtain⟨h1,h2,h3,h4⟩:=h;have:=adt (T:=T) o (hp:=hp) (hp':=hp') g he fun i hi=>hh i (by rw[h4];exact hi);rw[this];refine⟨h1,h2,h3,?_⟩;rw[h4];unfold nI;congr 1
 .exact xg fun x hx=>by rw[he x (agv hx)]
 obtain⟨dst,op,type,pos,after,guard⟩:=o;cases op with
 |call c=>
  obtain⟨callee,args,argTypes⟩:=c;cases callee with
  |builtin b=>
   cases b with
   |append=>
    simp only;split
    .rename_i d x ha;have hx:x∈args:=Oi;have e1:=he x iy;have e2:=G5 (hp:=hp) (hp':=hp') (v:=ev x) fun i hi=>hh i (by
      rw[h4];exact XI _ (CJ.2 ⟨x,by simpa[Py,Op.operands,Call.operands] using hx,hi⟩))
     rw[e1];unfold Vz;rw[e2.1]
    rfl
   |_=>rfl
  |_=>rfl
 |_=>rfl
open Go Go.Great
structure En where
 d:Option Nat
 v:AV
 z7:List Up
 acc:List Nat
def sS(s:St)(e:Nat->En)(S:Nat->Bool):Nat->St
 |0=>s|n+1=>if S n then(sS s e S n).put (e n).d (e n).v (e n).z7 else⟨(sS s e S n).tm,(sS s e S n).hp,(sS s e S n).ck+1⟩
section
variable{s:St}{e:Nat->En}{S S':Nat->Bool}
def No{n:Nat}(h:S n=true):sS s e S (n+1)=(sS s e S n).put (e n).d (e n).v (e n).z7:=by rw[sS,iP h]
def iH{n:Nat}(h:¬S n=true):sS s e S (n+1)=⟨(sS s e S n).tm,(sS s e S n).hp,(sS s e S n).ck+1⟩:=by rw[sS,iN h]
theorem iI:∀n,(sS s e S n).ck=s.ck+n
 |0=>rfl|n+1=>by
  unfold sS;split
  .simp only[St.put,iI n];omega
  simp only[iI n];omega
theorem sH(s:St)(d:Option Nat)(v:AV)(z7:List Up)(t:Nat):L5 (s.put d v z7).tm t=if d=some t then v else L5 s.tm t:=by
 cases d with
 |none=>simp[St.put]|some d=>simp only[St.put,L5,Kh]
def vy:List Up->Nat->Option (Option (Nat×Ob))
 |[],_=>none|(i,x)::h,n=>if i=n then some x else vy h n
theorem agz(z7:List Up)(hp:Hp)(i:Nat):Hp.get (z7++hp) i=(vy z7 i).getD (hp.get i):=by
 induction z7 with
 |nil=>rfl|cons p z7 ih=>
  obtain⟨j,x⟩:=p;simp only[Mb,Hp.get,vy];split
  .rfl
  exact ih
theorem Tt{z7:List Up}{i:Nat}(h:i∉z7.map (·.1)):vy z7 i=none:=by
 induction z7 with
 |nil=>rfl|cons p z7 ih=>obtain⟨j,x⟩:=p;simp only[b_,rX,not_or]at h;simp only[vy,iN (FX h.1),ih h.2]
def yV(s:St)(d:Option Nat)(v:AV)(z7:List Up)(i:Nat):(s.put d v z7).hp.get i=(vy z7 i).getD (s.hp.get i):=agz z7 s.hp i
theorem qZ{t:Nat}:∀n,(∀j,j<n->(e j).d=some t->S j=S' j)->L5 (sS s e S n).tm t=L5 (sS s e S' n).tm t
 |0,_=>rfl|n+1,h=>by
  have ih:=qZ n fun j hj=>h j oM;have hn:=h n oM;unfold sS;by_cases hd:(e n).d=some t
  .rw[hn hd];split
   .rw[sH,sH,iP hd,iP hd]
   exact ih
  split<;>split<;>simp only[sH,iN hd]<;>exact ih
theorem Tv{i:Nat}:∀n,(∀j,j<n->i∈(e j).z7.map (·.1)->S j=S' j)->(sS s e S n).hp.get i=(sS s e S' n).hp.get i
 |0,_=>rfl|n+1,h=>by
  have ih:=Tv n fun j hj=>h j oM;have hn:=h n oM;unfold sS;by_cases hd:i∈(e n).z7.map (·.1)
  .rw[hn hd];split
   .rw[yV,yV,ih]
   exact ih
  split<;>split<;>simp only[yV,Tt hd,Option.getD_none]<;>exact ih
theorem QN{k:Nat}:∀n,k<=n->(sS s e (fun j=>decide (j<k)) n).tm=(sS s e (fun _=>true) k).tm/\(sS s e (fun j=>decide (j<k)) n).hp=(sS s e (fun _=>true) k).hp:=by
 intro n hk;have base:∀m,m<=k->sS s e (fun j=>decide (j<k)) m=sS s e (fun _=>true) m:=by
  intro m;induction m with
  |zero=>intro _;rfl|succ m ih=>intro hm;unfold sS;rw[ih oM];simp[show m<k by omega]
 induction n with
 |zero=>have:k=0:=oM;subst this;exact⟨rfl,rfl⟩|succ n ih=>
  by_cases h:k=n+1
  .subst h;rw[base _ (lR _)];exact⟨rfl,rfl⟩
  have hn:¬n<k:=oM;have:=ih oM;rw[iH dB];exact this
theorem NW{i:Nat}(hi:S i=false):∀n,i<n->
  ((∀t,(∀k,i<k->k<n->S k=true->(e i).d=some t->(e k).d≠some t)->
   L5 (sS s e (fun j=>S j||decide (j=i)) n).tm t=if(e i).d=some t then(e i).v else L5 (sS s e S n).tm t)/\
   (∀id,(∀k,i<k->k<n->S k=true->id∈(e i).z7.map (·.1)->id∉(e k).z7.map (·.1))->
   (sS s e (fun j=>S j||decide (j=i)) n).hp.get id=(vy (e i).z7 id).getD ((sS s e S n).hp.get id)))
 |0,h=>oM|n+1,h=>by
  by_cases yf:n=i
  .subst yf;have e1:∀t,L5 (sS s e (fun j=>S j||decide (j=n)) n).tm t=L5 (sS s e S n).tm t:=fun t=>qZ n fun j hj _=>by simp[show j≠n by omega]
   have e2:∀t,(sS s e (fun j=>S j||decide (j=n)) n).hp.get t=(sS s e S n).hp.get t:=fun t=>Tv n fun j hj _=>by simp[show j≠n by omega]
   unfold sS;simp only[hi,aA,z8,ql,C9,j4];exact⟨fun t _=>by rw[sH,e1],fun id _=>by rw[yV,e2]⟩
  obtain⟨ih1,ih2⟩:=NW (i:=i) hi n oM;unfold sS;simp only[yf,me,sV];cases hS:S n with
  |false=>simp only[C9,j4];exact⟨fun t ht=>ih1 t fun k h1 h2=>ht k h1 oM,fun id ht=>ih2 id fun k h1 h2=>ht k h1 oM⟩|true=>
   simp only[ql];refine⟨fun t ht=>?_,fun id ht=>?_⟩
   .rw[sH,sH,ih1 t fun k h1 h2=>ht k h1 oM];have:=ht n oM oM hS;by_cases h1:(e i).d=some t
    .rw[iN (this h1),iP h1,iP h1]
    simp only[iN h1]
   rw[yV,yV,ih2 id fun k h1 h2=>ht k h1 oM];have:=ht n oM oM hS;by_cases h1:id∈(e i).z7.map (·.1)
   .rw[Tt (this h1)];rfl
   rw[Tt h1];rfl
end
def E7(P:Program)(T:vp)(all:List Oper)(o:Oper)(s:St)(en:En):Prop:=
 en.d=o.dst/\match o.guard with
  |none=>L6 P T o s.ev s.hp s.ck en.v en.z7 en.acc|some (j,want)=>∃d,Ht all j=some d/\((∃b,L5 s.tm d=.lit (.bool b)/\((b=want/\L6 P T o s.ev s.hp s.ck en.v en.z7 en.acc)\/(b≠want/\en.v=.F1 []/\en.z7=[])))\/(L5 s.tm d=.F1 []/\en.v=.F1 []/\en.z7=[]))
abbrev zy:=List Nat×List Nat
def Xm(P:Program)(T:vp)(all:List Oper):List Oper->St->(St->List zy->Prop)->Prop
 |[],s,K=>K s []|o::So,s,K=>
  match o.guard with
  |none=>Yl P T o s fun v z7 acc=>Xm P T all So (s.put o.dst v z7) fun s' rs=>K s' ((z7.map (·.1),acc)::rs)|some (j,want)=>
   GM ((Ht all j).map (L5 s.tm)) want (Yl P T o s fun v z7 acc=>Xm P T all So (s.put o.dst v z7) fun s' rs=>K s' ((z7.map (·.1),acc)::rs))
     (Xm P T all So (s.put o.dst (.F1 []) []) fun s' rs=>K s' (([],[])::rs))
def J1(e:Nat->En)(n:Nat):List zy:=(List.range n).map fun k=>((e k).z7.map (·.1),(e k).acc)
theorem iY(s:St)(en:En)(e:Nat->En):∀k,sS s (fun|0=>en|k+1=>e k) (fun _=>true) (k+1)=sS (s.put en.d en.v en.z7) e (fun _=>true) k
 |0=>rfl|k+1=>by rw[No (n:=k+1) rfl,iY s en e k];exact(No (n:=k) (S:=fun _=>true) rfl).symm
theorem PA{P:Program}{T:vp}{all:List Oper}:∀(So:List Oper)(s:St)(K:St->List zy->Prop),Xm P T all So s K->
  ∃e:Nat->En,(∀k (h:k<So.length),E7 P T all So[k] (sS s e (fun _=>true) k) (e k))/\K (sS s e (fun _=>true) So.length) (J1 e So.length)
 |[],s,K,h=>⟨fun _=>⟨none,.bad,[],[]⟩,fun k h=>tC,h⟩|o::So,s,K,h=>by
  have key:∃en:En,E7 P T all o s en/\Xm P T all So (s.put en.d en.v en.z7) fun s' rs=>K s' ((en.z7.map (·.1),en.acc)::rs):=by
   unfold Xm at h;cases hg:o.guard with
   |none=>simp only[hg]at h;obtain⟨v,z7,acc,h1,h2⟩:=Dd h;exact⟨⟨o.dst,v,z7,acc⟩,⟨rfl,by simp only[hg];exact h1⟩,h2⟩
   |some q=>
    obtain⟨j,want⟩:=q;simp only[hg]at h;cases X9:Ht all j with
    |none=>simp only[X9,fY,GM]at h|some d=>
     simp only[X9,rL,GM]at h;split at h
     .rename_i b hb;simp only[Kh]at hb;by_cases EW:b=want
      .obtain⟨v,z7,acc,h1,h2⟩:=Dd (h.1 EW);exact⟨⟨o.dst,v,z7,acc⟩,⟨rfl,by simp only[hg];exact⟨d,X9,.inl ⟨b,hb,.inl ⟨EW,h1⟩⟩⟩⟩,h2⟩
      exact⟨⟨o.dst,.F1 [],[],[]⟩,⟨rfl,by rw[hg];exact⟨d,X9,.inl ⟨b,hb,.inr ⟨EW,rfl,rfl⟩⟩⟩⟩,h.2 EW⟩
     .rename_i hb;simp only[Kh]at hb;exact⟨⟨o.dst,.F1 [],[],[]⟩,⟨rfl,by rw[hg];exact⟨d,X9,.inr ⟨hb,rfl,rfl⟩⟩⟩,h⟩
     exact h.elim
  obtain⟨en,h1,h2⟩:=key;obtain⟨e,h3,h4⟩:=PA So _ _ h2;refine⟨(fun|0=>en|k+1=>e k),fun k hk=>?_,?_⟩
  .cases k with
   |zero=>exact h1|succ k=>rw[iY];exact h3 k (by simpa using hk)
  simp only[dO];rw[iY];have:J1 (fun|0=>en|k+1=>e k) (So.length+1)=(en.z7.map (·.1),en.acc)::J1 e So.length:=by simp only[J1,oZ,b_,R8];rfl
  rw[this];exact h4
def yc:List Oper->List Nat->List Nat
 |[],acc=>acc|o::So,acc=>yc So (acc++[(o.after.toList.filter (Region.binds .any)).foldl (fun m e=>m ||| ((1 <<< e.on) ||| acc.getD e.on 0)) 0])
def Nl(all:List Oper)(o:Oper):List Nat:=
 (o.op.operands.toList.filterMap fun| .tmp t=>some t|_=>none)++(match o.guard with|some (j,_)=>(Ht all j).toList|none=>[])
def DR(d:Option Nat)(l:List Nat):Bool:=match d with|some d=>l.contains d|none=>false
def oe(l:List Oper):Bool:=
 let ms:=yc l []
 (List.range l.length).all (fun j=>match l[j]? with
  |none=>true|some y=>y.after.toList.all (fun e=>!Region.binds .any e||decide (e.on<j))&&
   (List.range j).all (fun i=>(ms.getD j 0).testBit i||match l[i]? with
    |none=>true
    | some x => !DR x.dst (Nl l y) && !DR y.dst (Nl l x) && (match x.dst with | some d => y.dst != some d | none => true)))
def B9(a b:List Nat):Bool:=a.all fun x=>!b.contains x
def J6(ms:List Nat)(rs:List zy):Bool:=
 rs.all (fun r=>r.1.isEmpty)||
 (List.range rs.length).all (fun j=>(List.range j).all fun i=>(ms.getD j 0).testBit i||
  (B9 (rs.getD i ([],[])).1 ((rs.getD j ([],[])).1++(rs.getD j ([],[])).2)&&B9 (rs.getD j ([],[])).1 (rs.getD i ([],[])).2))
open Go Go.Great
def Y6(l:List Oper)(S:Nat->Bool)(i:Nat):Prop:=∀o,l[i]?=some o->∀e∈o.after,Region.binds .any e=true->S e.on=true
def XP(l:List Oper)(acc:List Nat):Prop:=
 ∀j,j<acc.length->∀i,(acc.getD j 0).testBit i=true->∀S:Nat->Bool,(∀k,S k=true->Y6 l S k)->Y6 l S j->S i=true
theorem Xl{acc:List Nat}{i:Nat}:∀(es:List Edge)(m:Nat),(es.foldl (fun m e=>m ||| ((1 <<< e.on) ||| acc.getD e.on 0)) m).testBit i=true->
  m.testBit i=true\/∃e∈es,e.on=i\/(acc.getD e.on 0).testBit i=true
 |[],m,h=>.inl h|e::es,m,h=>by
  rcases Xl es _ h with h|⟨e',h1,h2⟩
  .rw[Yw,Yw,Nat.one_shiftLeft,Ua]at h;simp only[eo,Vd]at h;rcases h with h|h
   .exact .inl h
   exact .inr ⟨e,mS,h⟩
  exact .inr ⟨e',mC _ h1,h2⟩
theorem NG{l:List Oper}:∀(So pre:List Oper)(acc:List Nat),l=pre++So->acc.length=pre.length->XP l acc->
  XP l (yc So acc)/\(yc So acc).length=l.length
 |[],pre,acc,h,hl,hm=>⟨hm,by simp[yc,h,hl]⟩|o::So,pre,acc,h,hl,hm=>by
  unfold yc;refine NG So (pre++[o]) _ (by simp[h]) (by simp[hl]) ?_;intro j hj i hi S hS hC;by_cases PP:j<acc.length
  .refine hm j PP i ?_ S hS hC;rw[gE,fd PP,<-gE]at hi;exact hi
  have jF:j=pre.length:=YH;subst jF;rw[gE,Ga oM]at hi;simp only[hl,vW,C8,jw]at hi;have ho:l[pre.length]?=some o:=by simp[h]
  rcases Xl _ _ hi with h0|⟨e,h1,h2⟩
  .simp at h0
  rw[Yu]at h1;have hb:=hC o ho e (by simpa using h1.1) h1.2;rcases h2 with rfl|h2
  .exact hb
  by_cases qT:e.on<acc.length
  .exact hm e.on qT i h2 S hS (hS _ hb)
  rw[gE,Zo oM]at h2;simp at h2
section
variable{C:Cx}{T:vp}
theorem jK{G:Nat->Prop}{g:Nat}{s:St}{a:Act}{w w':World}(JD:mc C G s.tm s.hp a w){e e':bQ}(hv:∀t,VR w (UE e) e G (L5 s.tm t) (a.tmps.getD t undef)){z7:List Up}{v:AV}{xv:Value}{dst:Option Nat}(Y_:dst.getD 0<C.N)(h1:cH w' e' (Bb G g) (z7++s.hp))(h2:Z7 w e G w' e' (Bb G g))(h3:ke C w' e' (Bb G g))(h4:OL C w')(h5:VR w' (UE e') e' (Bb G g) v xv):
  mc C (Bb G g) (s.put dst v z7).tm (s.put dst v z7).hp (a.put dst xv) w':=by
 refine⟨?_,?_,h4,e',h1,h3,fun t=>?_⟩
 .cases dst<;>exact JD.defers
 .cases dst with
  |none=>exact JD.size|some d=>simp only[Act.put,yY];exact JD.size
 cases dst with
 |none=>exact(hv t).ext h2|some d=>
  simp only[St.put,L5,Act.put];by_cases h:d=t
  .subst h;rw[iP rfl];have hd:d<a.tmps.size:=by rw[JD.size];exact Y_
   rw[gA,z_ hd];exact h5
  rw[iN h];have:(a.tmps.setIfInBounds d xv).getD t undef=a.tmps.getD t undef:=by rw[gA,gA,CX h]
  rw[this];exact(hv t).ext h2
def atk(hC:PT C T){o:Oper}(Y_:o.dst.getD 0<C.N){G:Nat->Prop}{g:Nat}(hg:¬G g){s:St}{a:Act}{w:World}(JD:mc C G s.tm s.hp a w){v:AV}{z7:List Up}{acc:List Nat}(h:L6 C.P T o s.ev s.hp g v z7 acc){Q:Exit->Act->World->Prop}{next:Act->World->Prop}(hn:∀a' w',mc C (Bb G g) (s.put o.dst v z7).tm (s.put o.dst v z7).hp a' w'->next a' w'):o.wpIn (E8 C.rd) 0 C.P a w next Q:=by
 obtain⟨e,hr,fo,hv⟩:=JD.body;have p:jC C e G g s.hp w:=⟨hr,fo,JD.xt,hg⟩;have Uy:∀x,VR w (UE e) e G (s.ev x) (a.eval x):=Jq (s:=s) hv;have main:∀(P:Prop)(res:Result Next),Bm C e G g s.hp w (P,v,z7) res->
   (∃xv w',res=.ok (.value xv) w'/\next (a.put o.dst xv) w')\/(∃w',res=.ok .skip w'/\next (a.put o.dst undef) w'):=by
  rintro P res ⟨nx,w',e',r1,r2,r3,r4,r5,r6⟩;rcases r6 with ⟨xv,rfl,r6⟩|⟨rfl,Wy⟩
  .exact .inl ⟨xv,w',r1,hn _ _ (jK JD hv Y_ r2 r3 r4 r5 r6)⟩
  refine .inr ⟨w',r1,hn _ _ (jK JD hv Y_ r2 r3 r4 r5 ?_)⟩;simp only at Wy;rw[Wy];exact .rC _ _ (.bad _)
 unfold L6 at h;split at h
 .rename_i f args at_ Ph;split at h
  .rename_i fid vs hf;obtain⟨τ,σ,D,keep,hp1,rc,hc,rfl,rfl,_⟩:=h;obtain⟨fst,cap,KO,KM,BC⟩:=sq (xs:=args.map a.eval) hf (Uy f) sM fun i hi=>by
    have jk:i<args.size:=Ks;have e1:(args.toList.map s.ev)[i]=s.ev args[i]:=sM;have e2:(args.map a.eval).getD i undef=a.eval args[i]:=by rw[gA];simp[jk]
    rw[e1,e2];exact Uy _
   obtain⟨⟨fn,xH,px,eP⟩,Oq⟩:=io p hC (vs:=vs) (pk:=fst++args.map a.eval++cap) KM BC hc;have Ik:(execOp a.eval o).run C.P w=.ok (.enter fid (fst++args.map a.eval++cap)) w:=by unfold execOp;simp only[Ph,resolve,KO,Deferred.ofValue,invoke,callFunc,ig,fX,GQ,yT,xH,px,eP,C9,j4,Ec]
   refine⟨fun _ _=>trivial,?_⟩;rw[E1 _ _ _ (by intro c hc;rw[Ph]at hc;cases hc),Ik];refine ci (Oq.mono ?_);rintro en w' ⟨xv,rfl,sL⟩;rcases main _ _ sL with ⟨xv',w'',ur,RK⟩|⟨w'',ur,RK⟩
   .cases ur;exact RK
   cases ur
  exact h.elim
 obtain⟨h1,rfl,rfl,_⟩:=h;have:=B6 p hC o Uy h1;refine⟨fun _ _=>trivial,?_⟩;rw[E1 _ _ _ (fU h1)];rcases main _ _ this with ⟨xv,w',ur,RK⟩|⟨w',ur,RK⟩
 .rw[ur,Ta];exact RK
 rw[ur,Oper.uponIn_skip];exact RK
def wm{G:Nat->Prop}(g:Nat){s:St}{a:Act}{w:World}(JD:mc C G s.tm s.hp a w){dst:Option Nat}(Y_:dst.getD 0<C.N):
  mc C (Bb G g) (s.put dst (.F1 []) []).tm (s.put dst (.F1 []) []).hp (a.put dst undef) w:=by
 obtain⟨e,hr,fo,hv⟩:=JD.body;have x:=Z7.wide w e G g;exact jK JD hv Y_ hr.wide x (fo.wide g) JD.xt (.rC _ _ (.F1 [] #[] rfl (fun i hi=>yr)))
def Gx{d:Option Nat}{l:List Nat}{t:Nat}(h:DR d l=false)(hd:d=some t):t∉l:=by subst hd;simpa[DR] using h
def apB{l:List Oper}(h:oe l=true){j:Nat}{o:Oper}(ho:l[j]?=some o):∀e∈o.after,Region.binds .any e=true->e.on<j:=by intro e he hb;unfold oe at h;rw[FR]at h;have hj:j<l.length:=(VL.1 ho).1;have:=h j Ou;simp only[ho,TF,FR]at this;have:=this.1 e (by simpa using he);simpa[hb] using this
def Xu{l:List Oper}(h:oe l=true){i j:Nat}(U7:i<j){x y:Oper}(hx:l[i]?=some x)(hy:l[j]?=some y):
  ((yc l []).getD j 0).testBit i=true\/(∀t,x.dst=some t->t∉Nl l y/\y.dst≠some t)/\(∀t,y.dst=some t->t∉Nl l x):=by
 unfold oe at h;rw[FR]at h;have hj:j<l.length:=(VL.1 hy).1;have:=h j Ou;simp only[hy,TF,FR]at this;have:=this.2 i (by simpa using U7);simp only[eo,hx,TF,Oc]at this;rcases this with h1|⟨⟨h1,h2⟩,h3⟩
 .exact .inl h1
 refine .inr ⟨fun t ht=>⟨Gx h1 ht,?_⟩,fun t ht=>Gx h2 ht⟩;rw[ht]at h3;simpa using h3
def Kw{a b:List Nat}(h:B9 a b=true){i:Nat}(ha:i∈a):i∉b:=by unfold B9 at h;rw[FR]at h;simpa using h i ha
def GS(s:St)(n:Nat)(S:Nat->Bool):Nat->Prop:=fun g=>g<s.ck\/∃j,j<n/\S j=true/\g=s.ck+j
theorem Zx(hC:PT C T){l:List Oper}(hd:∀o∈l,o.dst.getD 0<C.N)(hs:oe l=true){s:St}{e:Nat->En}(he:∀k (h:k<l.length),E7 C.P T l l[k] (sS s e (fun _=>true) k) (e k))(hc:J6 (yc l []) (J1 e l.length)=true){S:Nat->Bool}(hS:∀k,S k=true->Y6 l S k){i:Nat}(hi:i<l.length)(rF:S i=false)(FS:Y6 l S i){a:Act}{w:World}(JD:mc C (GS s l.length S) (sS s e S l.length).tm (sS s e S l.length).hp a w){Q:Exit->Act->World->Prop}{K:Act->World->Prop}(hK:∀a' w',mc C (GS s l.length fun j=>S j||decide (j=i)) (sS s e (fun j=>S j||decide (j=i)) l.length).tm (sS s e (fun j=>S j||decide (j=i)) l.length).hp a' w'->K a' w'):
  wpOpIn (E8 C.rd) 0 C.P l.toArray Q i K a w:=by
 obtain⟨hm,kF⟩:=NG (l:=l) l [] [] sM rfl (by intro j hj;simp at hj);have Ut:l[i]?=some l[i]:=gG hi;obtain⟨Ur,Em⟩:=he i hi;have slot:∀t,(t∈Nl l l[i]\/l[i].dst=some t)->∀j,j<l.length->(e j).d=some t->S j=decide (j<i):=by
  intro t ht j hj tD;have Wl:l[j].dst=some t:=(he j hj).1.symm.trans tD;have dh:l[j]?=some l[j]:=gG hj;by_cases ZJ:j=i
  .subst ZJ;simpa using rF
  by_cases PP:j<i
  .simp only[PP,aA];rcases Xu hs PP dh Ut with h|⟨h1,h2⟩
   .exact hm i oM j h S hS FS
   obtain⟨h3,h4⟩:=h1 t Wl;rcases ht with ht|ht
   .exact absurd ht h3
   exact absurd ht h4
  have U7:i<j:=oM;simp only[PP,me];rcases Xu hs U7 Ut dh with h|⟨h1,h2⟩
  .cases ML:S j with
   |false=>rfl|true=>have:=hm j oM i h S hS (hS j ML);rw[rF]at this;cases this
  rcases ht with ht|ht
  .exact absurd ht (h2 t Wl)
  exact absurd Wl (h1 t ht).2
 have heap:∀id,(id∈(e i).acc\/id∈(e i).z7.map (·.1))->∀j,j<l.length->id∈(e j).z7.map (·.1)->S j=decide (j<i):=by
  intro id hid j hj tD;by_cases ZJ:j=i
  .subst ZJ;simpa using rF
  unfold J6 at hc;rw[eo]at hc;have hr:∀k,k<l.length->(J1 e l.length).getD k ([],[])=((e k).z7.map (·.1),(e k).acc):=by intro k hk;simp[J1,hk]
  rcases hc with hc|hc
  .rw[FR]at hc;have:=hc ((e j).z7.map (·.1),(e j).acc) (by simp only[J1,A2,BD];exact⟨j,hj,rfl⟩);simp only[List.isEmpty_iff]at this;rw[this]at tD;cases tD
  rw[FR]at hc;have s6:(J1 e l.length).length=l.length:=by simp[J1]
  rw[s6]at hc;by_cases PP:j<i
  .simp only[PP,aA];have:=hc i Ks;rw[FR]at this;have:=this j (by simpa using PP);rw[hr i hi,hr j hj]at this;simp only[eo,TF]at this;rcases this with h|⟨h1,h2⟩
   .exact hm i oM j h S hS FS
   have:=Kw h1 tD;rw[ym]at this;exact absurd (hid.symm) this
  have U7:i<j:=oM;simp only[PP,me];have:=hc j Ou;rw[FR]at this;have:=this i (by simpa using U7);rw[hr i hi,hr j hj]at this;simp only[eo,TF]at this;rcases this with h|⟨h1,h2⟩
  .cases ML:S j with
   |false=>rfl|true=>have:=hm j oM i h S hS (hS j ML);rw[rF]at this;cases this
  rcases hid with hid|hid
  .exact absurd hid (Kw h2 tD)
  exact absurd (XI _ tD) (Kw h1 hid)
 have tmeq:∀t∈Nl l l[i],L5 (sS s e S l.length).tm t=L5 (sS s e (fun _=>true) i).tm t:=by intro t ht;rw[qZ (S':=fun j=>decide (j<i)) l.length fun j hj tD=>slot t (.inl ht) j hj tD,(QN l.length (um hi)).1]
 have ajm:∀id,(id∈(e i).acc\/id∈(e i).z7.map (·.1))->(sS s e S l.length).hp.get id=(sS s e (fun _=>true) i).hp.get id:=by intro id hid;rw[Tv (S':=fun j=>decide (j<i)) l.length fun j hj tD=>heap id hid j hj tD,(QN l.length (um hi)).2]
 have evq:∀x∈l[i].op.operands,(sS s e S l.length).ev x=(sS s e (fun _=>true) i).ev x:=by
  intro x hx;cases x with
  |tmp t=>exact tmeq t (XI _ (Zz.2 ⟨.tmp t,Wa,rfl⟩))|_=>rfl
 have alc:¬GS s l.length S (s.ck+i):=by
  rintro(h|⟨j,_,h1,h2⟩)
  .omega
  have:j=i:=oM;subst this;rw[rF]at h1;cases h1
 obtain⟨ins1,ins2⟩:=NW (s:=s) (e:=e) rF l.length hi;have fin:∀a' w',mc C (Bb (GS s l.length S) (s.ck+i)) ((sS s e S l.length).put l[i].dst (e i).v (e i).z7).tm ((sS s e S l.length).put l[i].dst (e i).v (e i).z7).hp a' w'->K a' w':=by
  intro a' w' h;refine hK a' w' (h.congr ?_ ?_ ?_)
  .intro g;constructor
   .rintro((h|⟨j,h1,h2,h3⟩)|h)
    .exact .inl h
    .exact .inr ⟨j,h1,by simp[h2],h3⟩
    exact .inr ⟨i,hi,sM,h⟩
   rintro(h|⟨j,h1,h2,h3⟩)
   .exact .inl (.inl h)
   simp only[eo,Vd]at h2;rcases h2 with h2|rfl
   .exact .inl (.inr ⟨j,h1,h2,h3⟩)
   exact .inr h3
  .intro t;rw[sH,<-Ur];refine ins1 t fun k h1 h2 h3 h4 h5=>?_;have:=slot t (.inr (Ur.symm.trans h4)) k h2 h5;rw[h3]at this;simp at this;omega
  intro id;rw[yV];refine ins2 id fun k h1 h2 h3 h4 h5=>?_;have:=heap id (.inr h4) k h2 h5;rw[h3]at this;simp at this;omega
 have sem:L6 C.P T l[i] (sS s e (fun _=>true) i).ev (sS s e (fun _=>true) i).hp (sS s e (fun _=>true) i).ck (e i).v (e i).z7 (e i).acc->l[i].wpIn (E8 C.rd) 0 C.P a w K Q:=by intro h;rw[iI]at h;have h':=ar0 h (ev':=(sS s e S l.length).ev) (hp':=(sS s e S l.length).hp) evq (fun id hid=>ajm id (.inl hid));exact atk hC (hd _ (gM hi)) alc JD h' fin
 unfold wpOpIn;have an6:l.toArray[i]?=some l[i]:=sM;rw[an6];simp only;cases hg:l[i].guard with
 |none=>simp only[hg]at Em;rw[iP (aO hg _)];exact sem Em|some q=>
  obtain⟨j,want⟩:=q;simp only[hg]at Em;obtain⟨d,X9,Em⟩:=Em;rcases Em with ⟨b,hb,Em⟩|⟨hb,hv,hu⟩
  .have hy:yielded l.toArray a.tmps j=some b:=by
    obtain⟨e',hr,fo,hv⟩:=JD.body;have gI:=hv d;rw[tmeq d (mO _ (by simp[hg,X9])),hb]at gI;obtain⟨gI,_⟩:=gI.VI;unfold yielded;have e1:(l.toArray[j]?).bind (·.dst)=some d:=by simpa[Ht] using X9
    rw[e1];rw[gA]at gI;cases hx:a.tmps[d]? with
    |none=>rw[hx]at gI;cases gI
    |some v=>rw[hx]at gI;simp at gI;subst gI;simp[hx]
   rcases Em with ⟨EW,Em⟩|⟨EW,hv,hu⟩
   .rw[iP DD];exact sem Em
   rw[iN DD];rw[hv,hu]at fin;exact⟨fun _ _=>trivial,fin _ _ (wm _ JD (hd _ (gM hi)))⟩
  have hy:yielded l.toArray a.tmps j=none:=by obtain⟨e',hr,fo,hv⟩:=JD.body;have gI:=hv d;rw[tmeq d (mO _ (by simp[hg,X9])),hb]at gI;exact EV X9 gI
  rw[iN (by simp[Region.wanted,hg,hy])];rw[hv,hu]at fin;exact⟨fun _ _=>trivial,fin _ _ (wm _ JD (hd _ (gM hi)))⟩
end
open Go Go.Great
section
variable{C:Cx}{T:vp}
def Vy(n:Nat)(S:Nat->Bool):Nat:=(List.range n).countP fun j=>!S j
theorem aks{n i:Nat}{S S':Nat->Bool}(hi:i<n)(hS:S i=false)(SP:S' i=true)(hh:∀j,j≠i->S' j=S j):Vy n S'+1=Vy n S:=by
 induction n with
 |zero=>omega|succ n ih=>
  unfold Vy at*;rw[RM,mG,mG];by_cases h:i=n
  .subst h;have:(List.range i).countP (fun j=>!S' j)=(List.range i).countP fun j=>!S j:=by refine List.countP_congr fun j hj=>?_;rw[hh j YH]
   rw[this];simp[hS,SP]
  have:=ih oM;simp only[zM,List.countP_nil,hh n (FX h)];omega
theorem akt(hC:PT C T){l:List Oper}(hd:∀o∈l,o.dst.getD 0<C.N)(hs:oe l=true){s:St}{e:Nat->En}(he:∀k (h:k<l.length),E7 C.P T l l[k] (sS s e (fun _=>true) k) (e k))(hc:J6 (yc l []) (J1 e l.length)=true){Q:Exit->Act->World->Prop}(hQ:∀a w,Tn C (sS s e (fun _=>true) l.length) a w->Q .normal a w):
  ∀(fuel:Nat)(listed:Array Bool)(a:Act)(w:World),listed.size=l.length->(∀k,listed.getD k false=true->Y6 l (fun j=>listed.getD j false) k)->
   Vy l.length (fun j=>listed.getD j false)<=fuel->
   mc C (GS s l.length fun j=>listed.getD j false) (sS s e (fun j=>listed.getD j false) l.length).tm (sS s e (fun j=>listed.getD j false) l.length).hp a w->
   wpAnyIn (E8 C.rd) 0 C.P .any l.toArray Q fuel listed a w:=by
 have fin:∀(listed:Array Bool)(a:Act)(w:World),listed.size=l.length->Region.ready .any l.toArray listed=[]->
   mc C (GS s l.length fun j=>listed.getD j false) (sS s e (fun j=>listed.getD j false) l.length).tm (sS s e (fun j=>listed.getD j false) l.length).hp a w->Q .normal a w:=by
  intro listed a w xB hr JD;have all:∀j,j<l.length->listed.getD j false=true:=by
   intro j;induction j using Nat.strongRecOn with
   |_ j ih=>
    intro hj;cases Se:listed.getD j false with
    |true=>rfl|false=>
     have:j∈Region.ready .any l.toArray listed:=by
      rw[mem_ready];have Xg:j<listed.size:=oM;refine⟨?_,l[j],sM,fun ed Ur hb=>?_⟩
      .simp[Xg]at Se ⊢;exact Se
      have:=apB hs (gG hj) ed Ur hb;exact ih _ this oM
     rw[hr]at this;cases this
  refine hQ a w (JD.congr ?_ ?_ ?_)
  .intro g;rw[iI];simp only[GS,rM];constructor
   .rintro(h|⟨j,h1,_,h3⟩)<;>omega
   intro h;by_cases h':g<s.ck
   .exact .inl h'
   exact .inr ⟨g-s.ck,oM,all _ oM,oM⟩
  .intro t;exact qZ _ fun j hj _=>(all j hj).symm
  intro id;exact Tv _ fun j hj _=>(all j hj).symm
 intro fuel;induction fuel with
 |zero=>
  intro listed a w xB iS ht JD;have hr:Region.ready .any l.toArray listed=[]:=by
   apply List.eq_nil_iff_forall_not_mem.2
   intro j hj;obtain⟨h1,o,h2,_⟩:=mem_ready.1 hj;have Se:j<l.length:=by simpa using(Array.getElem?_eq_some_iff.1 h2).1
   have h0:Vy l.length (fun j=>listed.getD j false)=0:=oM;unfold Vy at h0;rw[Li]at h0;have:=h0 j (by simpa using Se);have Xg:j<listed.size:=oM;simp[Xg]at this h1;rw[this]at h1;cases h1
  exact⟨hr,fin listed a w xB hr JD⟩
 |succ fuel ih=>
  intro listed a w xB iS ht JD;refine⟨fun hr=>fin listed a w xB hr JD,fun i hi=>?_⟩;obtain⟨h1,o,h2,h3⟩:=mem_ready.1 hi;have T6:i<l.length:=by simpa using(Array.getElem?_eq_some_iff.1 h2).1
  have yE:i<listed.size:=oM;have rF:listed.getD i false=false:=by simp[yE]at h1 ⊢;exact h1
  have FS:Y6 l (fun j=>listed.getD j false) i:=by
   intro o' X1 ed Ur hb;have:o'=o:=by rw[n_,X1]at h2;exact(Qz h2)
   subst this;exact h3 ed Ur hb
  have Vb:(fun j=>(listed.setIfInBounds i true).getD j false)=fun j=>listed.getD j false||decide (j=i):=by
   funext j
   by_cases ZJ:j=i
   .subst ZJ;simp[yE]
   rw[getD_set_ne false (FX ZJ)];simp[ZJ]
  refine Zx hC hd hs he hc iS T6 rF FS JD fun a' w' adQ=>?_;refine ih _ a' w' (by simpa using xB) ?_ ?_ ?_
  .rw[Vb];intro k hk o' X1 ed Ur hb;by_cases mN:k=i
   .subst mN;simp only[FS o' X1 ed Ur hb,Aa]
   have tF:listed.getD k false=true:=by rw[getD_set_ne false (FX mN)]at hk;exact hk
   simp only[iS k tF o' X1 ed Ur hb,Aa]
  .have:=aks (n:=l.length) (S:=fun j=>listed.getD j false) (S':=fun j=>(listed.setIfInBounds i true).getD j false) T6 rF (by simp[yE]) (fun j hj=>getD_set_ne false (FX hj));omega
  rw[Vb];exact adQ
def Qf{id:Nat}{l:List Oper}{Q:Exit->St->Prop}{s:St}(hC:PT C T)(hm:C.P.follows .mixedOrders=true)(hs:oe l=true)(hd:(l.all fun o=>decide (o.dst.getD 0<C.N))=true)(h:∀K:St->Prop,(∀s',Q .normal s'->K s')->Xm C.P T l l s (fun s' rs=>J6 (yc l []) rs=true/\K s')):Ex C (.region id l.toArray true) Q s:=by
 intro a w hr;refine wpIn_region_any hm ?_;rw[FR]at hd;obtain⟨e,he,hc,hK⟩:=PA _ _ _ (h (fun s'=>Q .normal s') fun _ h=>h);refine akt hC (fun o ho=>by simpa using hd o ho) hs he hc (fun a' w' Lq=>.inl ⟨_,Lq,hK⟩) _ _ a _ sM ?_ ?_ ?_
 .intro k hk;by_cases DN:k<l.length<;>simp[DN]at hk
 .unfold Vy;exact Jz (dG) sM
 have h0:(fun j=>(Array.replicate l.toArray.size false).getD j false)=fun _=>false:=by
  funext j
  by_cases hj:j<l.length<;>simp[hj]
 rw[h0];have:∀n,(sS s e (fun _=>false) n).tm=s.tm/\(sS s e (fun _=>false) n).hp=s.hp:=by
  intro n;induction n with
  |zero=>exact⟨rfl,rfl⟩|succ n ih=>rw[iH sM];exact ih
 rw[(this _).1,(this _).2];have IA:mc C (rM s.ck) s.tm s.hp a {w with drawn:=w.drawn+1}:=by
  have hr:mc C (rM s.ck) s.tm s.hp a w:=hr;obtain⟨h1,h2,h3,e',h4,h5,h6⟩:=hr;have x:Z7 w e' (rM s.ck) {w with drawn:=w.drawn+1} e' (rM s.ck):=⟨lR _,fun _ h=>h,fun _ _ h=>h,fun _ _ _=>rfl,fun _ SV h _=>⟨SV,h,rfl,rfl,.inl ⟨rfl,rfl⟩⟩⟩;refine⟨h1,h2,⟨h3.os,h3.tape,h3.output,h3.size,h3.same,Nat.le_succ_of_le h3.drawn⟩,e',?_,⟨h5.tI,h5.BA,h5.ext.trans x,h5.jR⟩,fun t=>(h6 t).ext x⟩;exact⟨h4.dead,fun id g ob hi=>by
   obtain⟨ee,k1,k2,k3,k4⟩:=h4.live id g ob hi;exact⟨ee,k1,k2,k3,k4.ext x fun _ _ _=>⟨rfl,fun _ _ h=>⟨rfl,h⟩⟩⟩,h4.inj,h4.lt,h4.nz,h4.kl,h4.ko,h4.kk⟩
 refine IA.congr ?_ (fun _=>rfl) (fun _=>rfl);intro g;simp[GS,rM]
end
open Go Go.Great
abbrev I(x:Int):AV:=.lit (.int .i64 x)
abbrev B(x:Bool):AV:=.lit (.bool x)
abbrev S(x:ByteArray):AV:=.lit (.string x)
def tk(l:List Int):List AV:=l.map I
abbrev IS(l:List Int):AV:=.sl (tk l) false
def Vu(l:List (List Int)):List AV:=l.map IS
abbrev RS(l:List (List Int)):AV:=.sl (Vu l) false
def PG(t:Nat)(l:List (List Int)):List AV:=l.map fun r=>.Rc t 1 (tk r)
def PC:AV->Prop
 | .lit _| .gl _=>True| .sl _ full=>full=false|_=>False
def PE(es:List AV):Prop:=∀e∈es,∀c∈e.cells,PC c
theorem PC.fz{c:AV}(h:PC c)(n:Nat)(hp:Hp):fz n hp c=c/\Xa n hp c/\qg n hp c=[]:=by
 cases c with
 |lit v=>cases n<;>exact⟨rfl,trivial,rfl⟩
 |gl g=>cases n<;>exact⟨rfl,trivial,rfl⟩
 |sl es full=>cases h;cases n<;>exact⟨rfl,trivial,rfl⟩
 |_=>exact h.elim
def PC.vZ{c:AV}(h:PC c)(hp:Hp):vZ hp c=c/\Kr hp c/\JR c=[]:=by cases c<;>first|exact⟨rfl,trivial,rfl⟩|exact h.elim
theorem PC.GV{c:AV}(h:PC c)(m:Bool)(τ:Nm)(hp:Hp):GV m τ hp c=c/\MO m τ hp c/\AB m τ hp c=[]:=by
 cases c with
 |lit v=>cases m<;>exact⟨rfl,trivial,rfl⟩
 |gl g=>cases m<;>exact⟨rfl,trivial,rfl⟩
 |sl es full=>cases h;cases m<;>exact⟨rfl,trivial,rfl⟩
 |_=>exact h.elim
theorem rO{f:AV->AV}{e:AV}(h:∀c∈e.cells,f c=c):cK f e=e:=by
 cases e with
 |agg cs=>have h2:∀c∈cs,f c=c:=h;simp only[cK];rw[zT h2,cC]|_=>exact h _ mS
def F7{α:Type}{f:α->α}{l:List α}(h:∀x∈l,f x=x):l.map f=l:=by rw[zT h,cC]
def LI{α β:Type}{f:α->List β}{l:List α}(h:∀x∈l,f x=[]):l.flatMap f=[]:=by rw[go];exact h
section
variable{es:List AV}(h:PE es)
include h
def PE.fz(n:Nat)(hp:Hp):es.map (cK (fz n hp))=es:=F7 fun e he=>rO fun c hc=>((h e he c hc).fz n hp).1
def PE.Xa(n:Nat)(hp:Hp):∀e∈es,∀c∈e.cells,Xa n hp c:=fun e he c hc=>((h e he c hc).fz n hp).2.1
def PE.qg(n:Nat)(hp:Hp):(es.flatMap fun e=>e.cells.flatMap (qg n hp))=[]:=LI fun e he=>LI fun c hc=>((h e he c hc).fz n hp).2.2
def PE.vZ(hp:Hp):es.map (cK (vZ hp))=es:=F7 fun e he=>rO fun c hc=>((h e he c hc).vZ hp).1
def PE.Kr(hp:Hp):∀e∈es,∀c∈e.cells,Kr hp c:=fun e he c hc=>((h e he c hc).vZ hp).2.1
def PE.uo:uo es=[]:=LI fun e he=>LI fun c hc=>((h e he c hc).vZ []).2.2
def PE.GV(m:Bool)(τ:Nm)(hp:Hp):es.map (cK (GV m τ hp))=es:=F7 fun e he=>rO fun c hc=>((h e he c hc).GV m τ hp).1
def PE.MO(m:Bool)(τ:Nm)(hp:Hp):∀e∈es,∀c∈e.cells,MO m τ hp c:=fun e he c hc=>((h e he c hc).GV m τ hp).2.1
def PE.AB(m:Bool)(τ:Nm)(hp:Hp):(es.flatMap fun e=>e.cells.flatMap (AB m τ hp))=[]:=LI fun e he=>LI fun c hc=>((h e he c hc).GV m τ hp).2.2
def PE.append{fs:List AV}(h':PE fs):PE (es++fs):=fun e he=>by
 rcases ym.1 he with he|he
 .exact h e he
 exact h' e he
def PE.tr(L:List Nat):∀e∈es,QV false L e:=fun e he c hc=>by have:=h e he c hc;cases c<;>first|trivial|exact this.elim|exact .inl rfl
end
def apD:PE []:=fun e he=>by cases he
def acI{e:AV}{es:List AV}:PE (e::es)↔(∀c∈e.cells,PC c)/\PE es:=by simp[PE]
def akc{es fs:List AV}:PE (es++fs)↔PE es/\PE fs:=by
 constructor
 .intro h;exact⟨fun e he=>h e (XI _ he),fun e he=>h e (mO _ he)⟩
 intro h;exact h.1.append h.2
def aix(l:List Int):PE (tk l):=by intro e he c hc;simp only[tk,A2]at he;obtain⟨x,_,rfl⟩:=he;simp only[AV.cells,iT]at hc;subst hc;trivial
theorem nP(l:List Int):(tk l).length=l.length:=by simp[tk]
theorem afA(l:List (List Int)):(Vu l).length=l.length:=by simp[Vu]
def ma{l:List Int}{n:Nat}(h:n<l.length):(tk l).getD n .bad=I (l.getD n 0):=by simp[tk,h]
def au{l:List (List Int)}{n:Nat}(h:n<l.length):(Vu l).getD n .bad=IS (l.getD n []):=by simp[Vu,h]
def acx(l r:List Int):tk l++tk r=tk (l++r):=by simp[tk]
def ap4{l:List Int}:∀y∈tk l,y.cells.length=1:=by intro y hy;simp only[tk,A2]at hy;obtain⟨x,_,rfl⟩:=hy;rfl
section
variable{C:Cx}{T:vp}
@[congr] theorem auq{P:Program}{T:vp}{all So:List Oper}{s s':St}{K:St->Prop}(h:s=s'):aa P T all So s K=aa P T all So s' K:=by rw[h]
@[congr] theorem auK{P:Program}{T:vp}{all So:List Oper}{s s':St}{K:St->List zy->Prop}(h:s=s'):Xm P T all So s K=Xm P T all So s' K:=by rw[h]
@[congr] theorem au7{P:Program}{T:vp}{o:Oper}{s s':St}{K:St->Prop}(h:s=s'):dQ P T o s K=dQ P T o s' K:=by rw[h]
@[congr] theorem auH{P:Program}{T:vp}{o:Oper}{s s':St}{K:AV->List Up->List Nat->Prop}(h:s=s'):Yl P T o s K=Yl P T o s' K:=by rw[h]
@[congr] theorem auz{T:vp}{o:Oper}{ev:Operand->AV}{hp:Hp}{g:Nat}:r9 T o ev hp g=r9 T o ev hp g:=rfl
@[congr] theorem auO{ms:List Nat}{rs:List zy}:J6 ms rs=J6 ms rs:=rfl
inductive O6(s:St)(hp':Hp):List (Nat×AV)->Prop
 |nil:O6 s hp' []|cons {t:Nat} {v:AV} {l:List (Nat×AV)}:L5 s.tm t=v->O6 s hp' l->O6 s hp' ((t,v)::l)|snap {t:Nat} {v:AV} {l:List (Nat×AV)}:pj s.hp (L5 s.tm t)->mH s.hp (L5 s.tm t)=v->(∀i∈ui s.hp (L5 s.tm t),hp'.get i=none)->O6 s hp' l->O6 s hp' ((t,v)::l)
inductive Zf(s:St)(hp':Hp):Hp->Prop
 |nil:Zf s hp' []|cons {i g:Nat} {ob:Ob} {l:Hp}:s.hp.get i=some (g,ob)->Zf s hp' l->Zf s hp' ((i,some (g,ob))::l)|less {i g:Nat} {ob LZ:Ob} {l:Hp}:s.hp.get i=some (g,ob)->Km s.hp hp' ob LZ->Zf s hp' l->Zf s hp' ((i,some (g,LZ))::l)|gone {i:Nat} {l:Hp}:Zf s hp' l->Zf s hp' ((i,none)::l)|opt {i:Nat} {o:Option (Nat×Ob)} {l:Hp}:s.hp.get i=o->Zf s hp' l->Zf s hp' ((i,o)::l)
theorem Zf.get{s:St}{hp' l:Hp}(h:Zf s hp' l):∀id,l.get id=none\/∃g ob LZ,s.hp.get id=some (g,ob)/\l.get id=some (g,LZ)/\Km s.hp hp' ob LZ:=by
 induction h with
 |nil=>exact fun _=>.inl rfl|@cons i g ob l h _ ih=>
  intro id;simp only[Hp.get];by_cases hi:i=id
  .subst hi;rw[iP rfl];exact .inr ⟨g,ob,ob,h,rfl,.same ob⟩
  rw[iN hi];exact ih id
 |@less i g ob LZ l h h2 _ ih=>
  intro id;simp only[Hp.get];by_cases hi:i=id
  .subst hi;rw[iP rfl];exact .inr ⟨g,ob,LZ,h,rfl,h2⟩
  rw[iN hi];exact ih id
 |@gone i l _ ih=>
  intro id;simp only[Hp.get];by_cases hi:i=id
  .subst hi;rw[iP rfl];exact .inl rfl
  rw[iN hi];exact ih id
 |@opt i o l h _ ih=>
  intro id;simp only[Hp.get];by_cases hi:i=id
  .subst hi;rw[iP rfl];cases o with
   |none=>exact .inl rfl|some q=>exact .inr ⟨q.1,q.2,q.2,h,rfl,.same _⟩
  rw[iN hi];exact ih id
theorem O6.get{s:St}{hp':Hp}{l:List (Nat×AV)}(h:O6 s hp' l):∀t,L5 l t=.bad\/L5 l t=L5 s.tm t\/
  (pj s.hp (L5 s.tm t)/\L5 l t=mH s.hp (L5 s.tm t)/\∀i∈ui s.hp (L5 s.tm t),hp'.get i=none):=by
 induction h with
 |nil=>exact fun _=>.inl rfl|@cons i x l h _ ih=>
  intro id;simp only[L5];by_cases hi:i=id
  .subst hi;rw[iP rfl];exact .inr (.inl h.symm)
  rw[iN hi];exact ih id
 |@snap i x l h1 h2 h3 _ ih=>
  intro id;simp only[L5];by_cases hi:i=id
  .subst hi;rw[iP rfl];exact .inr (.inr ⟨h1,h2.symm,h3⟩)
  rw[iN hi];exact ih id
def Kd.of{s s':St}(hc:s.ck<=s'.ck)(hh:Zf s s'.hp s'.hp)(ht:O6 s s'.hp s'.tm):Kd s s':=⟨hc,hh.get,ht.get⟩
theorem PV{ι:Type}{c:Code}{Q:Exit->St->Prop}{s:St}(inv:ι->St)(ok:ι->Prop)(m:ι->Nat)(i0:ι)(h0:ok i0)(hw:Kd s (inv i0))(round:∀i,ok i->Ex C c (AI (fun s'=>∃j,ok j/\m j<m i/\Kd s' (inv j)) Q) (inv i)):Ex C (.loop c) Q s:=by
 refine AR hw (ard inv ok m i0 h0 fun i hi=>ii (round i hi) ?_);intro e s' h;cases e with
 |normal=>obtain⟨j,h1,h2,h3⟩:=h;exact⟨j,h1,h2,fun a w hr=>h3.rel hr⟩
 |_=>exact h
def MI{c:Operand}{x y:Code}{Q:Exit->St->Prop}{s:St}(p:Prop)[Decidable p](hc:s.ev c=.lit (.bool (decide p)))(ht:p->Ex C x Q s)(hf:¬p->Ex C y Q s):
  Ex C (.cond c x y) Q s:=
 rV (decide p) hc (fun h=>ht A6) fun h=>hf A6
end
open Go Go.Great
def fin(r:R)(dst:Option Nat)(s:St)(K:St->Prop):Prop:=r.1/\K (s.put dst r.2.1 r.2.2)
def FU(r:R)(acc:List Nat)(K:AV->List Up->List Nat->Prop):Prop:=r.1/\K r.2.1 r.2.2 acc
@[congr] theorem auG{r r':R}{dst:Option Nat}{s:St}{K:St->Prop}(h:r=r'):fin r dst s K=fin r' dst s K:=by rw[h]
@[congr] theorem aut{r r':R}{acc:List Nat}{K:AV->List Up->List Nat->Prop}(h:r=r'):FU r acc K=FU r' acc K:=by rw[h]
def vt(P:Program)(T:vp)(all:List Oper)(o:Oper)(So:List Oper)(s:St)(K:St->Prop):Prop:=dQ P T o s fun s'=>aa P T all So s' K
def F5(P:Program)(T:vp)(r:R)(dst:Option Nat)(all So:List Oper)(s:St)(K:St->Prop):Prop:=r.1/\aa P T all So (s.put dst r.2.1 r.2.2) K
def nU(P:Program)(T:vp)(f:FuncId)(g:Nat)(hp:Hp)(vs:List AV)(dst:Option Nat)(all So:List Oper)(s:St)(K:St->Prop):Prop:=
 J8 P T f g hp vs fun v z7 _=>aa P T all So (s.put dst v z7) K
def nt(P:Program)(T:vp)(v:AV)(g:Nat)(hp:Hp)(vs:List AV)(dst:Option Nat)(all So:List Oper)(s:St)(K:St->Prop):Prop:=
 match mL v vs with
 |some (fid,vs)=>nU P T fid g hp vs dst all So s K|none=>False
theorem aq0{P:Program}{T:vp}{fid g:Nat}{caps:List AV}{hp:Hp}{vs:List AV}{dst:Option Nat}{all So:List Oper}{s:St}{K:St->Prop}:
  nt P T (.fn fid caps) g hp vs dst all So s K=nU P T fid g hp (vs++caps) dst all So s K:=propext ⟨fun h=>h,fun h=>h⟩
def zm(P:Program)(T:vp)(all So:List Oper)(s:St)(acc:List zy)(K:St->List zy->Prop):Prop:=Xm P T all So s fun s' rs=>K s' (acc++rs)
def bI(P:Program)(T:vp)(all:List Oper)(o:Oper)(So:List Oper)(s:St)(acc:List zy)(K:St->List zy->Prop):Prop:=
 Yl P T o s fun v z7 a=>zm P T all So (s.put o.dst v z7) (acc++[(z7.map (·.1),a)]) K
def ud(P:Program)(T:vp)(r:R)(a:List Nat)(dst:Option Nat)(all So:List Oper)(s:St)(acc:List zy)(K:St->List zy->Prop):Prop:=
 r.1/\zm P T all So (s.put dst r.2.1 r.2.2) (acc++[(r.2.2.map (·.1),a)]) K
def BB(P:Program)(T:vp)(f:FuncId)(g:Nat)(hp:Hp)(vs:List AV)(dst:Option Nat)(all So:List Oper)(s:St)(acc:List zy)(K:St->List zy->Prop):Prop:=
 J8 P T f g hp vs fun v z7 a=>zm P T all So (s.put dst v z7) (acc++[(z7.map (·.1),a)]) K
theorem Mm{P:Program}{T:vp}{p:Prop}{v:AV}{z7:List Up}{dst:Option Nat}{all So:List Oper}{s:St}{K:St->Prop}:F5 P T (p,v,z7) dst all So s K=(p/\aa P T all So (s.put dst v z7) K):=propext ⟨fun h=>h,fun h=>h⟩
theorem Xq{P:Program}{T:vp}{p:Prop}{v:AV}{z7:List Up}{a:List Nat}{dst:Option Nat}{all So:List Oper}{s:St}{acc:List zy}{K:St->List zy->Prop}:ud P T (p,v,z7) a dst all So s acc K=(p/\zm P T all So (s.put dst v z7) (acc++[(z7.map (·.1),a)]) K):=propext ⟨fun h=>h,fun h=>h⟩
def gv(tm:List (Nat×AV)):Option Nat->Option AV
 |some d=>some (L5 tm d)|none=>none
theorem pz{tm:List (Nat×AV)}{d:Nat}:gv tm (some d)=some (L5 tm d):=rfl
theorem DP(tm:List (Nat×AV)):∀o:Option Nat,o.map (L5 tm)=gv tm o
 |some _=>rfl|none=>rfl
def GO(P:Program)(T:vp)(x:Option AV)(want:Bool)(all:List Oper)(o:Oper)(So:List Oper)(s:St)(K:St->Prop):Prop:=
 GM x want (vt P T all o So s K) (aa P T all So (s.put o.dst (.F1 []) []) K)
def X'(P:Program)(T:vp)(x:Option AV)(want:Bool)(all:List Oper)(o:Oper)(So:List Oper)(s:St)(acc:List zy)(K:St->List zy->Prop):Prop:=
 GM x want (bI P T all o So s acc K) (zm P T all So (s.put o.dst (.F1 []) []) (acc++[([],[])]) K)
section
variable{P:Program}{T:vp}{all So:List Oper}{o:Oper}{s:St}{K:St->Prop}{acc:List zy}{KD:St->List zy->Prop}{want:Bool}
theorem ER:GO P T (some (.lit (.bool true))) true all o So s K=vt P T all o So s K:=by simp[GO,GM,GK]
theorem pQ:GO P T (some (.lit (.bool false))) false all o So s K=vt P T all o So s K:=by simp[GO,GM,GK]
theorem vw:GO P T (some (.lit (.bool true))) false all o So s K=aa P T all So (s.put o.dst (.F1 []) []) K:=by simp[GO,GM,GK]
theorem q_:GO P T (some (.lit (.bool false))) true all o So s K=aa P T all So (s.put o.dst (.F1 []) []) K:=by simp[GO,GM,GK]
theorem Da:GO P T (some (.F1 [])) want all o So s K=aa P T all So (s.put o.dst (.F1 []) []) K:=propext ⟨fun h=>h,fun h=>h⟩
theorem zI:X' P T (some (.lit (.bool true))) true all o So s acc KD=bI P T all o So s acc KD:=by simp[X',GM,GK]
theorem mJ:X' P T (some (.lit (.bool false))) false all o So s acc KD=bI P T all o So s acc KD:=by simp[X',GM,GK]
theorem IT:X' P T (some (.lit (.bool true))) false all o So s acc KD=zm P T all So (s.put o.dst (.F1 []) []) (acc++[([],[])]) KD:=by simp[X',GM,GK]
theorem YP:X' P T (some (.lit (.bool false))) true all o So s acc KD=zm P T all So (s.put o.dst (.F1 []) []) (acc++[([],[])]) KD:=by simp[X',GM,GK]
end
section
variable{P:Program}{T:vp}{dst:Option Nat}{type:TypeId}{pos:String}{after:Array Edge}{guard:Option (Nat×Bool)}{s:St}{all So:List Oper}{K:St->Prop}{acc:List zy}{KD:St->List zy->Prop}
theorem ah4(x:Operand):vt P T all ⟨dst,.move x,type,pos,after,guard⟩ So s K=F5 P T (.val True (s.ev x)) dst all So s K:=propext ⟨fun h=>h,fun h=>h⟩
theorem aoK(x:Operand):bI P T all ⟨dst,.move x,type,pos,after,guard⟩ So s acc KD=ud P T (.val True (s.ev x)) ([]++[]) dst all So s acc KD:=propext ⟨fun h=>h,fun h=>h⟩
theorem ahE(c a b:Operand):vt P T all ⟨dst,.pick c a b,type,pos,after,guard⟩ So s K=F5 P T ((match s.ev c with| .lit (.bool c)=>.val True (if c then s.ev a else s.ev b)|_=>.no)) dst all So s K:=propext ⟨fun h=>h,fun h=>h⟩
theorem anj(c a b:Operand):bI P T all ⟨dst,.pick c a b,type,pos,after,guard⟩ So s acc KD=ud P T ((match s.ev c with| .lit (.bool c)=>.val True (if c then s.ev a else s.ev b)|_=>.no)) (((Op.operands (.pick c a b)).toList.flatMap fun x=>H9 (s.ev x))++[]) dst all So s acc KD:=propext ⟨fun h=>h,fun h=>h⟩
theorem aox(op:BinOp)(t:TypeId)(x y:Operand)(u:TypeId):vt P T all ⟨dst,.binOp op t x y u,type,pos,after,guard⟩ So s K=F5 P T (Bp (K4 y) op (tl T t) (s.ev x) (gW (Cb y) op (tl T t) (s.ev x) (s.ev y))) dst all So s K:=propext ⟨fun h=>h,fun h=>h⟩
theorem ajT(op:BinOp)(t:TypeId)(x y:Operand)(u:TypeId):bI P T all ⟨dst,.binOp op t x y u,type,pos,after,guard⟩ So s acc KD=ud P T (Bp (K4 y) op (tl T t) (s.ev x) (gW (Cb y) op (tl T t) (s.ev x) (s.ev y))) (((Op.operands (.binOp op t x y u)).toList.flatMap fun x=>H9 (s.ev x))++[]) dst all So s acc KD:=propext ⟨fun h=>h,fun h=>h⟩
theorem acQ(t:TypeId):vt P T all ⟨dst,.makeMap t none,type,pos,after,guard⟩ So s K=F5 P T ((True,.Ic (100+dst.getD 0) s.ck,[((100+dst.getD 0),some (s.ck,if Jc T t then .ms [] else .mp []))])) dst all So s K:=propext ⟨fun h=>h,fun h=>h⟩
theorem anJ(t:TypeId)(m k:Operand):vt P T all ⟨dst,.lookup t m k false,type,pos,after,guard⟩ So s K=F5 P T (Pp T t s.hp (s.ev m) (s.ev k)) dst all So s K:=propext ⟨fun h=>h,fun h=>h⟩
theorem apF(t:TypeId)(m k:Operand):vt P T all ⟨dst,.lookup t m k true,type,pos,after,guard⟩ So s K=F5 P T (Cv T t s.hp (s.ev m) (s.ev k)) dst all So s K:=propext ⟨fun h=>h,fun h=>h⟩
theorem aui(t:TypeId)(m k v:Operand):vt P T all ⟨dst,.mapUpdate t m k v,type,pos,after,guard⟩ So s K=F5 P T ((if Jc T t then XE T t s.hp (s.ev m) (s.ev k) (s.ev v) else aW T t s.hp (s.ev m) (s.ev k) (s.ev v))) dst all So s K:=propext ⟨fun h=>h,fun h=>h⟩
theorem ao4(t:TypeId)(m k v:Operand):bI P T all ⟨dst,.mapUpdate t m k v,type,pos,after,guard⟩ So s acc KD=ud P T ((if Jc T t then XE T t s.hp (s.ev m) (s.ev k) (s.ev v) else aW T t s.hp (s.ev m) (s.ev k) (s.ev v))) (((Op.operands (.mapUpdate t m k v)).toList.flatMap fun x=>H9 (s.ev x))++[]) dst all So s acc KD:=propext ⟨fun h=>h,fun h=>h⟩
theorem amg(t:TypeId)(x:Operand):vt P T all ⟨dst,.unOp .not t x,type,pos,after,guard⟩ So s K=F5 P T ((match s.ev x with| .lit (.bool b)=>.val True (.lit (.bool (!b)))|_=>.no)) dst all So s K:=propext ⟨fun h=>h,fun h=>h⟩
theorem abA(t:TypeId)(x:Operand):bI P T all ⟨dst,.unOp .not t x,type,pos,after,guard⟩ So s acc KD=ud P T ((match s.ev x with| .lit (.bool b)=>.val True (.lit (.bool (!b)))|_=>.no)) (((Op.operands (.unOp .not t x)).toList.flatMap fun x=>H9 (s.ev x))++[]) dst all So s acc KD:=propext ⟨fun h=>h,fun h=>h⟩
theorem aiv(t:TypeId)(x:Operand):vt P T all ⟨dst,.unOp .neg t x,type,pos,after,guard⟩ So s K=F5 P T ((match s.ev x with| .lit (.int k n)=>b6 k (0-n)|_=>.no)) dst all So s K:=propext ⟨fun h=>h,fun h=>h⟩
theorem afL(x:Operand):vt P T all ⟨dst,.nilCheck x,type,pos,after,guard⟩ So s K=F5 P T ((match s.ev x with| .gl n=>.val True (.gl n)| .P cs=>.val True (.P cs)| .p id g n i off=>.val (s.hp.has id g n) (.p id g n i off)|_=>.no)) dst all So s K:=propext ⟨fun h=>h,fun h=>h⟩
theorem ajH(x:Operand):bI P T all ⟨dst,.nilCheck x,type,pos,after,guard⟩ So s acc KD=ud P T ((match s.ev x with| .gl n=>.val True (.gl n)| .P cs=>.val True (.P cs)| .p id g n i off=>.val (s.hp.has id g n) (.p id g n i off)|_=>.no)) (((Op.operands (.nilCheck x)).toList.flatMap fun x=>H9 (s.ev x))++[]) dst all So s acc KD:=propext ⟨fun h=>h,fun h=>h⟩
theorem aaN(x:Operand)(i:Nat):vt P T all ⟨dst,.extract x i,type,pos,after,guard⟩ So s K=F5 P T ((match s.ev x with| .F1 vs=>.val (i<vs.length) (vs.getD i .bad)|_=>.no)) dst all So s K:=propext ⟨fun h=>h,fun h=>h⟩
theorem aky(x:Operand)(i:Nat):bI P T all ⟨dst,.extract x i,type,pos,after,guard⟩ So s acc KD=ud P T ((match s.ev x with| .F1 vs=>.val (i<vs.length) (vs.getD i .bad)|_=>.no)) ([]++[]) dst all So s acc KD:=propext ⟨fun h=>h,fun h=>h⟩
theorem aro(t:TypeId)(x:Operand):vt P T all ⟨dst,.load t x,type,pos,after,guard⟩ So s K=F5 P T (YU (tl T t) (100+dst.getD 0) s.ck s.hp (Hm T (s.ev x))) dst all So s K:=propext ⟨fun h=>h,fun h=>h⟩
theorem atI(t:TypeId)(x:Operand):bI P T all ⟨dst,.load t x,type,pos,after,guard⟩ So s acc KD=ud P T (YU (tl T t) (100+dst.getD 0) s.ck s.hp (Hm T (s.ev x))) (((Op.operands (.load t x)).toList.flatMap fun x=>H9 (s.ev x))++[]) dst all So s acc KD:=propext ⟨fun h=>h,fun h=>h⟩
theorem abi(t:TypeId)(x y:Operand):vt P T all ⟨dst,.store t x y,type,pos,after,guard⟩ So s K=F5 P T (dc (tl T t) s.hp (s.ev y) (s.ev x)) dst all So s K:=propext ⟨fun h=>h,fun h=>h⟩
theorem ar6(t:TypeId)(x y:Operand):bI P T all ⟨dst,.store t x y,type,pos,after,guard⟩ So s acc KD=ud P T (dc (tl T t) s.hp (s.ev y) (s.ev x)) (((Op.operands (.store t x y)).toList.flatMap fun x=>H9 (s.ev x))++[]) dst all So s acc KD:=propext ⟨fun h=>h,fun h=>h⟩
theorem abq(t:TypeId)(x y:Operand):vt P T all ⟨dst,.indexAddr t x y,type,pos,after,guard⟩ So s K=F5 P T (pb (tl T t) (tl T (Sym.elemOf T t)) s.hp (Hm T (s.ev x)) (s.ev y)) dst all So s K:=propext ⟨fun h=>h,fun h=>h⟩
theorem ae3(t:TypeId)(x y:Operand):bI P T all ⟨dst,.indexAddr t x y,type,pos,after,guard⟩ So s acc KD=ud P T (pb (tl T t) (tl T (Sym.elemOf T t)) s.hp (Hm T (s.ev x)) (s.ev y)) (((Op.operands (.indexAddr t x y)).toList.flatMap fun x=>H9 (s.ev x))++[]) dst all So s acc KD:=propext ⟨fun h=>h,fun h=>h⟩
theorem adp(t:TypeId)(x:Operand)(i:Nat):vt P T all ⟨dst,.fieldAddr t x i,type,pos,after,guard⟩ So s K=F5 P T (ta T t i s.hp (Hm T (s.ev x))) dst all So s K:=propext ⟨fun h=>h,fun h=>h⟩
theorem ahU(t:TypeId)(x:Operand)(i:Nat):bI P T all ⟨dst,.fieldAddr t x i,type,pos,after,guard⟩ So s acc KD=ud P T (ta T t i s.hp (Hm T (s.ev x))) (((Op.operands (.fieldAddr t x i)).toList.flatMap fun x=>H9 (s.ev x))++[]) dst all So s acc KD:=propext ⟨fun h=>h,fun h=>h⟩
theorem afa(t:TypeId)(x y:Operand):vt P T all ⟨dst,.index t x y,type,pos,after,guard⟩ So s K=F5 P T (sX T t (s.ev x) (s.ev y)) dst all So s K:=propext ⟨fun h=>h,fun h=>h⟩
theorem adh(t:TypeId)(x:Operand)(lo hi mx:Option Operand):vt P T all ⟨dst,.slice t x lo hi mx,type,pos,after,guard⟩ So s K=F5 P T (P3 T t s.ck s.hp (lo.map s.ev) (hi.map s.ev) (mx.map s.ev) (s.ev x)) dst all So s K:=propext ⟨fun h=>h,fun h=>h⟩
theorem amd(t:TypeId)(x:Operand)(lo hi mx:Option Operand):bI P T all ⟨dst,.slice t x lo hi mx,type,pos,after,guard⟩ So s acc KD=ud P T (P3 T t s.ck s.hp (lo.map s.ev) (hi.map s.ev) (mx.map s.ev) (s.ev x)) (((Op.operands (.slice t x lo hi mx)).toList.flatMap fun x=>H9 (s.ev x))++[]) dst all So s acc KD:=propext ⟨fun h=>h,fun h=>h⟩
theorem asT(f:FuncId)(caps:Array Operand):vt P T all ⟨dst,.makeFunc (.func f) #[] caps,type,pos,after,guard⟩ So s K=F5 P T (.val True (.fn f (caps.toList.map s.ev))) dst all So s K:=propext ⟨fun h=>h,fun h=>h⟩
theorem aqK(f:FuncId)(caps:Array Operand):bI P T all ⟨dst,.makeFunc (.func f) #[] caps,type,pos,after,guard⟩ So s acc KD=ud P T (.val True (.fn f (caps.toList.map s.ev))) (((Op.operands (.makeFunc (.func f) #[] caps)).toList.flatMap fun x=>H9 (s.ev x))++[]) dst all So s acc KD:=propext ⟨fun h=>h,fun h=>h⟩
theorem ahF(t:TypeId)(l c:Operand):vt P T all ⟨dst,.makeSlice t l c,type,pos,after,guard⟩ So s K=F5 P T ((match (tl T t).ty,s.ev l,s.ev c with
  | .slice e,.lit (.int _ l),.lit (.int _ c)=>(0<=l/\l<=c/\c*(tl T e).bytes<=140737488355328/\c<=9223372036854775807/\(tl T e).size≠0,.l (100+dst.getD 0) s.ck 0 l.toNat,[((100+dst.getD 0),some (s.ck,.own e (tl T e).size (List.replicate l.toNat (tl T e).OR)))])
  |_,_,_=>.no)) dst all So s K:=propext ⟨fun h=>h,fun h=>h⟩
theorem apm(t:TypeId)(l c:Operand):bI P T all ⟨dst,.makeSlice t l c,type,pos,after,guard⟩ So s acc KD=ud P T ((match (tl T t).ty,s.ev l,s.ev c with
  | .slice e,.lit (.int _ l),.lit (.int _ c)=>(0<=l/\l<=c/\c*(tl T e).bytes<=140737488355328/\c<=9223372036854775807/\(tl T e).size≠0,.l (100+dst.getD 0) s.ck 0 l.toNat,[((100+dst.getD 0),some (s.ck,.own e (tl T e).size (List.replicate l.toNat (tl T e).OR)))])
  |_,_,_=>.no)) (((Op.operands (.makeSlice t l c)).toList.flatMap fun x=>H9 (s.ev x))++[]) dst all So s acc KD:=propext ⟨fun h=>h,fun h=>h⟩
theorem asw(t:TypeId)(n:Nat)(ps:Array (Nat×Operand)):vt P T all ⟨dst,.buildSlice t n ps,type,pos,after,guard⟩ So s K=F5 P T ((match (tl T t).ty with
  | .slice el=>
  (HY n ps.toList=true/\(tl T el).size≠0/\n*(tl T el).size<=16777216/\(∀v∈ps.toList.map fun p=>s.ev p.2,v.cells.length=(tl T el).size/\∀c∈v.cells,c.one=true/\c.Je=true),
   .l (100+dst.getD 0) s.ck 0 n,[((100+dst.getD 0),some (s.ck,.own el (tl T el).size (ps.toList.map fun p=>s.ev p.2)))])
  |_=>.no)) dst all So s K:=propext ⟨fun h=>h,fun h=>h⟩
theorem agk(t:TypeId)(n:Nat)(ps:Array (Nat×Operand)):bI P T all ⟨dst,.buildSlice t n ps,type,pos,after,guard⟩ So s acc KD=ud P T ((match (tl T t).ty with
  | .slice el=>
  (HY n ps.toList=true/\(tl T el).size≠0/\n*(tl T el).size<=16777216/\(∀v∈ps.toList.map fun p=>s.ev p.2,v.cells.length=(tl T el).size/\∀c∈v.cells,c.one=true/\c.Je=true),
   .l (100+dst.getD 0) s.ck 0 n,[((100+dst.getD 0),some (s.ck,.own el (tl T el).size (ps.toList.map fun p=>s.ev p.2)))])
  |_=>.no)) (((Op.operands (.buildSlice t n ps)).toList.flatMap fun x=>H9 (s.ev x))++[]) dst all So s acc KD:=propext ⟨fun h=>h,fun h=>h⟩
theorem agR(t:TypeId):vt P T all ⟨dst,.alloc t,type,pos,after,guard⟩ So s K=F5 P T ((match (tl T t).ty with
  | .ra e=>((tl T t).size≠0/\(tl T t).zs=[.ptr,.sl]/\(tl T t).agg=true,.p (100+dst.getD 0) s.ck 0 0 0,[((100+dst.getD 0),some (s.ck,.bd t e []))])
  |_=>((tl T t).size≠0,.p (100+dst.getD 0) s.ck 0 0 0,[((100+dst.getD 0),some (s.ck,.box (tl T t).OR.cells))]))) dst all So s K:=propext ⟨fun h=>h,fun h=>h⟩
theorem aoZ(t:TypeId):bI P T all ⟨dst,.alloc t,type,pos,after,guard⟩ So s acc KD=ud P T ((match (tl T t).ty with
  | .ra e=>((tl T t).size≠0/\(tl T t).zs=[.ptr,.sl]/\(tl T t).agg=true,.p (100+dst.getD 0) s.ck 0 0 0,[((100+dst.getD 0),some (s.ck,.bd t e []))])
  |_=>((tl T t).size≠0,.p (100+dst.getD 0) s.ck 0 0 0,[((100+dst.getD 0),some (s.ck,.box (tl T t).OR.cells))]))) (((Op.operands (.alloc t)).toList.flatMap fun x=>H9 (s.ev x))++[]) dst all So s acc KD:=propext ⟨fun h=>h,fun h=>h⟩
theorem agu(t:TypeId)(x:Operand):vt P T all ⟨dst,.box t x,type,pos,after,guard⟩ So s K=F5 P T ((((s.ev x).cells.length=(tl T t).size/\∀c∈(s.ev x).cells,c.one=true/\c.Je=true),.p (100+dst.getD 0) s.ck 0 0 0,[((100+dst.getD 0),some (s.ck,.box (s.ev x).cells))])) dst all So s K:=propext ⟨fun h=>h,fun h=>h⟩
theorem ajn(t:TypeId)(x:Operand):bI P T all ⟨dst,.box t x,type,pos,after,guard⟩ So s acc KD=ud P T ((((s.ev x).cells.length=(tl T t).size/\∀c∈(s.ev x).cells,c.one=true/\c.Je=true),.p (100+dst.getD 0) s.ck 0 0 0,[((100+dst.getD 0),some (s.ck,.box (s.ev x).cells))])) (((Op.operands (.box t x)).toList.flatMap fun x=>H9 (s.ev x))++[]) dst all So s acc KD:=propext ⟨fun h=>h,fun h=>h⟩
theorem anl(t:TypeId)(ps:Array (Nat×Operand)):vt P T all ⟨dst,.build t ps,type,pos,after,guard⟩ So s K=F5 P T ((match (tl T t).ty with
  | .struct fs=>
   (∀p∈ps.toList,p.1<fs.length/\(tl T (fs.getD p.1 (0,0)).2).size≠0/\(s.ev p.2).cells.length=(tl T (fs.getD p.1 (0,0)).2).size/\(fs.getD p.1 (0,0)).1+(tl T (fs.getD p.1 (0,0)).2).size<=(tl T t).size/\(∀c∈(s.ev p.2).cells,c.one=true),
    .agg (ps.toList.foldl (fun cs p=>Wj cs (fs.getD p.1 (0,0)).1 (s.ev p.2).cells) ((tl T t).zs.map ZC.av)),[])
  | .array n el=>
   (ps.toList≠[]/\∀p∈ps.toList,p.1<n/\(tl T el).size≠0/\(s.ev p.2).cells.length=(tl T el).size/\p.1*(tl T el).size+(tl T el).size<=(tl T t).size/\(∀c∈(s.ev p.2).cells,c.one=true),
    .agg (ps.toList.foldl (fun cs p=>Wj cs (p.1*(tl T el).size) (s.ev p.2).cells) ((tl T t).zs.map ZC.av)),[])
  |_=>.no)) dst all So s K:=propext ⟨fun h=>h,fun h=>h⟩
theorem atM(t:TypeId)(ps:Array (Nat×Operand)):bI P T all ⟨dst,.build t ps,type,pos,after,guard⟩ So s acc KD=ud P T ((match (tl T t).ty with
  | .struct fs=>
   (∀p∈ps.toList,p.1<fs.length/\(tl T (fs.getD p.1 (0,0)).2).size≠0/\(s.ev p.2).cells.length=(tl T (fs.getD p.1 (0,0)).2).size/\(fs.getD p.1 (0,0)).1+(tl T (fs.getD p.1 (0,0)).2).size<=(tl T t).size/\(∀c∈(s.ev p.2).cells,c.one=true),
    .agg (ps.toList.foldl (fun cs p=>Wj cs (fs.getD p.1 (0,0)).1 (s.ev p.2).cells) ((tl T t).zs.map ZC.av)),[])
  | .array n el=>
   (ps.toList≠[]/\∀p∈ps.toList,p.1<n/\(tl T el).size≠0/\(s.ev p.2).cells.length=(tl T el).size/\p.1*(tl T el).size+(tl T el).size<=(tl T t).size/\(∀c∈(s.ev p.2).cells,c.one=true),
    .agg (ps.toList.foldl (fun cs p=>Wj cs (p.1*(tl T el).size) (s.ev p.2).cells) ((tl T t).zs.map ZC.av)),[])
  |_=>.no)) (((Op.operands (.build t ps)).toList.flatMap fun x=>H9 (s.ev x))++[]) dst all So s acc KD:=propext ⟨fun h=>h,fun h=>h⟩
theorem akn(t u:TypeId)(x:Operand):vt P T all ⟨dst,.convert t u x,type,pos,after,guard⟩ So s K=F5 P T ((match (tl T t).ty,(tl T u).ty,s.ev x with
  | .int _,.int k,.lit (.int _ n)=>.val True (.lit (.int k (k.wrap n)))| .str,.slice e,.lit (.string b)=>match (tl T e).ty with
   | .int .u8=>(b.data.toList.length<=9223372036854775807/\e=5,.l (100+dst.getD 0) s.ck 0 b.data.toList.length,[((100+dst.getD 0),some (s.ck,.own e 1 (b.data.toList.map Kk)))])|_=>.no
  | .slice e,.str,v=>match (tl T e).ty,Ym s.hp v with
   | .int .u8,some ys=>match bytesOf ys with
    |some bs=>.val (HN s.hp v) (.lit (.string (strOf bs)))|none=>.no
   |_,_=>.no
  |_,_,_=>.no)) dst all So s K:=propext ⟨fun h=>h,fun h=>h⟩
theorem ana(x:Operand)(t:TypeId):vt P T all ⟨dst,.call {callee:=.builtin .len,args:=#[x],argTypes:=#[t]},type,pos,after,guard⟩ So s K=F5 P T (Ey T t s.hp (s.ev x)) dst all So s K:=propext ⟨fun h=>h,fun h=>h⟩
theorem acj(x:Operand)(t:TypeId):bI P T all ⟨dst,.call {callee:=.builtin .len,args:=#[x],argTypes:=#[t]},type,pos,after,guard⟩ So s acc KD=ud P T (Ey T t s.hp (s.ev x)) (((Op.operands (.call {callee:=.builtin .len,args:=#[x],argTypes:=#[t]})).toList.flatMap fun x=>H9 (s.ev x))++[]) dst all So s acc KD:=propext ⟨fun h=>h,fun h=>h⟩
theorem aiy(d x:Operand)(t u:TypeId):vt P T all ⟨dst,.call {callee:=.builtin .append,args:=#[d,x],argTypes:=#[t,u]},type,pos,after,guard⟩ So s K=F5 P T ((match (tl T t).ty with| .slice _=>(u=t/\(nL T t (100+dst.getD 0) s.ck s.hp (s.ev d) (s.ev x)).1,(nL T t (100+dst.getD 0) s.ck s.hp (s.ev d) (s.ev x)).2)|_=>.no)) dst all So s K:=propext ⟨fun h=>h,fun h=>h⟩
theorem ag2(d x:Operand)(t u:TypeId):bI P T all ⟨dst,.call {callee:=.builtin .append,args:=#[d,x],argTypes:=#[t,u]},type,pos,after,guard⟩ So s acc KD=ud P T ((match (tl T t).ty with| .slice _=>(u=t/\(nL T t (100+dst.getD 0) s.ck s.hp (s.ev d) (s.ev x)).1,(nL T t (100+dst.getD 0) s.ck s.hp (s.ev d) (s.ev x)).2)|_=>.no)) (((Op.operands (.call {callee:=.builtin .append,args:=#[d,x],argTypes:=#[t,u]})).toList.flatMap fun x=>H9 (s.ev x))++Vz s.hp (s.ev x)) dst all So s acc KD:=propext ⟨fun h=>h,fun h=>h⟩
theorem abX(d:Operand)(t:TypeId):vt P T all ⟨dst,.call {callee:=.builtin .clear,args:=#[d],argTypes:=#[t]},type,pos,after,guard⟩ So s K=F5 P T (B4 T t s.hp (s.ev d)) dst all So s K:=propext ⟨fun h=>h,fun h=>h⟩
def auV(d x:Operand)(t u:TypeId):vt P T all ⟨dst,.call {callee:=.builtin .min,args:=#[d,x],argTypes:=#[t,u]},type,pos,after,guard⟩ So s K=F5 P T ((match s.ev d,s.ev x with| .lit (.int k a),.lit (.int _ b)=>.val True (.lit (.int k (if b<a then b else a)))|_,_=>.no)) dst all So s K:=propext ⟨fun h=>h,fun h=>h⟩
theorem asW(d x:Operand)(t u:TypeId):bI P T all ⟨dst,.call {callee:=.builtin .min,args:=#[d,x],argTypes:=#[t,u]},type,pos,after,guard⟩ So s acc KD=ud P T ((match s.ev d,s.ev x with| .lit (.int k a),.lit (.int _ b)=>.val True (.lit (.int k (if b<a then b else a)))|_,_=>.no)) (((Op.operands (.call {callee:=.builtin .min,args:=#[d,x],argTypes:=#[t,u]})).toList.flatMap fun x=>H9 (s.ev x))++[]) dst all So s acc KD:=propext ⟨fun h=>h,fun h=>h⟩
theorem amQ(d x:Operand)(t u:TypeId):vt P T all ⟨dst,.call {callee:=.builtin .max,args:=#[d,x],argTypes:=#[t,u]},type,pos,after,guard⟩ So s K=F5 P T ((match s.ev d,s.ev x with| .lit (.int k a),.lit (.int _ b)=>.val True (.lit (.int k (if a<b then b else a)))|_,_=>.no)) dst all So s K:=propext ⟨fun h=>h,fun h=>h⟩
theorem anz(t:Nat):vt P T all ⟨dst,.assign (.tmp t),type,pos,after,guard⟩ So s K=F5 P T (.val True (s.ev (.tmp t))) dst all So s K:=propext ⟨fun h=>h,fun h=>h⟩
theorem ahH(t:Nat):bI P T all ⟨dst,.assign (.tmp t),type,pos,after,guard⟩ So s acc KD=ud P T (.val True (s.ev (.tmp t))) (((Op.operands (.assign (.tmp t))).toList.flatMap fun x=>H9 (s.ev x))++[]) dst all So s acc KD:=propext ⟨fun h=>h,fun h=>h⟩
theorem arU(t:Nat):vt P T all ⟨dst,.assign (.func t),type,pos,after,guard⟩ So s K=F5 P T (.val True (s.ev (.func t))) dst all So s K:=propext ⟨fun h=>h,fun h=>h⟩
theorem apv(v:Value):vt P T all ⟨dst,.assign (.const v),type,pos,after,guard⟩ So s K=
  F5 P T (match Operand.const v,(tl T type).ty with
  | .const (.slice none 0 0),.slice e=>((tl T e).size≠0,.l (100+dst.getD 0) s.ck 0 0,[((100+dst.getD 0),some (s.ck,.own e (tl T e).size []))])
  |_,_=>.val True (s.ev (.const v))) dst all So s K:=propext ⟨fun h=>h,fun h=>h⟩
theorem ang(v:Value):bI P T all ⟨dst,.assign (.const v),type,pos,after,guard⟩ So s acc KD=
  ud P T (match Operand.const v,(tl T type).ty with
  | .const (.slice none 0 0),.slice e=>((tl T e).size≠0,.l (100+dst.getD 0) s.ck 0 0,[((100+dst.getD 0),some (s.ck,.own e (tl T e).size []))])
  |_,_=>.val True (s.ev (.const v))) (((Op.operands (.assign (.const v))).toList.flatMap fun x=>H9 (s.ev x))++[]) dst all So s acc KD:=propext ⟨fun h=>h,fun h=>h⟩
theorem aev(f:FuncId)(args:Array Operand)(at_:Array TypeId):vt P T all ⟨dst,.call {callee:=.value (.func f),args:=args,argTypes:=at_},type,pos,after,guard⟩ So s K=
  nU P T f s.ck s.hp (args.toList.map s.ev) dst all So s K:=by
 simp only[vt,nU,dQ,St.ev,rA,mL,MP]
theorem aj8(t:Nat)(args:Array Operand)(at_:Array TypeId):vt P T all ⟨dst,.call {callee:=.value (.tmp t),args:=args,argTypes:=at_},type,pos,after,guard⟩ So s K=
  nt P T (s.ev (.tmp t)) s.ck s.hp (args.toList.map s.ev) dst all So s K:=by
 simp only[vt,nt,nU,dQ,rA]<;>(cases s.ev (.tmp t)<;>rfl)
theorem afH(f:FuncId)(args:Array Operand)(at_:Array TypeId):bI P T all ⟨dst,.call {callee:=.value (.func f),args:=args,argTypes:=at_},type,pos,after,guard⟩ So s acc KD=
  BB P T f s.ck s.hp (args.toList.map s.ev) dst all So s acc KD:=by
 simp only[bI,BB,Yl,St.ev,mL,MP]
theorem aeF{tm:List (Nat×AV)}{hp:Hp}{ck d:Nat}{v:AV}{z7:List Up}:St.put ⟨tm,hp,ck⟩ (some d) v z7=⟨(d,v)::tm,z7++hp,ck+1⟩:=rfl
theorem atL{tm:List (Nat×AV)}{hp:Hp}{ck:Nat}{v:AV}{z7:List Up}:St.put ⟨tm,hp,ck⟩ none v z7=⟨tm,z7++hp,ck+1⟩:=rfl
theorem ahJ{tm:List (Nat×AV)}{hp:Hp}{ck t:Nat}:St.ev ⟨tm,hp,ck⟩ (.tmp t)=L5 tm t:=rfl
theorem amx{s:St}{v:Value}:St.ev s (.const v)=bk v:=rfl
theorem al7{s:St}{n:Nat}:St.ev s (.global n)=.gl n:=rfl
theorem aol{s:St}{f:Nat}:St.ev s (.func f)=.fn f []:=rfl
theorem alz{k:IntKind}{n:Int}:bk (.int k n)=.lit (.int k n):=rfl
theorem apg{b:Bool}:bk (.bool b)=.lit (.bool b):=rfl
theorem agl{b:ByteArray}:bk (.string b)=.lit (.string b):=rfl
theorem arN:bk (.slice none 0 0)=.sl [] true:=rfl
theorem adW:bk (.pointer none)=.lit (.pointer none):=rfl
theorem aku:aa P T all [] s K=K s:=propext ⟨fun h=>h,fun h=>h⟩
theorem asu{op:Op}:aa P T all (⟨dst,op,type,pos,after,none⟩::So) s K=vt P T all ⟨dst,op,type,pos,after,none⟩ So s K:=propext ⟨fun h=>h,fun h=>h⟩
theorem apR{op:Op}{j:Nat}{want:Bool}:aa P T all (⟨dst,op,type,pos,after,some (j,want)⟩::So) s K=
  GO P T (gv s.tm (Ht all j)) want all ⟨dst,op,type,pos,after,some (j,want)⟩ So s K:=by
 rw[<-DP];rfl
theorem ajy:zm P T all [] s acc KD=KD s acc:=by simp only[zm,Xm,MP]
theorem ak3{op:Op}:zm P T all (⟨dst,op,type,pos,after,none⟩::So) s acc KD=bI P T all ⟨dst,op,type,pos,after,none⟩ So s acc KD:=by simp only[zm,bI,Xm,Z5,tc]
theorem aez{op:Op}{j:Nat}{want:Bool}:zm P T all (⟨dst,op,type,pos,after,some (j,want)⟩::So) s acc KD=
  X' P T (gv s.tm (Ht all j)) want all ⟨dst,op,type,pos,after,some (j,want)⟩ So s acc KD:=by
 simp only[<-DP,X',zm,bI,Xm,Z5,tc]
end
end Go.Sym
