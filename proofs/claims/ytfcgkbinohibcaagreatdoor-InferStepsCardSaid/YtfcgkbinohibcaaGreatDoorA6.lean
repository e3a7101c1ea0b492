/- Lemmas towards inferSteps_card: no conditions of their own. -/
import Derived.Test.YtfcgkbinohibcaaGreatDoorA5
import Derived.Shelf.Spec.SlicesInsertGrow
import Derived.Ground.Names2Prog
set_option linter.all false
namespace Go.Proofs.YtfcgkbinohibcaaGreatDoor
open Go Go.Sym Go.Proofs.Tryz
open Go.Shelf Go.Lib
def Tryz.JM:Go.Shelf.Ren:=⟨fun|21=>257|27=>276|28=>277|35=>283|39=>284|n=>n,fun|22=>22|3=>3|4=>4|0=>0|n=>n,fun|n=>n⟩
def Tryz.yv:Go.Proofs.Lays2.n21 prog Tryz.JM:={
 mixed:=kR
 f21:=func257.trans (rD some kR)
 f27:=func276.trans (rD some kR)
 f28:=func277.trans (rD some kR)
 f35:=func283.trans (rD some kR)
 f39:=func284.trans (rD some kR)
 t0:=underlying0
 a0:=isAgg0
 z0:=sizeOf0
 v0:=zeroValue0
 t3:=underlying3
 a3:=isAgg3
 z3:=sizeOf3
 v3:=zeroValue3
 t4:=underlying4
 a4:=isAgg4
 z4:=sizeOf4
 v4:=zeroValue4
 t22:=underlying22
 a22:=isAgg22
 z22:=sizeOf22
 v22:=zeroValue22
 i3:=by kernel_rfl}
structure oP(b:Nat)(w w':World):Prop where
 size:w'.heap.size=w.heap.size
 os:w'.os=w.os
 tape:w'.tape=w.tape
 output:w'.output=w.output
 other:∀i,i≠b->w'.heap[i]?=w.heap[i]?
 here:∀cs t f,w.heap[b]?=some (.cells cs t f)->∃F8,w'.heap[b]?=some (.cells F8 t f)/\F8.size=cs.size
 drawn:w.drawn<=w'.drawn
def oP.refl(b:Nat)(w:World):oP b w w:=⟨rfl,rfl,rfl,rfl,fun _ _=>rfl,fun cs _ _ h=>⟨cs,h,rfl⟩,lR _⟩
def oP.trans{b:Nat}{w w' w'':World}(h:oP b w w')(h2:oP b w' w''):oP b w w'':=
 ⟨h2.size.trans h.size,h2.os.trans h.os,h2.tape.trans h.tape,h2.output.trans h.output,fun i hi=>(h2.other i hi).trans (h.other i hi),fun cs t f hc=>by
  obtain⟨c1,e1,e2⟩:=h.here cs t f hc;obtain⟨c2,e3,e4⟩:=h2.here c1 t f e1;exact⟨c2,e3,e4.trans e2⟩,Jz h.drawn h2.drawn⟩
def oP.drew(b:Nat)(w:World):oP b w w.drew:=⟨rfl,rfl,rfl,rfl,fun _ _=>rfl,fun cs _ _ h=>⟨cs,h,rfl⟩,ug _⟩
def oP.set(b o:Nat)(v:Value)(w:World):oP b w (w.setCell ⟨b,o,none⟩ v):=by
 refine⟨?_,rfl,rfl,rfl,?_,?_,lR _⟩
 .simp[World.setCell]
 .intro i hi;simp only[World.setCell,YX];rw[iN (fun h=>hi h.symm)]
 intro cs t f h;refine⟨cs.setIfInBounds o v,?_,sM⟩;simp only[World.setCell,YX,ql,h,rL];rfl
theorem oP.cells(b:Nat):∀(vs:List Value)(o:Nat)(w:World),oP b w (w.setCells b o vs)
 |[],_,w=>.refl b w|v::r,o,w=>(oP.set b o v w).trans (oP.cells b r (o+1) _)
def ahI{w w':World}{e:bQ}{hp:Hp}(hr:cH w e (rM 1) hp)(hz:∀b,e.z b->b<w.heap.size){B cap t:Nat}{l:List Int}{cs:Array Value}(hB:w.heap.size<=B\/I2 e B)(PP:B<w'.heap.size)(hw:Cl w' B cs t)(LF:cs.size=cap)(Zm:cap<=maxLen)(hn:l.length<=cap)(pA:∀j,j<l.length->cs[j]?=some (.int .i64 (l.getD j 0)))(Mo:w'.os=w.os)(ht:w'.tape=w.tape)(ho:w'.output=w.output)(xB:w.heap.size<=w'.heap.size)(nv:∀b,b<w.heap.size->b≠B->w'.heap[b]?=w.heap[b]?)(eS:w.drawn<=w'.drawn):
  ∃e',cH w' e' (rM 2) [(100,some (1,.own t 1 (tk l)))]/\VR w' (UE e') e' (rM 2) (.l 100 1 0 l.length) (.slice (some ⟨B,0,none⟩) l.length cap)/\Z7 w e (rM 1) w' e' (rM 2)/\e'.z=e.z/\
   (∀b,TT e' b->w.heap.size<=b\/TT e b)/\iK e w w':=by
 obtain⟨e',X6⟩:∃e':bQ,e'=⟨fun i=>if i=100 then some ⟨1,some (B,cap),1,l.length⟩ else none,e.z,fun _=>none⟩:=⟨_,rfl⟩;have hm:∀i ee,e' i=some ee->i=100/\ee=⟨1,some (B,cap),1,l.length⟩:=by
  intro i ee h;subst X6;by_cases hi:i=100
  .subst hi;simp at h;exact⟨rfl,h.symm⟩
  simp[hi]at h
 have aie:e' 100=some ⟨1,some (B,cap),1,l.length⟩:=by subst X6;simp
 have zJ:e'.z=e.z:=by subst X6;rfl
 have qk:∀b,e'.Rc b=none:=by subst X6;intro b;rfl
 have akT:¬e.z B:=by
  rcases hB with h|h
  .intro h2;have:=hz B h2;omega
  exact hr.BO h
 have fk:∀b,TT e' b->b=B:=by
  intro b hb;rcases hb with ⟨id,ee,c,h1,h2⟩|⟨_,_,h,_⟩
  .obtain⟨_,rfl⟩:=hm _ _ h1;cases h2;rfl
  rw[qk]at h;cases h
 have Tu:w.heap.size<=B\/TT e B:=hB.imp id .inl;refine⟨e',⟨?_,?_,?_,?_,?_,?_,?_,?_⟩,?_,⟨xB,?_,?_,?_,?_⟩,zJ,?_,⟨Mo,ht,ho,xB,?_,eS⟩⟩
 .intro id h;cases hx:e' id with
  |none=>rfl|some ee=>obtain⟨rfl,_⟩:=hm _ _ hx;simp[Hp.get]at h
 .intro id g ob h;simp only[Hp.get]at h;by_cases hi:100=id
  .rw[iP hi]at h;cases h
   subst hi;refine⟨_,aie,rfl,by show 1<2;omega,rfl,by rw[nP],oM,?_,?_,?_⟩
   .intro i h;simp[tk,AV.cells,I]
   .intro i h j h';simp[tk,AV.cells,I,AV.one]
   refine⟨Zm,by rw[nP];exact hn,cs,hw,oM,?_⟩;intro i h j h';have hj:j=0:=by simp[tk,AV.cells,I]at h';omega
   subst hj;have pU:i<l.length:=by rwa[nP]at h
   have e1:(tk l)[i].cells[0]=I (l.getD i 0):=by simp[tk,AV.cells,I,pU]
   have e2:cs.getD (i*1+0) undef=.int .i64 (l.getD i 0):=by rw[gA,show i*1+0=i by omega,pA i pU];rfl
   rw[e1,e2];exact .val _ _ (.rC _ _ (.lit _ rfl))
  rw[iN hi]at h;cases h
 .intro id qJ ee SV b c c' h1 h2 _ _;rw[(hm _ _ h1).1,(hm _ _ h2).1]
 .intro id ee b c h1 h2;obtain⟨_,rfl⟩:=hm _ _ h1;cases h2;exact PP
 .intro id ee b c h1 h2;obtain⟨_,rfl⟩:=hm _ _ h1;cases h2;rw[zJ];exact akT
 .intro b B' c h;rw[qk]at h;cases h
 .intro b _;exact qk b
 .intro b B' c h;rw[qk]at h;cases h
 .refine .l _ _ _ _ _ (by show 1<2;omega) rfl ?_;intro ee h _;obtain⟨_,rfl⟩:=hm _ _ h;refine⟨sM,fun _=>⟨cap,sM,sM,hn⟩⟩
 .intro g hg;exact tL hg oM
 .intro b hb hu;refine⟨by rw[zJ];exact hu.1,fun h=>?_⟩;have:=fk b h;subst this;rcases Tu with h|h
  .omega
  exact hu.2 h
 .intro b hb hu;refine nv b hb fun h=>?_;subst h;rcases Tu with h|h
  .omega
  exact hu.2 h
 .intro id ee h hg;obtain⟨_,rfl⟩:=hm _ _ h;exact absurd hg (by show ¬(1<1);omega)
 .intro b h;have:=fk b h;subst this;exact Tu
 intro b hb hu;refine nv b hb fun h=>?_;subst h;rcases Tu with h|h
 .omega
 exact hu h
theorem Mq{w:World}{e:bQ}{G:Nat->Prop}{t:Nat}{l:List Int}{ee:EE}{b bcap:Nat}(ho:Jh w e G (.own t 1 (tk l)) ee)(hb:ee.Rr=some (b,bcap)):
  bcap<=maxLen/\l.length<=bcap/\∃cs,Cl w b cs t/\cs.size=bcap/\∀j,j<l.length->cs[j]?=some (.int .i64 (l.getD j 0)):=by
 obtain⟨_,_,_,h4,h5,h6⟩:=ho;rw[hb]at h6;obtain⟨h7,h8,cs,h9,bF,ED⟩:=h6;rw[nP]at h8;refine⟨h7,h8,cs,h9,oM,fun j hj=>?_⟩;have Se:j<(tk l).length:=by rwa[nP]
 have hc:(tk l)[j].cells=[I (l.getD j 0)]:=by simp[tk,AV.cells,I,hj]
 have:=ED j Se 0 (by rw[hc];simp);have e1:(tk l)[j].cells[0]'(by rw[hc];simp)=I (l.getD j 0):=by simp only[hc,E6]
 rw[e1]at this;cases this with
 |val _ _ h=>have e2:=h.VI.1;rw[gA,show j*1+0=j by omega,LS oM]at e2;rw[LS oM];exact rD some e2
def fA{w:World}{b o:Nat}{vs:List Value}{j:Nat}{v:Value}(h:∀j,j<vs.length->(w.cell? ⟨b,o+j,none⟩).isSome=true)(hj:(o<=j/\j<o+vs.length/\vs[j-o]?=some v)\/((j<o\/o+vs.length<=j)/\w.cell? ⟨b,j,none⟩=some v)):(w.setCells b o vs).cell? ⟨b,j,none⟩=some v:=by
 rcases hj with ⟨h1,h2,h3⟩|⟨h1,h2⟩
 .have:=World.cell?_setCells_in b vs o w h (j-o) oM;rw[show o+(j-o)=j by omega]at this;rw[this,<-h3,gG oM]
 rw[World.cell?_setCells_out b vs o w ⟨b,j,none⟩ (fun _ _=>h1)];exact h2
def oW{w:World}{b t j:Nat}{cs:Array Value}{f:Az}(h:w.heap[b]?=some (.cells cs t f)):w.cell? ⟨b,j,none⟩=cs[j]?:=by simp[World.cell?,h]
def kp{w:World}{b t j:Nat}{cs:Array Value}(h:w.heap[b]?=some (.cells cs t (0,0))):w.frozen? ⟨b,j,none⟩=false:=by simp[World.frozen?,h]
def S6{w:World}{b:Nat}{cs:Array Value}(h:Cl w b cs 3):w.heap[b]?=some (.cells cs 3 (0,0)):=by
 obtain⟨fz,h1,-,h2|h2⟩:=h
 .rw[h1,h2]
 exact absurd h2 dM
def apP{l:List Int}{x:Int}{i j:Nat}(hi:i<=l.length)(hj:j<l.length+1):(l.take i++[x]++l.drop i).getD j 0=if j<i then l.getD j 0 else if j=i then x else l.getD (j-1) 0:=by
 have lC:(l.take i).length=i:=j6;simp only[gE,Z5];by_cases h1:j<i
 .rw[iP h1,fd oM,qL,iP h1]
 rw[iN h1,Ga oM,lC];by_cases h2:j=i
 .subst h2;rw[iP rfl];simp
 rw[iN h2,Ga xF,BY];simp only[WC];rw[show i+(j - i-1)=j-1 by omega]
def asf{l:List Int}{j:Nat}{v:Value}(h:(l.map fun y=>Value.int .i64 y)[j]?=some v):j<l.length/\v=.int .i64 (l.getD j 0):=by obtain⟨hj,e⟩:=VL.1 h;have tw:j<l.length:=Ou;refine⟨tw,?_⟩;rw[<-e];simp[tw]
theorem ajp(l:List Int)(x:Int)(i:Nat)(hi:i<=l.length)(hl:l.length<=1000):
  UB prog J9 257 [(0,some (0,.own 3 1 (tk l))),(1,some (0,.own 3 1 (tk [x])))] [.l 0 0 0 l.length,I i,.l 1 0 0 1]
   [(100,some (1,.own 3 1 (tk (l.take i++[x]++l.drop i))))] (.l 100 1 0 (l.take i++[x]++l.drop i).length):=by
 refine⟨⟨f257,func257,vz,vz⟩,?_⟩;intro w e pk hr hz _ hlen RZ;have afJ:(l.take i++[x]++l.drop i).length=l.length+1:=xF;obtain⟨v0,v1,v2,rfl⟩:∃v0 v1 v2,pk=#[v0,v1,v2]:=by
  have h3:pk.size=3:=hlen.symm;refine⟨pk[0],pk[1],pk[2],?_⟩;apply Array.ext
  ·simpa using h3
  intro j h1 h2;have:j<3:=oM;rcases(by omega:j=0\/j=1\/j=2)with rfl|rfl|rfl<;>rfl
 have a0:VR w (UE e) e (rM 1) (.l 0 0 0 l.length) v0:=RZ 0 sM;have a1:VR w (UE e) e (rM 1) (I i) v1:=RZ 1 sM;have a2:VR w (UE e) e (rM 1) (.l 1 0 0 1) v2:=RZ 2 sM;obtain rfl:v1=.int .i64 i:=a1.VI.1;obtain⟨ee,he,Q_,Sn,sL,jz⟩:=Zu hr a0 rfl (by rw[nP];omega);obtain⟨ee2,MW,Jg,Vc,jO,nY⟩:=Zu hr a2 rfl rfl;cases Wx:ee2.Rr with
 |none=>obtain⟨_,_,_,_,_,h6⟩:=nY;rw[Wx]at h6;cases h6
 |some q2=>
 obtain⟨vb,vcap⟩:=q2;obtain⟨nQ,oU,vc,yR,hv4,abr⟩:=Mq nY Wx;replace yR:=S6 yR;unfold cL at jO;rw[Wx]at jO;obtain⟨c2,rfl,hv6,hv7⟩:=jO;have T7:∀j v,[Value.int .i64 x][j]?=some v->w.cell? ⟨vb,0*ee2.k+j,none⟩=some v:=by
  intro j v h;cases j with
  |zero=>
   cases h
   rw[gw,cy,oW yR,abr 0 sM];rfl
  |succ j=>simp at h
 have UP:∀v∈[Value.int .i64 x],v.oneCell'=true:=by simp[Value.oneCell']
 have Em:(l.map fun y=>Value.int .i64 y).length=l.length:=sM;have Tg:∀v∈(l.map fun y=>Value.int .i64 y),v.oneCell'=true:=by simp[Value.oneCell']
 have fin:∀(B cap t:Nat)(w':World)(cs:Array Value),(w.heap.size<=B\/I2 e B)->B<w'.heap.size->Cl w' B cs t->t=3->cs.size=cap->cap<=maxLen->l.length+1<=cap->
   (∀j,j<l.length+1->w'.cell? ⟨B,j,none⟩=some (.int .i64 (if j<i then l.getD j 0 else if j=i then x else l.getD (j-1) 0)))->w'.os=w.os->w'.tape=w.tape->w'.output=w.output->w.heap.size<=w'.heap.size->
   (∀b,b<w.heap.size->b≠B->w'.heap[b]?=w.heap[b]?)->w.drawn<=w'.drawn->
   ∃v e',Ending.returned (.slice (some ⟨B,0,none⟩) (l.length+1) cap)=.returned v/\cH w' e' (rM 2) [(100,some (1,.own 3 1 (tk (l.take i++[x]++l.drop i))))]/\
    VR w' (UE e') e' (rM 2) (.l 100 1 0 (l.take i++[x]++l.drop i).length) v/\Z7 w e (rM 1) w' e' (rM 2)/\e'.z=e.z/\(∀b,TT e' b->w.heap.size<=b\/TT e b)/\iK e w w':=by
  intro B cap t w' cs h1 h2 h3 ht h4 h5 h6 h7 h8 h9 bF ED zo Zr;subst ht;obtain⟨e',q1,q2,q3⟩:=ahI (l:=l.take i++[x]++l.drop i) hr hz h1 h2 h3 h4 h5 oM (fun j hj=>by
   have:=h7 j oM;rw[h3.cell]at this;rw[this,apP hi oM]) h8 h9 bF ED zo Zr
  rw[afJ]at q2 ⊢;exact⟨_,e',rfl,q1,q2,q3⟩
 have cal:∀Q:Ending->World->Prop,Calls prog (Tryz.JM.f 21) #[v0,.int .i64 i,.slice (some ⟨vb,0*ee2.k,none⟩) 1 c2] w Q->Calls prog 257 #[v0,.int .i64 i,.slice (some ⟨vb,0*ee2.k,none⟩) 1 c2] w Q:=fun Q h=>h
 have UU:Tryz.JM.t 3=3:=rfl;refine cal _ ?_;cases hb:ee.Rr with
 |none=>
  obtain⟨_,_,_,_,_,h6⟩:=jz;rw[hb]at h6;have RO:l=[]:=by
   have:(tk l).length=0:=by rw[h6];rfl
   rw[nP]at this;exact Ha this
  subst RO;unfold cL at sL;rw[hb]at sL;obtain⟨_,_,a,rfl⟩:=sL;obtain rfl:i=0:=Ks;refine(Any2.slices_Insert_int_end_grow Tryz.yv a 0 0 vb (0*ee2.k) 1 c2 [] [.int .i64 x] w oM oM oM oM rfl rfl (fun _=>rfl) (fun _ _ j v h=>tC) T7 UP).mono ?_;rintro en w' ⟨rfl,g7⟩;generalize hG:grownCap w (0+1) 0 (Tryz.JM.t 3)=G at*;have Rj:0+1<=G:=AX;have Ry:G<=maxLen:=tG;have xB:w'.heap.size=w.heap.size+1:=by rw[g7];exact Ar w.drew _
  refine fin w.heap.size G _ w' _ (.inl (lR _)) oM (.of Sq) UU ?_ Ry (by simpa using Rj) ?_ (by rw[g7];rfl) (by rw[g7];rfl) (by rw[g7];rfl) oM ?_ (by rw[g7];exact ug _)
  ·simp[JH,Value.cells];omega
  ·intro j hj;have K0:j=0:=Ou;subst K0;rw[oW Sq];simp only[fj];rw[Jl sM];rfl
  intro b hb _;rw[g7];exact(Qw.Jp w _).same b hb
 |some q=>
 obtain⟨b,bcap⟩:=q;obtain⟨z6,p7,cs,Y',hc4,qd⟩:=Mq jz hb;replace Y':=S6 Y';unfold cL at sL;rw[hb]at sL;obtain⟨c,rfl,hc6,hc7⟩:=sL;obtain rfl:c=bcap:=oM;have HL:I2 e b:=.of he hb;have OT:b<w.heap.size:=hr.u7 HL;have Wy:vb≠b:=by intro h;subst h;have:=hr.inj 0 1 ee ee2 _ _ _ he MW hb Wx;omega
 have KM:vb<w.heap.size:=hr.u7 (.of MW Wx);have LF:∀j v,(l.map fun y=>Value.int .i64 y)[j]?=some v->w.cell? ⟨b,0+j,none⟩=some v:=by intro j v h;obtain⟨hj,rfl⟩:=asf h;rw[cy,oW Y',qd j hj]
 have NM:∀j,j<c->(w.cell? ⟨b,0+j,none⟩).isSome=true:=by intro j hj;rw[cy,oW Y',LS oM];rfl
 have vY:∀j,j<c->w.frozen? ⟨b,j,none⟩=false:=fun j hj=>kp Y';have CY:c<=9223372036854775807:=by unfold maxLen at z6;omega
 by_cases If:l.length+1<=c
 ·by_cases PP:i<l.length
  ·refine(Any2.slices_Insert_int_shift Tryz.yv b (0*ee.k) l.length c i vb (0*ee2.k) 1 c2 (l.map fun y=>.int .i64 y) [.int .i64 x] w PP oM If CY Wy Em rfl (by simpa using LF) (fun j hj=>by rw[gw];exact NM j oM) (fun j hj=>kp Y') T7 Tg UP _ _ _ _ (by simp[World.shape?,yR];exact⟨rfl,rfl⟩) (by simp[World.shape?,Y'];exact⟨rfl,rfl⟩) oM (kp yR) (kp yR)).mono ?_;rintro en w' ⟨rfl,g7⟩;simp only[gw,cy]at g7 ⊢;have S1:oP b w (w.drew.setCells b (i+1) ((l.map fun y=>Value.int .i64 y).drop i)):=(oP.drew b w).trans (oP.cells b _ _ _);have S2:oP b w w':=by rw[g7];exact S1.trans (oP.cells b _ _ _)
   obtain⟨cs1,k1,k2⟩:=S1.here _ _ _ Y';obtain⟨cs2,k3,k4⟩:=S2.here _ _ _ Y';refine fin b c _ w' cs2 (.inr HL) (by rw[S2.size];exact OT) (.of k3) rfl oM z6 If ?_ S2.os S2.tape S2.output (by rw[S2.size];exact lR _) (fun b' _ h=>S2.other b' h) S2.drawn;intro j hj;rw[g7];refine fA (fun t ht=>by rw[oW k1,LS XV];rfl) ?_;by_cases h2:j=i
   ·left
    subst h2;simp
   right
   refine⟨by simp only[WC];omega,?_⟩;rw[iN h2];refine fA (fun t ht=>by rw[oW (w:=w.drew) Y',LS (by rw[DT,Em]at ht;omega)];rfl) ?_;by_cases h3:j<i
   ·right
    refine⟨.inl oM,?_⟩;rw[iP h3,oW (w:=w.drew) Y',qd j oM]
   left
   refine⟨oM,by rw[DT,Em];omega,?_⟩;rw[iN h3,BY,show i+(j-(i+1))=j-1 by omega];simp[show j-1<l.length by omega]
  obtain rfl:i=l.length:=oM;refine(Any2.slices_Insert_int_end_room Tryz.yv b (0*ee.k) l.length c vb (0*ee2.k) 1 c2 [.int .i64 x] w oM If CY rfl (fun j hj=>by have:=NM (l.length+j) oM;rwa[gw,lX]) (fun j hj=>kp Y') T7 UP).mono ?_;rintro en w' ⟨rfl,g7⟩;simp only[gw,cy]at g7 ⊢;have S2:oP b w w':=by rw[g7];exact oP.cells b _ _ _
  obtain⟨cs2,k3,k4⟩:=S2.here _ _ _ Y';refine fin b c _ w' cs2 (.inr HL) (by rw[S2.size];exact OT) (.of k3) rfl oM z6 If ?_ S2.os S2.tape S2.output (by rw[S2.size];exact lR _) (fun b' _ h=>S2.other b' h) S2.drawn;intro j hj;rw[g7];refine fA (fun t ht=>by rw[oW Y',LS XV];rfl) ?_;by_cases h2:j=l.length
  ·left
   subst h2;simp
  right
  refine⟨.inl oM,?_⟩;rw[iP oM,oW Y',qd j oM]
 by_cases PP:i<l.length
 ·refine(Any2.slices_Insert_int_grow Tryz.yv b (0*ee.k) l.length c i vb (0*ee2.k) 1 c2 (l.map fun y=>.int .i64 y) [.int .i64 x] w PP oM p7 oM oM Em rfl (by simpa using LF) T7 Tg UP).mono ?_;rintro en w' ⟨rfl,g7⟩;generalize hG:grownCap w (l.length+1) c (Tryz.JM.t 3)=G at*;have Rj:l.length+1<=G:=AX;have Ry:G<=maxLen:=tG;obtain⟨ROW,hR⟩:∃ROW,ROW=((List.take i (l.map fun y=>Value.int .i64 y)).toArray++Builtin.zeroCells (Value.int IntKind.i64 0).cells (l.length+1 - i)++Builtin.zeroCells (Value.int IntKind.i64 0).cells (G-(l.length+1))):=⟨_,rfl⟩;rw[<-hR]at g7;have hRs:ROW.size=G:=by rw[hR];simp[JH,Value.cells];omega
  have rI:∀j,j<i->ROW[j]?=some (.int .i64 (l.getD j 0)):=by intro j hj;rw[hR,Array.append_assoc,Jl xF];simp[hj,show j<l.length by omega]
  have hN:((w.alloc (.cells ROW (Tryz.JM.t 3))).drew).heap[w.heap.size]?=some (.cells ROW 3 (0,0)):=sg w _;have S1:oP w.heap.size (w.alloc (.cells ROW (Tryz.JM.t 3))).drew ((w.alloc (.cells ROW (Tryz.JM.t 3))).drew.setCells w.heap.size i [.int .i64 x]).drew:=(oP.cells _ _ _ _).trans (oP.drew _ _);have S2:oP w.heap.size (w.alloc (.cells ROW (Tryz.JM.t 3))).drew w':=by rw[g7];exact S1.trans (oP.cells _ _ _ _)
  obtain⟨cs1,k1,k2⟩:=S1.here _ _ _ hN;obtain⟨cs2,k3,k4⟩:=S2.here _ _ _ hN;have xB:w'.heap.size=w.heap.size+1:=by rw[S2.size];exact Ar w _
  refine fin w.heap.size G _ w' cs2 (.inl (lR _)) oM (.of k3) rfl oM Ry Rj ?_ S2.os S2.tape S2.output oM (fun b' C6 h=>(S2.other b' h).trans ((Qw.alloc w _).same b' C6)) (Jz (ug _) S2.drawn);intro j hj;rw[g7];refine fA (fun t ht=>by rw[oW k1,LS (by rw[DT,Em]at ht;omega)];rfl) ?_;by_cases h2:i<j
  ·left
   refine⟨oM,by rw[DT,Em];omega,?_⟩;rw[iN oM,iN oM,BY,show i+(j-(i+1))=j-1 by omega];simp[show j-1<l.length by omega]
  right
  refine⟨.inl oM,?_⟩;show World.cell? ((w.alloc (.cells ROW (Tryz.JM.t 3))).drew.setCells w.heap.size i [.int .i64 x]) _=_;refine fA (fun t ht=>by rw[oW hN,LS XV];rfl) ?_;by_cases h3:j<i
  ·right
   refine⟨.inl h3,?_⟩;rw[iP h3,oW hN,rI j h3]
  left
  obtain rfl:j=i:=oM;simp
 obtain rfl:i=l.length:=oM;refine(Any2.slices_Insert_int_end_grow Tryz.yv (some ⟨b,0*ee.k,none⟩) l.length c vb (0*ee2.k) 1 c2 (l.map fun y=>.int .i64 y) [.int .i64 x] w oM p7 oM oM Em rfl sM (fun a ha j v h=>by cases ha;rw[Rw];have:=LF j v h;simpa using this) T7 UP).mono ?_;rintro en w' ⟨rfl,g7⟩;generalize hG:grownCap w (l.length+1) c (Tryz.JM.t 3)=G at*;have Rj:l.length+1<=G:=AX;have Ry:G<=maxLen:=tG;have xB:w'.heap.size=w.heap.size+1:=by rw[g7];exact Ar w.drew _
 refine fin w.heap.size G _ w' _ (.inl (lR _)) oM (.of Sq) UU ?_ Ry Rj ?_ (by rw[g7];rfl) (by rw[g7];rfl) (by rw[g7];rfl) oM ?_ (by rw[g7];exact ug _)
 ·simp[JH,Value.cells];omega
 ·intro j hj;rw[oW Sq];rw[Jl xF];by_cases h2:j=l.length
  ·subst h2;simp
  rw[iP oM];simp[fd,show j<l.length by omega]
 intro b hb _;rw[g7];exact(Qw.Jp w _).same b hb
def apa(l:List Int)(x:Int):kb l x=l.take (yF l x)++[x]++l.drop (yF l x):=by
 have h1:l.takeWhile (fun y=>decide (y<x))++l.dropWhile (fun y=>decide (y<x))=l:=I8;have h2:l.take (yF l x)=l.takeWhile (fun y=>decide (y<x)):=by
  conv=>lhs;arg 2;rw[<-h1]
  unfold yF;rw[List.take_left]
 have h3:l.drop (yF l x)=l.dropWhile (fun y=>decide (y<x)):=by
  conv=>lhs;arg 2;rw[<-h1]
  unfold yF;rw[List.drop_left]
 rw[kb,h2,h3]
def as4(l:List Int)(x:Int)(hl:l.length<=1000)(hs:l.Pairwise (·<=·)):
  UB prog J9 214 [(0,some (0,.own 3 1 (tk l)))] [.l 0 0 0 l.length,I x] [(100,some (1,.own 3 1 (tk (kb l x))))] (.l 100 1 0 (kb l x).length):=by
 have hc:=aij l x;rw[apa];have hi:=ajp l x (yF l x) hc hl;have hb:=aeD l x hl hs;generalize (decide (yF l x<l.length)&&decide (l.getD (yF l x) 0=x))=bb at hb;generalize yF l x=k at*;generalize l.take k++[x]++l.drop k=z at*;refine MD func214 ntmps214 ?_;intro w e X hC;refine uA ?_;refine uR ?_;intro K hK;refine oj (rc:=.F1 [I k,B bb]) ?_ ?_ ?_ ?_ ?_ ?_;(focus (first|exact trivial|(simp only[go_sem]<;>trivial)));(focus (simp only[go_sem];exact hb));(focus (first|exact trivial|(simp only[go_sem]<;>trivial)));(focus (first|exact trivial|(simp only[go_sem]<;>trivial)));(focus (first|exact trivial|(simp only[go_sem]<;>trivial)));first|refine uS ?_|exact uX
 refine hK _ ?_;clear hK K;refine uR ?_;intro K hK;refine PZ [(0,0,0,0),(1,0,116,13)] [(117,14,100,1)] false (hi) iw iw p6 p6 p6 p6 p6 p6 p6 p6 p6 p6 p6 p6 p6 p6 p6 ?_;refine M3 ?_;refine hK _ ?_;clear hK K;refine A_ ?_;rw[show f214.results.toList=[.tmp 4] from rfl];(refine Me [(100,1,117,14)] Xs sM sM sM I3 I3 I3 ?_ ?_;all_goals (first|refine UR ?_|exact Xv|skip))
open Go.Plant
def YE(xs:List Nd)(p:Pl)(cs:List Int)(fs:List T3)(LV:List Int)(n:Nat):Int:=
 if c9 (xs.getD n default).kd=true then(aD (p.Q.getD n []) (u_ fs n (xs.getD n default).ln.toNat) (decide (0<=LV.getD n 0))).2 else cs.getD n 0
def bv(xs:List Nd)(p:Pl)(cs:List Int)(fs:List T3)(LV:List Int):Nat->List (List Int)×List (List Int)×List T3
 |0=>(p.Q,p.R,[])|n+1=>
  (if c9 (xs.getD n default).kd=true then(bv xs p cs fs LV n).1.set n (aD (p.Q.getD n []) (u_ fs n (xs.getD n default).ln.toNat) (decide (0<=LV.getD n 0))).1 else(bv xs p cs fs LV n).1,
   if c9 (xs.getD n default).kd=true then(bv xs p cs fs LV n).2.1 else if 0<=LV.getD n 0 then(bv xs p cs fs LV n).2.1.set n (((bv xs p cs fs LV n).2.1.getD n []).filter fun y=>!decide (y=cs.getD n 0)) else(bv xs p cs fs LV n).2.1,
   if 0<=LV.getD n 0 then(bv xs p cs fs LV n).2.2++[⟨YE xs p cs fs LV n,n,(xs.getD n default).ex.getD (LV.getD n 0).toNat 0⟩] else(bv xs p cs fs LV n).2.2)
def CL(xs:List Nd)(ms:List T3)(s:List (List Int)×List (List Int)):Nat->List (List Int)×List (List Int)
 |0=>s|i+1=>
  let m:=ms.getD i default
  if c9 (xs.getD m.c.toNat default).kd=true then((CL xs ms s i).1.set m.c.toNat (((CL xs ms s i).1.getD m.c.toNat []).set 0 m.a),(CL xs ms s i).2)
  else((CL xs ms s i).1,(CL xs ms s i).2.set m.c.toNat (kb ((CL xs ms s i).2.getD m.c.toNat []) m.a))
def XG(xs:List Nd)(p:Pl)(cs:List Int)(fs:List T3)(LV:List Int):Pl×List T3:=
 let s:=bv xs p cs fs LV xs.length
 let q:=CL xs s.2.2 (s.1,s.2.1) s.2.2.length
 (⟨q.1,q.2⟩,s.2.2.filter fun m=>!decide (m.b=m.c))
def F3{α:Type}{l:List α}{i n:Nat}{x d:α}:(l.set i x).getD n d=if i=n/\i<l.length then x else l.getD n d:=by
 simp only[gE,List.getElem?_set];by_cases h:i=n
 .subst h;by_cases h2:i<l.length
  .simp[h2]
  simp[h2,Zo (Nat.le_of_not_lt h2)]
 simp[h]
def alK(y:Int)(l:List Int)(x:Int):kb (y::l) x=if y<x then y::kb l x else x::y::l:=by
 unfold kb;by_cases h:y<x
 .simp[h]
 simp[h]
def afK{l:List Int}{x z:Int}:z∈kb l x↔z=x\/z∈l:=by
 have h1:z∈l↔z∈l.takeWhile (fun y=>decide (y<x))\/z∈l.dropWhile (fun y=>decide (y<x)):=by rw[<-ym,I8]
 rw[h1];simp only[kb,ym,iT];exact⟨fun h=>by rcases h with (h|h)|h<;>simp[h],fun h=>by rcases h with h|h|h<;>simp[h]⟩
theorem VP:∀{l:List Int}{x:Int},l.Pairwise (·<=·)->(kb l x).Pairwise (·<=·)
 |[],x,_=>by simp[kb]|y::l,x,h=>by
  rw[alK];obtain⟨h1,h2⟩:=xL.1 h;split
  .refine xL.2 ⟨fun z hz=>?_,VP h2⟩;rcases afK.1 hz with rfl|hz
   .omega
   exact h1 z hz
  refine xL.2 ⟨fun z hz=>?_,h⟩;rcases rX.1 hz with rfl|hz
  .omega
  have:=h1 z hz;omega
structure qB(xs:List Nd)(c:Nat)(s:List (List Int)×List (List Int)):Prop where
 l1:s.1.length=xs.length
 l2:s.2.length=xs.length
 r1:∀n,n<xs.length->(s.1.getD n []).length=(xs.getD n default).ln.toNat
 r2:∀n,n<xs.length->(s.2.getD n []).Pairwise (·<=·)/\(s.2.getD n []).length<=500+c
theorem OM{xs:List Nd}{p:Pl}{cs:List Int}{fs:List T3}{LV:List Int}(hp:Zc xs p)(Mp:∀n,n<xs.length->(p.R.getD n []).Pairwise (·<=·)):
  ∀i,i<=xs.length->qB xs 0 ((bv xs p cs fs LV i).1,(bv xs p cs fs LV i).2.1)
 |0,_=>⟨hp.sl,hp.bl,hp.row,fun n hn=>⟨Mp n hn,hp.bin n hn⟩⟩|i+1,hi=>by
  obtain⟨h1,h2,h3,h4⟩:=OM (cs:=cs) (fs:=fs) (LV:=LV) hp Mp i oM;rw[bv];generalize bv xs p cs fs LV i=s at*;simp only at h1 h2 h3 h4 ⊢;refine⟨?_,?_,fun n hn=>?_,fun n hn=>?_⟩
  .split<;>simp[h1]
  .split<;>(try split)<;>simp[h2]
  .try simp only
   split
   .rw[F3];split
    .rename_i h;rw[iR,hp.row i oM,h.1]
    exact h3 n hn
   exact h3 n hn
  try simp only
  split
  .exact h4 n hn
  split
  .rw[F3];split
   .obtain⟨q1,q2⟩:=h4 i oM;exact⟨q1.filter _,Jz (aU _ _) q2⟩
   exact h4 n hn
  exact h4 n hn
theorem jB{xs:List Nd}{ms:List T3}{s:List (List Int)×List (List Int)}(h:qB xs 0 s):∀i,qB xs i (CL xs ms s i)
 |0=>h|i+1=>by
  obtain⟨h1,h2,h3,h4⟩:=jB (ms:=ms) h i;rw[CL];generalize CL xs ms s i=q at*;have Mf:∀n,n<xs.length->(q.2.getD n []).Pairwise (·<=·)/\(q.2.getD n []).length<=500+(i+1):=fun n hn=>⟨(h4 n hn).1,by have:=(h4 n hn).2;omega⟩;try simp only
  split
  .refine⟨by simp[h1],h2,fun n hn=>?_,Mf⟩;try simp only
   rw[F3];split
   .rename_i h5;obtain⟨rfl,h6⟩:=h5;rw[su];exact h3 _ hn
   exact h3 n hn
  refine⟨h1,by simp[h2],h3,fun n hn=>?_⟩;try simp only
  rw[F3];split
  .rename_i h5;obtain⟨rfl,h6⟩:=h5;rw[MJ];exact⟨VP (h4 _ hn).1,by have:=(h4 _ hn).2;omega⟩
  exact Mf n hn
theorem QP{xs:List Nd}{p:Pl}{cs:List Int}{fs:List T3}{LV:List Int}:∀i,(bv xs p cs fs LV i).2.2.length<=i
 |0=>lR _|i+1=>by
  have ih:=QP (xs:=xs) (p:=p) (cs:=cs) (fs:=fs) (LV:=LV) i;rw[bv];simp only;split
  .rw[aL];simp only[WC];omega
  omega
def Yt(xs:List Nd):Prop:=∀n,n<xs.length->∀j,j<(xs.getD n default).ex.length->0<=(xs.getD n default).ex.getD j 0/\(xs.getD n default).ex.getD j 0<xs.length
def Lc(xs:List Nd)(LV:List Int):Prop:=∀n,n<xs.length->0<=LV.getD n 0->LV.getD n 0<(xs.getD n default).ex.length
theorem R1{xs:List Nd}{p:Pl}{cs:List Int}{fs:List T3}{LV:List Int}(hx:Yt xs)(hl:Lc xs LV):∀i,i<=xs.length->∀m∈(bv xs p cs fs LV i).2.2,0<=m.c/\m.c<xs.length
 |0,_,m,hm=>by cases hm
 |i+1,hi,m,hm=>by
  have ih:=R1 (p:=p) (cs:=cs) (fs:=fs) hx hl i oM;rw[bv]at hm;simp only at hm;split at hm
  .rename_i h;rcases ym.1 hm with hm|hm
   .exact ih m hm
   rw[iT]at hm;subst hm;have:=hl i oM h;exact hx i oM _ oM
  exact ih m hm
open Go.Plant
def AD(y:Ly)(p:Pl)(ord cs:List Int)(fs:List T3)(hp:Zc y.U p)(hN:y.U.length<=11)(hc:cs.length=y.U.length)(hf:YS y.U fs)(hx:∀m,m<y.U.length->0<=(N0 y.U p cs fs y.U.length).getD m 0->(N0 y.U p cs fs y.U.length).getD m 0<(y.U.getD m default).ex.length)(S0:ord.length<=1000)(ak:∀i,i<ord.length->0<=ord.getD i 0/\ord.getD i 0<y.U.length)(LV EN:List Int)(Y7:LV.length=y.U.length)(H7:Lc y.U LV)(hex:Yt y.U)(Mp:∀n,n<y.U.length->(p.R.getD n []).Pairwise (·<=·))(aoY:vO y.U p (N0 y.U p cs fs y.U.length) ord=(LV,EN)):
  UB prog J9 166 [] [.P (g_ y ord),p.av,IS cs,.sl (YA fs) false]
   [(100,some (1,.own 22 1 (PG 3 (XG y.U p cs fs LV).1.Q))),(101,some (1,.own 22 1 (PG 3 (XG y.U p cs fs LV).1.R))),(102,some (1,.own 107 3 (YA (XG y.U p cs fs LV).2)))]
   (.F1 [.agg [.l 100 1 0 (XG y.U p cs fs LV).1.Q.length,.l 101 1 0 (XG y.U p cs fs LV).1.R.length],.l 102 1 0 (XG y.U p cs fs LV).2.length]):=by
 have dm:=an9 y p ord cs fs hp hN hc hf.len hx S0 ak;rw[aoY]at dm;have xE:=hp.xl;have IA:∀i,i<p.Q.length->(p.Q.getD i []).length<=1000:=fun i hi=>by rw[hp.sl]at hi;have:=hp.row i hi;have:=hp.ln i hi;omega
 have w6:∀i,i<p.R.length->(p.R.getD i []).length<=1000:=fun i hi=>by rw[hp.bl]at hi;have:=hp.bin i hi;omega
 have wA:∀i,(bv y.U p cs fs LV i).1.length=p.Q.length:=fun i=>by
  induction i with
  |zero=>rfl|succ i ih=>rw[bv];simp only;split<;>simp[ih]
 have lI:∀i,(bv y.U p cs fs LV i).2.1.length=p.R.length:=fun i=>by
  induction i with
  |zero=>rfl|succ i ih=>rw[bv];simp only;split<;>(try split)<;>simp[ih]
 have aiP:∀i,(bv y.U p cs fs LV i).2.2.length<=i:=fun i=>by
  induction i with
  |zero=>exact lR _|succ i ih=>
   rw[bv];simp only;split
   .rw[aL];simp only[WC];omega
   omega
 have rS:∀i n,((bv y.U p cs fs LV i).2.1.getD n []).length<=500:=fun i=>by
  induction i with
  |zero=>
   intro n;by_cases h:n<p.R.length
   .exact hp.bin n (by rw[<-hp.bl];exact h)
   show(p.R.getD n []).length<=500;rw[gE,Zo oM];simp
  |succ i ih=>
   intro n;rw[bv];simp only;split
   .exact ih n
   split
   .generalize bv y.U p cs fs LV i=s at ih;have h1:=ih n;have h2:=ih i;rw[F3];split
    .exact Jz (aU _ _) h2
    exact h1
   exact ih n
 refine MD func166 ntmps166 ?_;intro w e X hC;refine uA ?_;refine Gk dm ?_;refine uR ?_;intro K hK;have z:=@z8;refine PZ [] [(125,12,100,1),(401,12,101,1)] false ((H2 p (by rw[hp.sl];omega) (by rw[hp.bl];omega) IA w6)) (xI z) (xI z) (Kg z) (Kg z) (Kg z) (Kg z) (Kg z) (Kg z) (Kg z) (Kg z) (Kg z) (Kg z) (Kg z) (Kg z) (Kg z) (Kg z) (Kg z) ?_;refine TA z ?_;clear z;refine hK _ ?_;clear hK K;refine EP ?_;refine PV (fun i:Nat×Az=>⟨[(0,.P (g_ y ord)),(2,IS cs),(3,.sl (YA fs) false),(5,.p 105 1 0 0 0),(8,.p 108 2 0 0 0),(10,.p 110 9 0 0 0),(11,.p 111 13 0 0 0),(12,.l 112 i.2.2 0 (bv y.U p cs fs LV i.2.1).2.2.length),(30,.sl (H4 y.U) false),(31,I y.U.length),(32,I i.2.1)],
  (112,some (i.2.2,.own 107 3 (YA (bv y.U p cs fs LV i.2.1).2.2)))::(111,some (13,.box [.l 125 12 0 p.Q.length,.l 401 12 0 p.R.length]))::(125,some (12,.own 22 1 (PG 3 (bv y.U p cs fs LV i.2.1).1)))::(401,some (12,.own 22 1 (PG 3 (bv y.U p cs fs LV i.2.1).2.1)))::(110,some (9,.box [IS LV,IS EN]))::(108,some (2,.box [.sl [] true,.sl [] true]))::(105,some (1,.box (GE p)))::[],i.1⟩)
  (fun i=>i.2.1<=y.U.length) (fun i=>y.U.length - i.2.1) (_,0,_) (zL _) (.of (lR _) (by repeat first|exact Zf.nil|refine He ?_|(refine Zf.cons ?_ ?_;(focus (simp only[go_sem,bv];done)))) (by repeat first|exact O6.nil|refine yB ?_|(refine O6.cons ?_ ?_;(focus (simp only[go_sem,bv];done))))) ?_
 .rintro⟨ck,i,gm⟩ hi;simp only at hi;have Wg:=wA i;have XK:=lI i;have Ni:=rS i i;have aeO:=aiP i;have ZO:bv y.U p cs fs LV (i+1)=_:=bv.eq_2 y.U p cs fs LV i;have BZ:=R1 (p:=p) (cs:=cs) (fs:=fs) hex H7 i hi;have sL:=OM (cs:=cs) (fs:=fs) (LV:=LV) hp Mp i hi;generalize H5:bv y.U p cs fs LV i=s at*;obtain⟨s1,s2,s3⟩:=s;simp only at Wg XK Ni aeO ZO;refine C0 ?_ ?_<;>intro h
  .have PP:i<y.U.length:=oM;have lV:i<cs.length:=oM;have YL:i<LV.length:=oM;have iF:=fun h0=>asA y p ord fs i (decide (0<=LV.getD i 0)) hp hf PP h0;have EB:(aD (p.Q.getD i []) (u_ fs i (y.U.getD i default).ln.toNat) (decide (0<=LV.getD i 0))).1.length=(p.Q.getD i []).length:=iR _ _ _;have gk:=hp.row i PP;have OV:=hp.sl;have QR:=hp.bl;have VV:c9 (y.U.getD i default).kd=true->1<=(y.U.getD i default).ln:=hp.st i PP;have fo:=hp.ln i PP;have yE:i<s1.length:=by rw[Wg,hp.sl];exact PP
   have AL:i<s2.length:=by rw[XK,hp.bl];exact PP
   generalize e2:y.U.getD i default=x at*;refine aH (uI (bp PP) @e2) ?_;refine Ew (uI (ma lV) (ma YL)) ?_;have ri:YE y.U p cs fs LV i=if c9 x.kd=true then(aD (p.Q.getD i []) (u_ fs i x.ln.toNat) (decide (0<=LV.getD i 0))).2 else cs.getD i 0:=by rw[YE,e2]
   generalize YE y.U p cs fs LV i=bg at*;generalize aD (p.Q.getD i []) (u_ fs i x.ln.toNat) (decide (0<=LV.getD i 0))=A at*;generalize rN:(if c9 x.kd=true then s1.set i A.1 else s1)=n1 at*;generalize Vc:(if c9 x.kd=true then s2 else if 0<=LV.getD i 0 then s2.set i ((s2.getD i []).filter fun y=>!decide (y=cs.getD i 0)) else s2)=n2 at*;refine GA ?_;refine JP (fun q:Nat=>⟨[(0,.P (g_ y ord)),(2,IS cs),(3,.sl (YA fs) false),(5,.p 105 1 0 0 0),(8,.p 108 2 0 0 0),(10,.p 110 9 0 0 0),(11,.p 111 13 0 0 0),(12,.l 112 gm 0 s3.length),(13,I i),(14,.p 114 (ck+4) 0 0 0),(15,.p 115 (ck+17) 0 0 0),(16,B (decide (0<=LV.getD i 0))),(30,.sl (H4 y.U) false),(31,I y.U.length),(32,I i)],(115,some (ck+17,.box [I bg]))::(114,some (ck+4,.box [S x.nm,I x.kd,I x.ln,I x.zn,IS x.ex]))::(112,some (gm,.own 107 3 (YA s3)))::(111,some (13,.box [.l 125 12 0 p.Q.length,.l 401 12 0 p.R.length]))::(125,some (12,.own 22 1 (PG 3 n1)))::(401,some (12,.own 22 1 (PG 3 n2)))::(110,some (9,.box [IS LV,IS EN]))::(108,some (2,.box [.sl [] true,.sl [] true]))::(105,some (1,.box (GE p)))::[],q⟩) (fun _=>True) ?_ ?_
   .refine yX ((WO x.kd)) ?_;cases c1:c9 x.kd with
    |true=>
     rw[c1]at rN Vc ri;simp only[ql]at rN Vc ri;refine uT ?_;have AF:0<(p.Q.getD i []).length:=by have:=VV c1;omega
     have afe:=iF AF;generalize (p.Q.getD i []).length=rl at*;refine uD ?_;intro K hK;refine PZ [] [(159,ck+31,100,1)] false (afe) iw iw p6 p6 p6 p6 p6 p6 p6 p6 p6 p6 p6 p6 p6 p6 p6 ?_;refine x8 ?_;refine hK _ ?_;clear hK K;subst Vc ri;refine⟨_,trivial,wH @rN⟩
    |false=>
     rw[c1]at rN Vc ri;simp only[C9,j4]at rN Vc ri;subst rN ri;refine uF ?_;refine UV ?_ ?_<;>intro c2
     .rw[iP c2]at Vc;(repeat first|refine GA ?_|refine md ?_|refine lK ?_);refine fx hC kR kR rfl fun K hK=>?_;simp only[go_sem,Hc AL,XK,QR]
      refine⟨oM,oM,?_⟩;refine PZ [(0,0,171,ck+31)] [(173,ck+33,100,1)] true ((ano (s2.getD i []) 213 [I (cs.getD i 0)] (fun y=>decide (y=cs.getD i 0)) oM (fun y _=>aln (cs.getD i 0) y))) iw iw p6 p6 p6 p6 p6 p6 p6 p6 p6 p6 p6 p6 p6 p6 p6 ?_;refine x8 ?_;refine hK _ ?_;clear hK K;refine⟨_,trivial,wH (uI @Vc (uI @QR @dN.{0}))⟩
     rw[iN c2]at Vc;subst Vc;refine uW ?_;refine⟨_,trivial,ch⟩
   rintro ck2 -;have x7:=H7 i PP;rw[e2]at x7;refine C0 ?_ ?_<;>intro c3
   .rw[iP c3]at ZO;obtain⟨k,hk⟩:∃k:Nat,k=(LV.getD i 0).toNat:=⟨_,rfl⟩;have DJ:LV.getD i 0=(k:Int):=oM;rw[<-hk]at ZO;have G9:=x7 c3;rw[DJ]at G9;have alx:k<x.ex.length:=oM;refine Va (uI (ma YL) (uI @DJ (ma alx))) ?_;exact nX (_,i+1,gm) (wK @ZO (uI @ZO @WC.{0}))
   rw[iN c3]at ZO;refine uZ ?_;exact nX (_,i+1,gm) (wK @ZO @ZO)
  refine El ?_;obtain rfl:i=y.U.length:=oM;have jO:=jB (ms:=s3) sL;have OV:=hp.sl;have QR:=hp.bl;clear sL Wg XK Ni ZO;refine EP ?_;refine AJ s3.length (fun i:Az=>⟨[(0,.P (g_ y ord)),(2,IS cs),(3,.sl (YA fs) false),(5,.p 105 1 0 0 0),(8,.p 108 2 0 0 0),(10,.p 110 9 0 0 0),(11,.p 111 13 0 0 0),(12,.l 112 gm 0 s3.length),(92,.l 112 gm 0 s3.length),(93,I s3.length),(94,I i.2)],
   (112,some (gm,.own 107 3 (YA s3)))::(111,some (13,.box [.l 125 12 0 p.Q.length,.l 401 12 0 p.R.length]))::(125,some (12,.own 22 1 (PG 3 (CL y.U s3 (s1,s2) i.2).1)))::(401,some (12,.own 22 1 (PG 3 (CL y.U s3 (s1,s2) i.2).2)))::(110,some (9,.box [IS LV,IS EN]))::(108,some (2,.box [.sl [] true,.sl [] true]))::(105,some (1,.box (GE p)))::[],i.1⟩) (.of (lR _) (by repeat first|exact Zf.nil|refine He ?_|(refine Zf.cons ?_ ?_;(focus (simp only[go_sem,CL];done)))) My) ?_
  intro ck i hi;have yQ:=jO i;have hE:CL y.U s3 (s1,s2) (i+1)=_:=CL.eq_2 y.U s3 (s1,s2) i;generalize li:CL y.U s3 (s1,s2) i=q at*;obtain⟨q1,q2⟩:=q;obtain⟨NN,CK,bz,U2⟩:=yQ;simp only at NN CK bz U2 hE;refine C0 ?_ ?_<;>intro h1
  .have PP:i<s3.length:=oM;obtain⟨SI,iE⟩:=BZ (s3.getD i default) (ka PP);generalize e3:s3.getD i default=m at*;obtain⟨k,hk⟩:∃k:Nat,k=m.c.toNat:=⟨_,rfl⟩;have Xp:m.c=(k:Int):=oM;rw[<-hk]at hE;have SX:k<y.U.length:=oM;have Bl:k<q1.length:=oM;have O2:k<q2.length:=oM;have IA:=bz k SX;obtain⟨w6,mq⟩:=U2 k SX;have VV:c9 (y.U.getD k default).kd=true->1<=(y.U.getD k default).ln:=hp.st k SX;generalize e4:y.U.getD k default=x at*;refine Bj (uI (Hr PP) @e3) ?_;refine zj (uI @Xp (uI (bp SX) @e4)) ?_;intro K hK;refine⟨oM,?_⟩;refine PD ((WO x.kd)) ?_;refine hK _ ?_;clear hK K;cases c1:c9 x.kd with
   |true=>
    have:=VV c1;have AF:0<(q1.getD k []).length:=oM;rw[c1]at hE;simp only[ql]at hE;refine uT ?_;(repeat first|refine GA ?_|refine md ?_|refine lK ?_);refine fx hC kR kR rfl fun K hK=>?_;simp only[go_sem,Hc Bl,NN,OV,Xp]
    refine uH ?_;refine hK _ ?_;clear hK K;have Ze:∀v,((PG 3 q1).set k v).getD k .bad=v:=fun v=>by rw[F3,iP ⟨rfl,by rw[RC];exact Bl⟩]
    have SR:((q1.getD k []).set 0 m.a).length=(q1.getD k []).length:=su;refine YW (id:=125) (gi:=12) (t:=22) (k:=1) (i:=k) (rid:=214) (rg:=ck+21) (n:=(q1.getD k []).length) rfl (by rw[su,RC];exact Bl) (Ze _) dM ?_ ?_
    .simp only[go_sem,Kr,SR]
    simp only[go_sem,vZ,dN];refine uZ ?_;exact nX (_,i+1) (wH (uI @hE @OV))
   |false=>
    rw[c1]at hE;simp only[C9,j4]at hE;refine uF ?_;(repeat first|refine GA ?_|refine md ?_|refine lK ?_);refine fx hC kR kR rfl fun K hK=>?_;simp only[go_sem,Hc O2,CK,QR,Xp]
    refine⟨oM,oM,?_⟩;refine PZ [(0,0,227,ck+25)] [(230,ck+28,100,1)] false ((as4 (q2.getD k []) m.a oM w6)) iw iw p6 p6 p6 p6 p6 p6 p6 p6 p6 p6 p6 p6 p6 p6 p6 ?_;refine x8 ?_;refine hK _ ?_;clear hK K;refine uZ ?_;exact nX (_,i+1) (wH (uI @hE (uI @QR @dN.{0})))
  refine El ?_;obtain rfl:i=s3.length:=oM;have VV:XG y.U p cs fs LV=(⟨q1,q2⟩,s3.filter fun m=>!decide (m.b=m.c)):=by unfold XG;rw[H5];simp only[li]
  rw[VV];simp only;refine uD ?_;intro K hK;refine PZ [(0,0,112,gm)] [(235,ck+3,100,1)] false ((alO s3 216 (fun m=>decide (m.b=m.c)) oM (fun m _=>ar4 m))) iw iw p6 p6 p6 p6 p6 p6 p6 p6 p6 p6 p6 p6 p6 p6 p6 ?_;refine x8 ?_;refine hK _ ?_;clear hK K;have hA:p.Q.length=q1.length:=oM;have hB:p.R.length=q2.length:=oM;rw[hA,hB];refine A_ ?_;rw[show Tryz.f166.results.toList=[.cell 8 36,.tmp 9] from rfl];(refine Me [(100,1,125,12),(101,1,401,12),(102,1,235,ck+3)] Xs sM sM sM I3 I3 I3 ?_ ?_;all_goals (first|refine UR ?_|exact Xv|skip))
abbrev U8(c:Nat):AV:=.lit (.int .u8 (c:Int))
def gF(c:Nat):Bool:=decide ((65:Int)<=c)&&decide ((c:Int)<=90)
def gU(c:Nat):Bool:=decide ((48:Int)<=c)&&decide ((c:Int)<=57)
def bs(s:ByteArray):List Nat:=s.data.toList.map UInt8.toNat
def H1(s:ByteArray):Bool:=decide (1<=(bs s).length)&&(decide ((bs s).length<=12)&&(gF ((bs s).getD 0 0)&&(bs s).all fun c=>gF c||gU c))
def NU(s:ByteArray):(bs s).length=s.data.toList.length:=by simp[bs]
def DC(s:ByteArray)(i:Nat):(s.data.toList.getD i 0).toNat=(bs s).getD i 0:=by
 unfold bs;by_cases h:i<s.data.toList.length
 .simp only[gE,YO,gG h];rfl
 simp only[gE,YO,Zo (Nat.le_of_not_lt h)];rfl
theorem Yy(c:Nat):UB prog J9 234 [] [U8 c] [] (B (gF c)):=by
 refine MD func234 ntmps234 ?_;intro w e X hC;cases d1:decide ((65:Int)<=c)with
 |true=>
  refine xT @d1 ?_;try rfl
  simp only[go_sem,gF,d1,Q2]
 |false=>
  refine xT @d1 ?_;try rfl
  simp only[go_sem,gF,d1,aS]
theorem ahq(c:Nat):UB prog J9 237 [] [U8 c] [] (B (gU c)):=by
 refine MD func237 ntmps237 ?_;intro w e X hC;cases d1:decide ((48:Int)<=c)with
 |true=>
  refine xT @d1 ?_;try rfl
  simp only[go_sem,gU,d1,Q2]
 |false=>
  refine xT @d1 ?_;try rfl
  simp only[go_sem,gU,d1,aS]
theorem xA(c:Nat):UB prog J9 221 [] [U8 c] [] (B (gF c)):=by
 refine MD func221 ntmps221 ?_;intro w e X hC;cases d1:decide ((65:Int)<=c)with
 |true=>
  refine xT @d1 ?_;try rfl
  simp only[go_sem,gF,d1,Q2]
 |false=>
  refine xT @d1 ?_;try rfl
  simp only[go_sem,gF,d1,aS]
theorem alb(c:Nat):UB prog J9 222 [] [U8 c] [] (B (gU c)):=by
 refine MD func222 ntmps222 ?_;intro w e X hC;cases d1:decide ((48:Int)<=c)with
 |true=>
  refine xT @d1 ?_;try rfl
  simp only[go_sem,gU,d1,Q2]
 |false=>
  refine xT @d1 ?_;try rfl
  simp only[go_sem,gU,d1,aS]
theorem aqi(c:Nat):UB prog J9 236 [] [U8 c] [] (B (gF c||gU c)):=by
 have h1:=Yy c;have h2:=ahq c;generalize gF c=a at*;generalize gU c=b at*;refine MD func236 ntmps236 ?_;intro w e X hC;refine uA ?_;refine uR ?_;intro K hK;refine eh h1 ?_;cases a with
 |true=>
  first|refine uS ?_|exact uX
  refine hK _ ?_;clear hK K;exact uP
 |false=>
  first|refine uS ?_|exact uX
  refine eh h2 ?_;refine hK _ ?_;clear hK K;exact uP
def Q6(s:ByteArray):(bs s).length=s.size:=by simp[NU]
def Xn(s:ByteArray)(k:Nat)(p:Nat->Bool)(hl:(bs s).length<=1000)(hk:∀c,UB prog J9 k [] [U8 c] [] (B (p c))):
  UB prog J9 235 [] [S s,.fn k []] [] (B ((bs s).all p)):=by
 have OT:=NU s;have wC:=Q6 s;refine MD func235 ntmps235 ?_;intro w e X hC;repeat ((repeat first|refine GA ?_|refine md ?_|refine lK ?_);refine ZZ hC rfl fun K hK=>?_;simp only[go_sem,<-OT,<-wC];(repeat ((with_reducible refine And.intro ?_ ?_);focus (((repeat' apply And.intro)<;>first|omega|(simp;done)|kernel_rfl))));refine hK _ ?_;clear hK K)
 refine uW ?_;refine R7 ((bs s).length) (fun i:Az=>⟨[(0,S s),(1,.fn k []),(7,I (bs s).length),(8,I i.2)],[],i.1⟩) (fun i=>∀j,j<i.2->p ((bs s).getD j 0)=true) (fun j hj=>absurd hj (nZ _)) (ch) ?_;intro ck i hi hj;simp only at hj;refine C0 ?_ ?_<;>intro h
 .have PP:i<(bs s).length:=oM;have An:=hk ((bs s).getD i 0);have hg:=DC s i;refine uA ?_;cases c1:p ((bs s).getD i 0)with
  |true=>
   rw[c1]at An;(repeat first|refine GA ?_|refine md ?_|refine lK ?_);refine ZZ hC rfl fun K hK=>?_;simp only[go_sem,hg,<-OT,<-wC]
   refine⟨oM,?_⟩;refine eh An ?_;refine hK _ ?_;clear hK K;refine UN ?_;refine⟨(_,i+1),⟨uO,fun j tw=>?_⟩,uO,ch⟩;by_cases ZJ:j=i
   .subst ZJ;exact c1
   exact hj j DG
  |false=>
   rw[c1]at An;(repeat first|refine GA ?_|refine md ?_|refine lK ?_);refine ZZ hC rfl fun K hK=>?_;simp only[go_sem,hg,<-OT,<-wC]
   refine⟨oM,?_⟩;refine eh An ?_;refine hK _ ?_;clear hK K;refine eg ?_;try rfl
   have:(bs s).all p=false:=by rw[HB];exact⟨_,ka (d:=0) PP,by rw[c1];simp⟩
   rw[this];rfl
 refine El ?_;refine OD ?_;try rfl
 have:(bs s).all p=true:=by rw[FR];intro c hc;obtain⟨j,tw,rfl⟩:=G_ hc;have:=hj j oM;simpa[tw] using this
 rw[this];rfl
def amY(s:ByteArray)(hl:(bs s).length<=1000):UB prog J9 184 [] [S s,I 12] [] (B (H1 s)):=by
 have OT:=NU s;have wC:=Q6 s;have hg:=DC s 0;have h1:=Yy ((bs s).getD 0 0);have h2:=Xn s 236 (fun c=>gF c||gU c) hl aqi;unfold H1;generalize gF ((bs s).getD 0 0)=a at*;generalize ((bs s).all fun c=>gF c||gU c)=b at*;refine MD func184 ntmps184 ?_;intro w e X hC;refine uA ?_;by_cases c0:1<=(bs s).length
 .have d0:decide (1<=(bs s).length)=true:=dT c0;have de:decide (¬s.data.toList=[])=true:=dT (fun h=>by rw[OT,h]at c0;simp at c0);rw[d0,Q2];by_cases c2:(bs s).length<=12
  .have d2:=oN (((bs s).length:Int)<=12);have d3:decide ((bs s).length<=12)=true:=dT c2;rw[d3,Q2];(repeat first|refine GA ?_|refine md ?_|refine lK ?_);refine ZZ hC rfl fun K hK=>?_;simp only[go_sem,hg,<-OT,<-wC,de,d2]
   refine⟨oM,?_⟩;refine eh h1 ?_;cases a with
   |true=>
    first|refine uS ?_|exact uX
    refine eh h2 ?_;refine hK _ ?_;clear hK K;exact uP
   |false=>
    first|refine uS ?_|exact uX
    refine hK _ ?_;clear hK K;exact uP
  have d2:=Vj (((bs s).length:Int)<=12);have d3:decide ((bs s).length<=12)=false:=dF c2;rw[d3,aS];(repeat first|refine GA ?_|refine md ?_|refine lK ?_);refine ZZ hC rfl fun K hK=>?_;simp only[go_sem,hg,<-OT,<-wC,de,d2]
  refine hK _ ?_;clear hK K;exact uP
 have d0:decide (1<=(bs s).length)=false:=dF c0;have de:decide (¬s.data.toList=[])=false:=dF (fun h=>h (Ha oM));rw[d0,aS];(repeat first|refine GA ?_|refine md ?_|refine lK ?_);refine ZZ hC rfl fun K hK=>?_;simp only[go_sem,hg,<-OT,<-wC,de]
 refine hK _ ?_;clear hK K;exact uP
def Ng(s:ByteArray)(hl:(bs s).length<=1000):UB prog J9 175 [] [S s] [] (B (H1 s)):=by
 have OT:=NU s;have wC:=Q6 s;have Q_:=DC s 0;have h1:=xA ((bs s).getD 0 0);unfold H1;generalize ag0:gF ((bs s).getD 0 0)=a at*;refine MD func175 ntmps175 ?_;intro w e X hC;refine uA ?_;refine GA ?_;refine JP (fun q:Nat=>⟨[(0,S s)],[],q⟩) (fun _=>(decide (1<=(bs s).length)&&(decide ((bs s).length<=12)&&a))=true) ?_ ?_
 .by_cases c0:1<=(bs s).length
  .have d0:decide (1<=(bs s).length)=true:=dT c0;have de:=Vj (((bs s).length:Int)<1);by_cases c2:(bs s).length<=12
   .have d2:=Vj ((12:Int)<(bs s).length);have d3:decide ((bs s).length<=12)=true:=dT c2;rw[d0,d3];(repeat first|refine GA ?_|refine md ?_|refine lK ?_);refine ZZ hC rfl fun K hK=>?_;simp only[go_sem,Q_,<-OT,<-wC,de,d2]
    refine⟨oM,?_⟩;refine eh h1 ?_;cases a with
    |true=>
     first|refine uS ?_|exact uX
     refine hK _ ?_;clear hK K;refine xJ ?_;refine⟨_,rfl,ch⟩
    |false=>
     first|refine uS ?_|exact uX
     refine hK _ ?_;clear hK K;exact Ed
   have d2:=oN ((12:Int)<(bs s).length);have d3:decide ((bs s).length<=12)=false:=dF c2;rw[d0,d3];(repeat first|refine GA ?_|refine md ?_|refine lK ?_);refine ZZ hC rfl fun K hK=>?_;simp only[go_sem,Q_,<-OT,<-wC,de,d2]
   refine hK _ ?_;clear hK K;exact Ed
  have d0:decide (1<=(bs s).length)=false:=dF c0;have de:=oN (((bs s).length:Int)<1);rw[d0];(repeat first|refine GA ?_|refine md ?_|refine lK ?_);refine ZZ hC rfl fun K hK=>?_;simp only[go_sem,Q_,<-OT,<-wC,de]
  refine hK _ ?_;clear hK K;exact Ed
 rintro ck0 sL;have AS:(decide (1<=(bs s).length)&&(decide ((bs s).length<=12)&&(a&&(bs s).all fun c=>gF c||gU c)))=(bs s).all fun c=>gF c||gU c:=by rw[<-Ji (decide ((bs s).length<=12)),<-Ji,sL,Q2]
 rw[AS];clear AS sL h1 ag0;refine EP ?_;refine R7 ((bs s).length) (fun i:Az=>⟨[(0,S s),(3,I i.2)],[],i.1⟩) (fun i=>∀j,j<i.2->(gF ((bs s).getD j 0)||gU ((bs s).getD j 0))=true) (fun j hj=>absurd hj (nZ _)) (ch) ?_;intro ck i hi hj;simp only at hj;repeat ((repeat first|refine GA ?_|refine md ?_|refine lK ?_);refine ZZ hC rfl fun K hK=>?_;simp only[go_sem,<-OT,<-wC];(repeat ((with_reducible refine And.intro ?_ ?_);focus (((repeat' apply And.intro)<;>first|omega|(simp;done)|kernel_rfl))));refine hK _ ?_;clear hK K)
 refine Wc ?_ ?_<;>intro h
 .have PP:i<(bs s).length:=oM;have h1:=xA ((bs s).getD i 0);have h2:=alb ((bs s).getD i 0);have hg:=DC s i;have Wt:(gF ((bs s).getD i 0)||gU ((bs s).getD i 0))=true->∀j,j<i+1->(gF ((bs s).getD j 0)||gU ((bs s).getD j 0))=true:=fun h j tw=>by
   by_cases ZJ:j=i
   .subst ZJ;exact h
   exact hj j oM
  have Ak:(gF ((bs s).getD i 0)||gU ((bs s).getD i 0))=false->((bs s).all fun c=>gF c||gU c)=false:=fun h=>by rw[HB];exact⟨_,ka (d:=0) PP,by rw[h];simp⟩
  generalize gF ((bs s).getD i 0)=a at*;generalize gU ((bs s).getD i 0)=b at*;(repeat first|refine GA ?_|refine md ?_|refine lK ?_);refine ZZ hC rfl fun K hK=>?_;simp only[go_sem,hg,<-OT,<-wC]
  refine⟨oM,?_⟩;refine eh h1 ?_;cases a with
  |true=>
   first|refine uS ?_|exact uX
   refine hK _ ?_;clear hK K;refine UN ?_;refine⟨(_,i+1),⟨uO,Wt rfl⟩,uO,ch⟩
  |false=>
   simp only[go_sem,hg,<-OT,<-wC];refine⟨oM,?_⟩;refine eh h2 ?_;cases b with
   |true=>
    first|refine uS ?_|exact uX
    refine hK _ ?_;clear hK K;refine UN ?_;refine⟨(_,i+1),⟨uO,Wt rfl⟩,uO,ch⟩
   |false=>
    first|refine uS ?_|exact uX
    refine hK _ ?_;clear hK K;refine WM ?_;rw[Ak rfl];exact uP
 refine El ?_;have:((bs s).all fun c=>gF c||gU c)=true:=by rw[FR];intro c hc;obtain⟨j,tw,rfl⟩:=G_ hc;have:=hj j oM;simpa[tw] using this
 rw[this];exact Et
def aj1(kd:Int):UB prog J9 238 [] [I kd] [] (I (WW kd)):=by
 refine MD func238 ntmps238 ?_;intro w e X hC;iterate 2 refine uA ?_
 have kds:kd=8\/kd=9\/kd=4\/kd=5\/kd=6\/(¬kd=4/\¬kd=5/\¬kd=6/\¬kd=8/\¬kd=9):=oM;rcases kds with rfl|rfl|rfl|rfl|rfl|⟨k4,k5,k6,k8,k9⟩
 .refine X3 ?_;exact uP
 .refine X3 ?_;exact uP
 .refine X3 ?_;exact uP
 .refine X3 ?_;exact uP
 .refine X3 ?_;exact uP
 have d4:=dF k4;have d5:=dF k5;have d6:=dF k6;have d8:=dF k8;have d9:=dF k9;refine Ij (uI @d4 (uI @d5 (uI @d6 (uI @d8 @d9)))) ?_;try rfl
 rw[WW,iN oM,iN oM];rfl
def E5(x:Nd):Bool:=if c9 x.kd=true then(if x.kd=5 then decide (2<=x.ln) else decide (1<=x.ln))&&decide (x.ln<=8) else decide (x.ln=0)
theorem ag6(x:Nd):UB prog J9 185 [] [x.av] [] (B (E5 x)):=by
 have h1:=WO x.kd;unfold E5;generalize c9 x.kd=s at*;refine MD func185 ntmps185 ?_;intro w e X hC;refine uA ?_;refine uR ?_;intro K hK;refine eh h1 ?_;cases s with
 |false=>
  first|refine uS ?_|exact uX
  refine hK _ ?_;clear hK K;exact Ed
 |true=>
  first|refine uS ?_|exact uX
  refine hK _ ?_;clear hK K;refine uF ?_;refine C0 ?_ ?_<;>intro c5
  .cases c2:decide (2<=x.ln)with
   |true=>
    refine Ij @c2 ?_;try rfl
    simp only[go_sem,iP c5,ql,Q2,c2]
   |false=>
    refine Ij @c2 ?_;try rfl
    simp only[go_sem,iP c5,ql,aS,c2]
  cases c2:decide (1<=x.ln)with
  |true=>
   refine Ij @c2 ?_;try rfl
   simp only[go_sem,iN c5,ql,Q2,c2]
  |false=>
   refine Ij @c2 ?_;try rfl
   simp only[go_sem,iN c5,ql,aS,c2]
def UT(N i:Int)(x:Nd)(k:Nat):Bool:=decide (0<=x.ex.getD k 0)&&(decide (x.ex.getD k 0<N)&&((decide (x.ex.getD k 0=i)==(decide (x.kd=5)&&decide (k=0)))&&!((x.ex.take k).any fun y=>decide (x.ex.getD k 0=y))))
def JC(N i:Int)(x:Nd):Bool:=decide ((x.ex.length:Int)=WW x.kd)&&(List.range x.ex.length).all (UT N i x)
def mE{N i:Int}{x:Nd}:JC N i x=true↔(x.ex.length:Int)=WW x.kd/\∀k,k<x.ex.length->UT N i x k=true:=by simp only[JC,TF,Vd,FR,BD]
theorem abh{N i:Int}{x:Nd}{k:Nat}(hk:k<x.ex.length)(h:UT N i x k=false):JC N i x=false:=by
 cases h2:JC N i x with
 |false=>rfl|true=>have:=(mE.1 h2).2 k hk;rw[h]at this;cases this
def ag5(y:Ly)(i:Nat)(hi:i<y.U.length)(hN:y.U.length<=1000)(hx:(y.U.getD i default).ex.length<=1000):
  UB prog J9 186 [] [y.av,I i] [] (B (JC y.U.length i (y.U.getD i default))):=by
 refine MD func186 ntmps186 ?_;intro w e X hC;generalize e1:y.U.getD i default=x at*;have xM:=aj1 x.kd;refine uA ?_;refine aH (uI (bp hi) @e1) ?_;refine GA ?_;refine JP (fun q:Nat=>⟨[(1,I i),(2,.p 102 1 0 0 0),(5,.p 105 8 0 0 0)],(105,some (8,.box [S x.nm,I x.kd,I x.ln,I x.zn,IS x.ex]))::(102,some (1,.box (r8 y)))::[],q⟩) (fun _=>(x.ex.length:Int)=WW x.kd) ?_ ?_
 .refine uE ?_;intro K hK;refine PD xM ?_;refine hK _ ?_;clear hK K;refine Wc ?_ ?_<;>intro c0
  .refine OD ?_;try rfl
   have:JC y.U.length i x=false:=by simp[JC,c0]
   rw[this];rfl
  refine uW ?_;refine⟨_,BX c0,ch⟩
 rintro ck0 hlen;clear xM;refine EP ?_;refine R7 x.ex.length (fun q:Az=>⟨[(1,I i),(2,.p 102 1 0 0 0),(5,.p 105 8 0 0 0),(22,IS x.ex),(23,I x.ex.length),(24,I q.2)],(105,some (8,.box [S x.nm,I x.kd,I x.ln,I x.zn,IS x.ex]))::(102,some (1,.box (r8 y)))::[],q.1⟩) (fun q=>∀j,j<q.2->UT y.U.length i x j=true) (fun j hj=>absurd hj (nZ _)) (ch) ?_;intro ck k hk hj;simp only at hj;refine C0 ?_ ?_<;>intro h
 .have PP:k<x.ex.length:=oM;have Ak:=abh (N:=y.U.length) (i:=i) PP;obtain⟨lk,qG⟩:∃lk,lk=UT y.U.length i x k:=⟨_,rfl⟩;rw[<-qG]at Ak;have uv:=M6 (x.ex.take k) (x.ex.getD k 0) j6;have dk:decide ((k:Int)=0)=decide (k=0):=by
   by_cases h0:k=0
   .subst h0;rfl
   rw[dF h0];exact dF oM
  have Xj:(x.ex.take k).length=k:=j6;have Wt:UT y.U.length i x k=true->∀j,j<k+1->UT y.U.length i x j=true:=fun h j tw=>by
   by_cases ZJ:j=k
   .subst ZJ;exact h
   exact hj j oM
  rw[<-qG]at Wt;unfold UT at qG;have bb1:(true==true)=true:=rfl;have bb2:(true==false)=false:=rfl;have bb3:(false==true)=false:=rfl;have bb4:(false==false)=true:=rfl;generalize ((x.ex.take k).any fun y=>decide (x.ex.getD k 0=y))=v at*;generalize e2:x.ex.getD k 0=e at*;refine Bj (uI (ma PP) @e2) ?_;cases d5:decide (x.kd=5)with
  |true=>
   cases d0':decide (k=0)with
   |true=>
    have d0:=dk.trans d0';cases dx:decide (e=(i:Int))with
    |true=>
     refine Bj (uI @d5 @d0) ?_;cases c1:decide (e<0)with
     |true=>have q1:decide (0<=e)=false:=dF QS;rw[q1,aS]at qG;exact X5 @c1|false=>
      have q1:decide (0<=e)=true:=dT Qt;rw[q1,Q2]at qG;cases c2:decide ((y.U.length:Int)<=e)with
      |true=>have q2:decide (e<(y.U.length:Int))=false:=dF Z8;rw[q2,aS]at qG;exact X5 (uI @c1 @c2)|false=>
       have q2:decide (e<(y.U.length:Int))=true:=dT wW;rw[q2,Q2]at qG;simp[d5,d0',dx]at qG;refine nF (uI @c1 (uI @c2 (uI @dx (uI @bb1 (uI @bb2 (uI @bb3 (uI @bb4 (uI @yW @Xj)))))))) ?_;intro K hK;refine⟨oM,?_⟩;refine eh uv ?_;refine hK _ ?_;clear hK K;cases v with
       |true=>refine WM ?_;rw[Ak wg];exact uP|false=>refine UN ?_;refine⟨(_,k+1),⟨uO,Wt wg⟩,uO,ch⟩
    |false=>
     refine Bj (uI @d5 @d0) ?_;cases c1:decide (e<0)with
     |true=>have q1:decide (0<=e)=false:=dF QS;rw[q1,aS]at qG;exact X5 @c1|false=>
      have q1:decide (0<=e)=true:=dT Qt;rw[q1,Q2]at qG;cases c2:decide ((y.U.length:Int)<=e)with
      |true=>have q2:decide (e<(y.U.length:Int))=false:=dF Z8;rw[q2,aS]at qG;exact X5 (uI @c1 @c2)|false=>have q2:decide (e<(y.U.length:Int))=true:=dT wW;rw[q2,Q2]at qG;simp[d5,d0',dx]at qG;exact X5 (uI @c1 (uI @c2 (uI @dx (uI @bb1 (uI @bb2 (uI @bb3 @bb4))))))
   |false=>
    have d0:=dk.trans d0';cases dx:decide (e=(i:Int))with
    |true=>
     refine Bj (uI @d5 @d0) ?_;cases c1:decide (e<0)with
     |true=>have q1:decide (0<=e)=false:=dF QS;rw[q1,aS]at qG;exact X5 @c1|false=>
      have q1:decide (0<=e)=true:=dT Qt;rw[q1,Q2]at qG;cases c2:decide ((y.U.length:Int)<=e)with
      |true=>have q2:decide (e<(y.U.length:Int))=false:=dF Z8;rw[q2,aS]at qG;exact X5 (uI @c1 @c2)|false=>have q2:decide (e<(y.U.length:Int))=true:=dT wW;rw[q2,Q2]at qG;simp[d5,d0',dx]at qG;exact X5 (uI @c1 (uI @c2 (uI @dx (uI @bb1 (uI @bb2 (uI @bb3 @bb4))))))
    |false=>
     refine Bj (uI @d5 @d0) ?_;cases c1:decide (e<0)with
     |true=>have q1:decide (0<=e)=false:=dF QS;rw[q1,aS]at qG;exact X5 @c1|false=>
      have q1:decide (0<=e)=true:=dT Qt;rw[q1,Q2]at qG;cases c2:decide ((y.U.length:Int)<=e)with
      |true=>have q2:decide (e<(y.U.length:Int))=false:=dF Z8;rw[q2,aS]at qG;exact X5 (uI @c1 @c2)|false=>
       have q2:decide (e<(y.U.length:Int))=true:=dT wW;rw[q2,Q2]at qG;simp[d5,d0',dx]at qG;refine nF (uI @c1 (uI @c2 (uI @dx (uI @bb1 (uI @bb2 (uI @bb3 (uI @bb4 (uI @yW @Xj)))))))) ?_;intro K hK;refine⟨oM,?_⟩;refine eh uv ?_;refine hK _ ?_;clear hK K;cases v with
       |true=>refine WM ?_;rw[Ak wg];exact uP|false=>refine UN ?_;refine⟨(_,k+1),⟨uO,Wt wg⟩,uO,ch⟩
  |false=>
   have d0:=trivial;cases dx:decide (e=(i:Int))with
   |true=>
    refine Bj @d5 ?_;cases c1:decide (e<0)with
    |true=>have q1:decide (0<=e)=false:=dF QS;rw[q1,aS]at qG;exact X5 @c1|false=>
     have q1:decide (0<=e)=true:=dT Qt;rw[q1,Q2]at qG;cases c2:decide ((y.U.length:Int)<=e)with
     |true=>have q2:decide (e<(y.U.length:Int))=false:=dF Z8;rw[q2,aS]at qG;exact X5 (uI @c1 @c2)|false=>have q2:decide (e<(y.U.length:Int))=true:=dT wW;rw[q2,Q2]at qG;simp[d5,dx]at qG;exact X5 (uI @c1 (uI @c2 (uI @dx (uI @bb1 (uI @bb2 (uI @bb3 @bb4))))))
   |false=>
    refine Bj @d5 ?_;cases c1:decide (e<0)with
    |true=>have q1:decide (0<=e)=false:=dF QS;rw[q1,aS]at qG;exact X5 @c1|false=>
     have q1:decide (0<=e)=true:=dT Qt;rw[q1,Q2]at qG;cases c2:decide ((y.U.length:Int)<=e)with
     |true=>have q2:decide (e<(y.U.length:Int))=false:=dF Z8;rw[q2,aS]at qG;exact X5 (uI @c1 @c2)|false=>
      have q2:decide (e<(y.U.length:Int))=true:=dT wW;rw[q2,Q2]at qG;simp[d5,dx]at qG;refine nF (uI @c1 (uI @c2 (uI @dx (uI @bb1 (uI @bb2 (uI @bb3 (uI @bb4 (uI @yW @Xj)))))))) ?_;intro K hK;refine⟨oM,?_⟩;refine eh uv ?_;refine hK _ ?_;clear hK K;cases v with
      |true=>refine WM ?_;rw[Ak wg];exact uP|false=>refine UN ?_;refine⟨(_,k+1),⟨uO,Wt wg⟩,uO,ch⟩
 refine El ?_;have:JC y.U.length i x=true:=mE.2 ⟨hlen,fun j tw=>hj j oM⟩;rw[this];exact Et
def s8(N i:Int)(x:Nd):Int:=
 if H1 x.nm=false then 3 else if x.kd<1\/9<x.kd then 4 else if E5 x=true/\(x.zn=0\/x.zn=1)/\JC N i x=true then 0 else 1
theorem ajQ(y:Ly)(i:Nat)(hi:i<y.U.length)(hN:y.U.length<=1000)(hx:(y.U.getD i default).ex.length<=1000)(jh:(bs (y.U.getD i default).nm).length<=1000):
  UB prog J9 141 [] [y.av,I i] [] (I (s8 y.U.length i (y.U.getD i default))):=by
 have h1:=amY _ jh;have h2:=ag6 (y.U.getD i default);have h3:=ag5 y i hi hN hx;generalize e1:y.U.getD i default=x at*;have hE:s8 y.U.length i x=_:=s8.eq_1 _ _ _;generalize s8 y.U.length i x=r at*;generalize H1 x.nm=a at*;generalize E5 x=l at*;generalize JC y.U.length i x=p at*;refine MD func141 ntmps141 ?_;intro w e X hC;refine uA ?_;refine aH (uI (bp hi) @e1) ?_;refine yX h1 ?_;cases a with
 |false=>refine WM ?_;rw[iP rfl]at hE;subst hE;exact uP|true=>
  rw[iN dM]at hE;refine uF ?_;cases d1:decide (x.kd<1)with
  |true=>rw[iP (.inl (oT d1))]at hE;subst hE;refine GJ @d1 ?_;exact Ed|false=>
   cases d2:decide (9<x.kd)with
   |true=>rw[iP (.inr (oT d2))]at hE;subst hE;refine GJ (uI @d1 @d2) ?_;exact Ed|false=>
    rw[iN (by have:=oF d1;have:=oF d2;omega)]at hE;refine QT (uI @d1 @d2) ?_;refine uR ?_;intro K hK;refine eh h2 ?_;cases l with
    |false=>
     rw[iN sM]at hE;subst hE;first|refine uS ?_|exact uX
     refine hK _ ?_;clear hK K;exact Ed
    |true=>
     first|refine uS ?_|exact uX
     cases z0:decide (¬x.zn=0)with
     |false=>
      have q0:x.zn=0:=BX (oF z0);first|refine Z6 @z0 ?_|exact an @z0
      refine eh h3 ?_;cases p with
      |true=>
       rw[iP ⟨rfl,.inl q0,rfl⟩]at hE;subst hE;first|refine uS ?_|exact uX
       refine hK _ ?_;clear hK K;refine UN ?_;exact uP
      |false=>
       rw[iN sM]at hE;subst hE;first|refine uS ?_|exact uX
       refine hK _ ?_;clear hK K;exact Ed
     |true=>
      have q0:¬x.zn=0:=oT z0;cases z1:decide (¬x.zn=1)with
      |true=>
       have q1:¬x.zn=1:=oT z1;rw[iN (fun h=>h.2.1.elim q0 q1)]at hE;subst hE;first|refine Z6 (uI @z0 @z1) ?_|exact an (uI @z0 @z1)
       refine hK _ ?_;clear hK K;exact Ed
      |false=>
       have q1:x.zn=1:=BX (oF z1);first|refine Z6 (uI @z0 @z1) ?_|exact an (uI @z0 @z1)
       refine eh h3 ?_;cases p with
       |true=>
        rw[iP ⟨rfl,.inr q1,rfl⟩]at hE;subst hE;first|refine uS ?_|exact uX
        refine hK _ ?_;clear hK K;refine UN ?_;exact uP
       |false=>
        rw[iN sM]at hE;subst hE;first|refine uS ?_|exact uX
        refine hK _ ?_;clear hK K;exact Ed
def afl(y:Ly)(hy:y.U.length<=1000)(hx:∀i,i<y.U.length->0<=(y.U.getD i default).ln/\(y.U.getD i default).ln<=1000):
  UB prog J9 142 [] [y.av] [] (I (Pc y.U)):=by
 refine MD func142 ntmps142 ?_;intro w e X hC;refine EP ?_;refine AJ y.U.length (fun i:Az=>⟨[(1,.p 101 1 0 0 0),(3,I (D1 y.U i.2)),(7,.sl (H4 y.U) false),(8,I y.U.length),(9,I i.2)],(101,some (1,.box (r8 y)))::[],i.1⟩) (.of (lR _) (by repeat first|exact Zf.nil|refine He ?_|(refine Zf.cons ?_ ?_;(focus (simp only[go_sem,D1];done)))) (by repeat first|exact O6.nil|refine yB ?_|(refine O6.cons ?_ ?_;(focus (simp only[go_sem,D1];done))))) ?_;intro ck i hi;refine C0 ?_ ?_<;>intro h
 .have hn:i<y.U.length:=oM;have hb:=wP (fun j hj=>hx j oM) i hi;have Fr:=hx i hn;have e1:D1 y.U (i+1)=D1 y.U i+(y.U.getD i default).ln:=rfl;generalize D1 y.U i=t at*;refine aH (bp hn) ?_;exact nX (_,i+1) (wT @e1)
 refine El ?_;have jk:i=y.U.length:=oM;subst jk;exact Et
def atc(x:Nd)(nm:ByteArray):UB prog J9 239 [] [x.av,.P [S nm]] [] (B (decide (x.nm=nm))):=by
 refine MD func239 ntmps239 ?_;intro w e X hC;refine OD ?_;try rfl
 have:decide (x.nm.data.toList=nm.data.toList)=decide (x.nm=nm):=by
  by_cases h:x.nm=nm
  .rw[h];simp
  rw[dF h];exact dF fun h2=>h (IP h2)
 rw[<-this];rfl
theorem kJ(xs:List Nd)(nm:ByteArray):py xs nm=OP (fun x=>decide (x.nm=nm)) xs:=rfl
def ajV(y:Ly)(nm:ByteArray)(hy:y.U.length<=1000):UB prog J9 187 [] [y.av,S nm] [] (I (py y.U nm)):=by rw[kJ];refine MD func187 ntmps187 ?_;intro w e X hC;refine uA ?_;refine uR ?_;intro K hK;refine EY iO ((akq y.U 239 [S nm] (fun x=>decide (x.nm=nm)) hy (fun x _=>atc x nm))) iO iO iO ?_;refine uS ?_;refine hK _ ?_;clear hK K;exact uP
def Cr(xs:List Nd):Bool:=(List.range xs.length).all fun i=>decide (py xs (xs.getD i default).nm=(i:Int))
def tA{n:Nat}{p:Nat->Bool}(h:∀i,i<n->p i=true):(List.range n).all p=true:=by rw[FR];intro i hi;exact h i (BD.1 hi)
def R4{n i:Nat}{p:Nat->Bool}(hi:i<n)(h:p i=false):(List.range n).all p=false:=by rw[HB];exact⟨i,BD.2 hi,by rw[h];simp⟩
def ak9(y:Ly)(hy:y.U.length<=1000):UB prog J9 143 [] [y.av] [] (B (Cr y.U)):=by
 refine MD func143 ntmps143 ?_;intro w e X hC;refine EP ?_;refine R7 y.U.length (fun i:Az=>⟨[(1,.p 101 1 0 0 0),(6,.sl (H4 y.U) false),(7,I y.U.length),(8,I i.2)],(101,some (1,.box (r8 y)))::[],i.1⟩) (fun i=>∀j,j<i.2->decide (py y.U (y.U.getD j default).nm=(j:Int))=true) (fun j hj=>absurd hj (nZ _)) (ch) ?_;intro ck i hi hj;simp only at hj;refine C0 ?_ ?_<;>intro h
 .have hn:i<y.U.length:=oM;have An:=ajV y (y.U.getD i default).nm hy;have Ak:=R4 (p:=fun i=>decide (py y.U (y.U.getD i default).nm=(i:Int))) hn;have Wt:decide (py y.U (y.U.getD i default).nm=(i:Int))=true->∀j,j<i+1->decide (py y.U (y.U.getD j default).nm=(j:Int))=true:=fun h j tw=>by
   by_cases ZJ:j=i
   .subst ZJ;exact h
   exact hj j oM
  try simp only at Ak
  generalize e1:y.U.getD i default=x at*;generalize py y.U x.nm=f at*;refine Bj (uI (bp hn) @e1) ?_;refine Gk An ?_;refine Wc ?_ ?_<;>intro c1
  .refine OD ?_;try rfl
   rw[show Cr y.U=false from Ak (dF c1)];rfl
  refine uZ ?_;refine⟨(_,i+1),⟨uO,Wt (dT (BX c1))⟩,uO,ch⟩
 refine El ?_;have:Cr y.U=true:=tA fun j tw=>hj j oM;rw[this];exact Et
def J5(x:Nd):Bool:=if x.kd=1\/x.kd=3\/x.kd=6 then decide (x.zn=0) else if x.kd=7\/x.kd=8 then decide (x.zn=1) else true
def fJ(x:Nd)(k:Nat):Int:=if x.kd=6/\k=1 then 1 else x.zn
def rJ(xs:List Nd)(x:Nd)(k:Nat):Bool:=!(decide ((xs.getD (x.ex.getD k 0).toNat default).kd=1)||decide (¬(xs.getD (x.ex.getD k 0).toNat default).zn=fJ x k))
def NQ(xs:List Nd)(x:Nd):Bool:=J5 x&&(List.range x.ex.length).all (rJ xs x)
def aaK(y:Ly)(i:Nat)(hi:i<y.U.length)(hN:y.U.length<=1000)(hx:(y.U.getD i default).ex.length<=1000)(hr:∀k,k<(y.U.getD i default).ex.length->0<=(y.U.getD i default).ex.getD k 0/\(y.U.getD i default).ex.getD k 0<y.U.length):
  UB prog J9 144 [] [y.av,I i] [] (B (NQ y.U (y.U.getD i default))):=by
 refine MD func144 ntmps144 ?_;intro w e X hC;generalize e1:y.U.getD i default=x at*;refine uA ?_;refine cx (uI (bp hi) @e1) ?_;refine GA ?_;refine JP (fun q:Nat=>⟨[(1,I i),(2,.p 102 1 0 0 0),(5,.p 105 8 0 0 0)],(105,some (8,.box [S x.nm,I x.kd,I x.ln,I x.zn,IS x.ex]))::(102,some (1,.box (r8 y)))::[],q⟩) (fun _=>J5 x=true) ?_ ?_
 .refine uR ?_;intro K hK;refine hK _ ?_;clear hK K;have kds:x.kd=1\/x.kd=3\/x.kd=6\/x.kd=7\/x.kd=8\/(¬x.kd=1/\¬x.kd=3/\¬x.kd=6/\¬x.kd=7/\¬x.kd=8):=oM;rcases kds with c|c|c|c|c|⟨n1,n3,n6,n7,n8⟩
  .have d1:decide (x.kd=1)=true:=dT c;have hA:J5 x=decide (x.zn=0):=by simp[J5,c]
   cases z0:decide (¬x.zn=0)with
   |true=>refine VF (uI @d1 @z0) ?_;have:NQ y.U x=false:=Nh;rw[this];exact uP|false=>refine kV (uI @d1 @z0) ?_;refine⟨_,DM,ch⟩
  .have d1:=Vj (x.kd=1);have d3:decide (x.kd=3)=true:=dT c;have hA:J5 x=decide (x.zn=0):=by simp[J5,c]
   cases z0:decide (¬x.zn=0)with
   |true=>refine VF (uI @d1 (uI @d3 @z0)) ?_;have:NQ y.U x=false:=Nh;rw[this];exact uP|false=>refine kV (uI @d1 (uI @d3 @z0)) ?_;refine⟨_,DM,ch⟩
  .have d1:=Vj (x.kd=1);have d3:=Vj (x.kd=3);have d6:decide (x.kd=6)=true:=dT c;have hA:J5 x=decide (x.zn=0):=by simp[J5,c]
   cases z0:decide (¬x.zn=0)with
   |true=>refine VF (uI @d1 (uI @d3 (uI @d6 @z0))) ?_;have:NQ y.U x=false:=Nh;rw[this];exact uP|false=>refine kV (uI @d1 (uI @d3 (uI @d6 @z0))) ?_;refine⟨_,DM,ch⟩
  .have d1:=Vj (x.kd=1);have d3:=Vj (x.kd=3);have d6:=Vj (x.kd=6);have d7:decide (x.kd=7)=true:=dT c;have hA:J5 x=decide (x.zn=1):=by simp[J5,c]
   cases z0:decide (¬x.zn=1)with
   |true=>refine VF (uI @d1 (uI @d3 (uI @d6 (uI @d7 @z0)))) ?_;have:NQ y.U x=false:=Nh;rw[this];exact uP|false=>refine kV (uI @d1 (uI @d3 (uI @d6 (uI @d7 @z0)))) ?_;refine⟨_,DM,ch⟩
  .have d1:=Vj (x.kd=1);have d3:=Vj (x.kd=3);have d6:=Vj (x.kd=6);have d7:=Vj (x.kd=7);have d8:decide (x.kd=8)=true:=dT c;have hA:J5 x=decide (x.zn=1):=by simp[J5,c]
   cases z0:decide (¬x.zn=1)with
   |true=>refine VF (uI @d1 (uI @d3 (uI @d6 (uI @d7 (uI @d8 @z0))))) ?_;have:NQ y.U x=false:=Nh;rw[this];exact uP|false=>refine kV (uI @d1 (uI @d3 (uI @d6 (uI @d7 (uI @d8 @z0))))) ?_;refine⟨_,DM,ch⟩
  have d1:=dF n1;have d3:=dF n3;have d6:=dF n6;have d7:=dF n7;have d8:=dF n8;refine kV (uI @d1 (uI @d3 (uI @d6 (uI @d7 @d8)))) ?_;refine⟨_,by simp[J5,n1,n3,n6,n7,n8],ch⟩
 rintro ck0 hA;refine EP ?_;refine R7 x.ex.length (fun q:Az=>⟨[(2,.p 102 1 0 0 0),(5,.p 105 8 0 0 0),(30,IS x.ex),(31,I x.ex.length),(32,I q.2)],(105,some (8,.box [S x.nm,I x.kd,I x.ln,I x.zn,IS x.ex]))::(102,some (1,.box (r8 y)))::[],q.1⟩) (fun q=>∀j,j<q.2->rJ y.U x j=true) (fun j hj=>absurd hj (nZ _)) (ch) ?_;intro ck k hk hj;simp only at hj;refine C0 ?_ ?_<;>intro h
 .have PP:k<x.ex.length:=oM;obtain⟨r0,r1⟩:=hr k PP;have Ak:rJ y.U x k=false->NQ y.U x=false:=fun h=>by rw[NQ,R4 PP h,Yx]
  have Wt:rJ y.U x k=true->∀j,j<k+1->rJ y.U x j=true:=fun h j tw=>by
   by_cases ZJ:j=k
   .subst ZJ;exact h
   exact hj j oM
  obtain⟨zk,vA⟩:∃zk,zk=rJ y.U x k:=⟨_,rfl⟩;rw[<-vA]at Ak Wt;unfold rJ at vA;obtain⟨m,hm⟩:∃m,m=(x.ex.getD k 0).toNat:=⟨_,rfl⟩;have Al:x.ex.getD k 0=(m:Int):=oM;rw[<-hm]at vA;have aJ:m<y.U.length:=oM;generalize e3:y.U.getD m default=t at*;iterate 2 refine Bj (uI (ma PP) @Al) ?_
  refine GA ?_;refine JP (fun q:Nat=>⟨[(2,.p 102 1 0 0 0),(5,.p 105 8 0 0 0),(7,I m),(8,I (fJ x k)),(30,IS x.ex),(31,I x.ex.length),(32,I k)],(105,some (8,.box [S x.nm,I x.kd,I x.ln,I x.zn,IS x.ex]))::(102,some (1,.box (r8 y)))::[],q⟩) (fun _=>True) ?_ ?_
  .by_cases c6:x.kd=6
   .have d6:=dT c6;by_cases ck1:k=1
    .have dk:=oN ((k:Int)=1);have hw:fJ x k=1:=by rw[fJ,iP ⟨c6,ck1⟩]
     refine kV (uI @d6 @dk) ?_;refine⟨_,trivial,wK @hw @hw⟩
    have dk:=Vj ((k:Int)=1);have hw:fJ x k=x.zn:=by rw[fJ,iN (fun h=>ck1 h.2)]
    refine kV (uI @d6 @dk) ?_;refine⟨_,trivial,wK @hw @hw⟩
   have d6:=dF c6;have hw:fJ x k=x.zn:=by rw[fJ,iN (fun h=>c6 h.1)]
   refine kV @d6 ?_;refine⟨_,trivial,wK @hw @hw⟩
  rintro ck1 -;generalize fJ x k=wt at*;cases c1:decide (t.kd=1)with
  |true=>rw[c1,Aa]at vA;refine VF (uI (bp aJ) (uI @e3 @c1)) ?_;rw[Ak vA];exact uP|false=>
   cases c2:decide (¬t.zn=wt)with
   |true=>rw[c1,c2]at vA;refine VF (uI (bp aJ) (uI @e3 (uI @c1 @c2))) ?_;rw[Ak vA];exact uP|false=>rw[c1,c2]at vA;refine VF (uI (bp aJ) (uI @e3 (uI @c1 @c2))) ?_;refine⟨(_,k+1),⟨uO,Wt vA⟩,uO,ch⟩
 refine El ?_;have:NQ y.U x=true:=by rw[NQ,hA,tA fun j tw=>hj j oM];rfl
 rw[this];exact Et
def rG(xs:List Nd)(d:T3):Int:=
 if ¬d.a=1/\¬d.a=2 then 4 else if d.b<0\/(xs.length:Int)<=d.b\/d.c<0\/(xs.getD d.b.toNat default).ln<=d.c then 1 else 0
def Ci(ds:List T3)(i:Nat):Bool:=!(ds.take i).any fun y=>Ql (ds.getD i default) y
def AM(xs:List Nd)(ds:List T3):Int:=match ds.find? fun d=>!decide (rG xs d=0)with
 |some d=>rG xs d|none=>if(List.range ds.length).all (Ci ds)=true then 0 else 5
def Rh{xs:List Nd}{ds:List T3}{i:Nat}(hi:i<ds.length)(h:∀j,j<i->rG xs (ds.getD j default)=0)(hb:¬rG xs (ds.getD i default)=0):AM xs ds=rG xs (ds.getD i default):=by
 have:(ds.find? fun d=>!decide (rG xs d=0))=some (ds.getD i default):=by rw[aah];refine⟨xW,i,hi,by simp[hi],fun j hj=>?_⟩;have Se:j<ds.length:=oM;have:=h j hj;simpa[Se] using this
 rw[AM,this]
def D2{xs:List Nd}{ds:List T3}(h:∀j,j<ds.length->rG xs (ds.getD j default)=0):AM xs ds=if(List.range ds.length).all (Ci ds)=true then 0 else 5:=by
 have:(ds.find? fun d=>!decide (rG xs d=0))=none:=by rw[iq];intro d hd;obtain⟨j,hj,rfl⟩:=G_ hd;have:=h j hj;simpa[hj] using this
 rw[AM,this]
def ao3(y:Ly)(hN:y.U.length<=1000)(hD:y.D.length<=1000):UB prog J9 146 [] [y.av] [] (I (AM y.U y.D)):=by
 refine MD func146 ntmps146 ?_;intro w e X hC;refine EP ?_;refine R7 y.D.length (fun q:Az=>⟨[(1,.p 101 1 0 0 0),(8,.sl (YA y.D) false),(9,I y.D.length),(10,I q.2)],(101,some (1,.box (r8 y)))::[],q.1⟩) (fun q=>∀j,j<q.2->rG y.U (y.D.getD j default)=0) (fun j hj=>absurd hj (nZ _)) (ch) ?_;intro ck k hk hj;simp only at hj;refine C0 ?_ ?_<;>intro h
 .have PP:k<y.D.length:=oM;have Ak:=Rh PP hj;have Wt:rG y.U (y.D.getD k default)=0->∀j,j<k+1->rG y.U (y.D.getD j default)=0:=fun h j tw=>by
   by_cases ZJ:j=k
   .subst ZJ;exact h
   exact hj j oM
  have hE:rG y.U (y.D.getD k default)=_:=rG.eq_1 _ _;generalize rG y.U (y.D.getD k default)=r at*;generalize e1:y.D.getD k default=d at*;refine Bj (uI (Hr PP) @e1) ?_;refine lK ?_;refine GA ?_;refine JP (fun q:Nat=>⟨[(1,.p 101 1 0 0 0),(4,.p 104 (ck+3) 0 0 0),(8,.sl (YA y.D) false),(9,I y.D.length),(10,I k),(14,B (decide (¬d.a=1/\¬d.a=2)))],(104,some (ck+3,.box [I d.a,I d.b,I d.c]))::(101,some (1,.box (r8 y)))::[],q⟩) (fun _=>True) ?_ ?_
  .cases d1:decide (¬d.a=1)with
   |true=>
    have h1:=oT d1;cases d2:decide (¬d.a=2)with
    |true=>rw[dT (show ¬d.a=1/\¬d.a=2 from⟨h1,oT d2⟩)];refine aH (uI @d1 @d2) ?_;refine⟨_,trivial,ch⟩|false=>have h2:=oF d2;rw[dF (show ¬(¬d.a=1/\¬d.a=2) from fun h=>h2 h.2)];refine aH (uI @d1 @d2) ?_;refine⟨_,trivial,ch⟩
   |false=>have h1:=oF d1;rw[dF (show ¬(¬d.a=1/\¬d.a=2) from fun h=>h1 h.1)];refine aH @d1 ?_;refine⟨_,trivial,ch⟩
  rintro ck1 -;refine Wc ?_ ?_<;>intro ca
  .rw[iP ca]at hE;refine uZ ?_;rw[Ak oM,hE];exact uP
  rw[iN ca]at hE;cases d1:decide (d.b<0)with
  |true=>rw[iP (.inl (oT d1))]at hE;refine mb @d1 ?_;refine WM ?_;rw[Ak oM,hE];exact uP|false=>
   have g1:=oF d1;cases d2:decide ((y.U.length:Int)<=d.b)with
   |true=>rw[iP (.inr (.inl (oT d2)))]at hE;refine mb (uI @d1 @d2) ?_;refine WM ?_;rw[Ak oM,hE];exact uP|false=>
    have g2:=oF d2;cases d3:decide (d.c<0)with
    |true=>rw[iP (.inr (.inr (.inl (oT d3))))]at hE;refine mb (uI @d1 (uI @d2 @d3)) ?_;refine WM ?_;rw[Ak oM,hE];exact uP|false=>
     have g3:=oF d3;obtain⟨m,hm⟩:∃m,m=d.b.toNat:=⟨_,rfl⟩;have Al:d.b=(m:Int):=oM;rw[<-hm]at hE;have aJ:m<y.U.length:=oM;generalize e2:y.U.getD m default=x at*;have d2':decide ((y.U.length:Int)<=m)=false:=dF oM;have d1':decide ((m:Int)<0)=false:=dF oM;cases d4:decide (x.ln<=d.c)with
     |true=>rw[iP (.inr (.inr (.inr (oT d4))))]at hE;refine mb (uI @Al (uI @d1' (uI @d2' (uI @d3 (uI (bp aJ) (uI @e2 @d4)))))) ?_;refine WM ?_;rw[Ak oM,hE];exact uP|false=>have g4:=oF d4;rw[iN (fun h=>by rcases h with h|h|h|h<;>omega)]at hE;refine mb (uI @Al (uI @d1' (uI @d2' (uI @d3 (uI (bp aJ) (uI @e2 @d4)))))) ?_;refine UN ?_;refine⟨(_,k+1),⟨uO,Wt hE⟩,uO,ch⟩
 refine El ?_;obtain rfl:k=y.D.length:=oM;rw[D2 hj];clear hj;refine EP ?_;refine R7 y.D.length (fun q:Az=>⟨[(1,.p 101 1 0 0 0),(54,.sl (YA y.D) false),(55,I y.D.length),(56,I q.2)],(101,some (1,.box (r8 y)))::[],q.1⟩) (fun q=>∀j,j<q.2->Ci y.D j=true) (fun j hj=>absurd hj (nZ _)) (ch) ?_;intro ck2 k hk hj;simp only at hj;refine C0 ?_ ?_<;>intro h
 .have PP:k<y.D.length:=oM;have uv:=ah7 (y.D.take k) (y.D.getD k default) j6;have Ak:Ci y.D k=false->(List.range y.D.length).all (Ci y.D)=false:=R4 PP;have Wt:Ci y.D k=true->∀j,j<k+1->Ci y.D j=true:=fun h j tw=>by
   by_cases ZJ:j=k
   .subst ZJ;exact h
   exact hj j oM
  unfold Ci at Ak Wt;have Xj:(y.D.take k).length=k:=j6;generalize ((y.D.take k).any fun z=>Ql (y.D.getD k default) z)=v at*;generalize e1:y.D.getD k default=d at*;refine Bj (uI (Hr PP) @e1) ?_;refine zj (uI @L1 @Xj) ?_;intro K hK;refine⟨oM,?_⟩;refine PD uv ?_;refine hK _ ?_;clear hK K;cases v with
  |true=>rw[iN (fun h=>absurd (h.symm.trans (Ak rfl)) dM)];exact Ed|false=>refine UN ?_;refine⟨(_,k+1),⟨uO,Wt rfl⟩,uO,ch⟩
 refine El ?_;rw[iP (tA fun j tw=>hj j oM)];exact Et
theorem dA(n:Int):∀(l:List (Int×Int))(i:Nat),L7 n l (i+1)=(L7 n l i).map fun q=>(q.1+1,q.2)
 |[],_=>rfl|p::l,i=>by
  rw[L7,L7];split
  .rfl
  exact dA n l (i+1)
def fH(p:Int×Int)(l:List (Int×Int))(m:Int):bN (p::l) m=if m=p.1 then p.2 else bN l m:=by
 unfold bN;rw[L7];by_cases h:m=p.1
 .rw[iP h,iP h]
 rw[iN h,iN h,dA];cases L7 m l 0<;>rfl
theorem asS(p:Int×Int)(l:List (Int×Int))(n v:Int):IF (p::l) n v=if n=p.1 then(n,v)::l else p::IF l n v:=by
 unfold IF;rw[L7];by_cases h:n=p.1
 .rw[iP h,iP h];rfl
 rw[iN h,iN h,dA];cases L7 n l 0 with
 |none=>rfl|some q=>rfl
theorem y6(n v m:Int):∀l:List (Int×Int),bN (IF l n v) m=if m=n then v else bN l m
 |[]=>by show bN [(n,v)] m=_;rw[fH]|p::l=>by
  rw[asS];split
  .rename_i h;rw[fH,fH];by_cases hm:m=n
   .simp[hm]
   simp[hm,<-h]
  rename_i h;rw[fH,fH,y6 n v m l];by_cases hm:m=n
  .subst hm;simp[h]
  simp[hm]
def G6(ex:List Int)(k i:Int):Int:=(ex.countP fun e=>decide (e=i)&&!decide (e=k):Nat)
def uj(ex:List Int)(e k i:Int):G6 (ex++[e]) k i=G6 ex k i+if e=i/\¬e=k then 1 else 0:=by
 unfold G6;rw[mG];by_cases h:e=i/\¬e=k
 .rw[iP h];simp[h.1,h.2,zM];rw[<-h.1];simp[h.2]
 rw[iN h];have:(decide (e=i)&&!decide (e=k))=false:=by
  by_cases h1:e=i
  .have:e=k:=BX fun h2=>h ⟨h1,h2⟩;simp[this]
  simp[h1]
 simp[zM,this]
def fB(ex:List Int)(k i:Int):0<=G6 ex k i:=by unfold G6;omega
def D'(ex:List Int)(k i:Int):G6 ex k i<=ex.length:=by unfold G6;have:=dG (l:=ex) (p:=fun e=>decide (e=i)&&!decide (e=k));omega
def ats{ex:List Int}{k i:Int}:G6 ex k i=0↔¬(¬k=i/\i∈ex):=by
 unfold G6;rw[show((ex.countP fun e=>decide (e=i)&&!decide (e=k):Nat):Int)=0↔(ex.countP fun e=>decide (e=i)&&!decide (e=k))=0 by omega,Li];constructor
 .rintro h ⟨h1,h2⟩;have:=h i h2;simp at this;exact h1 this.symm
 intro h a ha h2;simp only[TF,Vd,Oc,mV]at h2;obtain⟨rfl,h3⟩:=h2;exact h ⟨fun h4=>h3 h4.symm,ha⟩
def mY(xs:List Nd)(out:List Int)(i:Int):Nat->Int
 |0=>0|k+1=>mY xs out i k+if(k:Int)∈out then 0 else G6 (xs.getD k default).ex k i
theorem MG(xs:List Nd)(out:List Int)(i:Int):∀k,0<=mY xs out i k
 |0=>MB _|k+1=>by have:=MG xs out i k;have:=fB (xs.getD k default).ex k i;rw[mY];split<;>omega
theorem Xw{xs:List Nd}{out:List Int}{i:Int}(hx:∀k,k<xs.length->(xs.getD k default).ex.length<=1000):∀k,k<=xs.length->mY xs out i k<=1000*k
 |0,_=>by simp[mY]|k+1,h=>by have:=Xw (out:=out) (i:=i) hx k oM;have:=D' (xs.getD k default).ex k i;have:=hx k oM;rw[mY];split<;>omega
theorem Qq{xs:List Nd}{out:List Int}{i:Int}:∀{n},mY xs out i n=0↔∀k,k<n->¬(k:Int)∈out->G6 (xs.getD k default).ex k i=0
 |0=>by simp[mY]|n+1=>by
  have ih:=Qq (xs:=xs) (out:=out) (i:=i) (n:=n);have h1:=MG xs out i n;have h2:=fB (xs.getD n default).ex n i;rw[mY];constructor
  .intro h k hk S8;have hw:mY xs out i n=0:=by split at h<;>omega
   by_cases SX:k=n
   .subst SX;rw[iN S8]at h;omega
   exact ih.1 hw k oM S8
  intro h;have hw:=ih.2 fun k hk=>h k oM;rw[hw];split
  .rfl
  rename_i ho;rw[h n oM ho];rfl
theorem PF{xs:List Nd}{out:List Int}{i:Int}{m:Nat}(hm:¬(m:Int)∈out):∀n,mY xs (out++[(m:Int)]) i n=mY xs out i n - if m<n then G6 (xs.getD m default).ex m i else 0
 |0=>by simp[mY]|n+1=>by
  have ih:=PF (xs:=xs) (i:=i) hm n;rw[mY,mY,ih];by_cases aJ:m=n
  .subst aJ;simp[hm]
  have e1:((n:Int)∈out++[(m:Int)])↔(n:Int)∈out:=by simp only[ym,iT];exact⟨fun h=>h.elim id fun h=>oM,.inl⟩
  simp only[e1];by_cases PP:m<n
  .simp only[iP PP,iP (show m<n+1 by omega)];split<;>omega
  simp only[iN PP,iN (show ¬m<n+1 by omega)];split<;>omega
theorem Mr{xs:List Nd}{out:List Int}{i:Nat}:∀{n},rv xs out i n=true↔¬(i:Int)∈out/\∀k,k<n->cS (xs.getD k default) k i=true->(k:Int)∈out
 |0=>by simp[rv]|n+1=>by
  rw[rv];constructor
  .intro h;split at h
   .cases h
   rename_i h2;obtain⟨h3,h4⟩:=Mr.1 h;refine⟨h3,fun k hk hl=>?_⟩;by_cases SX:k=n
   .subst SX;exact BX fun ho=>h2 ⟨hl,ho⟩
   exact h4 k oM hl
  rintro⟨h1,h2⟩;rw[iN (fun h=>h.2 (h2 n oM h.1))];exact Mr.2 ⟨h1,fun k hk=>h2 k oM⟩
def ape{xs:List Nd}{out:List Int}{i:Nat}:rv xs out i xs.length=(!decide ((i:Int)∈out)&&decide (mY xs out i xs.length=0)):=by rw[VY,Mr];simp only[TF,Oc,mV,Vd,Qq,ats,cS];refine qU fun _=>⟨fun h k hk ho h2=>ho (h k hk h2),fun h k hk h2=>BX fun ho=>h k hk ho h2⟩
def eW{xs:List Nd}{out:List Int}{i:Nat}(hi:i<xs.length)(h:rv xs out i xs.length=true)(hb:∀j,j<i->rv xs out j xs.length=false):VE xs out=i:=by
 have:∀c,c<=xs.length->xs.length-c<=i->jt xs out c=i:=by
  intro c;induction c with
  |zero=>intro _ h2;omega|succ c ih=>
   intro h1 h2;rw[jt];by_cases he:xs.length-1-c=i
   .rw[he,iP h]
   rw[hb _ oM,iN dM];exact ih oM oM
 exact this xs.length (lR _) oM
def ahg{xs:List Nd}{out:List Int}(hb:∀j,j<xs.length->rv xs out j xs.length=false):VE xs out=-1:=by
 have:∀c,c<=xs.length->jt xs out c=-1:=by
  intro c;induction c with
  |zero=>intro _;rfl|succ c ih=>intro h1;rw[jt,hb _ oM,iN dM];exact ih oM
 exact this xs.length (lR _)
def dl(N:Nat)(o:List Int):List Bool:=(List.range N).map fun(i:Nat)=>decide ((i:Int)∈o)
def qQ(N:Nat)(o:List Int):(dl N o).length=N:=by simp[dl]
def auf{N i:Nat}{o:List Int}(h:i<N):(dl N o).getD i false=decide ((i:Int)∈o):=by simp[dl,h]
def CR(N:Nat):List.replicate N false=dl N []:=by
 apply i7
 .simp[dl]
 intro i h1 h2;simp[dl]
def aaJ{N m:Nat}{o:List Int}:(dl N o).set m true=dl N (o++[(m:Int)]):=by
 apply i7
 .simp[dl]
 intro i h1 h2;rw[PU];by_cases h:m=i
 .subst h;simp[dl]
 have:¬(i:Int)=(m:Int):=oM;simp[dl,h,this]
theorem Zh{xs:List Nd}{out:List Int}:∀c,0<=jt xs out c->rv xs out (jt xs out c).toNat xs.length=true
 |0,h=>by rw[jt]at h;omega|c+1,h=>by
  rw[jt]at h ⊢;by_cases h2:rv xs out (xs.length-1-c) xs.length=true
  .rw[iP h2,Mv];exact h2
  rw[iN h2]at h ⊢;exact Zh c h
def Cn(y:Ly)(hy:y.U.length<=1000)(hx:∀i,i<y.U.length->(y.U.getD i default).ex.length<=1000)(hr:∀i,i<y.U.length->∀j,j<(y.U.getD i default).ex.length->0<=(y.U.getD i default).ex.getD j 0/\(y.U.getD i default).ex.getD j 0<y.U.length):
  UB prog J9 145 [] [y.av] [] (IS (WR y.U)):=by
 refine MD func145 ntmps145 ?_;intro w e X hC;refine EP ?_;refine PV (fun q:Nat×Nat×List (Int×Int)=>⟨[(1,.p 101 1 0 0 0),(3,.Ic 114 3),(16,.sl (H4 y.U) false),(17,I y.U.length),(18,I q.2.1)],(114,some (3,.mp q.2.2))::(101,some (1,.box (r8 y)))::[],q.1⟩) (fun q=>q.2.1<=y.U.length/\∀i,bN q.2.2 i=mY y.U [] i q.2.1) (fun q=>y.U.length-q.2.1) (_,0,[]) ⟨zL _,fun _=>rfl⟩ (ch) ?_;rintro⟨ck,a,es⟩ ⟨ha,fg⟩;simp only at ha fg;refine C0 ?_ ?_<;>intro h
 .have PP:a<y.U.length:=oM;have aca:=hx a PP;have hW:∀i,mY y.U [] i (a+1)=mY y.U [] i a+G6 (y.U.getD a default).ex a i:=fun i=>by rw[mY,iN sM]
  have aw:∀i,mY y.U [] i a<=1000*a:=fun i=>Xw hx a ha;have Yb:∀i,0<=mY y.U [] i a:=fun i=>MG _ _ _ _;generalize e1:y.U.getD a default=x at*;refine LY (uI (bp PP) @e1) ?_;refine PV (fun q:Nat×Nat×List (Int×Int)=>⟨[(1,.p 101 1 0 0 0),(3,.Ic 114 3),(4,I a),(16,.sl (H4 y.U) false),(17,I y.U.length),(18,I a),(24,IS x.ex),(25,I x.ex.length),(26,I q.2.1)],(114,some (3,.mp q.2.2))::(101,some (1,.box (r8 y)))::[],q.1⟩) (fun q=>q.2.1<=x.ex.length/\∀i,bN q.2.2 i=mY y.U [] i a+G6 (x.ex.take q.2.1) a i) (fun q=>x.ex.length-q.2.1) (_,0,es) ⟨zL _,fun i=>by simp only[Td];rw[fg i,G6];simp⟩ (ch) ?_;rintro⟨ck2,c,es2⟩ ⟨hc,Ml⟩;simp only at hc Ml;refine C0 ?_ ?_<;>intro h2
  .have XR:c<x.ex.length:=oM;have Xj:=R9 (d:=0) XR;have hO:∀i,G6 (x.ex.take (c+1)) a i=G6 (x.ex.take c) a i+if x.ex.getD c 0=i/\¬x.ex.getD c 0=a then 1 else 0:=fun i=>by rw[Xj,uj]
   have ce:∀i,G6 (x.ex.take c) a i<=c:=fun i=>by have:=D' (x.ex.take c) a i;rw[Hh]at this;omega
   have ni:∀i,0<=G6 (x.ex.take c) a i:=fun i=>fB _ _ _;generalize e2:x.ex.getD c 0=e at*;have LU:=Ml e;have:=aw e;have:=Yb e;have:=ce e;have:=ni e;refine Fm (uI (ma XR) @e2) ?_ ?_<;>intro h3
   .refine uZ ?_;refine⟨(_,c+1,IF es2 e (bN es2 e+1)),⟨uO,fun i=>?_⟩,uO,ch⟩;simp only;rw[y6,hO i,Ml e,Ml i];by_cases hi:i=e
    .subst hi;rw[iP rfl,iP ⟨rfl,h3⟩];omega
    rw[iN hi,iN (fun h=>hi h.1.symm)];omega
   refine uZ ?_;refine⟨(_,c+1,es2),⟨uO,fun i=>?_⟩,uO,ch⟩;simp only;rw[hO i,Ml i,iN (fun h=>h3 h.2)];omega
  refine jq ?_;refine⟨(_,a+1,es2),⟨uO,fun i=>?_⟩,uO,ch⟩;simp only;rw[hW i,Ml i,DZ oM]
 refine El ?_;obtain rfl:a=y.U.length:=oM;clear h ha;refine EP ?_;refine PV (fun q:Nat×Nat×List (Int×Int)×Az=>⟨[(1,.p 101 1 0 0 0),(3,.Ic 114 3),(8,.l 108 q.2.2.2.2 0 q.2.1),(9,.l 142 q.2.2.2.1 0 y.U.length),(45,I y.U.length),(46,I q.2.1)],
  (142,some (q.2.2.2.1,.own 4 1 (IM (dl y.U.length (Fx y.U q.2.1)))))::(108,some (q.2.2.2.2,.own 3 1 (tk (Fx y.U q.2.1))))::(114,some (3,.mp q.2.2.1))::(101,some (1,.box (r8 y)))::[],q.1⟩)
  (fun q=>q.2.1<=y.U.length/\(Fx y.U q.2.1).length=q.2.1/\∀i,bN q.2.2.1 i=mY y.U (Fx y.U q.2.1) i y.U.length) (fun q=>y.U.length-q.2.1) (_,0,es,ck+5,ck+1) ⟨zL _,rfl,fg⟩ (.of (lR _) (by repeat (first|exact Zf.nil|refine Zf.cons rfl ?_|refine Zf.gone ?_|refine Zf.opt rfl ?_|(refine Zf.cons ?_ ?_;(focus (simp only[go_sem,Fx,<-CR];done)))|(refine Zf.less rfl (Km.wB ?_) ?_;(focus ((repeat (first|exact BW.nil|refine BW.same ?_|(refine BW.GL ?_ ?_ ?_ ?_;(focus (first|exact trivial|(simp only[go_sem,Fx,<-CR]<;>trivial)));(focus (first|rfl|((simp only[go_sem,Fx,<-CR]<;>rfl);done)));(focus (first|(simp only[go_sem,Fx,<-CR];done)|((simp only[go_sem,Fx,<-CR]<;>simp);done)|(simp;done)))))));done)))) bi) ?_
 clear fg;rintro⟨ck,n,es,g1,g2⟩ ⟨hn,S0,fg⟩;simp only at hn S0 fg;have e1:Fx y.U (n+1)=_:=Fx.eq_2 y.U n;have VV:VE y.U (Fx y.U n)<0->WR y.U=Fx y.U n:=fun h=>by have:=kg h (y.U.length-n);rw[show n+(y.U.length-n)=y.U.length by omega]at this;exact this
 have FK:n=y.U.length->WR y.U=Fx y.U n:=fun h=>by rw[h];rfl
 generalize Fx y.U n=o at*;refine C0 ?_ ?_<;>intro h
 .have PP:n<y.U.length:=oM;refine uA ?_;refine GA ?_;refine JP (fun q:Nat=>⟨[(1,.p 101 1 0 0 0),(3,.Ic 114 3),(8,.l 108 g2 0 n),(9,.l 142 g1 0 y.U.length),(10,I (VE y.U o)),(45,I y.U.length),(46,I n)],
   (142,some (g1,.own 4 1 (IM (dl y.U.length o))))::(108,some (g2,.own 3 1 (tk o)))::(114,some (3,.mp es))::(101,some (1,.box (r8 y)))::[],q⟩) (fun _=>True) ?_ ?_
  .refine EP ?_;refine R7 y.U.length (fun q:Az=>⟨[(1,.p 101 1 0 0 0),(3,.Ic 114 3),(8,.l 108 g2 0 n),(9,.l 142 g1 0 y.U.length),(10,I (-1)),(45,I y.U.length),(46,I n),(50,I y.U.length),(51,I q.2)],
    (142,some (g1,.own 4 1 (IM (dl y.U.length o))))::(108,some (g2,.own 3 1 (tk o)))::(114,some (3,.mp es))::(101,some (1,.box (r8 y)))::[],q.1⟩) (fun q=>∀j,j<q.2->rv y.U o j y.U.length=false) (fun j hj=>absurd hj (nZ _)) (ch) ?_
   intro ck2 i hi hj;simp only at hj;refine C0 ?_ ?_<;>intro h2
   .have T6:i<y.U.length:=oM;have MC:=ape (xs:=y.U) (out:=o) (i:=i);have ac2:rv y.U o i y.U.length=true->VE y.U o=i:=fun h=>eW T6 h hj;have Wt:rv y.U o i y.U.length=false->∀j,j<i+1->rv y.U o j y.U.length=false:=fun h j tw=>by
     by_cases ZJ:j=i
     .subst ZJ;exact h
     exact hj j oM
    generalize rv y.U o i y.U.length=r at*;rw[<-fg i]at MC;have OT:i<(dl y.U.length o).length:=by rw[qQ];exact T6
    have Z1:=auf (o:=o) T6;cases c1:decide ((i:Int)∈o)with
    |true=>rw[c1]at MC Z1;simp only[Y5,aS]at MC;refine uA ?_;refine VF (uI (kG OT) (uI @Z1 @qQ)) ?_;refine⟨(_,i+1),⟨uO,Wt MC⟩,uO,ch⟩|false=>
     rw[c1]at MC Z1;simp only[RB,Q2]at MC;cases c2:decide (bN es i=0)with
     |true=>rw[c2]at MC;refine uA ?_;refine VF (uI (kG OT) (uI @Z1 (uI @qQ @c2))) ?_;refine El ?_;refine⟨_,trivial,wT (ac2 MC)⟩|false=>rw[c2]at MC;refine uA ?_;refine VF (uI (kG OT) (uI @Z1 (uI @qQ @c2))) ?_;refine⟨(_,i+1),⟨uO,Wt MC⟩,uO,ch⟩
   refine El ?_;have arM:VE y.U o=-1:=ahg fun j tw=>hj j oM;refine⟨_,trivial,wT @arM⟩
  rintro ck2 -;refine C0 ?_ ?_<;>intro h2
  .have e5:=VV h2;refine jq ?_;(refine A_ (SY (Rp @S0) ?_);try rfl)
   exact an (uI @S0 @e5)
  rw[iN h2]at e1;have MC:rv y.U o (VE y.U o).toNat y.U.length=true:=Zh _ (by show 0<=VE y.U o;omega);have XR:VE y.U o<max 1 (y.U.length:Int):=M0 _;obtain⟨m,hm⟩:∃m,m=(VE y.U o).toNat:=⟨_,rfl⟩;rw[<-hm]at MC;have Al:VE y.U o=(m:Int):=oM;rw[Al]at e1;have aJ:m<y.U.length:=oM;have jG:¬(m:Int)∈o:=(Mr.1 MC).1;have hW:∀i,mY y.U (o++[(m:Int)]) i y.U.length=mY y.U o i y.U.length-G6 (y.U.getD m default).ex m i:=fun i=>by rw[PF jG,iP aJ]
  have aw:∀i,mY y.U o i y.U.length<=1000*y.U.length:=fun i=>Xw hx _ (lR _);have Yb:∀i,0<=mY y.U o i y.U.length:=fun i=>MG _ _ _ _;have aca:=hx m aJ;have jj:=qQ y.U.length o;have Iw:=aaJ (N:=y.U.length) (m:=m) (o:=o);have aeE:(o++[(m:Int)]).length=n+1:=by simp[S0]
  generalize e3:y.U.getD m default=x at*;refine LY (uI @Al (uI @S0 (uI @qQ (uI @Iw (uI (bp aJ) @e3))))) ?_;refine PV (fun q:Nat×Nat×List (Int×Int)×Nat=>⟨[(1,.p 101 1 0 0 0),(3,.Ic 114 3),(8,.l 108 q.2.2.2 0 (n+1)),(9,.l 142 g1 0 y.U.length),(10,I m),(45,I y.U.length),(46,I n),(81,IS x.ex),(82,I x.ex.length),(83,I q.2.1)],
   (142,some (g1,.own 4 1 (IM (dl y.U.length (o++[(m:Int)])))))::(108,some (q.2.2.2,.own 3 1 (tk (o++[(m:Int)]))))::(114,some (3,.mp q.2.2.1))::(101,some (1,.box (r8 y)))::[],q.1⟩)
   (fun q=>q.2.1<=x.ex.length/\∀i,bN q.2.2.1 i=mY y.U o i y.U.length-G6 (x.ex.take q.2.1) m i) (fun q=>x.ex.length-q.2.1) (_,0,es,_) ⟨zL _,fun i=>by simp only[Td];rw[fg i,G6];simp⟩ (wK @S0 @S0) ?_
  rintro⟨ck3,c,es2,g3⟩ ⟨hc,Ml⟩;simp only at hc Ml;refine C0 ?_ ?_<;>intro h5
  .have aI:c<x.ex.length:=oM;have Xj:=R9 (d:=0) aI;have hO:∀i,G6 (x.ex.take (c+1)) m i=G6 (x.ex.take c) m i+if x.ex.getD c 0=i/\¬x.ex.getD c 0=m then 1 else 0:=fun i=>by rw[Xj,uj]
   have ce:∀i,G6 (x.ex.take c) m i<=c:=fun i=>by have:=D' (x.ex.take c) m i;rw[Hh]at this;omega
   have ni:∀i,0<=G6 (x.ex.take c) m i:=fun i=>fB _ _ _;generalize e6:x.ex.getD c 0=e at*;have LU:=Ml e;have:=aw e;have:=Yb e;have:=ce e;have:=ni e;refine Fm (uI (ma aI) @e6) ?_ ?_<;>intro h6
   .refine uZ ?_;refine⟨(_,c+1,IF es2 e (bN es2 e-1),_),⟨uO,fun i=>?_⟩,uO,ch⟩;simp only;rw[y6,hO i,Ml e,Ml i];by_cases hi:i=e
    .subst hi;rw[iP rfl,iP ⟨rfl,h6⟩];omega
    rw[iN hi,iN (fun h=>hi h.1.symm)];omega
   refine uZ ?_;refine⟨(_,c+1,es2,_),⟨uO,fun i=>?_⟩,uO,ch⟩;simp only;rw[hO i,Ml i,iN (fun h=>h6 h.2)];omega
  refine jq ?_;refine⟨(_,n+1,es2,g1,g3),⟨uO,by simp only;rw[e1];exact aeE,fun i=>?_⟩,uO,wH @e1⟩;simp only;rw[e1,hW i,Ml i,DZ oM]
 refine El ?_;have e4:=FK oM;refine uZ ?_;(refine A_ (SY (Rp @S0) ?_);try rfl)
 exact an (uI @S0 @e4)
def Ma(A n:Nat)(e:Int):Int:=if e<=A\/e=(n:Int)-2 then 0 else 1
def EX(A n i:Nat)(z:Int)(e:Int):Prop:=(i:Int)<e/\e<n/\Ma A n e=z
structure j_(A n i:Nat)(x:Nd):Prop where
 kd:1<=x.kd/\x.kd<=9
 k1:x.kd=1↔i=0
 k6:x.kd=6->i=A
 k8:8<=x.kd->A<i
 zn:x.zn=Ma A n i
 z0:x.kd=1\/x.kd=3\/x.kd=6->x.zn=0
 z1:x.kd=7\/x.kd=8->x.zn=1
 ln:x.kd<=6->1<=x.ln/\x.ln<=4
 l5:x.kd=5->2<=x.ln
 l0:7<=x.kd->x.ln=0
 ex:(8<=x.kd/\x.ex=[])\/((x.kd=1\/x.kd=2\/x.kd=3\/x.kd=7)/\∃e,x.ex=[e]/\EX A n i x.zn e)\/
  (x.kd=4/\∃e f,x.ex=[e,f]/\e≠f/\EX A n i x.zn e/\EX A n i x.zn f)\/
  (x.kd=5/\∃f,x.ex=[(i:Int),f]/\EX A n i x.zn f)\/
  (x.kd=6/\∃e f,x.ex=[e,f]/\e≠f/\EX A n i 0 e/\EX A n i 1 f)
def lg{l:List Int}{a:Nat}{es:List Int}{x:Int}:((gO l a es x).1=-1/\So es x=[])\/((gO l a es x).1∈es/\(gO l a es x).1≠x):=by
 unfold gO;split
 .next h=>exact .inl ⟨rfl,h⟩
 next h=>
 refine .inr ?_;have hl:0<(So es x).length:=bt.mpr h;have hb:=G0 (l:=l) (a:=a) (n:=((So es x).length:Int)) oM;have hm:=aV (l:=So es x) (n:=(gN l a (So es x).length).toNat) oM;simp only;rw[So,Yu]at hm;exact⟨hm.1,oT hm.2⟩
def YY{l:List Int}{a:Nat}{es:List Int}(h:es≠[]):gP l a es∈es:=by have hl:0<es.length:=bt.mpr h;have hb:=G0 (l:=l) (a:=a) (n:=(es.length:Int)) oM;exact aV oM
def akP{es:List Int}{x:Int}(h:es≠[])(hx:x∉es):So es x≠[]:=by
 obtain⟨y,hy⟩:=s_ es h;intro h0;have:y∈So es x:=by rw[So,Yu];exact⟨hy,by simp;intro h;exact hx (h ▸ hy)⟩
 rw[h0]at this;cases this
def IZ{l:List Int}{a:Nat}{i z:Int}{kinds to:List Int}(hk:kinds≠[])(ht:to≠[])(P:Int->Prop)(hP:∀e∈to,P e/\0<=e):
  ((gS l a i z kinds to).1.kd∈kinds\/((gS l a i z kinds to).1.kd=2/\4∈kinds))/\(gS l a i z kinds to).1.zn=z/\(1<=(gS l a i z kinds to).1.ln/\(gS l a i z kinds to).1.ln<=4)/\((gS l a i z kinds to).1.kd=5->2<=(gS l a i z kinds to).1.ln)/\
  (((gS l a i z kinds to).1.kd=5/\∃f,(gS l a i z kinds to).1.ex=[i,f]/\P f)\/((gS l a i z kinds to).1.kd=4/\∃e f,(gS l a i z kinds to).1.ex=[e,f]/\e≠f/\P e/\P f)\/
   ((gS l a i z kinds to).1.kd≠4/\(gS l a i z kinds to).1.kd≠5/\∃e,(gS l a i z kinds to).1.ex=[e]/\P e)):=by
 have iE:(-1:Int)∉to:=fun h=>by have:=(hP _ h).2;omega
 have vU:=YY (l:=l) (a:=a) hk;have fo:=QU (l:=l) (a:=a+1) (lo:=1) (hi:=3) oM;have hf:P (gO l (a+2) to (-1)).1:=by
  rcases lg (l:=l) (a:=a+2) (es:=to) (x:=-1)with ⟨_,h⟩|⟨h,_⟩
  .exact absurd h (akP ht iE)
  exact(hP _ h).1
 unfold gS;simp only;split
 .next h5=>
  refine⟨.inl vU,rfl,?_,?_,.inl ⟨h5,_,rfl,hf⟩⟩
  .simp only;omega
  simp only;omega
 next h5=>
 split
 .next h4=>
  rcases lg (l:=l) (a:=(gO l (a+2) to (-1)).2) (es:=to) (x:=(gO l (a+2) to (-1)).1)with ⟨h,_⟩|⟨h,SO⟩
  .rw[iP oM];exact⟨.inr ⟨rfl,h4 ▸ vU⟩,rfl,uO,fun h=>tC,.inr (.inr ⟨show(2:Int)≠4 by decide,show(2:Int)≠5 by decide,_,rfl,hf⟩)⟩
  have:=(hP _ h);rw[iN oM];exact⟨.inl vU,rfl,uO,fun h=>absurd h h5,.inr (.inl ⟨h4,_,_,rfl,fun h=>SO h.symm,hf,this.1⟩)⟩
 next h4=>exact⟨.inl vU,rfl,uO,fun h=>absurd h h5,.inr (.inr ⟨h4,h5,_,rfl,hf⟩)⟩
theorem Ud{lo:Nat}{e:Int}:∀{k:Nat},e∈G8 lo k->(lo:Int)<=e/\e<lo+k
 |0,h=>by simp[G8]at h|k+1,h=>by
  rw[G8,ym,iT]at h;rcases h with h|h
  .have:=Ud h;omega
  omega
structure Sz(A B n:Nat):Prop where
 a:1<=A/\A<=3
 b:B<=3
 n:A+1+B+1+2<=n/\n<=A+1+B+2+2
def abF{A B n i:Nat}(h:Sz A B n)(hi:i<=A):∀e∈Oa A n i,EX A n i 0 e/\0<=e:=by
 obtain⟨h1,h2,h3⟩:=h;intro e he;rw[Oa,ym,iT]at he;unfold EX Ma;rcases he with he|he
 .have:=Ud he;rw[iP oM];omega
 rw[iP oM];omega
def ajz{A B n i:Nat}(h:Sz A B n)(hi:i<A+1+B):∀e∈iz A n i,EX A n i 1 e/\0<=e:=by
 obtain⟨h1,h2,h3⟩:=h;intro e he;rw[iz,ym,iT]at he;unfold EX Ma;rcases he with he|he
 .have:=Ud he;rw[iN oM];omega
 rw[iN oM];omega
def Mz{A n i:Nat}:iz A n i≠[]:=by simp[iz]
def rY{A n i:Nat}:Oa A n i≠[]:=by simp[Oa]
def apW{l:List Int}{A B n i a:Nat}(h:Sz A B n)(hi:i<n)(nm:ByteArray):j_ A n i {(Pe l A B n i a).1 with nm:=nm}:=by
 obtain⟨h1,h2,h3⟩:=h;have hz:=abF (i:=i) ⟨h1,h2,h3⟩;have ho:=ajz (i:=i) ⟨h1,h2,h3⟩;unfold Pe;by_cases c0:i=0
 .rw[iP c0];obtain⟨g1,g2,g3,g4,g5⟩:=IZ (l:=l) (a:=a) (i:=(i:Int)) (z:=0) (kinds:=[1]) sM rY (EX A n i 0) (hz oM);generalize (gS l a i 0 [1] (Oa A n i)).1=x at*;have VB:x.kd=1:=by
   rcases g1 with g1|⟨_,g1⟩
   .simpa using g1
   simp at g1
  refine⟨uO,uO,uO,uO,?_,fun _=>g2,uO,fun _=>g3,uO,uO,.inr (.inl ⟨.inl VB,?_⟩)⟩
  .simp only;rw[g2,Ma,iP oM]
  simp only;rw[g2];rcases g5 with ⟨g,_⟩|⟨g,_⟩|⟨_,_,g⟩
  .omega
  .omega
  exact g
 rw[iN c0];by_cases c1:i<A
 .rw[iP c1];obtain⟨g1,g2,g3,g4,g5⟩:=IZ (l:=l) (a:=a) (i:=(i:Int)) (z:=0) (kinds:=[2,3,4,5,3]) sM rY (EX A n i 0) (hz oM);generalize (gS l a i 0 [2,3,4,5,3] (Oa A n i)).1=x at*;have VB:x.kd=2\/x.kd=3\/x.kd=4\/x.kd=5:=by
   rcases g1 with g1|⟨g1,_⟩
   .simp at g1;omega
   exact .inl g1
  refine⟨uO,uO,uO,uO,?_,fun _=>g2,uO,fun _=>g3,g4,uO,?_⟩
  .simp only;rw[g2,Ma,iP oM]
  simp only;rw[g2];rcases g5 with ⟨g,g'⟩|⟨g,g'⟩|⟨g,g'',g'⟩
  .exact .inr (.inr (.inr (.inl ⟨g,g'⟩)))
  .exact .inr (.inr (.inl ⟨g,g'⟩))
  exact .inr (.inl ⟨oM,g'⟩)
 rw[iN c1];by_cases c2:i=A
 .rw[iP c2];have hg:=YY (l:=l) (a:=a+1) (Mz (A:=A) (n:=n) (i:=i));have he:=(ho oM _ hg).1;have hr:=QU (l:=l) (a:=a) (lo:=1) (hi:=3) oM;refine⟨uO,uO,fun _=>c2,uO,?_,fun _=>rfl,uO,fun _=>uO,uO,uO,.inr (.inr (.inr (.inr ⟨rfl,_,_,rfl,?_,?_,he⟩)))⟩
  .simp only;rw[Ma,iP oM]
  .intro h;rw[<-h]at he;have:=he.2.2;rw[Ma,iP oM]at this;omega
  unfold EX Ma;rw[iP oM];omega
 rw[iN c2];by_cases c3:i<A+1+B
 .rw[iP c3];obtain⟨g1,g2,g3,g4,g5⟩:=IZ (l:=l) (a:=a) (i:=(i:Int)) (z:=1) (kinds:=[2,4,5,7]) sM Mz (EX A n i 1) (ho c3);simp only;generalize (gS l a i 1 [2,4,5,7] (iz A n i))=x at*;have VB:x.1.kd=2\/x.1.kd=4\/x.1.kd=5\/x.1.kd=7:=by
   rcases g1 with g1|⟨g1,_⟩
   .simp at g1;omega
   exact .inl g1
  have bM:x.1.zn=Ma A n i:=by rw[g2,Ma,iN oM]
  split
  .next h7=>
   refine⟨uO,uO,uO,uO,bM,uO,fun _=>g2,uO,uO,fun _=>rfl,?_⟩;simp only;rw[g2];rcases g5 with ⟨g,g'⟩|⟨g,g'⟩|⟨g,g'',g'⟩
   .omega
   .omega
   exact .inr (.inl ⟨oM,g'⟩)
  next h7=>
  refine⟨uO,uO,uO,uO,bM,uO,fun _=>g2,fun _=>g3,g4,uO,?_⟩;simp only;rw[g2];rcases g5 with ⟨g,g'⟩|⟨g,g'⟩|⟨g,g'',g'⟩
  .exact .inr (.inr (.inr (.inl ⟨g,g'⟩)))
  .exact .inr (.inr (.inl ⟨g,g'⟩))
  exact .inr (.inl ⟨oM,g'⟩)
 rw[iN c3];by_cases c4:i<n-2
 .rw[iP c4];refine⟨uO,uO,uO,uO,?_,uO,fun _=>rfl,uO,uO,fun _=>rfl,.inl ⟨uO,rfl⟩⟩;simp only;rw[Ma,iN oM]
 rw[iN c4];refine⟨uO,uO,uO,uO,?_,uO,uO,uO,uO,fun _=>rfl,.inl ⟨uO,rfl⟩⟩;simp only;unfold Ma;split<;>omega
def abv{A B n k:Nat}{x:Nd}(h:Sz A B n)(hk:k<A)(hs:j_ A n k x):j_ A n k (kq k x):=by
 obtain⟨h1,h2,h3⟩:=h;unfold kq;split
 .next hc=>
  obtain⟨hc,hm⟩:=hc;have hz:x.zn=0:=by rw[hs.zn,Ma,iP oM]
  have hx:EX A n k x.zn ((k+1:Nat):Int):=by unfold EX;rw[hz,Ma,iP oM];omega
  refine⟨hs.kd,hs.k1,hs.k6,hs.k8,hs.zn,hs.z0,hs.z1,hs.ln,hs.l5,hs.l0,?_⟩;rcases hs.ex with ⟨g,g'⟩|⟨g,e,g',_⟩|⟨g,e,f,g',SO,he,hf⟩|⟨g,_⟩|⟨g,_⟩
  .have:=hs.k8 g;omega
  .refine .inr (.inl ⟨g,_,?_,hx⟩);simp only[lc,g'];rfl
  .refine .inr (.inr (.inl ⟨g,_,f,?_,?_,hx,hf⟩))
   .simp only[lc,g'];rfl
   intro h;rw[g']at hm;exact hm (by rw[h];simp)
  .exact absurd g hc
  have:=hs.k6 g;omega
 exact hs
structure Good(A n:Nat)(y:Ly):Prop where
 sz:∃B,Sz A B n
 len:y.U.length=n
 ya:∀i,i<n->j_ A n i (y.U.getD i default)
 nm:∀i,i<n->(y.U.getD i default).nm=p4 i
def Good.n11{A n:Nat}{y:Ly}(h:Good A n y):5<=n/\n<=11/\1<=A/\A<=3/\A+3<n:=by obtain⟨⟨B,⟨h1,h2⟩,h3,h4,h5⟩,_,_,_⟩:=h;omega
def abw(l:List Int)(a:Nat):∃A n,Good A n (gL l a).1:=by
 have hA:=QU (l:=l) (a:=a) (lo:=1) (hi:=3) oM;have hB:=QU (l:=l) (a:=a+1) (lo:=0) (hi:=3) oM;have hC:=QU (l:=l) (a:=a+2) (lo:=1) (hi:=2) oM;unfold gL;simp only;obtain⟨A,eA⟩:∃A,A=(gR l a 1 3).toNat:=⟨_,rfl⟩;obtain⟨B,eB⟩:∃B,B=(gR l (a+1) 0 3).toNat:=⟨_,rfl⟩;obtain⟨n,en⟩:∃n,n=A+1+B+(gR l (a+2) 1 2).toNat+2:=⟨_,rfl⟩;rw[<-eA,<-eB,<-en];have hs:Sz A B n:=⟨oM,oM,oM⟩;refine⟨A,n,⟨B,hs⟩,?_,?_,?_⟩
 .simp only;split
  .rw[lG,Iu]
  rw[Iu]
 .intro i hi;have h1:j_ A n i ((TO l A B n (a+3) n).1.getD i default):=by rw[U3 n hi];exact apW hs hi _
  simp only;split
  .rw[Cg (by rw[Iu];exact hi)];split
   .exact abv hs (by assumption) h1
   exact h1
  exact h1
 intro i hi;have h1:((TO l A B n (a+3) n).1.getD i default).nm=p4 i:=by rw[U3 n hi]
 simp only;split
 .rw[Cg (by rw[Iu];exact hi)];split
  .rw[ld.2.2.2];exact h1
  exact h1
 exact h1
def tO(d e:T3):Prop:=d.b<e.b\/(d.b=e.b/\(d.c<e.c\/(d.c=e.c/\e.a<d.a)))
def ZD(xs:List Nd)(i w:Nat)(o:List T3):Prop:=
 o.Pairwise tO/\∀d∈o,(d.a=1\/d.a=2)/\0<=d.b/\d.b<xs.length/\0<=d.c/\d.c<(xs.getD d.b.toNat default).ln/\(d.b<i\/(d.b=i/\d.c<w))
theorem mT{l:List Int}{xs:List Nd}{i:Nat}{o:List T3×Nat}(hi:i<xs.length)(h:ZD xs i 0 o.1):∀w,w<=(xs.getD i default).ln.toNat->ZD xs i w (kN l (xs.getD i default) i o w).1
 |0,_=>h|w+1,hw=>by
  obtain⟨h1,h2⟩:=mT (l:=l) hi h w oM;rw[kN];generalize kN l (xs.getD i default) i o w=r at*;have h3:(Ff l (xs.getD i default) i w r).1.Pairwise tO/\∀d∈(Ff l (xs.getD i default) i w r).1,(d.a=1\/d.a=2)/\0<=d.b/\d.b<xs.length/\0<=d.c/\d.c<(xs.getD d.b.toNat default).ln/\(d.b<i\/(d.b=i/\(d.c<w\/(d.c=w/\d.a=2)))):=by
   have D8:∀d∈r.1,(d.a=1\/d.a=2)/\0<=d.b/\d.b<xs.length/\0<=d.c/\d.c<(xs.getD d.b.toNat default).ln/\(d.b<i\/(d.b=i/\(d.c<w\/(d.c=w/\d.a=2)))):=fun d hd=>by obtain⟨g1,g2,g3,g4,g5,g6⟩:=h2 d hd;exact⟨g1,g2,g3,g4,g5,oM⟩
   unfold Ff;split
   .split
    .refine⟨iL.2 ⟨h1,sM,fun d hd e he=>?_⟩,fun d hd=>?_⟩
     .rw[iT]at he;subst he;obtain⟨g1,g2,g3,g4,g5,g6⟩:=h2 d hd;unfold tO;simp only;omega
     rcases ym.1 hd with hd|hd
     .exact D8 d hd
     rw[iT]at hd;subst hd;simp only[Mv];exact⟨.inr trivial,oM,oM,oM,oM,.inr ⟨trivial,.inr ⟨trivial,trivial⟩⟩⟩
    exact⟨h1,D8⟩
   exact⟨h1,D8⟩
  obtain⟨h4,h5⟩:=h3;generalize Ff l (xs.getD i default) i w r=s at*;have Zy:∀d∈s.1,(d.a=1\/d.a=2)/\0<=d.b/\d.b<xs.length/\0<=d.c/\d.c<(xs.getD d.b.toNat default).ln/\(d.b<i\/(d.b=i/\d.c<(w+1:Nat))):=fun d hd=>by obtain⟨g1,g2,g3,g4,g5,g6⟩:=h5 d hd;exact⟨g1,g2,g3,g4,g5,oM⟩
  unfold Fv;split
  .split
   .refine⟨iL.2 ⟨h4,sM,fun d hd e he=>?_⟩,fun d hd=>?_⟩
    .rw[iT]at he;subst he;obtain⟨g1,g2,g3,g4,g5,g6⟩:=h5 d hd;unfold tO;simp only;omega
    rcases ym.1 hd with hd|hd
    .exact Zy d hd
    rw[iT]at hd;subst hd;simp only[Mv];exact⟨.inl trivial,oM,oM,oM,oM,.inr ⟨trivial,oM⟩⟩
   exact⟨h4,Zy⟩
  exact⟨h4,Zy⟩
theorem UJ{l:List Int}{xs:List Nd}{a:Nat}(hx:∀i,i<xs.length->0<=(xs.getD i default).ln):∀i,i<=xs.length->ZD xs i 0 (Qg l xs a i).1
 |0,_=>⟨by simp[Qg],by simp[Qg]⟩|i+1,hi=>by obtain⟨h1,h2⟩:=mT (l:=l) oM (UJ hx i oM) _ (lR _);refine⟨h1,fun d hd=>?_⟩;obtain⟨g1,g2,g3,g4,g5,g6⟩:=h2 d hd;exact⟨g1,g2,g3,g4,g5,oM⟩
def Hu{α:Type}{R:α->α->Prop}{l:List α}{d:α}(h:l.Pairwise R){i j:Nat}(U7:i<j)(hj:j<l.length):R (l.getD i d) (l.getD j d):=by have:=JQ.1 h i j oM hj U7;simpa[hj,show i<l.length by omega] using this
def ad5{l:List Int}{xs:List Nd}{a:Nat}(hx:∀i,i<xs.length->0<=(xs.getD i default).ln):AM xs (gD l a xs).1=0:=by
 obtain⟨h1,h2⟩:=UJ (l:=l) (a:=a) hx _ (lR _);rw[D2 fun j hj=>?_]
 .rw[iP];refine tA fun i hi=>?_;rw[Ci,Oc,lA];intro z hz Xy;rw[PB]at Xy;obtain⟨j,hj,e⟩:=G_ hz;have ZJ:j<i:=by rw[Hh]at hj;omega
  have h3:=Hu (d:=default) h1 ZJ hi;have h4:(Qg l xs a xs.length).1.getD j default=z:=by rw[<-e,DA];have Se:j<(Qg l xs a xs.length).1.length:=yy ZJ hi;simp[Se];rfl
  rw[h4,show(Qg l xs a xs.length).1.getD i default=z from Xy]at h3;unfold tO at h3;omega
 have h3:=h2 _ (ka (d:=default) hj);show rG xs ((Qg l xs a xs.length).1.getD j default)=0;generalize (Qg l xs a xs.length).1.getD j default=d at*;unfold rG;rw[iN oM,iN oM]
def ai6:∀i,i<11->H1 (p4 i)=true:=Nw
def ag7:∀i,i<11->∀j,j<11->p4 i=p4 j->i=j:=Nw
def aqz{A n:Nat}{y:Ly}(h:Good A n y):Cr y.U=true:=by have hn:=h.n11;refine tA fun i hi=>?_;rw[h.len]at hi;have hN:=h.len;rw[Vd,kJ];refine jI (d:=default) oM (fun j hj=>?_) sM;rw[h.nm i hi,h.nm j oM,mV];intro h2;have:=ag7 j oM i oM h2;omega
def Good.ex{A n:Nat}{y:Ly}(h:Good A n y):Yt y.U:=by
 intro i hi j hj;rw[h.len]at hi ⊢;have hn:=h.n11;rcases(h.ya i hi).ex with ⟨_,g⟩|⟨_,e,g,he⟩|⟨_,e,f,g,_,he,hf⟩|⟨_,f,g,hf⟩|⟨_,e,f,g,_,he,hf⟩
 .rw[g]at hj;simp at hj
 .rw[g]at hj ⊢;obtain rfl:j=0:=Ou;obtain⟨h1,h2,_⟩:=he;simp;omega
 .rw[g]at hj ⊢;obtain⟨h1,h2,_⟩:=he;obtain⟨h3,h4,_⟩:=hf;have:j=0\/j=1:=YH;rcases this with rfl|rfl<;>simp<;>omega
 .rw[g]at hj ⊢;obtain⟨h3,h4,_⟩:=hf;have:j=0\/j=1:=YH;rcases this with rfl|rfl<;>simp<;>omega
 rw[g]at hj ⊢;obtain⟨h1,h2,_⟩:=he;obtain⟨h3,h4,_⟩:=hf;have:j=0\/j=1:=YH;rcases this with rfl|rfl<;>simp<;>omega
def Good.node{A n:Nat}{y:Ly}(h:Good A n y){i:Nat}(hi:i<n):s8 n i (y.U.getD i default)=0:=by
 have hn:=h.n11;have hs:=h.ya i hi;have hm:=h.nm i hi;generalize y.U.getD i default=x at*;obtain⟨kd1,kd2⟩:=hs.kd;have hz:x.zn=0\/x.zn=1:=by rw[hs.zn,Ma];split<;>simp
 have hl:E5 x=true:=by
  have fo:=hs.ln;have hl5:=hs.l5;have RO:=hs.l0;unfold E5 c9;by_cases h6:x.kd<=6
  .rw[iP xF];split
   .simp;omega
   simp;omega
  rw[iN xF];simp;omega
 suffices ajo:JC n i x=true by rw[s8,iN (by rw[hm,ai6 i oM];decide),iN oM,iP ⟨hl,hz,ajo⟩]
 rw[mE];have hb:∀b:Bool,(false==b)=!b:=dM;rcases hs.ex with ⟨k,g⟩|⟨k,e,g,he⟩|⟨k,e,f,g,SO,he,hf⟩|⟨k,f,g,hf⟩|⟨k,e,f,g,SO,he,hf⟩
 .rw[g];refine⟨?_,fun j hj=>by simp at hj⟩;rw[WW,iN oM,iP oM];rfl
 .refine⟨by rw[g,WW,iN oM,iN oM];rfl,fun j hj=>?_⟩;rw[g]at hj;obtain rfl:j=0:=Ou;obtain⟨h1,h2,_⟩:=he;rw[UT,g];simp;refine⟨oM,h2,oM,oM⟩
 .refine⟨by rw[g,WW,iP oM];rfl,fun j hj=>?_⟩;rw[g]at hj;obtain⟨h1,h2,_⟩:=he;obtain⟨h3,h4,_⟩:=hf;have:j=0\/j=1:=YH;rcases this with rfl|rfl
  .rw[UT,g];simp;refine⟨oM,h2,oM,oM⟩
  rw[UT,g];simp;refine⟨oM,h4,oM,fun h=>SO h.symm⟩
 .refine⟨by rw[g,WW,iP oM];rfl,fun j hj=>?_⟩;rw[g]at hj;obtain⟨h3,h4,_⟩:=hf;have:j=0\/j=1:=YH;rcases this with rfl|rfl
  .rw[UT,g];simp[k];omega
  rw[UT,g];simp;omega
 refine⟨by rw[g,WW,iP oM];rfl,fun j hj=>?_⟩;rw[g]at hj;obtain⟨h1,h2,_⟩:=he;obtain⟨h3,h4,_⟩:=hf;have:j=0\/j=1:=YH;rcases this with rfl|rfl
 .rw[UT,g];simp;refine⟨oM,h2,oM,oM⟩
 rw[UT,g];simp;refine⟨oM,h4,oM,fun h=>SO h.symm⟩
def Good.Ts{A n:Nat}{y:Ly}(h:Good A n y):0<=Pc y.U/\Pc y.U<=44:=by
 have hn:=h.n11;have:∀i,i<=n->0<=D1 y.U i/\D1 y.U i<=4*i:=by
  intro i;induction i with
  |zero=>intro _;simp[D1]|succ i ih=>intro hi;have h1:=ih oM;have hs:=h.ya i oM;have h2:=hs.ln;have h3:=hs.l0;have h4:=hs.kd;rw[D1];omega
 have:=this n (lR _);unfold Pc;rw[h.len];omega
def Good.asL{A n:Nat}{y:Ly}(h:Good A n y){i:Nat}(hi:i<n):NQ y.U (y.U.getD i default)=true:=by
 have hn:=h.n11;have hs:=h.ya i hi;have BZ:∀z e,EX A n i z e->¬(y.U.getD e.toNat default).kd=1/\(y.U.getD e.toNat default).zn=z:=by intro z e ⟨h1,h2,h3⟩;obtain⟨m,rfl⟩:∃m:Nat,e=m:=⟨e.toNat,oM⟩;have ht:=h.ya m oM;rw[Mv];exact⟨fun hk=>by have:=ht.k1.1 hk;omega,by rw[ht.zn,h3]⟩
 have auJ:=h.ya i hi;generalize hx:y.U.getD i default=x at*;rw[NQ,TF];refine⟨?_,tA fun j hj=>?_⟩
 .have h0:=hs.z0;have h1:=hs.z1;unfold J5;split
  .exact dT (h0 (by assumption))
  split
  .exact dT (h1 (by assumption))
  rfl
 have key:∀e,x.ex.getD j 0=e->¬(y.U.getD e.toNat default).kd=1->(y.U.getD e.toNat default).zn=fJ x j->rJ y.U x j=true:=by intro e he h1 h2;rw[rJ,he,dF h1,h2];simp
 rcases hs.ex with ⟨k,g⟩|⟨k,e,g,he⟩|⟨k,e,f,g,SO,he,hf⟩|⟨k,f,g,hf⟩|⟨k,e,f,g,SO,he,hf⟩
 .rw[g]at hj;simp at hj
 .rw[g]at hj;obtain rfl:j=0:=Ou;have:=BZ _ _ he;exact key e (by rw[g];rfl) this.1 (by rw[this.2,fJ,iN oM])
 .rw[g]at hj;have h3:=BZ _ _ he;have h4:=BZ _ _ hf;have:j=0\/j=1:=YH;rcases this with rfl|rfl
  .exact key e (by rw[g];rfl) h3.1 (by rw[h3.2,fJ,iN oM])
  exact key f (by rw[g];rfl) h4.1 (by rw[h4.2,fJ,iN oM])
 .rw[g]at hj;have h4:=BZ _ _ hf;have:j=0\/j=1:=YH;rcases this with rfl|rfl
  .refine key i (by rw[g];rfl) ?_ ?_
   .rw[Mv,hx];omega
   rw[Mv,hx,fJ,iN oM]
  exact key f (by rw[g];rfl) h4.1 (by rw[h4.2,fJ,iN oM])
 rw[g]at hj;have h3:=BZ _ _ he;have h4:=BZ _ _ hf;have hz:=hs.z0 oM;have:j=0\/j=1:=YH;rcases this with rfl|rfl
 .exact key e (by rw[g];rfl) h3.1 (by rw[h3.2,fJ,iN oM,hz])
 exact key f (by rw[g];rfl) h4.1 (by rw[h4.2,fJ,iP ⟨k,rfl⟩])
def Xt(n:Nat):List Int:=(List.range n).map fun(i:Nat)=>(i:Int)
def A8(n:Nat):(Xt n).length=n:=by simp[Xt]
def Ay{n:Nat}{k:Nat}:(k:Int)∈Xt n↔k<n:=by
 simp only[Xt,A2,BD];constructor
 .rintro⟨a,ha,h⟩;omega
 intro h;exact⟨k,h,rfl⟩
def Ab{n i:Nat}(h:i<n):(Xt n).getD i 0=i:=by simp[Xt,h]
def Good.up{A n:Nat}{y:Ly}(h:Good A n y){k:Nat}(hk:k<n){i:Int}(hl:cS (y.U.getD k default) k i=true):(k:Int)<i:=by
 rw[cS,TF,Vd,Vd]at hl;obtain⟨h1,h2⟩:=hl;rcases(h.ya k hk).ex with ⟨_,g⟩|⟨_,e,g,he⟩|⟨_,e,f,g,_,he,hf⟩|⟨_,f,g,hf⟩|⟨_,e,f,g,_,he,hf⟩
 .rw[g]at h2;simp at h2
 .rw[g]at h2;simp at h2;rw[h2];exact he.1
 .rw[g]at h2;simp at h2;rcases h2 with rfl|rfl
  .exact he.1
  exact hf.1
 .rw[g]at h2;simp at h2;rcases h2 with rfl|rfl
  .exact absurd rfl h1
  exact hf.1
 rw[g]at h2;simp at h2;rcases h2 with rfl|rfl
 .exact he.1
 exact hf.1
def Good.ord{A n:Nat}{y:Ly}(h:Good A n y):WR y.U=Xt n:=by
 have hN:=h.len;have:∀m,m<=n->Fx y.U m=Xt m:=by
  intro m;induction m with
  |zero=>intro _;rfl|succ m ih=>
   intro hm;have hx:VE y.U (Xt m)=m:=by
    refine eW oM ?_ fun j hj=>?_
    .rw[Mr];refine⟨fun h=>by have:=Ay.1 h;omega,fun k hk hl=>Ay.2 ?_⟩;have:=h.up oM hl;omega
    rw[<-OX,Mr];exact fun h=>h.1 (Ay.2 hj)
   rw[Fx,ih oM,hx,iN oM];simp[Xt,RM]
 rw[WR,hN];exact this n (lR _)
def aoG:((List.range 2048).all fun S=>decide (S=0)||(S.testBit (tz 11 S)&&((List.range 11).all fun j=>((S &&& (S-1)).testBit j==(S.testBit j&&!decide (j=tz 11 S)))&&(!S.testBit j||decide (tz 11 S<=j)))))=true:=kR
def SC{S:Nat}(h:S<2048)(h0:S≠0):S.testBit (tz 11 S)=true/\(∀j,j<11->(S &&& (S-1)).testBit j=(S.testBit j&&!decide (j=tz 11 S)))/\∀j,j<11->S.testBit j=true->tz 11 S<=j:=by
 have:=FR.1 aoG S (BD.2 h);simp only[eo,TF,Vd,FR,BD,Lr,Oc]at this;rcases this with h1|⟨h1,h2⟩
 .exact absurd h1 h0
 refine⟨h1,fun j hj=>(h2 j hj).1,fun j hj hb=>?_⟩;rcases(h2 j hj).2 with h3|h3
 .rw[hb]at h3;cases h3
 exact h3
theorem jV(xs:List Nd)(W:List Int)(n:Nat)(j:Nat):∀m,(yk xs W n m).testBit j=(decide (j<m)&&Bc xs W n j)
 |0=>by simp[yk]|m+1=>by
  have ih:=jV xs W n j m;rw[yk];by_cases arI:j=m
  .subst arI;split
   .rename_i h;rw[Yw,ih,Ua];simp[h]
   rename_i h;rw[ih];simp[h]
  have e:decide (j<m+1)=decide (j<m):=by
   by_cases h:j<m
   .rw[dT h,dT oM]
   rw[dF h,dF oM]
  rw[e];split
  .rw[Yw,ih,Ua];simp[show ¬m=j by omega]
  exact ih
theorem J_(W:List Int){k:Nat}:∀(f S:Nat)(lv:List Int),S<=f->S<2048->k<lv.length->k<11->(Cj W f S lv).getD k 0=if S.testBit k=true then W.getD k 0 else lv.getD k 0
 |0,S,lv,h1,_,_,_=>by obtain rfl:S=0:=oM;simp[Cj]
 |f+1,S,lv,h1,h2,h3,h4=>by
  rw[Cj];split
  .rename_i h;subst h;simp
  rename_i h0;obtain⟨b1,b2,b3⟩:=SC h2 h0;have hle:S &&& (S-1)<=S-1:=Nat.and_le_right;rw[J_ W f _ _ oM oM (by simpa using h3) h4,b2 k h4,F3];by_cases hk:k=tz 11 S
  .subst hk;simp[b1,h3]
  simp[hk,show ¬tz 11 S=k from fun h=>hk h.symm]
def fP(xs:List Nd)(W:List Int)(m:Nat):Int:=(xs.getD m default).ex.getD (W.getD m 0).toNat 0
def Du{xs:List Nd}{W:List Int}{n m:Nat}:Bc xs W n m=true↔m≠n/\0<=W.getD m 0/\fP xs W m=n:=by simp[Bc,fP]
structure MQ(xs:List Nd)(W:List Int):Prop where
 n11:xs.length<=11
 wl:W.length=xs.length
 up:∀m,m<xs.length->0<=W.getD m 0->(m:Int)<=fP xs W m/\fP xs W m<xs.length
 lp:∀m,m<xs.length->(xs.getD m default).kd=5->W.getD m 0=0->fP xs W m=m
def Pz(xs:List Nd)(p:Pl)(W LV:List Int)(m t:Nat):Prop:=
 c9 (xs.getD t default).kd=false\/(Y3 (xs.getD t default) (p.Q.getD t [])=true/\¬((xs.getD t default).kd=5/\LV.getD t 0=0)/\∀k,k<m->Bc xs W t k=false)
def QH(xs:List Nd)(p:Pl)(m:Nat):Prop:=(xs.getD m default).kd=5/\(p.Q.getD m []).getD 0 0=0
def Fin(xs:List Nd)(p:Pl)(W LV:List Int)(m:Nat):Prop:=
 (W.getD m 0<0/\LV.getD m 0=-1)\/(0<=W.getD m 0/\
  ((LV.getD m 0=W.getD m 0/\fP xs W m≠m/\Pz xs p W LV m (fP xs W m).toNat)\/
   (¬(fP xs W m≠m/\Pz xs p W LV m (fP xs W m).toNat)/\((QH xs p m/\LV.getD m 0=0)\/(¬QH xs p m/\LV.getD m 0=-1)))))
structure pD(xs:List Nd)(p:Pl)(W LV:List Int):Prop where
 len:LV.length=xs.length
 fin:∀m,m<xs.length->Fin xs p W LV m
structure mP(xs:List Nd)(p:Pl)(W LV:List Int)(b:Nat):Prop where
 len:LV.length=xs.length
 fin:∀m,m<xs.length->b<=m->Fin xs p W LV m
 neg:∀m,m<xs.length->m<b->(W.getD m 0<0\/fP xs W m<b)->LV.getD m 0=-1
 ath:∀m,m<xs.length->m<b->0<=W.getD m 0->b<=fP xs W m->(LV.getD m 0=W.getD m 0/\Pz xs p W LV m (fP xs W m).toNat)\/(LV.getD m 0=-1/\¬Pz xs p W LV m (fP xs W m).toNat)
def Pz.congr{xs:List Nd}{p:Pl}{W LV LV':List Int}{m t:Nat}(h:LV'.getD t 0=LV.getD t 0):Pz xs p W LV' m t↔Pz xs p W LV m t:=by unfold Pz;rw[h]
def Fin.congr{xs:List Nd}{p:Pl}{W LV LV':List Int}{m:Nat}(h:LV'.getD m 0=LV.getD m 0)(ht:0<=W.getD m 0->LV'.getD (fP xs W m).toNat 0=LV.getD (fP xs W m).toNat 0):Fin xs p W LV m->Fin xs p W LV' m:=by
 unfold Fin;rintro(h1|⟨h1,h2⟩)
 .exact .inl (h ▸ h1)
 refine .inr ⟨h1,?_⟩;rw[Pz.congr (ht h1),h];exact h2
def Hb{x:Nd}{sl:List Int}{w l:Int}:IG x sl w l=true↔x.kd=5/\0<=w/\l<0/\sl.getD 0 0=0:=by simp only[IG,TF,Vd]
def arS{xs:List Nd}{p:Pl}{W:List Int}{n:Nat}{s:List Int×List Int}(hu:MQ xs W)(hl:s.1.length=xs.length){k:Nat}(hk:k<xs.length)(hn:n<xs.length):
  (vu xs p W n s).1.getD k 0=
   (if k=n then(if IG (xs.getD n default) (p.Q.getD n []) (W.getD n 0) (s.1.getD n 0)=true then 0 else s.1.getD k 0)
    else if Bc xs W n k=true/\(c9 (xs.getD n default).kd=false\/(Y3 (xs.getD n default) (p.Q.getD n [])=true/\IG (xs.getD n default) (p.Q.getD n []) (W.getD n 0) (s.1.getD n 0)=false/\∀j,j<k->Bc xs W n j=false)) then W.getD k 0
    else s.1.getD k 0):=by
 have hN:=hu.n11;have hS:yk xs W n W.length<2048:=by have:=tn xs W n W.length;have h2:2^W.length<=2^11:=Il oM (by rw[hu.wl];omega);omega
 have wS:=fun j=>jV xs W n j W.length;rw[hu.wl]at wS hS;unfold vu;simp only[hu.wl];generalize yk xs W n xs.length=S at*;generalize IG (xs.getD n default) (p.Q.getD n []) (W.getD n 0) (s.1.getD n 0)=ar at*;have De:(if ar=true then s.1.set n 0 else s.1).getD k 0=if k=n then(if ar=true then 0 else s.1.getD k 0) else s.1.getD k 0:=by
  split
  .rw[F3];by_cases h:k=n
   .subst h;simp[hl,hk]
   simp[h,show ¬n=k from fun h2=>h h2.symm]
  simp
 have L9:(if ar=true then s.1.set n 0 else s.1).length=xs.length:=by split<;>simp[hl]
 generalize (if ar=true then s.1.set n 0 else s.1)=lv at*;have dK:Bc xs W n n=false:=by simp[Bc]
 by_cases c1:c9 (xs.getD n default).kd=false
 .rw[iP c1];simp only;rw[J_ W _ _ _ (lR _) hS oM oM,wS k,De];by_cases SX:k=n
  .subst SX;simp[dK]
  rw[iN SX,iN SX];by_cases hc:Bc xs W n k=true
  .rw[iP (by rw[hc,dT hk];rfl),iP ⟨hc,.inl c1⟩]
  rw[iN (by simp[hc]),iN (fun h=>hc h.1)]
 rw[iN c1];have c1':c9 (xs.getD n default).kd=true:=by simpa using c1
 split
 .rename_i h;obtain⟨h0,h1,h2⟩:=h;obtain⟨b1,b2,b3⟩:=SC hS h0;rw[wS,TF,Vd]at b1;have hm:tz 11 S≠n:=fun h=>by rw[h,dK]at b1;cases b1.2
  simp only;rw[F3,L9,De];by_cases vU:tz 11 S=k
  .have Ov:∀j,j<k->Bc xs W n j=false:=fun j hj=>by rw[<-OX];intro hc;have:=b3 j oM (by rw[wS,hc];simp;omega);omega
   rw[iP ⟨vU,oM⟩,iN oM,iP ⟨vU ▸ b1.2,.inr ⟨h1,h2,Ov⟩⟩,vU]
  rw[iN (fun h=>vU h.1)];by_cases SX:k=n
  .rw[iP SX,iP SX]
  rw[iN SX,iN SX,iN];rintro⟨hc,h3|⟨_,_,h3⟩⟩
  .exact c1 h3
  have:=b3 k oM (by rw[wS,hc];simp;omega);have:=h3 (tz 11 S) oM;rw[b1.2]at this;cases this
 rename_i h;simp only;rw[De];by_cases SX:k=n
 .rw[iP SX,iP SX]
 rw[iN SX,iN SX,iN];rintro⟨hc,h3|⟨h3,h4,_⟩⟩
 .exact c1 h3
 refine h ⟨?_,h3,h4⟩;intro h0;have:=wS k;rw[hc,h0]at this;simp[hk]at this
def cB{xs:List Nd}{p:Pl}{W:List Int}{n:Nat}{s:List Int×List Int}(hu:MQ xs W)(hn:n<xs.length)(h:mP xs p W s.1 (n+1)):mP xs p W (vu xs p W n s).1 n:=by
 obtain⟨hl,hf,hg,hm⟩:=h;have get:=fun k hk=>arS (p:=p) (s:=s) hu hl (k:=k) hk hn;have I5:(vu xs p W n s).1.length=xs.length:=XQ.1.trans hl;generalize (vu xs p W n s).1=lv at*;have oh:∀k,k<xs.length->n<k->Bc xs W n k=false:=fun k hk Jx=>by rw[<-OX,Du];rintro⟨_,h1,h2⟩;have:=(hu.up k hk h1).1;omega
 have OJ:∀k,k<xs.length->n<k->lv.getD k 0=s.1.getD k 0:=fun k hk Jx=>by rw[get k hk,iN oM,oh k hk Jx,iN sM]
 have P8:(W.getD n 0<0/\s.1.getD n 0=-1)\/(0<=W.getD n 0/\((s.1.getD n 0=W.getD n 0/\fP xs W n≠n/\Pz xs p W s.1 n (fP xs W n).toNat)\/(s.1.getD n 0=-1/\¬(fP xs W n≠n/\Pz xs p W s.1 n (fP xs W n).toNat)))):=by
  by_cases h0:W.getD n 0<0
  .exact .inl ⟨h0,hg n hn oM (.inl h0)⟩
  refine .inr ⟨oM,?_⟩;obtain⟨u1,u2⟩:=hu.up n hn oM;by_cases h1:fP xs W n=n
  .exact .inr ⟨hg n hn oM (.inr oM),fun h=>h.1 h1⟩
  rcases hm n hn oM oM oM with ⟨h2,h3⟩|⟨h2,h3⟩
  .exact .inl ⟨h2,h1,h3⟩
  exact .inr ⟨h2,fun h=>h3 h.2⟩
 have Rt:=get n hn;rw[iP rfl]at Rt;have fo:∀k,k<xs.length->k<n->((Bc xs W n k=true/\Pz xs p W lv k n->lv.getD k 0=W.getD k 0)/\(¬(Bc xs W n k=true/\Pz xs p W lv k n)->lv.getD k 0=s.1.getD k 0)):=fun k hk SX=>by
  rw[get k hk,iN oM];have:IG (xs.getD n default) (p.Q.getD n []) (W.getD n 0) (s.1.getD n 0)=false↔¬((xs.getD n default).kd=5/\lv.getD n 0=0):=by
   rw[Rt];by_cases ha:IG (xs.getD n default) (p.Q.getD n []) (W.getD n 0) (s.1.getD n 0)=true
   .rw[ha,iP rfl];have:(xs.getD n default).kd=5:=by rw[IG,TF,Vd]at ha;exact ha.1
    exact⟨fun h=>C3,fun h=>absurd ⟨this,rfl⟩ h⟩
   rw[iN ha];simp only[OX]at ha;rw[ha];simp only[true_iff];rintro⟨h5,h0⟩;rcases P8 with ⟨_,h1⟩|⟨h1,⟨h2,h3,_⟩|⟨h2,_⟩⟩
   .omega
   .exact h3 (hu.lp n hn h5 oM)
   omega
  have hc:(Bc xs W n k=true/\(c9 (xs.getD n default).kd=false\/(Y3 (xs.getD n default) (p.Q.getD n [])=true/\IG (xs.getD n default) (p.Q.getD n []) (W.getD n 0) (s.1.getD n 0)=false/\∀j,j<k->Bc xs W n j=false)))↔(Bc xs W n k=true/\Pz xs p W lv k n):=by unfold Pz;rw[this]
  exact⟨fun h=>iP (hc.2 h),fun h=>iN (fun h2=>h (hc.1 h2))⟩
 have fF:∀m t,n<t->t<xs.length->(Pz xs p W lv m t↔Pz xs p W s.1 m t):=fun m t h1 h2=>Pz.congr (OJ t h2 h1);refine⟨I5,fun m iE qf=>?_,fun m iE qf WF=>?_,fun m iE qf WF hm4=>?_⟩
 .by_cases aJ:m=n
  .subst aJ;unfold Fin;rcases P8 with ⟨h1,h2⟩|⟨h1,h2⟩
   .refine .inl ⟨h1,?_⟩;rw[Rt,iN (fun h=>by have:=Hb.1 h;omega),h2]
   refine .inr ⟨h1,?_⟩;obtain⟨u1,u2⟩:=hu.up m hn h1;have hL:(fP xs W m≠m/\Pz xs p W lv m (fP xs W m).toNat)↔(fP xs W m≠m/\Pz xs p W s.1 m (fP xs W m).toNat):=qU fun h=>fF _ _ oM oM;rcases h2 with ⟨h2,h3⟩|⟨h2,h3⟩
   .refine .inl ⟨?_,hL.2 h3⟩;rw[Rt,iN (fun h=>by have:=Hb.1 h;omega),h2]
   refine .inr ⟨fun h=>h3 (hL.1 h),?_⟩;rw[Rt,h2];unfold QH;by_cases hr:(xs.getD m default).kd=5/\(p.Q.getD m []).getD 0 0=0
   .refine .inl ⟨hr,?_⟩;rw[iP];simp only[IG,TF,Vd];exact⟨hr.1,h1,dM,hr.2⟩
   refine .inr ⟨hr,?_⟩;rw[iN];simp only[IG,TF,Vd];exact fun h=>hr ⟨h.1,h.2.2.2⟩
  refine Fin.congr (OJ m iE oM) (fun h=>?_) (hf m iE oM);obtain⟨u1,u2⟩:=hu.up m iE h;exact OJ _ oM oM
 .rw[(fo m iE qf).2 (by
   rw[Du];rintro⟨⟨_,h1,h2⟩,_⟩;omega)]
  exact hg m iE oM oM
 obtain⟨u1,u2⟩:=hu.up m iE WF;by_cases ht:fP xs W m=n
 .have hc:Bc xs W n m=true:=Du.2 ⟨oM,WF,ht⟩;rw[ht,Mv];by_cases hL:Pz xs p W lv m n
  .rw[(fo m iE qf).1 ⟨hc,hL⟩];exact .inl ⟨rfl,hL⟩
  rw[(fo m iE qf).2 (fun h=>hL h.2)];exact .inr ⟨hg m iE oM (.inr oM),hL⟩
 rw[(fo m iE qf).2 (fun h=>ht (Du.1 h.1).2.2),fF _ _ oM oM];exact hm m iE oM WF oM
def aqQ{xs:List Nd}{p:Pl}{W:List Int}(hu:MQ xs W):pD xs p W (vO xs p W (Xt xs.length)).1:=by
 have:∀c,c<=xs.length->mP xs p W (GX xs p W (Xt xs.length) c).1 (xs.length-c):=by
  intro c;induction c with
  |zero=>
   intro _;refine⟨b8 _,fun m h1 h2=>oM,fun m h1 h2 h3=>?_,fun m h1 h2 h3 h4=>?_⟩
   .simp[GX,TM,h1]
   have:=(hu.up m h1 h3).2;omega
  |succ c ih=>intro hc;have h1:=ih oM;rw[GX,A8,Ab oM,Mv];have e:xs.length-c=(xs.length-1-c)+1:=oM;rw[e]at h1;have:=cB hu oM h1;rw[show xs.length-(c+1)=xs.length-1-c by omega];exact this
 have h:=this xs.length (lR _);rw[vO,A8];exact⟨h.len,fun m hm=>h.fin m hm oM⟩
open Go.Plant
structure Sx(A n:Nat)(y:Ly)(p:Pl)(cs:List Int)(fs:List T3):Prop where
 vq:Good A n y
 fp:Zc y.U p
 ff:YS y.U fs
 cl:cs.length=n
 cmd:∀i,i<n->jo (y.U.getD i default) (cs.getD i 0)=true
def WN(y:Ly)(p:Pl)(cs:List Int)(fs:List T3):List Int:=N0 y.U p cs fs y.U.length
def J4(y:Ly)(p:Pl)(cs:List Int)(fs:List T3):List Int:=(vO y.U p (WN y p cs fs) (Xt y.U.length)).1
section
variable{A n:Nat}{y:Ly}{p:Pl}{cs:List Int}{fs:List T3}
def Good.Y8(h:Good A n y){m:Nat}(hm:m<n):((y.U.getD m default).ex.length:Int)=WW (y.U.getD m default).kd:=by
 have:=h.node hm;rw[s8]at this;split at this
 .cases this
 split at this
 .cases this
 split at this
 .rename_i h2;exact(mE.1 h2.2.2).1
 cases this
def Good.lp(h:Good A n y){m:Nat}(hm:m<n)(h5:(y.U.getD m default).kd=5):(y.U.getD m default).ex.getD 0 0=m:=by
 rcases(h.ya m hm).ex with ⟨k,g⟩|⟨k,e,g,he⟩|⟨k,e,f,g,SO,he,hf⟩|⟨k,f,g,hf⟩|⟨k,e,f,g,SO,he,hf⟩
 .omega
 .omega
 .omega
 .rw[g];rfl
 omega
def wR(h:Sx A n y p cs fs){m:Nat}(hm:m<n)(h0:0<=(WN y p cs fs).getD m 0):
  (WN y p cs fs).getD m 0<(y.U.getD m default).ex.length/\
  (((y.U.getD m default).kd=7/\(WN y p cs fs).getD m 0=0/\cs.getD m 0∈p.R.getD m [])\/
   (c9 (y.U.getD m default).kd=true/\(WN y p cs fs).getD m 0=cs.getD m 0/\(p.Q.getD m []).getD ((y.U.getD m default).ln.toNat-1) 0≠0/\fs.any (fun z=>Ql ⟨1,m,(y.U.getD m default).ln-1⟩ z)=false)):=by
 have hl:=h.vq.len;have he:=h.vq.Y8 hm;have hc:=h.cmd m hm;rw[WN,EG oM]at h0 ⊢;unfold xV at h0 ⊢;split at h0
 .rename_i k7;rw[iP k7];split at h0
  .rename_i hb;rw[iP hb];refine⟨by rw[he,WW,iN oM,iN oM];decide,.inl ⟨k7,rfl,?_⟩⟩;obtain⟨z,hz,Xy⟩:=X4.1 hb;rw[Vd]at Xy;rw[Xy];exact hz
  omega
 rename_i k7;rw[iN k7];split at h0
 .omega
 rename_i ks;rw[iN ks];split at h0
 .omega
 rename_i hs;rw[iN hs];refine⟨?_,.inr ⟨by simpa using ks,rfl,fun h=>hs (.inl h),by simpa using fun h=>hs (.inr h)⟩⟩;unfold jo at hc;rw[iN k7,iN (by simpa using ks),iN oM]at hc;simp at hc;exact hc.2
def Sx.z7(h:Sx A n y p cs fs):MQ y.U (WN y p cs fs):=by
 have hl:=h.vq.len;have hn:=h.vq.n11;refine⟨oM,IR _ _ _ _ _,fun m hm h0=>?_,fun m hm h5 h0=>?_⟩
 .obtain⟨h1,_⟩:=wR h oM h0;have hx:=h.vq.ex m hm ((WN y p cs fs).getD m 0).toNat oM;refine⟨?_,hx.2⟩;by_cases hs:fP y.U (WN y p cs fs) m=m
  .omega
  refine Int.le_of_lt (h.vq.up oM ?_);rw[cS,TF,Vd,Vd];exact⟨fun h=>hs h.symm,aV oM⟩
 rw[fP,h0];exact h.vq.lp oM h5
def Sx.eq(h:Sx A n y p cs fs):pD y.U p (WN y p cs fs) (J4 y p cs fs):=aqQ h.z7
def HV(xs:List Nd)(LV:List Int)(m:Nat):Int:=(xs.getD m default).ex.getD (LV.getD m 0).toNat 0
def Mh(h:Sx A n y p cs fs){m:Nat}(hm:m<n)(h0:0<=(J4 y p cs fs).getD m 0):
  0<=(WN y p cs fs).getD m 0/\0<=HV y.U (J4 y p cs fs) m/\HV y.U (J4 y p cs fs) m<n/\
  ((HV y.U (J4 y p cs fs) m=fP y.U (WN y p cs fs) m/\(J4 y p cs fs).getD m 0=(WN y p cs fs).getD m 0/\fP y.U (WN y p cs fs) m≠m/\Pz y.U p (WN y p cs fs) (J4 y p cs fs) m (fP y.U (WN y p cs fs) m).toNat)\/
   (HV y.U (J4 y p cs fs) m=m/\QH y.U p m/\(J4 y p cs fs).getD m 0=0)):=by
 have hl:=h.vq.len;have hu:=h.z7;have hf:=h.eq.fin m oM;unfold Fin at hf;rcases hf with ⟨h1,h2⟩|⟨h1,⟨h2,h3,h4⟩|⟨h2,⟨h3,h4⟩|⟨h3,h4⟩⟩⟩
 .omega
 .have hg:HV y.U (J4 y p cs fs) m=fP y.U (WN y p cs fs) m:=by rw[HV,fP,h2]
  have:=hu.up m oM h1;exact⟨h1,oM,oM,.inl ⟨hg,h2,h3,h4⟩⟩
 .have hg:HV y.U (J4 y p cs fs) m=m:=by rw[HV,h4];exact h.vq.lp hm h3.1
  exact⟨h1,oM,oM,.inr ⟨hg,h3,h4⟩⟩
 omega
def LN(h:Sx A n y p cs fs):Lc y.U (J4 y p cs fs):=by
 intro m hm h0;have hl:=h.vq.len;obtain⟨h1,_,_,h2⟩:=Mh h oM h0;have:=(wR h oM h1).1;rcases h2 with ⟨_,h2,_⟩|⟨_,h2,h3⟩
 .omega
 omega
def ajv(h:Sx A n y p cs fs){m k t:Nat}(hm:m<n)(hk:k<n)(h0:0<=(J4 y p cs fs).getD m 0)(h1:0<=(J4 y p cs fs).getD k 0)(ahb:HV y.U (J4 y p cs fs) m=t)(Rb:HV y.U (J4 y p cs fs) k=t)(hs:c9 (y.U.getD t default).kd=true):m=k:=by
 obtain⟨a1,_,_,a2⟩:=Mh h hm h0;obtain⟨b1,_,_,b2⟩:=Mh h hk h1;rcases a2 with ⟨e1,e2,e3,e4⟩|⟨e1,e2,e3⟩<;>rcases b2 with ⟨f1,f2,f3,f4⟩|⟨f1,f2,f3⟩
 .have e5:fP y.U (WN y p cs fs) m=t:=oM;have f5:fP y.U (WN y p cs fs) k=t:=oM;rw[e5,Mv]at e4;rw[f5,Mv]at f4;rcases e4 with e4|⟨_,_,e4⟩
  .rw[hs]at e4;cases e4
  rcases f4 with f4|⟨_,_,f4⟩
  .rw[hs]at f4;cases f4
  rcases Nat.lt_trichotomy m k with PP|heq|OJ
  .have:=f4 m PP;rw[Du.2 ⟨oM,a1,e5⟩]at this;cases this
  .exact heq
  have:=e4 k OJ;rw[Du.2 ⟨oM,b1,f5⟩]at this;cases this
 .have e5:fP y.U (WN y p cs fs) m=t:=oM;have f5:k=t:=oM;subst f5;rw[e5,Mv]at e4;rcases e4 with e4|⟨_,e4,_⟩
  .rw[hs]at e4;cases e4
  exact absurd ⟨f2.1,f3⟩ e4
 .have f5:fP y.U (WN y p cs fs) k=t:=oM;have e5:m=t:=oM;subst e5;rw[f5,Mv]at f4;rcases f4 with f4|⟨_,f4,_⟩
  .rw[hs]at f4;cases f4
  exact absurd ⟨e2.1,e3⟩ f4
 omega
def arh(h:Sx A n y p cs fs){m t:Nat}(hm:m<n)(h0:0<=(J4 y p cs fs).getD m 0)(ahb:HV y.U (J4 y p cs fs) m=t)(hs:c9 (y.U.getD t default).kd=true):
  (p.Q.getD t []).getD 0 0=0/\(m≠t->(y.U.getD t default).kd=5->2<=E4 (p.Q.getD t [])):=by
 obtain⟨a1,_,_,a2⟩:=Mh h hm h0;rcases a2 with ⟨e1,e2,e3,e4⟩|⟨e1,e2,e3⟩
 .have e5:fP y.U (WN y p cs fs) m=t:=oM;rw[e5,Mv]at e4;rcases e4 with e4|⟨e4,_,_⟩
  .rw[hs]at e4;cases e4
  rw[Y3,iP hs,TF,eo,Vd,Vd,Vd]at e4;exact⟨e4.1,fun _ h5=>e4.2.resolve_left (fun h=>h h5)⟩
 have:m=t:=oM;subst this;exact⟨e2.2,fun h=>absurd rfl h⟩
theorem xU{fs:List T3}{n:Int}{ln k:Nat}:∀i,i<=fs.length->(mD fs n ln i).getD k 0=1->∃j,j<i/\(fs.getD j default).b=n/\(fs.getD j default).c.toNat=k/\(fs.getD j default).a=1
 |0,_,h=>by simp only[mD,gE,HG]at h;split at h<;>simp at h
 |i+1,hi,h=>by
  rw[mD]at h;unfold eY at h;split at h
  .rename_i hb;rw[F3]at h;split at h
   .rename_i hc;exact⟨i,oM,hb,hc.1,h⟩
   obtain⟨j,h1,h2⟩:=xU i oM h;exact⟨j,oM,h2⟩
  obtain⟨j,h1,h2⟩:=xU i oM h;exact⟨j,oM,h2⟩
def Rk(hf:YS y.U fs){m k:Nat}(hm:m<y.U.length)(h:fs.any (fun z=>Ql ⟨1,m,k⟩ z)=false){ln:Nat}:(u_ fs m ln).getD k 0≠1:=by
 intro h1;obtain⟨j,h2,h3,h4,h5⟩:=xU _ (lR _) h1;have:=(hf.ok j h2 m hm h3).1;rw[lA]at h;refine h _ (ka (d:=default) h2) (PB.2 ?_);generalize fs.getD j default=f at*;cases f
 simp only at h3 h4 h5 this;rw[<-h3,<-h5];congr 1
 omega
def aC(y:Ly)(p:Pl)(fs:List T3)(LV:List Int)(m:Nat):List Int×Int:=aD (p.Q.getD m []) (u_ fs m (y.U.getD m default).ln.toNat) (decide (0<=LV.getD m 0))
def alE(h:Sx A n y p cs fs){m:Nat}(hm:m<n)(h0:0<=(J4 y p cs fs).getD m 0)(hs:c9 (y.U.getD m default).kd=true):
  (aC y p fs (J4 y p cs fs) m).2=(p.Q.getD m []).getD ((y.U.getD m default).ln.toNat-1) 0/\(p.Q.getD m []).getD ((y.U.getD m default).ln.toNat-1) 0≠0:=by
 have hl:=h.vq.len;obtain⟨a1,_⟩:=Mh h hm h0;obtain⟨_,⟨k7,_⟩|⟨_,_,h1,h2⟩⟩:=wR h hm a1
 .rw[k7]at hs;exact absurd hs dM
 have gk:=h.fp.row m oM;have VV:=h.fp.st m oM hs;refine⟨?_,h1⟩;have e:((y.U.getD m default).ln-1:Int)=(((y.U.getD m default).ln.toNat-1:Nat):Int):=oM;rw[e]at h2;rw[aC,ab,dT h0,gk,iP ⟨rfl,Rk h.ff oM h2⟩]
def Lg{LV:List Int}{m:Nat}(h0:LV.getD m 0<0):(aC y p fs LV m).2=0:=by rw[aC,ab,dF oM,iN sM]
end
open Go.Plant
section
variable{xs:List Nd}{p:Pl}{cs:List Int}{fs:List T3}{LV:List Int}
def D6(xs:List Nd)(p:Pl)(cs:List Int)(fs:List T3)(LV:List Int)(m:Nat):T3:=⟨YE xs p cs fs LV m,m,HV xs LV m⟩
theorem Z_:∀i,(bv xs p cs fs LV i).1.length=p.Q.length
 |0=>rfl|i+1=>by rw[bv];simp only;split<;>simp[Z_ i]
theorem xy:∀i,(bv xs p cs fs LV i).2.1.length=p.R.length
 |0=>rfl|i+1=>by rw[bv];simp only;split<;>(try split)<;>simp[xy i]
theorem yJ{n:Nat}(hn:n<p.Q.length):∀i,(bv xs p cs fs LV i).1.getD n []=if n<i/\c9 (xs.getD n default).kd=true then(aD (p.Q.getD n []) (u_ fs n (xs.getD n default).ln.toNat) (decide (0<=LV.getD n 0))).1 else p.Q.getD n []
 |0=>by simp[bv]|i+1=>by
  have ih:=yJ hn i;have hl:=Z_ (xs:=xs) (p:=p) (cs:=cs) (fs:=fs) (LV:=LV) i;rw[bv];simp only;by_cases h:c9 (xs.getD i default).kd=true
  .rw[iP h,F3,hl,ih];by_cases QB:i=n
   .subst QB;rw[iP ⟨rfl,hn⟩,iP ⟨oM,h⟩]
   rw[iN (fun h=>QB h.1)];by_cases PP:n<i
   .simp[PP,show n<i+1 by omega]
   simp[PP,show ¬n<i+1 by omega]
  rw[iN h,ih];by_cases QB:i=n
  .subst QB;rw[iN (fun h2=>h h2.2),iN (fun h2=>h h2.2)]
  by_cases PP:n<i
  .simp[PP,show n<i+1 by omega]
  simp[PP,show ¬n<i+1 by omega]
theorem NR{n:Nat}(hn:n<p.R.length):∀i,(bv xs p cs fs LV i).2.1.getD n []=if n<i/\¬c9 (xs.getD n default).kd=true/\0<=LV.getD n 0 then(p.R.getD n []).filter (fun y=>!decide (y=cs.getD n 0)) else p.R.getD n []
 |0=>by simp[bv]|i+1=>by
  have ih:=NR hn i;have hl:=xy (xs:=xs) (p:=p) (cs:=cs) (fs:=fs) (LV:=LV) i;have e:∀P:Prop,[Decidable P]->i≠n->(n<i+1/\P↔n<i/\P):=fun P _ h=>and_congr_left fun _=>⟨fun h2=>oM,fun h2=>oM⟩;rw[bv];simp only;by_cases h:c9 (xs.getD i default).kd=true
  .rw[iP h,ih];by_cases QB:i=n
   .subst QB;rw[iN (fun h2=>h2.2.1 h),iN (fun h2=>h2.2.1 h)]
   simp only[e _ QB]
  rw[iN h];split
  .rename_i h0;rw[F3,hl];by_cases QB:i=n
   .subst QB;have ih2:(bv xs p cs fs LV i).2.1.getD i []=p.R.getD i []:=by rw[ih,iN oM]
    rw[iP ⟨rfl,hn⟩,iP ⟨oM,h,h0⟩,ih2]
   rw[iN (fun h=>QB h.1),ih];simp only[e _ QB]
  rename_i h0;rw[ih];by_cases QB:i=n
  .subst QB;rw[iN (fun h2=>h0 h2.2.2),iN (fun h2=>h0 h2.2.2)]
  simp only[e _ QB]
theorem Nf:∀i,(bv xs p cs fs LV i).2.2=((List.range i).filter fun m=>decide (0<=LV.getD m 0)).map (D6 xs p cs fs LV)
 |0=>rfl|i+1=>by
  rw[bv,RM,aT,Mx,<-Nf i];simp only;split
  .rename_i h;rw[IJ (by exact dT h)];rfl
  rename_i h;rw[Mi (by simpa only[Vd] using h)];simp
theorem aaz{ms:List T3}{s:List (List Int)×List (List Int)}{n:Nat}(hs:s.1.length=xs.length)(hn:n<xs.length)(hm:∀m∈ms,0<=m.c/\m.c<xs.length):
  ∀i,i<=ms.length->(CL xs ms s i).1.length=xs.length/\(CL xs ms s i).1.getD n []=if c9 (xs.getD n default).kd=true then((ms.take i).filter fun m:T3=>decide (m.c=(n:Int))).foldl (fun r m=>r.set 0 m.a) (s.1.getD n []) else s.1.getD n []
 |0,_=>by simp[CL,hs]|i+1,hi=>by
  obtain⟨hl,ih⟩:=aaz hs hn hm i oM;have amI:=hm _ (ka (d:=default) (show i<ms.length by omega));rw[CL,R9 (d:=default) (show i<ms.length by omega),aT,WS];generalize ms.getD i default=m at*;by_cases h:c9 (xs.getD m.c.toNat default).kd=true
  .rw[iP h];refine⟨by simp[hl],?_⟩;simp only;rw[F3,hl];by_cases hc:m.c=n
   .have:m.c.toNat=n:=oM;rw[this]at h ⊢;rw[iP ⟨rfl,hn⟩,ih,iP h,iP h];simp[hc]
   rw[iN oM,ih];simp[hc]
  rw[iN h];refine⟨hl,?_⟩;simp only;rw[ih];by_cases hc:m.c=n
  .have:m.c.toNat=n:=oM;rw[this]at h;rw[iN h,iN h]
  simp[hc]
theorem TE{ms:List T3}{s:List (List Int)×List (List Int)}{n:Nat}(hs:s.2.length=xs.length)(hn:n<xs.length)(hm:∀m∈ms,0<=m.c/\m.c<xs.length):
  ∀i,i<=ms.length->(CL xs ms s i).2.length=xs.length/\(CL xs ms s i).2.getD n []=if c9 (xs.getD n default).kd=true then s.2.getD n [] else((ms.take i).filter fun m:T3=>decide (m.c=(n:Int))).foldl (fun r m=>kb r m.a) (s.2.getD n [])
 |0,_=>by simp[CL,hs]|i+1,hi=>by
  obtain⟨hl,ih⟩:=TE hs hn hm i oM;have amI:=hm _ (ka (d:=default) (show i<ms.length by omega));rw[CL,R9 (d:=default) (show i<ms.length by omega),aT,WS];generalize ms.getD i default=m at*;by_cases h:c9 (xs.getD m.c.toNat default).kd=true
  .rw[iP h];refine⟨hl,?_⟩;simp only;rw[ih];by_cases hc:m.c=n
   .have:m.c.toNat=n:=oM;rw[this]at h;rw[iP h,iP h]
   simp[hc]
  rw[iN h];refine⟨by simp[hl],?_⟩;simp only;rw[F3,hl];by_cases hc:m.c=n
  .have:m.c.toNat=n:=oM;rw[this]at h ⊢;rw[iP ⟨rfl,hn⟩,ih,iN h,iN h];simp[hc]
  rw[iN oM,ih];simp[hc]
end
def E_(xs:List Nd)(LV:List Int)(t:Nat):List Nat:=(List.range xs.length).filter fun m=>decide (0<=LV.getD m 0)&&decide (HV xs LV m=t)
def qX(xs:List Nd)(p:Pl)(cs:List Int)(fs:List T3)(LV:List Int)(t:Nat):List Int:=if 0<=LV.getD t 0 then[YE xs p cs fs LV t] else[]
theorem fD{α:Type}{q:α->Bool}:∀{l:List α},l.Nodup->(∀a∈l,∀b∈l,q a=true->q b=true->a=b)->l.filter q=[]\/∃a,a∈l/\q a=true/\l.filter q=[a]
 |[],_,_=>.inl rfl|x::l,hd,h=>by
  rw[TV]at hd;have ih:=fD hd.2 (fun a ha b hb=>h a (mC _ ha) b (mC _ hb));by_cases hx:q x=true
  .rw[IJ hx];refine .inr ⟨x,mS,hx,?_⟩;congr 1
   rw[List.filter_eq_nil_iff];intro a ha Q3;have:=h x mS a (mC _ ha) hx Q3;rw[this]at hd;exact hd.1 ha
  rw[Mi Wa];rcases ih with ih|⟨a,ha,Q3,ih⟩
  .exact .inl ih
  exact .inr ⟨a,mC _ ha,Q3,ih⟩
section
variable{A n:Nat}{y:Ly}{p:Pl}{cs:List Int}{fs:List T3}
abbrev ja(y:Ly)(p:Pl)(cs:List Int)(fs:List T3):Pl×List T3:=XG y.U p cs fs (J4 y p cs fs)
abbrev V'(y:Ly)(p:Pl)(cs:List Int)(fs:List T3)(t:Nat):List Nat:=E_ y.U (J4 y p cs fs) t
abbrev XS(y:Ly)(p:Pl)(cs:List Int)(fs:List T3)(m:Nat):Int:=YE y.U p cs fs (J4 y p cs fs) m
abbrev nW(y:Ly)(p:Pl)(cs:List Int)(fs:List T3)(m:Nat):List Int:=qX y.U p cs fs (J4 y p cs fs) m
def Tj{xs:List Nd}{LV:List Int}{t:Nat}:(((List.range xs.length).filter fun m=>decide (0<=LV.getD m 0)).map (D6 xs p cs fs LV)).filter (fun m:T3=>decide (m.c=(t:Int)))=(E_ xs LV t).map (D6 xs p cs fs LV):=by
 rw[List.filter_map,List.filter_filter,E_];congr 2
 funext m
 show(decide (HV xs LV m=t)&&decide (0<=LV.getD m 0))=_;rw[Bool.and_comm]
def fh(h:Sx A n y p cs fs):∀m∈(bv y.U p cs fs (J4 y p cs fs) y.U.length).2.2,0<=m.c/\m.c<y.U.length:=
 R1 h.vq.ex (LN h) _ (lR _)
def bm(h:Sx A n y p cs fs){t:Nat}(ht:t<n):
  (ja y p cs fs).1.Q.getD t []=if c9 (y.U.getD t default).kd=true then(V' y p cs fs t).foldl (fun r m=>r.set 0 (XS y p cs fs m)) (aC y p fs (J4 y p cs fs) t).1 else p.Q.getD t []:=by
 have hl:=h.vq.len;have h1:=(aaz (n:=t) (s:=((bv y.U p cs fs (J4 y p cs fs) y.U.length).1,(bv y.U p cs fs (J4 y p cs fs) y.U.length).2.1)) (by simp only;rw[Z_,h.fp.sl]) oM (fh h) _ (lR _)).2;show(CL _ _ _ _).1.getD t []=_;rw[h1,Sy,Nf,Tj,List.foldl_map];simp only;rw[yJ (by rw[h.fp.sl];omega)];by_cases hs:c9 (y.U.getD t default).kd=true
 .rw[iP hs,iP hs,iP ⟨oM,hs⟩];rfl
 rw[iN hs,iN hs,iN (fun h=>hs h.2)]
def Lp(h:Sx A n y p cs fs){t:Nat}(ht:t<n):
  (ja y p cs fs).1.R.getD t []=if c9 (y.U.getD t default).kd=true then p.R.getD t [] else(V' y p cs fs t).foldl (fun r m=>kb r (XS y p cs fs m)) (if 0<=(J4 y p cs fs).getD t 0 then(p.R.getD t []).filter (fun z=>!decide (z=cs.getD t 0)) else p.R.getD t []):=by
 have hl:=h.vq.len;have h1:=(TE (n:=t) (s:=((bv y.U p cs fs (J4 y p cs fs) y.U.length).1,(bv y.U p cs fs (J4 y p cs fs) y.U.length).2.1)) (by simp only;rw[xy,h.fp.bl]) oM (fh h) _ (lR _)).2;show(CL _ _ _ _).2.getD t []=_;rw[h1,Sy,Nf,Tj,List.foldl_map];simp only;rw[NR (by rw[h.fp.bl];omega)];by_cases hs:c9 (y.U.getD t default).kd=true
 .rw[iP hs,iP hs,iN (fun h=>h.2.1 hs)]
 rw[iN hs,iN hs];by_cases h0:0<=(J4 y p cs fs).getD t 0
 .rw[iP ⟨oM,hs,h0⟩,iP h0];rfl
 rw[iN (fun h=>h0 h.2.2),iN h0];rfl
def aq6(h:Sx A n y p cs fs){t:Nat}(hs:c9 (y.U.getD t default).kd=true):V' y p cs fs t=[]\/∃m,m<n/\0<=(J4 y p cs fs).getD m 0/\HV y.U (J4 y p cs fs) m=t/\V' y p cs fs t=[m]:=by
 have hl:=h.vq.len;rcases fD (q:=fun m=>decide (0<=(J4 y p cs fs).getD m 0)&&decide (HV y.U (J4 y p cs fs) m=t)) (l:=List.range y.U.length) List.nodup_range (fun a ha b hb qa qb=>by
   simp only[TF,Vd]at qa qb;rw[BD]at ha hb;exact ajv h oM oM qa.1 qb.1 qa.2 qb.2 hs)with h1|⟨m,h1,h2,h3⟩
 .exact .inl h1
 simp only[TF,Vd]at h2;rw[BD]at h1;exact .inr ⟨m,oM,h2.1,h2.2,h3⟩
def yS(h:Sx A n y p cs fs)(sQ:∀t,t<n->∀b∈p.R.getD t [],b≠0){m:Nat}(hm:m<n)(h0:0<=(J4 y p cs fs).getD m 0):XS y p cs fs m≠0:=by
 show YE _ _ _ _ _ _≠0;rw[YE];split
 .rename_i hs;have:=alE h hm h0 hs;have h2:(aC y p fs (J4 y p cs fs) m).2≠0:=by rw[this.1];exact this.2
  exact h2
 rename_i hs;obtain⟨a1,_⟩:=Mh h hm h0;obtain⟨_,⟨k7,_,hb⟩|⟨Ac,_⟩⟩:=wR h hm a1
 .exact sQ m hm _ hb
 exact absurd Ac hs
def O_{b:Int}(h:b≠0):nz [b]=[b]:=by rw[Vk h];rfl
theorem adz(h:Sx A n y p cs fs)(sQ:∀t,t<n->∀b∈p.R.getD t [],b≠0){t:Nat}(ht:t<n)(hs:c9 (y.U.getD t default).kd=true):
  nz ((ja y p cs fs).1.Q.getD t [])++nW y p cs fs t=(V' y p cs fs t).map (XS y p cs fs)++nz (p.Q.getD t []):=by
 have hl:=h.vq.len;rw[bm h ht,iP hs];have e1:=asE (p.Q.getD t []) (u_ fs t (y.U.getD t default).ln.toNat) (decide (0<=(J4 y p cs fs).getD t 0));have e2:nz [(aC y p fs (J4 y p cs fs) t).2]=nW y p cs fs t:=by
  show _=qX _ _ _ _ _ _;rw[qX];split
  .rename_i h0;have:=yS h sQ ht h0;have e3:YE y.U p cs fs (J4 y p cs fs) t=(aC y p fs (J4 y p cs fs) t).2:=by rw[YE,iP hs];rfl
   rw[e3,O_ (by rw[<-e3];exact this)]
  rename_i h0;rw[Lg oM];rfl
 have e1':nz (aC y p fs (J4 y p cs fs) t).1++nW y p cs fs t=nz (p.Q.getD t []):=by rw[<-e2];exact e1
 rcases aq6 h hs with h1|⟨m,hm,h0,hg,h1⟩
 .rw[h1];exact e1'
 rw[h1];have hb:=yS h sQ hm h0;have hr:=(arh h hm h0 hg hs).1;have hz:=ahZ (p.Q.getD t []) (u_ fs t (y.U.getD t default).ln.toNat) (decide (0<=(J4 y p cs fs).getD t 0)) hr;have hlen:(aC y p fs (J4 y p cs fs) t).1.length=(p.Q.getD t []).length:=iR _ _ _;have gk:=h.fp.row t oM;have VV:=h.fp.st t oM hs;rw[<-e1'];have Az:(aC y p fs (J4 y p cs fs) t).1.getD 0 0=0:=hz;generalize (aC y p fs (J4 y p cs fs) t).1=a at*;cases a with
 |nil=>rw[N9]at hlen;omega|cons z r=>simp at Az;subst Az;simp only[Xi,LJ,FA,b_,FV,D0,Vk hb,Mb,fj]
end
open Go.Plant
def Uj(f:Nat->Nat):Nat->Nat
 |0=>0|k+1=>Uj f k+f k
theorem MA{f g:Nat->Nat}:∀{k},(∀i,i<k->f i=g i)->Uj f k=Uj g k
 |0,_=>rfl|k+1,h=>by rw[Uj,Uj,MA fun i hi=>h i oM,h k oM]
theorem eE{f g:Nat->Nat}:∀k,Uj (fun i=>f i+g i) k=Uj f k+Uj g k
 |0=>rfl|k+1=>by rw[Uj,Uj,Uj,eE k];omega
theorem cN:∀k,Uj (fun _=>0) k=0
 |0=>rfl|k+1=>by rw[Uj,cN k]
theorem KQ{g:Nat->Nat->Nat}{M:Nat}:∀N,Uj (fun t=>Uj (fun m=>g t m) M) N=Uj (fun m=>Uj (fun t=>g t m) N) M
 |0=>by rw[Uj];exact(cN M).symm|N+1=>by rw[Uj,KQ N,<-eE];rfl
theorem oi{c:Nat}{v:Nat}:∀{N},Uj (fun t=>if t=c then v else 0) N=if c<N then v else 0
 |0=>by simp[Uj]|N+1=>by
  rw[Uj,oi];by_cases h:N=c
  .subst h;simp
  rw[iN h];by_cases h2:c<N
  .rw[iP h2,iP oM];rfl
  rw[iN h2,iN oM]
theorem Gv{q:Nat->Bool}{f:Nat->Int}{b:Int}:∀N,(((List.range N).filter q).map f).count b=Uj (fun m=>if q m=true/\f m=b then 1 else 0) N
 |0=>rfl|N+1=>by
  rw[RM,aT,Mx,Ya,Gv N,Uj];congr 1
  by_cases h:q N=true
  .by_cases h2:f N=b
   .simp[h,h2]
   simp[h,h2]
  simp[h]
def KH(p:Pl)(t:Nat):List Int:=nz (p.Q.getD t [])++p.R.getD t []
def Sh(p:Pl):Nat->List Int
 |0=>[]|t+1=>Sh p t++KH p t
theorem NB(p:Pl)(b:Int):∀N,(Sh p N).count b=Uj (fun t=>(KH p t).count b) N
 |0=>rfl|N+1=>by rw[Sh,Ya,NB p b N];rfl
theorem th{p:Pl}{b:Int}:∀{N},b∈Sh p N↔∃t,t<N/\b∈KH p t
 |0=>by simp[Sh]|N+1=>by
  rw[Sh,ym,th];constructor
  .rintro(⟨t,h,h2⟩|h)
   .exact⟨t,oM,h2⟩
   exact⟨N,oM,h⟩
  rintro⟨t,h,h2⟩;by_cases ht:t=N
  .subst ht;exact .inr h2
  exact .inl ⟨t,oM,h2⟩
theorem TC{p:Pl}{t:Nat}:∀{N},t<N->(KH p t).length<=(Sh p N).length
 |N+1,h=>by
  rw[Sh,aL];by_cases ht:t=N
  .subst ht;omega
  have:=TC (p:=p) (t:=t) (N:=N) oM;omega
theorem E9{p:Pl}{t:Nat}:∀{N},t<N->(Sh p N).Nodup->(KH p t).Nodup
 |N+1,h,hd=>by
  rw[Sh,vI]at hd;by_cases ht:t=N
  .subst ht;exact hd.2.1
  exact E9 oM hd.1
def acy{l:List Int}{x b:Int}:(kb l x).count b=l.count b+if x=b then 1 else 0:=by
 have h:l.count b=(l.takeWhile (fun y=>decide (y<x))).count b+(l.dropWhile (fun y=>decide (y<x))).count b:=by rw[<-Ya,I8]
 rw[kb,Ya,Ya,h];by_cases hx:x=b
 .simp[hx];omega
 simp[hx]
theorem pW{b:Int}{f:Nat->Int}:∀{ms:List Nat}{l:List Int},(ms.foldl (fun r m=>kb r (f m)) l).count b=l.count b+(ms.map f).count b
 |[],l=>sM|m::ms,l=>by
  rw[Xi,pW,acy,b_,List.count_cons];by_cases h:f m=b
  .simp[h];omega
  simp[h]
def akN{l:List Int}{c b:Int}(hd:l.Nodup)(hc:c∈l):(l.filter fun z=>!decide (z=c)).count b+(if c=b then 1 else 0)=l.count b:=by
 by_cases h:c=b
 .subst h;have h1:(l.filter fun z=>!decide (z=c)).count c=0:=by rw[List.count_eq_zero];intro h2;have:=(Yu.1 h2).2;simp at this
  rw[h1,List.Nodup.count hd,iP rfl,iP hc]
 rw[iN h,dq,List.count_filter];simp;exact fun h2=>h h2.symm
structure Y9(y:Ly)(p:Pl)(L:List Int):Prop where
 fp:Zc y.U p
 perm:(Sh p y.U.length).Perm L
 Wh:∀t,t<y.U.length->(p.R.getD t []).Pairwise (·<=·)
structure mK(L:List Int):Prop where
 nd:L.Nodup
 pos:∀b∈L,1<=b/\b<=40
 len:L.length<=40
section
variable{A n:Nat}{y:Ly}{p:Pl}{cs:List Int}{fs:List T3}{L:List Int}
def Y9.nd(h:Y9 y p L)(hL:mK L):(Sh p y.U.length).Nodup:=(h.perm.nodup_iff).2 hL.nd
def Y9.mem(h:Y9 y p L){b:Int}:b∈Sh p y.U.length↔b∈L:=h.perm.mem_iff
def Y9.aoa(h:Y9 y p L)(hL:mK L){t:Nat}(ht:t<y.U.length){b:Int}(hb:b∈KH p t):1<=b/\b<=40:=
 hL.pos b (h.mem.1 (th.2 ⟨t,ht,hb⟩))
def Y9.Qp(h:Y9 y p L)(hL:mK L){t:Nat}(ht:t<y.U.length):∀b∈p.R.getD t [],b≠0:=fun b hb=>by have:=h.aoa hL ht (b:=b) (ym.2 (.inr hb));omega
def arF(h:Sx A n y p cs fs)(hi:Y9 y p L)(hL:mK L){t:Nat}(ht:t<n)(b:Int):
  (KH (ja y p cs fs).1 t).count b+(nW y p cs fs t).count b=((V' y p cs fs t).map (XS y p cs fs)).count b+(KH p t).count b:=by
 have hl:=h.vq.len;have sQ:∀t,t<n->∀b∈p.R.getD t [],b≠0:=fun t ht=>hi.Qp hL oM;unfold KH;rw[Ya,Ya];by_cases hs:c9 (y.U.getD t default).kd=true
 .have h1:=rD (List.count b) (adz h sQ ht hs);rw[Ya,Ya]at h1;rw[Lp h ht,iP hs];omega
 rw[bm h ht,Lp h ht,iN hs,iN hs,pW];show _+(qX _ _ _ _ _ _).count b=_;rw[qX];have Z3:(p.R.getD t []).Nodup:=by have:=E9 oM (hi.nd hL) (p:=p) (t:=t);rw[KH,vI]at this;exact this.2.1
 split
 .rename_i h0;obtain⟨a1,_⟩:=Mh h ht h0;obtain⟨_,⟨k7,_,hb⟩|⟨Ac,_⟩⟩:=wR h ht a1
  .have:=akN (b:=b) Z3 hb;have e:(YE y.U p cs fs (J4 y p cs fs) t)=cs.getD t 0:=by rw[YE,iN hs]
   rw[e,List.count_singleton];simp only[Lr];have e2:(if cs.getD t 0=b then 1 else 0)=(if cs.getD t 0=b then 1 else 0:Nat):=rfl;omega
  exact absurd Ac hs
 simp;omega
def apT(h:Sx A n y p cs fs)(hi:Y9 y p L)(hL:mK L):(Sh (ja y p cs fs).1 y.U.length).Perm L:=by
 have hl:=h.vq.len;refine List.Perm.trans ?_ hi.perm;rw[List.perm_iff_count];intro b;rw[NB,NB];have h1:Uj (fun t=>(KH (ja y p cs fs).1 t).count b+(nW y p cs fs t).count b) n=Uj (fun t=>((V' y p cs fs t).map (XS y p cs fs)).count b+(KH p t).count b) n:=MA fun t ht=>arF h hi hL ht b;rw[eE,eE]at h1;have h2:Uj (fun t=>((V' y p cs fs t).map (XS y p cs fs)).count b) n=Uj (fun t=>(nW y p cs fs t).count b) n:=by
  have e1:∀t,t<n->((V' y p cs fs t).map (XS y p cs fs)).count b=Uj (fun m=>if t=(HV y.U (J4 y p cs fs) m).toNat then(if 0<=(J4 y p cs fs).getD m 0/\XS y p cs fs m=b then 1 else 0) else 0) n:=fun t ht=>by
   show(((List.range y.U.length).filter _).map _).count b=_;rw[Gv,hl];refine MA fun m hm=>?_;simp only[TF,Vd];by_cases h0:0<=(J4 y p cs fs).getD m 0
   .obtain⟨_,g1,g2,_⟩:=Mh h hm h0;by_cases hg:HV y.U (J4 y p cs fs) m=t
    .simp[h0,hg]
    simp[hg,show ¬t=(HV y.U (J4 y p cs fs) m).toNat by omega]
   rw[iN (fun h2=>h0 h2.1.1)];split
   .rw[iN (fun h2=>h0 h2.1)]
   rfl
  rw[MA e1,KQ];refine MA fun m hm=>?_;rw[oi];show _=(qX _ _ _ _ _ _).count b;rw[qX];by_cases h0:0<=(J4 y p cs fs).getD m 0
  .obtain⟨_,g1,g2,_⟩:=Mh h hm h0;rw[iP oM,iP h0,List.count_singleton];by_cases hb:YE y.U p cs fs (J4 y p cs fs) m=b
   .rw[iP ⟨h0,hb⟩,iP xW]
   rw[iN (fun h2=>hb h2.2),iN xW]
  rw[iN h0,iN (fun h2:0<=(J4 y p cs fs).getD m 0/\XS y p cs fs m=b=>h0 h2.1)];simp
 rw[hl];omega
def Rg(h:Sx A n y p cs fs)(hi:Y9 y p L)(hL:mK L):Y9 y (ja y p cs fs).1 L:=by
 have hl:=h.vq.len;have hp:=apT h hi hL;have sL:=jB (ms:=(bv y.U p cs fs (J4 y p cs fs) y.U.length).2.2) (OM (cs:=cs) (fs:=fs) (LV:=J4 y p cs fs) hi.fp hi.Wh _ (lR _)) (bv y.U p cs fs (J4 y p cs fs) y.U.length).2.2.length;refine⟨⟨hi.fp.xl,sL.l1,sL.l2,sL.r1,fun t ht=>?_,hi.fp.ln,hi.fp.st,hi.fp.ex⟩,hp,fun t ht=>(sL.r2 t ht).1⟩;have h1:=TC (p:=(ja y p cs fs).1) ht;rw[hp.length_eq]at h1;have:=hL.len;have h2:((ja y p cs fs).1.R.getD t []).length<=(KH (ja y p cs fs).1 t).length:=by rw[KH,aL];omega
 omega
end
open Go.Plant
def Vt{α:Type}{l:List α}{x d:α}{t:Nat}:(l++[x]).getD t d=if t<l.length then l.getD t d else if t=l.length then x else d:=by
 simp only[gE,List.getElem?_append];split
 .rfl
 split
 .rename_i h;subst h;simp
 rw[Zo xF];rfl
open Go.Plant
def aqA{A n:Nat}{y:Ly}(hg:Good A n y)(l:List Int)(a:Nat){i:Nat}(hi:i<n):jo (y.U.getD i default) (T1 l (y.U.getD i default) a).1=true:=by
 have hs:=hg.ya i hi;have he:=hg.Y8 hi;generalize y.U.getD i default=x at*;obtain⟨k1,k2⟩:=hs.kd;unfold T1;by_cases c7:x.kd=7
 .rw[iP c7,jo,iP c7];have:=G0 (l:=l) (a:=a) (n:=8) oM;simp;omega
 rw[iN c7];by_cases c8:x.kd=8\/x.kd=9
 .rw[iP c8,jo,iN c7,iP (by simp[c9];omega)];rfl
 rw[iN c8];have VV:¬c9 x.kd=false:=by simp[c9];omega
 by_cases c5:x.kd=5
 .rw[iP c5,jo,iN c7,iN VV];have hm:=YY (l:=l) (a:=a) (es:=[1,1,0]) sM;simp only[rX,AY,xN]at hm;simp only;rw[iN oM];rw[WW,iP oM]at he;simp;omega
 rw[iN c5];by_cases c4:x.kd=4\/x.kd=6
 .rw[iP c4,jo,iN c7,iN VV];have hm:=YY (l:=l) (a:=a) (es:=[1,0,1,0,-1]) sM;simp only[rX,AY,xN]at hm;simp only;rw[WW,iP oM]at he;split
  .simp[c5]
  simp;omega
 rw[iN c4,jo,iN c7,iN VV];have hm:=YY (l:=l) (a:=a) (es:=[0,0,0,0,-1]) sM;simp only[rX,AY,xN]at hm;simp only;rw[WW,iN oM,iN oM]at he;split
 .simp[c5]
 simp;omega
theorem Qx(l:List Int)(xs:List Nd)(a:Nat):∀i j,j<i->∃b,(VH l xs a i).1.getD j 0=(T1 l (xs.getD j default) b).1
 |0,j,h=>absurd h (nZ _)|i+1,j,h=>by
  rw[VH,Vt,Lk];by_cases hj:j<i
  .rw[iP hj];exact Qx l xs a i j hj
  have:j=i:=oM;subst this;rw[iN hj,iP rfl];exact⟨_,rfl⟩
def x_{A n:Nat}{y:Ly}(hg:Good A n y)(l:List Int)(a:Nat):(gC l a y.U).1.length=n/\∀i,i<n->jo (y.U.getD i default) ((gC l a y.U).1.getD i 0)=true:=by refine⟨by rw[gC,Lk,hg.len],fun i hi=>?_⟩;obtain⟨b,hb⟩:=Qx l y.U a y.U.length i (by rw[hg.len];exact hi);rw[gC,hb];exact aqA hg l b hi
structure cO(xs:List Nd)(fs:List T3):Prop where
 ok:∀f∈fs,(f.a=1\/f.a=2)/\0<=f.b/\f.b<xs.length/\0<=f.c/\f.c<(xs.getD f.b.toNat default).ln
 Ct:fs.Pairwise fun f g=>¬(g.b=f.b/\g.c=f.c)
theorem Lo{A n:Nat}{y:Ly}(hg:Good A n y)(l:List Int)(a:Nat):∀k,cO y.U (Vx l y.U a k).1
 |0=>⟨by simp[Vx],by simp[Vx]⟩|k+1=>by
  obtain⟨h1,h2⟩:=Lo hg l a k;have hn:=hg.n11;have hl:=hg.len;rw[Vx];generalize Vx l y.U a k=o at*;unfold zD;simp only;have hk:=G0 (l:=l) (a:=o.2) (n:=(y.U.length:Int)) oM;have hx:=hg.ya (gN l o.2 y.U.length).toNat oM;have fo:=hx.ln;have RO:=hx.l0;split
  .exact⟨h1,h2⟩
  rename_i SO;have hw:=G0 (l:=l) (a:=o.2+2) (n:=(y.U.getD (gN l o.2 y.U.length).toNat default).ln) oM;have hr:=QU (l:=l) (a:=o.2+1) (lo:=1) (hi:=2) oM;split
  .exact⟨h1,h2⟩
  rename_i wy;refine⟨fun f hf=>?_,iL.2 ⟨h2,sM,fun f hf g Jg=>?_⟩⟩
  .rcases ym.1 hf with hf|hf
   .exact h1 f hf
   rw[iT]at hf;subst hf;simp only;omega
  rw[iT]at Jg;simp only[OX,lA]at wy;have:=wy f hf;subst Jg;rw[aR,KW,mV,mV]at this;simp only;rintro⟨e1,e2⟩;exact this.elim (fun h=>h e1.symm) (fun h=>h e2.symm)
def cO.fit{xs:List Nd}{fs:List T3}(h:cO xs fs)(hl:fs.length<=1000):YS xs fs:=by refine⟨hl,fun i hi n hn hb=>?_⟩;have:=h.ok _ (ka (d:=default) hi);rw[hb,Mv]at this;exact this.2.2.2
theorem cO.first{xs:List Nd}:∀{fs:List T3},cO xs fs->PH xs fs=0
 |[],_=>rfl|f::r,h=>by
  have hf:=h.ok f mS;have:EQ xs f=0:=by unfold EQ;rw[iN oM,iN oM]
  rw[PH,iN (by rw[this];simp)];exact cO.first ⟨fun g hg=>h.ok g (mC _ hg),(xL.1 h.Ct).2⟩
def cO.dup{xs:List Nd}{fs:List T3}(h:cO xs fs):CH fs=false:=by
 rw[CH,lA];intro i hi;rw[BD]at hi;simp only[OX,lA,BD];intro k hk;have:=Hu (d:=default) h.Ct hk hi;simp only[OX,KW,mV];by_cases h1:(fs.getD i default).b=(fs.getD k default).b
 .exact .inr fun h2=>this ⟨h1,h2⟩
 exact .inl h1
def FO{A n:Nat}{y:Ly}{cs:List Int}{fs:List T3}(hg:Good A n y)(hc:cs.length=n)(hk:∀i,i<n->jo (y.U.getD i default) (cs.getD i 0)=true)(hf:cO y.U fs)(hl:fs.length<=4):Zk y.U cs fs=0:=by have hN:=hg.len;rw[Zk,iN oM,iN,iN oM,hf.first,iN sM,hf.dup,iN sM];rw[BR,hc,tA hk];simp
def Good.sx{A n:Nat}{y:Ly}{p:Pl}{L:List Int}(hg:Good A n y)(hi:Y9 y p L){cs:List Int}{fs:List T3}(hc:cs.length=n)(hk:∀i,i<n->jo (y.U.getD i default) (cs.getD i 0)=true)(hf:cO y.U fs)(hl:fs.length<=4):Sx A n y p cs fs:=
 ⟨hg,hi.fp,hf.fit oM,hc,hk⟩
open Go.Plant
def dZ{ms:List T3}{j:Nat}(h:j<ms.length):ms.take (j+1)=ms.take j++[ms.getD j default]:=by rw[wr,gG h,gE,gG h];rfl
section
variable{A n:Nat}{y:Ly}{p:Pl}{cs:List Int}{fs:List T3}
end
open Go.Plant
def H'{s:List Int}{b:Int}(h0:b≠0):b∈nz s↔b∈s:=by rw[nz,Yu];simp[h0]
theorem abl{p:Pl}{b:Int}{N:Nat}(hs:p.Q.length=N)(hb:p.R.length=N)(h0:b≠0)(h:(AU p b).2.2=false){t:Nat}(ht:t<N):b∉KH p t:=by
 unfold AU at h;rw[iN h0]at h;cases e1:p.Q.findIdx? fun r=>decide (b∈r)with
 |some n=>rw[e1]at h;cases h
 |none=>
  rw[e1]at h;cases e2:p.R.findIdx? fun r=>decide (b∈r)with
  |some n=>rw[e2]at h;cases h
  |none=>
   rw[n4]at e1 e2;intro hm;rcases ym.1 hm with hm|hm
   .have:=e1 _ (ka (l:=p.Q) (d:=[]) (show t<p.Q.length by omega));exact absurd ((H' h0).1 hm) (by simpa using this)
   have:=e2 _ (ka (l:=p.R) (d:=[]) (show t<p.R.length by omega));exact absurd hm (by simpa using this)
section
variable{A n:Nat}{y:Ly}{p:Pl}{cs:List Int}{fs:List T3}{L:List Int}
end
open Go.Plant
section
variable{α:Type}{f:α->α}{l:List α}{k:Nat}{d:α}
end
def anm(x:Int):Int:=x+20
def OB(r:List Int):List Int:=r.map anm
open Go.Plant
theorem y7{fs:List T3}{n:Int}{ln k j:Nat}(hb:(fs.getD j default).b=n)(hc:(fs.getD j default).c.toNat=k)(ha:(fs.getD j default).a=1)(hk:k<ln)(hu:∀i,i<fs.length->i≠j->(fs.getD i default).b=n->(fs.getD i default).c.toNat≠k):∀i,i<=fs.length->j<i->(mD fs n ln i).getD k 0=1
 |0,_,h=>absurd h (nZ _)|i+1,hi,h=>by
  have hl:=BJ fs n ln i;rw[mD];unfold eY;by_cases U7:i=j
  .subst U7;rw[iP hb,F3,iP ⟨hc,oM⟩,ha]
  have ih:=y7 hb hc ha hk hu i oM oM;split
  .rename_i h2;rw[F3,iN (fun h3=>hu i oM U7 h2 h3.1)];exact ih
  exact ih
def agW{fs:List T3}(hd:CH fs=false){i j:Nat}(hi:i<fs.length)(hj:j<fs.length)(SO:i≠j):¬((fs.getD i default).b=(fs.getD j default).b/\(fs.getD i default).c=(fs.getD j default).c):=by
 have key:∀{i j:Nat},i<fs.length->j<i->¬((fs.getD i default).b=(fs.getD j default).b/\(fs.getD i default).c=(fs.getD j default).c):=by intro i j hi hj h;rw[CH,lA]at hd;refine hd i (BD.2 hi) (X4.2 ⟨j,BD.2 hj,?_⟩);rw[dT h.1,dT h.2];rfl
 rcases Nat.lt_or_gt_of_ne SO with h|h
 .exact fun h2=>key hj h ⟨h2.1.symm,h2.2.symm⟩
 exact key hi h
def asq{xs:List Nd}{fs:List T3}(hf:YS xs fs)(hd:CH fs=false){m k:Nat}(hm:m<xs.length)(hk:k<(xs.getD m default).ln.toNat)(h:fs.any (fun z=>Ql ⟨1,m,k⟩ z)=true):
  (u_ fs m (xs.getD m default).ln.toNat).getD k 0=1:=by
 obtain⟨z,hz,he⟩:=X4.1 h;obtain⟨j,hj,rfl⟩:=G_ hz;have e:=PB.1 he;have ej:fs.getD j default=⟨1,m,k⟩:=by rw[e];simp[hj]
 refine y7 (j:=j) (by rw[ej]) (by rw[ej];simp) (by rw[ej]) hk (fun i hi SO hb hc=>?_) _ (lR _) hj;have h1:=hf.ok i hi m hm hb;refine agW hd hi hj SO ⟨by rw[hb,ej],by rw[ej];show _=(k:Int);omega⟩
section
variable{A n:Nat}{y:Ly}{p:Pl}{cs:List Int}{fs:List T3}
theorem EL(h:Sx A n y p cs fs)(hd:CH fs=false)(sQ:∀t,t<n->∀b∈p.R.getD t [],b≠0){m:Nat}(hm:m<n):
  (UW (y.U.getD m default) (p.Q.getD m []) (p.R.getD m []) (cs.getD m 0) fs m≠0↔0<=(WN y p cs fs).getD m 0)/\
  (0<=(WN y p cs fs).getD m 0->(WN y p cs fs).getD m 0=PX (y.U.getD m default) (cs.getD m 0)):=by
 have hl:=h.vq.len;have tB:=h.cmd m hm;have VV:=h.fp.st m oM;have OV:=sQ m hm;rw[WN,EG oM,xV,UW,PX];by_cases k7:(y.U.getD m default).kd=7
 .rw[iP k7,iP k7,iP k7];by_cases hc:cs.getD m 0∈p.R.getD m []
  .have e:((p.R.getD m []).any fun y=>decide (cs.getD m 0=y))=true:=X4.2 ⟨_,hc,dT rfl⟩;rw[iP hc,iP e];exact⟨⟨fun _=>oM,fun _=>OV _ hc⟩,fun _=>rfl⟩
  have e:¬((p.R.getD m []).any fun y=>decide (cs.getD m 0=y))=true:=fun h2=>by obtain⟨z,hz,Xy⟩:=X4.1 h2;rw[oT Xy]at hc;exact hc hz
  rw[iN hc,iN e];exact⟨⟨fun h=>absurd rfl h,fun h=>oM⟩,fun h=>oM⟩
 rw[iN k7,iN k7,iN k7];cases hs:c9 (y.U.getD m default).kd with
 |false=>rw[iP (.inl rfl),iP rfl];exact⟨⟨fun h=>absurd rfl h,fun h=>oM⟩,fun h=>oM⟩|true=>
  have VV:=VV hs;rw[jo,iN k7,iN (by rw[hs];simp)]at tB;have e1:((y.U.getD m default).ln-1:Int)=(((y.U.getD m default).ln.toNat-1:Nat):Int):=oM;rw[iN (show ¬(true=false) by simp),e1];by_cases vi:(fs.any fun z=>Ql ⟨1,m,(((y.U.getD m default).ln.toNat-1:Nat):Int)⟩ z)=true
  .have:=asq (m:=m) (k:=(y.U.getD m default).ln.toNat-1) h.ff hd oM oM vi;rw[iP (.inr (.inr this)),iP (.inr vi)];exact⟨⟨fun h=>absurd rfl h,fun h=>oM⟩,fun h=>oM⟩
  have Zw:=Rk (m:=m) (k:=(y.U.getD m default).ln.toNat-1) (ln:=(y.U.getD m default).ln.toNat) h.ff oM (by simpa using vi);by_cases oh:cs.getD m 0=-1
  .rw[iP (.inr (.inl oh))];refine⟨⟨fun h=>absurd rfl h,fun h=>?_⟩,fun h=>?_⟩
   .split at h<;>omega
   split at h<;>omega
  rw[iN oh,TF,Vd,Vd]at tB;rw[iN (show ¬(true=false\/cs.getD m 0=-1\/(u_ fs m (y.U.getD m default).ln.toNat).getD ((y.U.getD m default).ln.toNat-1) 0=1) from fun h=>by
   rcases h with h|h|h
   ·cases h
   ·exact oh h
   exact Zw h)]
  by_cases h0:(p.Q.getD m []).getD ((y.U.getD m default).ln.toNat-1) 0=0
  .rw[iP (.inl h0)];exact⟨⟨fun h=>absurd h0 h,fun h=>oM⟩,fun h=>oM⟩
  rw[iN (fun h=>by rcases h with h|h;exact h0 h;exact vi h)];exact⟨⟨fun _=>tB.1,fun _=>h0⟩,fun _=>rfl⟩
def acZ{lv:List Int}{xs:List Nd}{W:List Int}(hu:MQ xs W){m:Nat}(hm:m<xs.length)(h:mP xs p W lv (m+1)):(lv.getD m 0=-1\/0<=lv.getD m 0)/\((xs.getD m default).kd=5->lv.getD m 0≠0):=by
 by_cases h1:W.getD m 0<0\/fP xs W m<((m+1:Nat):Int)
 .have:=h.neg m hm oM h1;exact⟨.inl this,fun _=>oM⟩
 have h0:0<=W.getD m 0:=oM;have h2:((m+1:Nat):Int)<=fP xs W m:=oM;rcases h.ath m hm oM h0 h2 with ⟨h3,_⟩|⟨h3,_⟩
 .refine⟨.inr oM,fun h5 h6=>?_⟩;have:=hu.lp m hm h5 oM;omega
 exact⟨.inl h3,fun _=>oM⟩
theorem al5{xs:List Nd}{W:List Int}(hu:MQ xs W){c:Nat}(hc:c<=xs.length):mP xs p W (GX xs p W (Xt xs.length) c).1 (xs.length-c):=by
 induction c with
 |zero=>
  refine⟨b8 _,fun m h1 h2=>oM,fun m h1 h2 h3=>?_,fun m h1 h2 h3 h4=>?_⟩
  .simp[GX,TM,h1]
  have:=(hu.up m h1 h3).2;omega
 |succ c ih=>have h1:=ih oM;rw[GX,A8,Ab oM,Mv];have e:xs.length-c=(xs.length-1-c)+1:=oM;rw[e]at h1;have:=cB hu oM h1;rw[show xs.length-(c+1)=xs.length-1-c by omega];exact this
end
def p8(xs:List Nd)(W:List Int)(t:Nat)(lv:List Int):Nat->List Int
 |0=>lv|k+1=>if Bc xs W t k=true then(p8 xs W t lv k).set k (W.getD k 0) else p8 xs W t lv k
theorem qR{xs:List Nd}{W:List Int}{t:Nat}{lv:List Int}:∀k,(p8 xs W t lv k).length=lv.length
 |0=>rfl|k+1=>by rw[p8];split<;>simp[qR k]
theorem DL{xs:List Nd}{W:List Int}{t:Nat}{lv:List Int}{j:Nat}(hj:j<lv.length):∀k,(p8 xs W t lv k).getD j 0=if j<k/\Bc xs W t j=true then W.getD j 0 else lv.getD j 0
 |0=>by rw[iN (fun h=>absurd h.1 (nZ _))];rfl|k+1=>by
  have hl:=qR (xs:=xs) (W:=W) (t:=t) (lv:=lv) k;rw[p8];by_cases DE:j=k
  .subst DE;by_cases hc:Bc xs W t j=true
   .rw[iP hc,F3,iP ⟨rfl,oM⟩,iP ⟨oM,hc⟩]
   rw[iN hc,DL hj j,iN (fun h=>hc h.2),iN (fun h=>hc h.2)]
  have e:(j<k+1/\Bc xs W t j=true)=(j<k/\Bc xs W t j=true):=by refine propext ⟨fun h=>⟨oM,h.2⟩,fun h=>⟨oM,h.2⟩⟩
  split
  .rw[F3,iN (fun h=>DE h.1.symm),DL hj k];simp only[e]
  rw[DL hj k];simp only[e]
def ank{xs:List Nd}{W:List Int}{t:Nat}{lv:List Int}(ED:xs.length<=11)(hw:W.length=xs.length)(hl:lv.length=xs.length):
  p8 xs W t lv xs.length=Cj W (yk xs W t W.length) (yk xs W t W.length) lv:=by
 have hS:yk xs W t W.length<2048:=tL (tn xs W t W.length) (Il dM (by omega:W.length<=11));refine i7 (by rw[qR,bX]) fun j h1 h2=>?_;rw[qR]at h1;have e1:=DL (xs:=xs) (W:=W) (t:=t) h1 xs.length;have e2:=J_ W (k:=j) _ _ lv (lR _) hS h1 oM;rw[jV]at e2;have e3:(p8 xs W t lv xs.length).getD j 0=(Cj W (yk xs W t W.length) (yk xs W t W.length) lv).getD j 0:=by
  rw[e1,e2,hw];by_cases hc:Bc xs W t j=true
  .rw[iP ⟨oM,hc⟩,iP (by rw[dT oM,hc];rfl)]
  rw[iN (fun h=>hc h.2),iN (by simp[hc])]
 simpa[h1,h2,qR] using e3
def adn{xs:List Nd}{W:List Int}{t:Nat}(hw:W.length=xs.length)(h:∀k,k<xs.length->Bc xs W t k=false):yk xs W t W.length=0:=by
 refine Nat.eq_of_testBit_eq fun j=>?_;rw[jV,Nat.zero_testBit];by_cases hj:j<W.length
 .rw[h j oM,Yx]
 rw[dF hj,aS]
def afq{xs:List Nd}{W:List Int}{t k:Nat}(ED:xs.length<=11)(hw:W.length=xs.length)(hk:k<xs.length)(hc:Bc xs W t k=true)(h:∀j,j<k->Bc xs W t j=false):
  yk xs W t W.length≠0/\tz 11 (yk xs W t W.length)=k:=by
 have hS:yk xs W t W.length<2048:=tL (tn xs W t W.length) (Il dM (by omega:W.length<=11));have hb:(yk xs W t W.length).testBit k=true:=by rw[jV,hc,dT oM];rfl
 have h0:yk xs W t W.length≠0:=fun h0=>by rw[h0,Nat.zero_testBit]at hb;cases hb
 obtain⟨b1,_,b3⟩:=SC hS h0;have h1:=b3 k oM hb;refine⟨h0,?_⟩;refine BX fun SO=>?_;rw[jV,h _ oM,Yx]at b1;cases b1
theorem AP(xs:List Nd)(p:Pl){j:Nat}:∀{i},j<i->(FL xs p i).getD j false=Y3 (xs.getD j default) (p.Q.getD j [])
 |0,h=>absurd h (nZ _)|i+1,h=>by
  have hl:=TN xs p i;rw[FL,gE];by_cases hj:j=i
  .subst hj;rw[Ga oM,hl,vW];rfl
  rw[fd oM,<-gE];exact AP xs p oM
open Go.Plant
def run:List Int->List Int->Bool->List Int->List Int×Int
 |[],_,_,x=>(x,0)|b::r,fs,op,x=>
  if b=0 then(x.headD 0::(run r (fs.drop 1) op x.tail).1,(run r (fs.drop 1) op x.tail).2)
  else if r=[] then(if op=true/\fs.getD 0 0≠1 then([x.headD 0],b) else([b],0))
  else if fs.getD 0 0=1\/r.getD 0 0≠0 then(b::(run r (fs.drop 1) op x.tail).1,(run r (fs.drop 1) op x.tail).2)
  else if fs.getD 0 0=2/\1<r.length/\r.getD 1 0=0 then(x.headD 0::(run r (fs.drop 1) op (x.tail.set 1 b)).1,(run r (fs.drop 1) op (x.tail.set 1 b)).2)
  else(x.headD 0::(run r (fs.drop 1) op (x.tail.set 0 b)).1,(run r (fs.drop 1) op (x.tail.set 0 b)).2)
theorem Bq(op:Bool):∀(r fs x:List Int)(i:Nat)(v:Int),i<r.length->x.length=r.length->(∀j,j<=i->r.getD j 0=0)->run r fs op (x.set i v)=((run r fs op x).1.set i v,(run r fs op x).2)
 |[],_,_,_,_,h,_,_=>absurd h (nZ _)|b::r,fs,x,i,v,hi,hx,hz=>by
  have hb:b=0:=by simpa using hz 0 (zL _)
  subst hb;cases x with
  |nil=>simp at hx|cons x0 x=>
   rw[run,iP rfl,run,iP rfl];cases i with
   |zero=>rfl|succ i=>have:=Bq op r (fs.drop 1) x i v Ks Wa (fun j hj=>by simpa using hz (j+1) oM);simp only[ID,Wf,qv];rw[this]
theorem Qm(op:Bool):∀(r fs:List Int),run r fs op (List.replicate r.length 0)=aD r fs op
 |[],_=>rfl|b::r,fs=>by
  have ih:=Qm op r (fs.drop 1);rw[dO,List.replicate_succ,run,aD];simp only[Wf,qv];by_cases hb:b=0
  .rw[iP hb,iP hb,ih]
  rw[iN hb,iN hb];by_cases hr:r=[]
  .rw[iP hr,iP hr]
  have wN:0<r.length:=bt.2 hr;rw[iN hr,iN hr];by_cases c1:fs.getD 0 0=1\/r.getD 0 0≠0
  .rw[iP c1,iP c1,ih]
  rw[iN c1,iN c1];have h0:r.getD 0 0=0:=BX fun h=>c1 (.inr h);by_cases c2:fs.getD 0 0=2/\1<r.length/\r.getD 1 0=0
  .rw[iP c2,iP c2,Bq op r _ _ 1 b c2.2.1 sM (fun j hj=>by
    have:j=0\/j=1:=oM;rcases this with rfl|rfl
    ·exact h0
    exact c2.2.2),ih]
  rw[iN c2,iN c2,Bq op r _ _ 0 b wN sM (fun j hj=>by
   have:j=0:=oM;subst this;exact h0),ih]
def FH(a b:List Int)(i:Nat):(a++b).getD (a.length+i) 0=b.getD i 0:=Yd a b i
def akr(a b:List Int)(i:Nat)(x:Int):(a++b).set (a.length+i) x=a++b.set i x:=rx a b i x
theorem Yn(fs:List Int)(op:Bool):∀(r a u x:List Int),u.length=a.length->x.length=r.length->QQ (a++r) fs op a.length=(u++x,0)->
  QQ (a++r) fs op (a++r).length=(u++(run r (fs.drop a.length) op x).1,(run r (fs.drop a.length) op x).2)
 |[],a,u,x,hu,hx,h=>by rw[MP]at h ⊢;rw[h];rfl|b::r,a,u,x,hu,hx,h=>by
  cases x with
  |nil=>simp at hx|cons x0 x=>
   have LX:x.length=r.length:=Wa;have e:∀z:List Int,a++b::z=(a++[b])++z:=fun z=>sM;have el:(a++[b]).length=a.length+1:=sM;have ov:(a++b::r).getD a.length 0=b:=by have:=FH a (b::r) 0;simpa using this
   have lL:fs.getD a.length 0=(fs.drop a.length).getD 0 0:=by simp[gE]
   have al:fs.drop (a.length+1)=(fs.drop a.length).drop 1:=by rw[List.drop_drop]
   have hlen:(a++b::r).length=a.length+r.length+1:=xF;have VV:QQ (a++b::r) fs op (a.length+1)=nC (a++b::r) fs op a.length (u++x0::x,0):=by rw[QQ,h]
   have next:∀y0 y:_,y.length=r.length->QQ (a++b::r) fs op (a.length+1)=(u++y0::y,0)->QQ (a++b::r) fs op (a++b::r).length=(u++y0::(run r ((fs.drop a.length).drop 1) op y).1,(run r ((fs.drop a.length).drop 1) op y).2):=fun y0 y hy h2=>by have:=Yn fs op r (a++[b]) (u++[y0]) y (by simp[hu]) hy (by rw[el,<-e,h2];simp);rw[<-e,el,al]at this;rw[this];simp
   rw[nC,ov]at VV;rw[run];simp only[Wf,qv];by_cases hb:b=0
   .rw[iP hb]at VV ⊢;exact next x0 x LX VV
   rw[iN hb]at VV ⊢;have Vb:∀(z:List Int)(i:Nat)(v:Int),(u++z).set (a.length+i) v=u++z.set i v:=fun z i v=>by rw[<-hu];exact akr u z i v
   by_cases hr:r=[]
   .subst hr;obtain rfl:x=[]:=by simpa using LX
    have pt:¬a.length+1<(a++[b]).length:=sM;rw[iN pt,lL]at VV;rw[iP rfl,el,VV];split
    .rfl
    have:=Vb [x0] 0 b;simp only[dq]at this;rw[this];rfl
   have wN:0<r.length:=bt.2 hr;rw[iP (by rw[hlen];omega)]at VV;rw[iN hr];have h1:(a++b::r).getD (a.length+1) 0=r.getD 0 0:=FH a (b::r) 1;have h2:(a++b::r).getD (a.length+2) 0=r.getD 1 0:=FH a (b::r) 2;by_cases c1:(fs.drop a.length).getD 0 0=1\/r.getD 0 0≠0
   .have ht:iU (a++b::r) fs a.length=a.length:=by rw[iU,lL,h1];first|rw[iP c1]|(rcases c1 with c1|c1<;>simp[c1])
    rw[ht]at VV;have:=Vb (x0::x) 0 b;simp only[dq,FA]at this;rw[this]at VV;rw[iP c1];exact next b x LX VV
   rw[iN c1];by_cases c2:(fs.drop a.length).getD 0 0=2/\1<r.length/\r.getD 1 0=0
   .have ht:iU (a++b::r) fs a.length=a.length+2:=by rw[iU,lL,h1,h2,hlen,iN c1,iP ⟨c2.1,oM,c2.2.2⟩]
    rw[ht]at VV;have:=Vb (x0::x) 2 b;simp only[ID]at this;rw[this]at VV;rw[iP c2];exact next x0 (x.set 1 b) (by rw[su];exact LX) VV
   have ht:iU (a++b::r) fs a.length=a.length+1:=by rw[iU,lL,h1,h2,hlen,iN c1,iN (fun h=>c2 ⟨h.1,oM,h.2.2⟩)]
   rw[ht]at VV;have:=Vb (x0::x) 1 b;simp only[ID]at this;rw[this]at VV;rw[iN c2];exact next x0 (x.set 0 b) (by rw[su];exact LX) VV
def aeo(s fs:List Int)(op:Bool):Kb s fs op=aD s fs op:=by have:=Yn fs op s [] [] (List.replicate s.length 0) rfl sM rfl;simp only[fj,N9,RH]at this;rw[Kb,this,Qm]
open Go.Plant
section
variable{xs:List Nd}{p:Pl}{cs:List Int}{fs:List T3}{LV:List Int}
def af{i:Nat}(h0:0<=LV.getD i 0):(bv xs p cs fs LV (i+1)).2.2=(bv xs p cs fs LV i).2.2++[D6 xs p cs fs LV i]:=by rw[bv];simp only;rw[iP h0];rfl
def Ck{i:Nat}(h0:¬0<=LV.getD i 0):(bv xs p cs fs LV (i+1)).2.2=(bv xs p cs fs LV i).2.2:=by rw[bv];simp only;rw[iN h0]
theorem qs{i:Nat}(h0:0<=LV.getD i 0):∀{m},i<m->(bv xs p cs fs LV i).2.2.length<(bv xs p cs fs LV m).2.2.length/\(bv xs p cs fs LV m).2.2.getD (bv xs p cs fs LV i).2.2.length default=D6 xs p cs fs LV i
 |0,h=>absurd h (nZ _)|m+1,h=>by
  by_cases hm:i=m
  .subst hm;rw[af h0];refine⟨sM,?_⟩;rw[gE,Ga (lR _),vW];rfl
  obtain⟨h1,h2⟩:=qs h0 (m:=m) oM;by_cases c:0<=LV.getD m 0
  .rw[af c];refine⟨by rw[aL];omega,?_⟩;rw[gE,fd h1,<-gE];exact h2
  rw[Ck c];exact⟨h1,h2⟩
def atJ{i N:Nat}{s:List (List Int)×List (List Int)}(h0:0<=LV.getD i 0)(hi:i<N){q:List (List Int)×List (List Int)}(hq:CL xs (bv xs p cs fs LV N).2.2 s (bv xs p cs fs LV i).2.2.length=q):
  CL xs (bv xs p cs fs LV N).2.2 s (bv xs p cs fs LV (i+1)).2.2.length=if c9 (xs.getD (HV xs LV i).toNat default).kd=true then(q.1.set (HV xs LV i).toNat ((q.1.getD (HV xs LV i).toNat []).set 0 (YE xs p cs fs LV i)),q.2)
   else(q.1,q.2.set (HV xs LV i).toNat (kb (q.2.getD (HV xs LV i).toNat []) (YE xs p cs fs LV i))):=by
 have e:(bv xs p cs fs LV (i+1)).2.2.length=(bv xs p cs fs LV i).2.2.length+1:=by rw[af h0];simp
 rw[e,CL,(qs h0 hi).2,hq];rfl
end
def RA(xs:List Nd):Int:=match (List.range xs.length).find? (fun(i:Nat)=>!decide (s8 xs.length i (xs.getD i default)=0))with
 |some i=>s8 xs.length i (xs.getD i default)|none=>0
def dp{xs:List Nd}{i:Nat}(hi:i<xs.length)(h:∀j,j<i->s8 xs.length j (xs.getD j default)=0)(hb:¬s8 xs.length i (xs.getD i default)=0):RA xs=s8 xs.length i (xs.getD i default):=by
 have:((List.range xs.length).find? fun(i:Nat)=>!decide (s8 xs.length i (xs.getD i default)=0))=some i:=by rw[aah];refine⟨xW,i,Ks,sM,fun j hj=>?_⟩;have:=h j hj;simp only[Pj];simpa using this
 rw[RA,this]
def y4{xs:List Nd}(h:∀j,j<xs.length->s8 xs.length j (xs.getD j default)=0):RA xs=0:=by
 have:((List.range xs.length).find? fun(i:Nat)=>!decide (s8 xs.length i (xs.getD i default)=0))=none:=by rw[iq];intro i hi;have:=h i (BD.1 hi);simpa using this
 rw[RA,this]
def sE(xs:List Nd):Bool:=xs.any fun x=>decide (x.kd=1)
def gV(xs:List Nd):Bool:=(List.range xs.length).all fun i=>NQ xs (xs.getD i default)
def NP(y:Ly):Int:=
 if 24<y.U.length\/24<y.D.length then 2
 else if ¬RA y.U=0 then RA y.U
 else if 80<Pc y.U then 2
 else if Cr y.U=false then 5
 else if gV y.U=false then 7
 else if(WR y.U).length<y.U.length then 9
 else if ¬AM y.U y.D=0 then AM y.U y.D
 else if sE y.U=false then 6 else 0
def EF{N i:Int}{x:Nd}(h:s8 N i x=0):0<=x.ln/\x.ln<=8/\JC N i x=true:=by
 rw[s8]at h;split at h
 .cases h
 split at h
 .cases h
 split at h
 .rename_i h2;obtain⟨h3,_,h4⟩:=h2;refine⟨?_,?_,h4⟩<;>(unfold E5 at h3;split at h3<;>(try split at h3)<;>simp at h3<;>omega)
 cases h
def i_{N i:Int}{x:Nd}(h:s8 N i x=0):∀k,k<x.ex.length->0<=x.ex.getD k 0/\x.ex.getD k 0<N:=by have:=(mE.1 (EF h).2.2).2;intro k hk;have:=this k hk;simp only[UT,TF,Vd]at this;exact⟨this.1,this.2.1⟩
def am2(x:Nd):UB prog J9 148 [] [x.av] [] (B (decide (x.kd=1))):=by refine MD func148 ntmps148 ?_;intro w e X hC;exact Et
structure UQ(y:Ly):Prop where
 n:y.U.length<=1000
 d:y.D.length<=1000
 x:∀i,i<y.U.length->(y.U.getD i default).ex.length<=1000
 nm:∀i,i<y.U.length->(bs (y.U.getD i default).nm).length<=1000
theorem SS(y:Ly)(hs:UQ y):UB prog J9 84 [] [y.av] [] (I (NP y)):=by
 obtain⟨hN,hD,hx,jh⟩:=hs;have jU:=fun i hi=>ajQ y i hi hN (hx i hi) (jh i hi);have I9:=afl y hN;have agj:=ak9 y hN;have Lt:=fun i hi=>aaK y i hi hN (hx i hi);have zu:=Cn y hN hx;have akG:=ao3 y hN hD;have D4:=aei y.U 148 (fun x=>decide (x.kd=1)) hN (fun x _=>am2 x);have hE:NP y=_:=NP.eq_1 y;generalize NP y=r at*;refine MD func84 ntmps84 ?_;intro w e X hC;refine uZ ?_;cases d1:decide (24<(y.U.length:Int))with
 |true=>have h1:=oT d1;rw[iP (.inl oM)]at hE;subst hE;refine VF @d1 ?_;exact uP|false=>
 have h1:=oF d1;cases d2:decide (24<(y.D.length:Int))with
 |true=>have h2:=oT d2;rw[iP (.inr oM)]at hE;subst hE;refine VF (uI @d1 @d2) ?_;exact uP|false=>
 have h2:=oF d2;rw[iN oM]at hE;refine QT (uI @d1 @d2) ?_;refine EP ?_;refine R7 y.U.length (fun q:Az=>⟨[(1,.p 101 1 0 0 0),(19,I y.U.length),(20,I q.2)],(101,some (1,.box (r8 y)))::[],q.1⟩) (fun q=>∀j,j<q.2->s8 y.U.length j (y.U.getD j default)=0) (fun j hj=>absurd hj (nZ _)) (ch) ?_;intro ck k hk hj;simp only at hj;refine C0 ?_ ?_<;>intro h
 .have PP:k<y.U.length:=oM;have Ak:=dp PP hj;have An:=jU k PP;have Wt:s8 y.U.length k (y.U.getD k default)=0->∀j,j<k+1->s8 y.U.length j (y.U.getD j default)=0:=fun h j tw=>by
   by_cases ZJ:j=k
   .subst ZJ;exact h
   exact hj j oM
  generalize s8 y.U.length k (y.U.getD k default)=e at*;refine uA ?_;refine yX An ?_;refine C0 ?_ ?_<;>intro c1
  .rw[iP (by rw[Ak c1];exact c1),Ak c1]at hE;subst hE;exact Et
  refine uZ ?_;refine⟨(_,k+1),⟨uO,Wt (BX c1)⟩,uO,ch⟩
 refine El ?_;obtain rfl:k=y.U.length:=oM;rw[iN (by rw[y4 hj];simp)]at hE;replace I9:=I9 fun i hi=>⟨(EF (hj i hi)).1,by have:=(EF (hj i hi)).2.1;omega⟩;replace Lt:=fun i hi=>Lt i hi fun k hk=>i_ (hj i hi) k hk;replace zu:=zu fun i hi k hk=>i_ (hj i hi) k hk;clear hj jU;have gh:gV y.U=_:=gV.eq_1 y.U;generalize Pc y.U=t at*;generalize Cr y.U=nb at*;generalize gV y.U=zb at*;generalize WR y.U=o at*;generalize AM y.U y.D=de at*;have adJ:sE y.U=_:=sE.eq_1 y.U;rw[<-adJ]at D4;generalize sE y.U=eb at*;refine yX I9 ?_;refine Wc ?_ ?_<;>intro c1
 .rw[iP c1]at hE;subst hE;exact Et
 rw[iN c1]at hE;refine yX agj ?_;cases nb with
 |false=>rw[iP rfl]at hE;subst hE;exact Ed|true=>
 rw[iN dM]at hE;refine uF ?_;refine EP ?_;refine R7 y.U.length (fun q:Az=>⟨[(1,.p 101 1 0 0 0),(40,I y.U.length),(41,I q.2)],(101,some (1,.box (r8 y)))::[],q.1⟩) (fun q=>∀j,j<q.2->NQ y.U (y.U.getD j default)=true) (fun j hj=>absurd hj (nZ _)) (ch) ?_;intro ck2 k hk hj;simp only at hj;refine C0 ?_ ?_<;>intro h2
 .have PP:k<y.U.length:=oM;have Ak:=R4 (p:=fun i=>NQ y.U (y.U.getD i default)) PP;try simp only at Ak
  rw[<-gh]at Ak;have An:=Lt k PP;have Wt:NQ y.U (y.U.getD k default)=true->∀j,j<k+1->NQ y.U (y.U.getD j default)=true:=fun h j tw=>by
   by_cases ZJ:j=k
   .subst ZJ;exact h
   exact hj j oM
  generalize NQ y.U (y.U.getD k default)=e at*;refine uA ?_;refine yX An ?_;cases e with
  |false=>rw[iP (Ak rfl)]at hE;subst hE;exact Ed|true=>refine UN ?_;refine⟨(_,k+1),⟨uO,Wt rfl⟩,uO,ch⟩
 refine El ?_;rw[iN (by rw[gh,tA fun j tw=>hj j oM];decide)]at hE;clear hj;refine uE ?_;intro K hK;refine cP zu ?_;refine Qd ?_;refine hK _ ?_;clear hK K;refine Wc ?_ ?_<;>intro c2
 .rw[iP oM]at hE;subst hE;exact Et
 rw[iN oM]at hE;refine yX akG ?_;refine C0 ?_ ?_<;>intro c3
 .rw[iP c3]at hE;subst hE;exact Et
 rw[iN c3]at hE;refine Gk D4 ?_;cases eb with
 |false=>rw[iP rfl]at hE;subst hE;exact Ed|true=>rw[iN dM]at hE;subst hE;refine UN ?_;exact uP
open Go.Plant
def amh(y:Ly)(hs:UQ y)(hv:NP y=0)(hr:∀i,i<y.U.length->∀j,j<(y.U.getD i default).ex.length->0<=(y.U.getD i default).ex.getD j 0/\(y.U.getD i default).ex.getD j 0<y.U.length):
  UB prog J9 164 [] [y.av] [] (IS (WR y.U)):=by
 have h1:=SS y hs;rw[hv]at h1;have h2:=Cn y hs.n hs.x hr;refine MD func164 ntmps164 ?_;intro w e X hC;refine uA ?_;refine yX h1 ?_;refine uF ?_;refine Gk h2 ?_;exact uP
def aiq(y:Ly)(hs:UQ y)(hv:NP y=0)(hr:∀i,i<y.U.length->∀j,j<(y.U.getD i default).ex.length->0<=(y.U.getD i default).ex.getD j 0/\(y.U.getD i default).ex.getD j 0<y.U.length):
  UB prog J9 113 [] [y.av] [] (.F1 [.P (g_ y (WR y.U)),B true]):=by
 have h1:=SS y hs;rw[hv]at h1;have h2:=amh y hs hv hr;refine MD func113 ntmps113 ?_;intro w e X hC;refine uA ?_;refine yX h1 ?_;refine uF ?_;refine uD ?_;intro K hK;refine cP h2 ?_;refine Qd ?_;refine hK _ ?_;clear hK K;refine A_ ?_;rw[show f113.results.toList=[.tmp 2,.tmp 3] from rfl];exact W5
def ON(N i:Int)(x:Nd)(k:Nat):Bool:=zt (x.ex.getD k 0) 0 (N-1)&&(decide (x.ex.getD k 0=i)==(decide (x.kd=5)&&decide (k=0)))
theorem anO{N i:Int}{x:Nd}(h:(x.ex.length:Int)=WW x.kd):JC N i x=((List.range x.ex.length).all (ON N i x)&&!(decide (x.ex.length=2)&&decide (x.ex.getD 0 0=x.ex.getD 1 0))):=by
 have hl:x.ex.length=0\/x.ex.length=1\/x.ex.length=2:=by
  have:WW x.kd=0\/WW x.kd=1\/WW x.kd=2:=by unfold WW;split<;>(try split)<;>simp
  omega
 have QB:∀e:Int,zt e 0 (N-1)=(decide (0<=e)&&decide (e<N)):=fun e=>by
  unfold zt;congr 1
  by_cases h:e<N
  .rw[dT h,dT oM]
  rw[dF h,dF oM]
 rw[JC,dT h,Q2];rcases hl with hl|hl|hl
 .rw[hl];simp
 .rw[hl];simp[RM,UT,ON,QB,Ji]
 match he:x.ex,hl with
 |[a,b],_=>
  simp[RM,UT,ON,QB,he,Ji];have:decide (b=a)=decide (a=b):=by by_cases h:a=b<;>simp[h,eq_comm]
  rw[this]
def dC(kd:Int):Int:=if kd=5 then 2 else if c9 kd=true then 1 else 0
def JZ(kd:Int):Int:=if c9 kd=true then 8 else 0
def al6(x:Nd):E5 x=zt x.ln (dC x.kd) (JZ x.kd):=by
 unfold E5 zt dC JZ;by_cases h5:x.kd=5
 .simp only[iP h5,iP (show c9 x.kd=true by rw[h5];decide)]
 simp only[iN h5];split
 .rfl
 by_cases h:x.ln=0
 .simp[h]
 rw[dF h];simp;omega
theorem arH(y:Ly)(i:Nat)(hi:i<y.U.length)(hN:y.U.length<=1000)(hx:(y.U.getD i default).ex.length<=1000)(jh:(bs (y.U.getD i default).nm).length<=1000):
  UB prog J9 155 [] [y.av,I i] [] (I (s8 y.U.length i (y.U.getD i default))):=by
 have h1:=Ng _ jh;generalize e1:y.U.getD i default=x at*;have hE:s8 y.U.length i x=_:=s8.eq_1 _ _ _;have gX:=fun h=>anO (N:=y.U.length) (i:=i) (x:=x) h;have hex:¬((x.ex.length:Int)=WW x.kd)->JC y.U.length i x=false:=fun h=>by rw[JC,dF h,aS]
 rw[al6]at hE;generalize s8 y.U.length i x=r at*;generalize H1 x.nm=a at*;generalize JC y.U.length i x=p at*;refine MD func155 ntmps155 ?_;intro w e X hC;refine uA ?_;refine aH (uI (bp hi) @e1) ?_;refine yX h1 ?_;cases a with
 |false=>refine WM ?_;rw[iP rfl]at hE;subst hE;exact uP|true=>
 rw[iN dM]at hE;refine uF ?_;refine yX ((WY x.kd 1 9)) ?_;cases d1:zt x.kd 1 9 with
 |false=>
  have:x.kd<1\/9<x.kd:=by simp[zt]at d1;omega
  rw[iP this]at hE;subst hE;exact Ed
 |true=>
 rw[iN (by simp[zt]at d1;omega)]at hE;refine uF ?_;refine uA ?_;refine GA ?_;refine JP (fun q:Nat=>⟨[(1,I i),(2,.p 102 1 0 0 0),(5,.p 105 8 0 0 0),(6,I (if c9 x.kd=true then 1 else 0)),(7,I (JZ x.kd))],(105,some (8,.box [S x.nm,I x.kd,I x.ln,I x.zn,IS x.ex]))::(102,some (1,.box (r8 y)))::[],q⟩) (fun _=>True) ?_ ?_
 .refine yX ((R5 x.kd)) ?_;unfold JZ;cases c9 x.kd with
  |true=>refine WM ?_;refine⟨_,trivial,ch⟩|false=>refine xJ ?_;refine⟨_,trivial,ch⟩
 rintro ck1 -;refine GA ?_;refine JP (fun q:Nat=>⟨[(1,I i),(2,.p 102 1 0 0 0),(5,.p 105 8 0 0 0),(6,I (dC x.kd)),(7,I (JZ x.kd))],(105,some (8,.box [S x.nm,I x.kd,I x.ln,I x.zn,IS x.ex]))::(102,some (1,.box (r8 y)))::[],q⟩) (fun _=>True) ?_ ?_
 .unfold dC;by_cases c5:x.kd=5
  .have d5:=dT c5;simp only[iP c5];refine GJ @d5 ?_;refine WM ?_;refine⟨_,trivial,ch⟩
  have d5:=dF c5;simp only[iN c5];refine QT @d5 ?_;refine uW ?_;refine⟨_,trivial,ch⟩
 rintro ck2 -;have aX:=WY x.ln (dC x.kd) (JZ x.kd);have pU:=WY x.zn 0 1;have hz:(x.zn=0\/x.zn=1)↔zt x.zn 0 1=true:=by simp[zt];omega
 simp only[hz]at hE;generalize zt x.ln (dC x.kd) (JZ x.kd)=b1 at*;generalize zt x.zn 0 1=b2 at*;have xM:=rn x.kd;generalize WW x.kd=en at*;cases b1 with
 |false=>rw[iN sM]at hE;subst hE;refine uE ?_;refine R6 aX ?_;exact Ed|true=>
 cases b2 with
 |false=>rw[iN sM]at hE;subst hE;refine uE ?_;intro K hK;refine Dx aX ?_;refine PD pU ?_;refine hK _ ?_;clear hK K;exact Ed|true=>
 by_cases c3:(x.ex.length:Int)=en
 .have d3:decide (¬(x.ex.length:Int)=en)=false:=dF oM;refine uE ?_;intro K hK;refine Dx aX ?_;refine eh pU ?_;refine eh xM ?_;first|refine Z6 @d3 ?_|exact an @d3
  refine uH ?_;refine hK _ ?_;clear hK K;refine uF ?_;replace gX:=gX c3;clear hex xM aX pU hz c3 d3;refine EP ?_;refine R7 x.ex.length (fun q:Az=>⟨[(1,I i),(2,.p 102 1 0 0 0),(5,.p 105 8 0 0 0),(8,I q.2)],(105,some (8,.box [S x.nm,I x.kd,I x.ln,I x.zn,IS x.ex]))::(102,some (1,.box (r8 y)))::[],q.1⟩) (fun q=>∀j,j<q.2->ON y.U.length i x j=true) (fun j hj=>absurd hj (nZ _)) (ch) ?_;intro ck3 k hk hj;simp only at hj;refine C0 ?_ ?_<;>intro h
  .have PP:k<x.ex.length:=oM;have Ak:=R4 (p:=ON y.U.length i x) PP;have Wt:ON y.U.length i x k=true->∀j,j<k+1->ON y.U.length i x j=true:=fun h j tw=>by
    by_cases ZJ:j=k
    .subst ZJ;exact h
    exact hj j oM
   have hA:ON y.U.length i x k=_:=ON.eq_1 _ _ _ _;generalize ON y.U.length i x k=la at*;iterate 3 (first|refine md ?_|refine GA ?_|refine lK ?_)
   refine GA ?_;refine JP (fun q:Nat=>⟨[(1,I i),(2,.p 102 1 0 0 0),(5,.p 105 8 0 0 0),(8,I k),(9,B (decide (x.kd=5)&&decide (k=0)))],(105,some (8,.box [S x.nm,I x.kd,I x.ln,I x.zn,IS x.ex]))::(102,some (1,.box (r8 y)))::[],q⟩) (fun _=>True) ?_ ?_
   .by_cases c5:x.kd=5
    .have d5:=dT c5;by_cases c0:k=0
     .have d0:=oN ((k:Int)=0);refine aH (uI @d5 @d0) ?_;refine⟨_,trivial,wT (uI @d5 (uI @c0 @Q2))⟩
     have d0:=Vj ((k:Int)=0);refine aH (uI @d5 @d0) ?_;refine⟨_,trivial,wT (uI @d5 (uI @c0 @Q2))⟩
    have d5:=dF c5;refine aH @d5 ?_;refine⟨_,trivial,wT (uI @d5 @aS)⟩
   rintro ck4 -;have QB:=WY (x.ex.getD k 0) 0 (y.U.length-1);generalize zt (x.ex.getD k 0) 0 (y.U.length-1)=b3 at*;generalize (decide (x.kd=5)&&decide (k=0))=ow at*;cases b3 with
   |false=>rw[aS]at hA;subst hA;rw[gX,Ak rfl,iN sM]at hE;subst hE;refine zj (ma PP) ?_;intro K hK;refine⟨oM,oM,?_⟩;refine PD QB ?_;refine hK _ ?_;clear hK K;exact Ed|true=>
    rw[Q2]at hA;refine zj (ma PP) ?_;intro K hK;refine⟨oM,oM,?_⟩;refine eh QB ?_;first|refine Z6 (uI (ma PP) @hA.symm) ?_|exact an (uI (ma PP) @hA.symm)
    refine uH ?_;refine hK _ ?_;clear hK K;cases la with
    |false=>rw[gX,Ak rfl,iN sM]at hE;subst hE;exact Ed|true=>refine UN ?_;refine⟨(_,k+1),⟨uO,Wt rfl⟩,uO,ch⟩
  refine El ?_;obtain rfl:k=x.ex.length:=oM;rw[tA hj,Q2]at gX;by_cases c2:x.ex.length=2
  .have d2:=oN ((x.ex.length:Int)=2);rw[dT c2,Q2]at gX;have RO:0<x.ex.length:=oM;have IQ:1<x.ex.length:=oM;refine mb (uI @d2 (uI (ma RO) (uI (ma IQ) (uI @ic @ux)))) ?_;refine Wc ?_ ?_<;>intro c4
   .rw[dT c4]at gX;rw[gX,iN sM]at hE;subst hE;exact Et
   rw[dF c4]at gX;rw[gX,iP sM]at hE;subst hE;exact Et
  have d2:=Vj ((x.ex.length:Int)=2);rw[dF c2,aS]at gX;rw[gX,iP sM]at hE;subst hE;refine mb @d2 ?_;refine UN ?_;exact uP
 have d3:decide (¬(x.ex.length:Int)=en)=true:=dT c3;rw[iN (by rw[hex c3];simp)]at hE;subst hE;refine uE ?_;intro K hK;refine Dx aX ?_;refine eh pU ?_;refine eh xM ?_;first|refine Z6 @d3 ?_|exact an @d3
 refine uH ?_;refine hK _ ?_;clear hK K;exact Ed
def zf(x:Nd):Bool:=decide (x.kd=1)||(decide (x.kd=3)||decide (x.kd=6))
def zs(x:Nd):Bool:=decide (x.kd=7)||decide (x.kd=8)
def anb(x:Nd):J5 x=!((zf x&&decide (¬x.zn=0))||(zs x&&decide (¬x.zn=1))):=by
 unfold J5 zf zs;by_cases h1:x.kd=1\/x.kd=3\/x.kd=6
 .rw[iP h1];have h7:¬x.kd=7:=oM;have h8:¬x.kd=8:=oM;have:(decide (x.kd=1)||(decide (x.kd=3)||decide (x.kd=6)))=true:=Cd;rw[this,dF h7,dF h8];simp
 rw[iN h1];have:(decide (x.kd=1)||(decide (x.kd=3)||decide (x.kd=6)))=false:=Cd;rw[this];by_cases h2:x.kd=7\/x.kd=8
 .rw[iP h2];have:(decide (x.kd=7)||decide (x.kd=8))=true:=H0;rw[this];simp
 rw[iN h2];have:(decide (x.kd=7)||decide (x.kd=8))=false:=H0;rw[this];simp
def akH(y:Ly)(hN:y.U.length<=1000)(hx:∀i,i<y.U.length->(y.U.getD i default).ex.length<=1000)(hr:∀i,i<y.U.length->∀k,k<(y.U.getD i default).ex.length->0<=(y.U.getD i default).ex.getD k 0/\(y.U.getD i default).ex.getD k 0<y.U.length):
  UB prog J9 157 [] [y.av] [] (B (gV y.U)):=by
 refine MD func157 ntmps157 ?_;intro w e X hC;refine EP ?_;refine R7 y.U.length (fun q:Az=>⟨[(1,.p 101 1 0 0 0),(3,I q.2)],(101,some (1,.box (r8 y)))::[],q.1⟩) (fun q=>∀j,j<q.2->NQ y.U (y.U.getD j default)=true) (fun j hj=>absurd hj (nZ _)) (ch) ?_;intro ck i hi hj;simp only at hj;refine C0 ?_ ?_<;>intro h
 .have PP:i<y.U.length:=oM;have Ak:=R4 (p:=fun i=>NQ y.U (y.U.getD i default)) PP;have gh:gV y.U=_:=gV.eq_1 y.U;try simp only at Ak
  rw[<-gh]at Ak;have Wt:NQ y.U (y.U.getD i default)=true->∀j,j<i+1->NQ y.U (y.U.getD j default)=true:=fun h j tw=>by
   by_cases ZJ:j=i
   .subst ZJ;exact h
   exact hj j oM
  have Fr:=hx i PP;have Hk:=hr i PP;clear gh;generalize e1:y.U.getD i default=x at*;have hZ:NQ y.U x=_:=NQ.eq_1 _ _;rw[anb]at hZ;iterate 3 (first|refine md ?_|refine GA ?_|refine lK ?_)
  refine GA ?_;refine cx (uI (bp PP) @e1) ?_;refine AR (s':=⟨[(1,.p 101 1 0 0 0),(3,I i),(4,.p 104 (ck+10) 0 0 0)],(104,some (ck+10,.box [S x.nm,I x.kd,I x.ln,I x.zn,IS x.ex]))::(101,some (1,.box (r8 y)))::[],_⟩) (ch) ?_;generalize uL:ck+10=g;clear uL;refine GA ?_;refine JP (fun q:Nat=>⟨[(1,.p 101 1 0 0 0),(3,I i),(4,.p 104 g 0 0 0),(5,B (zf x))],(104,some (g,.box [S x.nm,I x.kd,I x.ln,I x.zn,IS x.ex]))::(101,some (1,.box (r8 y)))::[],q⟩) (fun _=>True) ?_ ?_
  .unfold zf;cases d1:decide (x.kd=1)with
   |true=>refine aH @d1 ?_;refine⟨_,trivial,ch⟩|false=>
   cases d3:decide (x.kd=3)with
   |true=>refine aH (uI @d1 @d3) ?_;refine⟨_,trivial,ch⟩|false=>refine aH (uI @d1 @d3) ?_;refine⟨_,trivial,ch⟩
  rintro ck1 -;refine GA ?_;refine JP (fun q:Nat=>⟨[(1,.p 101 1 0 0 0),(3,I i),(4,.p 104 g 0 0 0),(5,B (zf x)),(6,B (zs x))],(104,some (g,.box [S x.nm,I x.kd,I x.ln,I x.zn,IS x.ex]))::(101,some (1,.box (r8 y)))::[],q⟩) (fun _=>True) ?_ ?_
  .unfold zs;cases d1:decide (x.kd=7)with
   |true=>refine aH @d1 ?_;refine⟨_,trivial,ch⟩|false=>refine aH @d1 ?_;refine⟨_,trivial,ch⟩
  rintro ck2 -;generalize zf x=f at*;generalize zs x=sc at*;have ov:∀u:Bool,NQ y.U x=(false&&u)->NQ y.U x=false:=fun u h=>by rw[h,aS]
  refine GA ?_;refine JP (fun q:Nat=>⟨[(1,.p 101 1 0 0 0),(3,I i),(4,.p 104 g 0 0 0)],(104,some (g,.box [S x.nm,I x.kd,I x.ln,I x.zn,IS x.ex]))::(101,some (1,.box (r8 y)))::[],q⟩) (fun _=>NQ y.U x=(List.range x.ex.length).all (rJ y.U x)) ?_ ?_
  .cases f with
   |true=>
    cases z0:decide (¬x.zn=0)with
    |true=>rw[z0]at hZ;refine VF @z0 ?_;rw[Ak (ov _ hZ)];exact uP|false=>
     rw[z0]at hZ;cases sc with
     |true=>
      cases z1:decide (¬x.zn=1)with
      |true=>rw[z1]at hZ;refine VF (uI @z0 @z1) ?_;rw[Ak (ov _ hZ)];exact uP|false=>rw[z1]at hZ;refine kV (uI @z0 @z1) ?_;refine⟨_,hZ,ch⟩
     |false=>refine kV @z0 ?_;refine⟨_,hZ,ch⟩
   |false=>
    cases sc with
    |true=>
     cases z1:decide (¬x.zn=1)with
     |true=>rw[z1]at hZ;refine VF @z1 ?_;rw[Ak (ov _ hZ)];exact uP|false=>rw[z1]at hZ;refine kV @z1 ?_;refine⟨_,hZ,ch⟩
    |false=>refine X3 ?_;refine uW ?_;refine⟨_,hZ,ch⟩
  rintro ck3 NS;clear hZ ov;refine EP ?_;refine R7 x.ex.length (fun q:Az=>⟨[(1,.p 101 1 0 0 0),(3,I i),(4,.p 104 g 0 0 0),(7,I q.2)],(104,some (g,.box [S x.nm,I x.kd,I x.ln,I x.zn,IS x.ex]))::(101,some (1,.box (r8 y)))::[],q.1⟩) (fun q=>∀j,j<q.2->rJ y.U x j=true) (fun j hj=>absurd hj (nZ _)) (ch) ?_;intro ck k hk pO;simp only at pO;refine C0 ?_ ?_<;>intro h2
  .have XR:k<x.ex.length:=oM;obtain⟨r0,r1⟩:=Hk k XR;have ZR:rJ y.U x k=false->gV y.U=false:=fun h=>Ak (by rw[NS,R4 XR h]);have PW:rJ y.U x k=true->∀j,j<k+1->rJ y.U x j=true:=fun h j tw=>by
    by_cases ZJ:j=k
    .subst ZJ;exact h
    exact pO j oM
   obtain⟨zk,vA⟩:∃zk,zk=rJ y.U x k:=⟨_,rfl⟩;rw[<-vA]at ZR PW;unfold rJ at vA;obtain⟨m,hm⟩:∃m,m=(x.ex.getD k 0).toNat:=⟨_,rfl⟩;have Al:x.ex.getD k 0=(m:Int):=oM;rw[<-hm]at vA;have aJ:m<y.U.length:=oM;generalize e3:y.U.getD m default=t at*;refine Ew (uI (ma XR) (uI @Al (uI (bp aJ) @e3))) ?_;refine AR (s':=⟨[(1,.p 101 1 0 0 0),(3,I i),(4,.p 104 g 0 0 0),(7,I k),(8,.p 108 (ck+14) 0 0 0)],(108,some (ck+14,.box [S t.nm,I t.kd,I t.ln,I t.zn,IS t.ex]))::(104,some (g,.box [S x.nm,I x.kd,I x.ln,I x.zn,IS x.ex]))::(101,some (1,.box (r8 y)))::[],_⟩) (ch) ?_;generalize uL:ck+14=g2;clear uL;refine uA ?_;refine GA ?_;refine JP (fun q:Nat=>⟨[(1,.p 101 1 0 0 0),(3,I i),(4,.p 104 g 0 0 0),(7,I k),(8,.p 108 g2 0 0 0),(9,I (fJ x k))],(108,some (g2,.box [S t.nm,I t.kd,I t.ln,I t.zn,IS t.ex]))::(104,some (g,.box [S x.nm,I x.kd,I x.ln,I x.zn,IS x.ex]))::(101,some (1,.box (r8 y)))::[],q⟩) (fun _=>True) ?_ ?_
   .by_cases c6:x.kd=6
    .have d6:=dT c6;by_cases ck1:k=1
     .have dk:=oN ((k:Int)=1);have hw:fJ x k=1:=by rw[fJ,iP ⟨c6,ck1⟩]
      refine kV (uI @d6 @dk) ?_;refine⟨_,trivial,wK @hw @hw⟩
     have dk:=Vj ((k:Int)=1);have hw:fJ x k=x.zn:=by rw[fJ,iN (fun h=>ck1 h.2)]
     refine kV (uI @d6 @dk) ?_;refine⟨_,trivial,wK @hw @hw⟩
    have d6:=dF c6;have hw:fJ x k=x.zn:=by rw[fJ,iN (fun h=>c6 h.1)]
    refine kV @d6 ?_;refine⟨_,trivial,wK @hw @hw⟩
   rintro ck4 -;generalize fJ x k=wt at*;cases c1:decide (t.kd=1)with
   |true=>rw[c1,Aa]at vA;refine VF @c1 ?_;rw[ZR vA];exact uP|false=>
    cases c2:decide (¬t.zn=wt)with
    |true=>rw[c1,c2]at vA;refine VF (uI @c1 @c2) ?_;rw[ZR vA];exact uP|false=>rw[c1,c2]at vA;refine VF (uI @c1 @c2) ?_;refine⟨(_,k+1),⟨uO,PW vA⟩,uO,ch⟩
  refine El ?_;rw[tA fun j tw=>pO j oM]at NS;refine uZ ?_;refine⟨(_,i+1),⟨uO,Wt NS⟩,uO,ch⟩
 refine El ?_;have:gV y.U=true:=tA fun j tw=>hj j oM;rw[this];exact Et
def auj{xs:List Nd}{k:Nat}(h:k<xs.length):(xs.take (k+1)).countP (fun x=>decide (x.kd=1))=(xs.take k).countP (fun x=>decide (x.kd=1))+if(xs.getD k default).kd=1 then 1 else 0:=by
 rw[R9 (d:=default) h,mG];congr 1
 by_cases h1:(xs.getD k default).kd=1
 .rw[iP h1,List.countP_cons_of_pos (by exact dT h1)];rfl
 rw[iN h1,List.countP_cons_of_neg (by simpa only[Vd] using h1)];rfl
def ab2(xs:List Nd):sE xs=decide (¬xs.countP (fun x=>decide (x.kd=1))=0):=by
 rw[sE,VY,Vd,Li,X4];constructor
 .rintro⟨x,hx,h1⟩ h2;exact h2 x hx h1
 intro h;refine BX fun h2=>h fun x hx h1=>h2 ⟨x,hx,h1⟩
theorem qx(y:Ly)(hs:UQ y):UB prog J9 101 [] [y.av] [] (I (NP y)):=by
 obtain⟨hN,hD,hx,jh⟩:=hs;have jU:=fun i hi=>arH y i hi hN (hx i hi) (jh i hi);have I9:=arO y hN;have apo:=fun nm=>Av y nm hN;have Lt:=akH y hN hx;have ak:=o_ y hN hx;have hE:NP y=_:=NP.eq_1 y;rw[ab2]at hE;generalize NP y=r at*;refine MD func101 ntmps101 ?_;intro w e X hC;refine uZ ?_;cases d1:decide (24<(y.U.length:Int))with
 |true=>have h1:=oT d1;rw[iP (.inl oM)]at hE;subst hE;refine VF @d1 ?_;exact uP|false=>
 have h1:=oF d1;cases d2:decide (24<(y.D.length:Int))with
 |true=>have h2:=oT d2;rw[iP (.inr oM)]at hE;subst hE;refine VF (uI @d1 @d2) ?_;exact uP|false=>
 have h2:=oF d2;rw[iN oM]at hE;refine QT (uI @d1 @d2) ?_;refine EP ?_;refine R7 y.U.length (fun q:Az=>⟨[(1,.p 101 1 0 0 0),(3,I ((y.U.take q.2).countP (fun x=>decide (x.kd=1)):Nat)),(4,I q.2)],(101,some (1,.box (r8 y)))::[],q.1⟩) (fun q=>∀j,j<q.2->s8 y.U.length j (y.U.getD j default)=0) (fun j hj=>absurd hj (nZ _)) (ch) ?_;intro ck k hk hj;simp only at hj;have au2:(y.U.take k).countP (fun x=>decide (x.kd=1))<=k:=Jz dG j6;have Fe:k=y.U.length->(y.U.take k).countP (fun x=>decide (x.kd=1))=y.U.countP (fun x=>decide (x.kd=1)):=fun h=>by rw[h,Sy]
 have uv:=auj (xs:=y.U) (k:=k);generalize (y.U.take k).countP (fun x=>decide (x.kd=1))=ct at*;refine C0 ?_ ?_<;>intro h
 .have PP:k<y.U.length:=oM;replace uv:=uv PP;have Ak:=dp PP hj;have An:=jU k PP;have Wt:s8 y.U.length k (y.U.getD k default)=0->∀j,j<k+1->s8 y.U.length j (y.U.getD j default)=0:=fun h j tw=>by
   by_cases ZJ:j=k
   .subst ZJ;exact h
   exact hj j oM
  generalize s8 y.U.length k (y.U.getD k default)=e at*;generalize e2:y.U.getD k default=x at*;refine yX An ?_;refine C0 ?_ ?_<;>intro c1
  .rw[iP (by rw[Ak c1];exact c1),Ak c1]at hE;subst hE;exact Et
  have Jg:=Wt (BX c1);by_cases c2:x.kd=1
  .have d3:=dT c2;rw[iP c2]at uv;refine VF (uI (bp PP) (uI @e2 @d3)) ?_;refine⟨(_,k+1),⟨uO,Jg⟩,uO,wT @uv⟩
  have d3:=dF c2;rw[iN c2]at uv;refine VF (uI (bp PP) (uI @e2 @d3)) ?_;refine⟨(_,k+1),⟨uO,Jg⟩,uO,wT @uv⟩
 refine El ?_;obtain rfl:k=y.U.length:=oM;rw[<-Fe rfl]at hE;rw[iN (by rw[y4 hj];simp)]at hE;replace I9:=I9 fun i hi=>⟨(EF (hj i hi)).1,by have:=(EF (hj i hi)).2.1;omega⟩;replace Lt:=Lt fun i hi k hk=>i_ (hj i hi) k hk;have agI:∀i,i<y.U.length->0<=(y.U.getD i default).ln/\(y.U.getD i default).ln<=8:=fun i hi=>⟨(EF (hj i hi)).1,(EF (hj i hi)).2.1⟩;clear hj jU uv Fe;have y5:Cr y.U=_:=Cr.eq_1 y.U;generalize Pc y.U=t at*;generalize Cr y.U=nb at*;generalize gV y.U=zb at*;generalize WR y.U=o at*;refine yX I9 ?_;refine Wc ?_ ?_<;>intro c1
 .rw[iP c1]at hE;subst hE;exact Et
 rw[iN c1]at hE;refine EP ?_;refine R7 y.U.length (fun q:Az=>⟨[(1,.p 101 1 0 0 0),(3,I ct),(6,I q.2)],(101,some (1,.box (r8 y)))::[],q.1⟩) (fun q=>∀j,j<q.2->decide (py y.U (y.U.getD j default).nm=(j:Int))=true) (fun j hj=>absurd hj (nZ _)) (ch) ?_;intro ck2 k hk hj;simp only at hj;refine C0 ?_ ?_<;>intro h3
 .have PP:k<y.U.length:=oM;have Ak:=R4 (p:=fun i=>decide (py y.U (y.U.getD i default).nm=(i:Int))) PP;try simp only at Ak
  rw[<-y5]at Ak;have An:=apo (y.U.getD k default).nm;have Wt:decide (py y.U (y.U.getD k default).nm=(k:Int))=true->∀j,j<k+1->decide (py y.U (y.U.getD j default).nm=(j:Int))=true:=fun h j tw=>by
   by_cases ZJ:j=k
   .subst ZJ;exact h
   exact hj j oM
  generalize e2:y.U.getD k default=x at*;generalize py y.U x.nm=f at*;refine zj (uI (bp PP) @e2) ?_;intro K hK;refine⟨oM,?_⟩;refine PD An ?_;refine hK _ ?_;clear hK K;refine Wc ?_ ?_<;>intro c2
  .rw[iP (Ak (dF c2))]at hE;subst hE;exact Et
  refine uZ ?_;refine⟨(_,k+1),⟨uO,Wt (dT (BX c2))⟩,uO,ch⟩
 refine El ?_;rw[iN (by rw[y5,tA fun j tw=>hj j oM];decide)]at hE;clear hj;refine yX Lt ?_;cases zb with
 |false=>rw[iP rfl]at hE;subst hE;exact Ed|true=>
 rw[iN dM]at hE;refine uF ?_;refine uE ?_;intro K hK;refine cP ak ?_;refine Qd ?_;refine hK _ ?_;clear hK K;refine Wc ?_ ?_<;>intro c2
 .rw[iP oM]at hE;subst hE;exact Et
 rw[iN oM]at hE;refine EP ?_;refine R7 y.D.length (fun q:Az=>⟨[(1,.p 101 1 0 0 0),(3,I ct),(7,I q.2)],(101,some (1,.box (r8 y)))::[],q.1⟩) (fun q=>∀j,j<q.2->rG y.U (y.D.getD j default)=0) (fun j hj=>absurd hj (nZ _)) (ch) ?_;intro ck3 k hk hj;simp only at hj;refine C0 ?_ ?_<;>intro h4
 .have PP:k<y.D.length:=oM;have Ak:=Rh PP hj;have Wt:rG y.U (y.D.getD k default)=0->∀j,j<k+1->rG y.U (y.D.getD j default)=0:=fun h j tw=>by
   by_cases ZJ:j=k
   .subst ZJ;exact h
   exact hj j oM
  have hO:rG y.U (y.D.getD k default)=_:=rG.eq_1 _ _;generalize rG y.U (y.D.getD k default)=dv at*;generalize e2:y.D.getD k default=d at*;iterate 3 (first|refine md ?_|refine GA ?_|refine lK ?_)
  refine GA ?_;refine cx (uI (Hr PP) @e2) ?_;refine AR (s':=⟨[(1,.p 101 1 0 0 0),(3,I ct),(7,I k),(8,.p 108 (ck3+10) 0 0 0)],(108,some (ck3+10,.box [I d.a,I d.b,I d.c]))::(101,some (1,.box (r8 y)))::[],_⟩) (ch) ?_;generalize uL:ck3+10=g;clear uL;refine GA ?_;refine JP (fun q:Nat=>⟨[(1,.p 101 1 0 0 0),(3,I ct),(7,I k),(8,.p 108 g 0 0 0)],(108,some (g,.box [I d.a,I d.b,I d.c]))::(101,some (1,.box (r8 y)))::[],q⟩) (fun _=>¬(¬d.a=1/\¬d.a=2)) ?_ ?_
  .cases q1:decide (¬d.a=1)with
   |true=>
    have g1:=oT q1;cases q2:decide (¬d.a=2)with
    |true=>have g2:=oT q2;rw[iP ⟨g1,g2⟩]at hO;rw[iP (by rw[Ak oM];omega),Ak oM,hO]at hE;subst hE;refine VF (uI @q1 @q2) ?_;exact uP|false=>have g2:=oF q2;refine kV (uI @q1 @q2) ?_;refine⟨_,fun h=>g2 h.2,ch⟩
   |false=>have g1:=oF q1;refine kV @q1 ?_;refine⟨_,fun h=>g1 h.1,ch⟩
  rintro ck4 anY;rw[iN anY]at hO;have aX:=WY d.b 0 (y.U.length-1);cases b3:zt d.b 0 (y.U.length-1)with
  |false=>rw[b3]at aX;rw[iP (by simp[zt]at b3;omega)]at hO;rw[iP (by rw[Ak oM];omega),Ak oM,hO]at hE;subst hE;refine uE ?_;refine R6 aX ?_;exact Ed|true=>
   rw[b3]at aX;have aZ:0<=d.b/\d.b<y.U.length:=by simp[zt]at b3;omega
   obtain⟨m,hm⟩:∃m,m=d.b.toNat:=⟨_,rfl⟩;have Al:d.b=(m:Int):=oM;rw[<-hm]at hO;have aJ:m<y.U.length:=oM;have tf:=agI m aJ;generalize e3:y.U.getD m default=x at*;have pU:=WY d.c 0 (x.ln-1);rw[Al]at aX;cases b4:zt d.c 0 (x.ln-1)with
   |false=>
    rw[b4]at pU;rw[iP (by simp[zt]at b4;omega)]at hO;rw[iP (by rw[Ak oM];omega),Ak oM,hO]at hE;subst hE;refine zj @Al ?_;intro K hK;refine Dx aX ?_;first|refine Z6 (uI @Al (uI (bp aJ) @e3)) ?_|exact an (uI @Al (uI (bp aJ) @e3))
    refine Dx pU ?_;refine uH ?_;refine hK _ ?_;clear hK K;exact Ed
   |true=>
    rw[b4]at pU;rw[iN (by simp[zt]at b4;omega)]at hO;refine zj @Al ?_;intro K hK;refine Dx aX ?_;first|refine Z6 (uI @Al (uI (bp aJ) @e3)) ?_|exact an (uI @Al (uI (bp aJ) @e3))
    refine Dx pU ?_;refine uH ?_;refine hK _ ?_;clear hK K;refine UN ?_;refine⟨(_,k+1),⟨uO,Wt hO⟩,uO,ch⟩
 refine El ?_;obtain rfl:k=y.D.length:=oM;rw[D2 hj]at hE;clear hj;refine EP ?_;refine R7 y.D.length (fun q:Az=>⟨[(1,.p 101 1 0 0 0),(3,I ct),(9,I q.2)],(101,some (1,.box (r8 y)))::[],q.1⟩) (fun q=>∀j,j<q.2->Ci y.D j=true) (fun j hj=>absurd hj (nZ _)) (ch) ?_;intro ck4 k hk hj;simp only at hj;refine C0 ?_ ?_<;>intro h5
 .have PP:k<y.D.length:=oM;have Ak:Ci y.D k=false->(List.range y.D.length).all (Ci y.D)=false:=R4 PP;have Wt:Ci y.D k=true->∀j,j<k+1->Ci y.D j=true:=fun h j tw=>by
   by_cases ZJ:j=k
   .subst ZJ;exact h
   exact hj j oM
  refine EP ?_;refine R7 k (fun q:Az=>⟨[(1,.p 101 1 0 0 0),(3,I ct),(9,I k),(10,I q.2)],(101,some (1,.box (r8 y)))::[],q.1⟩) (fun q=>∀j,j<q.2->Ql (y.D.getD k default) (y.D.getD j default)=false) (fun j hj=>absurd hj (nZ _)) (ch) ?_;intro ck5 c hc FE;simp only at FE;refine C0 ?_ ?_<;>intro h6
  .have tB:c<k:=oM;have iS:c<y.D.length:=oM;have AS:Ql (y.D.getD k default) (y.D.getD c default)=true->Ci y.D k=false:=fun h=>by
    rw[Ci,pv,X4];refine⟨y.D.getD c default,?_,h⟩;have Om:c<(y.D.take k).length:=j6;have:(y.D.take k).getD c default=y.D.getD c default:=by simp only[gE,qL];rw[iP tB]
    rw[<-this];exact ka Om
   have Jg:Ql (y.D.getD k default) (y.D.getD c default)=false->∀j,j<c+1->Ql (y.D.getD k default) (y.D.getD j default)=false:=fun h j tw=>by
    by_cases ZJ:j=c
    .subst ZJ;exact h
    exact FE j oM
   have hT:Ql (y.D.getD k default) (y.D.getD c default)=_:=Ql.eq_1 _ _;generalize Ql (y.D.getD k default) (y.D.getD c default)=tt at*;generalize e2:y.D.getD k default=d at*;generalize e3:y.D.getD c default=d' at*;refine mb (uI (Hr PP) (uI @e2 (uI (Hr iS) (uI @e3 @hT.symm)))) ?_;cases tt with
   |true=>rw[Ak (AS rfl)]at hE;simp only[C9,j4,Int.reduceEq,not_false_eq_true,ql]at hE;subst hE;exact Ed|false=>refine UN ?_;refine⟨(_,c+1),⟨uO,Jg rfl⟩,uO,ch⟩
  refine El ?_;obtain rfl:c=k:=oM;have qn:Ci y.D c=true:=by
   rw[Ci,Oc,lA];intro z hz;obtain⟨j,hj,rfl⟩:=G_ hz;have Se:j<c:=by rw[Hh]at hj;omega
   have:=FE j Se;rw[DA];simpa[show j<y.D.length by omega] using this
  refine uZ ?_;refine⟨(_,c+1),⟨uO,Wt qn⟩,uO,ch⟩
 refine El ?_;rw[iP (tA fun j tw=>hj j oM),iN sM]at hE;refine C0 ?_ ?_<;>intro c6
 .rw[dF (show ¬¬ct=0 from fun h=>h oM),iP rfl]at hE;subst hE;exact Et
 rw[dT (show ¬ct=0 from oM),iN dM]at hE;subst hE;exact Et
theorem Le{y:Ly}(h:NP y=0):∀i,i<y.U.length->s8 y.U.length i (y.U.getD i default)=0:=by
 rw[NP]at h;split at h
 .cases h
 split at h
 .rename_i h2;exact absurd h h2
 rename_i h2;have h2:RA y.U=0:=BX h2;intro i;induction i using Nat.strongRecOn with
 |_ i ih=>intro hi;refine BX fun hb=>?_;rw[dp hi (fun j hj=>ih j hj oM) hb]at h2;exact hb h2
def akx(y:Ly)(hs:UQ y)(hv:NP y=0):UB prog J9 106 [] [y.av] [] (IS (WR y.U)):=by have h1:=qx y hs;rw[hv]at h1;have h2:=o_ y hs.n hs.x;refine MD func106 ntmps106 ?_;intro w e X hC;refine uA ?_;refine yX h1 ?_;refine uF ?_;refine Gk h2 ?_;exact uP
open Go.Plant
def aaV:∀i,i<11->(bs (p4 i)).length<=1000:=Nw
structure Gj(A n:Nat)(y:Ly):Prop where
 g:Good A n y
 d:AM y.U y.D=0
 dl:y.D.length<=24
def aa9(l:List Int)(a:Nat):∃A n,Gj A n (gL l a).1:=by
 obtain⟨A,n,h⟩:=abw l a;refine⟨A,n,h,?_,?_⟩
 .have hx:∀i,i<(gL l a).1.U.length->0<=((gL l a).1.U.getD i default).ln:=fun i hi=>by have hs:=h.ya i (by rw[<-h.len];exact hi);have h1:=hs.ln;have h2:=hs.l0;omega
  exact ad5 hx
 exact sN _
section
variable{A n:Nat}{y:Ly}
def Gj.oq(h:Gj A n y):UQ y:=by
 have hl:=h.g.len;have hn:=h.g.n11;refine⟨oM,by have:=h.dl;omega,fun i hi=>?_,fun i hi=>?_⟩
 .have:=h.g.Y8 (m:=i) oM;rw[WW]at this;split at this
  .omega
  split at this<;>omega
 rw[h.g.nm i oM];exact aaV i oM
def Gj.val(h:Gj A n y):NP y=0:=by
 have hl:=h.g.len;have hn:=h.g.n11;have hd:=h.dl;have ht:=h.g.Ts;have h0:sE y.U=true:=by rw[sE,X4];refine⟨_,ka (d:=default) (show 0<y.U.length by omega),?_⟩;rw[Vd];exact(h.g.ya 0 oM).k1.2 rfl
 rw[NP,iN oM,y4 (fun j hj=>by rw[hl];exact h.g.node oM),iN sM,iN oM,aqz h.g,iN dM,gV,tA (fun i hi=>h.g.asL oM),iN dM,h.g.ord,A8,iN oM,h.d,iN sM,h0,iN dM]
def Gj.sum(h:Gj A n y):y.U.length<=11/\0<y.U.length/\(∀i,i<y.U.length->0<=(y.U.getD i default).ln/\(y.U.getD i default).ln<=1000):=by have hl:=h.g.len;have hn:=h.g.n11;refine⟨oM,oM,fun i hi=>?_⟩;have hs:=h.g.ya i oM;have h1:=hs.ln;have h2:=hs.l0;omega
end
open Go.Plant
def ach{l:List Int}(hr:∀x∈l,GI x):M2 (vF l):=⟨by rw[vF,Hh];omega,fun x hx=>hr x (Cz hx)⟩
open Go.Plant
section
variable{A n:Nat}{y:Ly}{p:Pl}{cs:List Int}{fs:List T3}
set_option maxHeartbeats 2000000 in
def ajN(h:Sx A n y p cs fs)(hd:CH fs=false)(sQ:∀t,t<n->∀b∈p.R.getD t [],b≠0)(Nx:UQ y)(hv:NP y=0)(BE:fs.length<=1000)(hb:Zk y.U cs fs=0):
  UB prog J9 54 [] [y.av,p.av,IS cs,.sl (YA fs) false] [] (.F1 [.agg [IS (vO y.U p (WN y p cs fs) (Xt y.U.length)).1,IS (vO y.U p (WN y p cs fs) (Xt y.U.length)).2],I 0]):=by
 have dW:=h.vq.len;have hn:=h.vq.n11;have iS:=h.cl;have h1:=EC y cs fs oM oM BE h.fp.ex;rw[hb]at h1;have h2:=acw y p h.fp;have h3:=akx y Nx hv;rw[h.vq.ord,<-dW]at h3;have U4:=A8 y.U.length;have Sn:tk (TM (0+1))=[.lit (.int .i64 (-1))]:=rfl;have qp:=TN y.U p y.U.length;refine MD func54 ntmps54 ?_;intro w e X hC;refine uA ?_;refine yX h1 ?_;refine uA ?_;refine uF ?_;iterate 2 refine uA ?_
 refine JP (fun q:Nat×Az=>⟨[(2,IS cs),(3,.sl (YA fs) false),(4,.p 104 1 0 0 0),(5,.p 105 2 0 0 0),(8,.p 108 3 0 0 0),(11,.p 111 12 0 0 0)],(111,some (12,.box [.l 137 q.2.1 0 y.U.length,.l 141 q.2.2 0 y.U.length]))::(137,some (q.2.1,.own 3 1 (tk (TM y.U.length))))::(141,some (q.2.2,.own 3 1 (tk (TM y.U.length))))::(104,some (1,.box (r8 y)))::(105,some (2,.box (GE p)))::(108,some (3,.box [.sl [] true,.sl [] true]))::[],q.1⟩) (fun _=>True) ?_ ?_
 .refine uW ?_;refine PV (fun i:Nat×Nat×Az=>⟨[(2,IS cs),(3,.sl (YA fs) false),(4,.p 104 1 0 0 0),(5,.p 105 2 0 0 0),(8,.p 108 3 0 0 0),(11,.p 111 12 0 0 0),(12,I i.2.1)],(111,some (12,.box [Zd i.2.1 (.l 137 i.2.2.1 0 i.2.1),Zd i.2.1 (.l 141 i.2.2.2 0 i.2.1)]))::(137,KA i.2.1 (i.2.2.1,.own 3 1 (tk (TM i.2.1))))::(141,KA i.2.1 (i.2.2.2,.own 3 1 (tk (TM i.2.1))))::(104,some (1,.box (r8 y)))::(105,some (2,.box (GE p)))::(108,some (3,.box [.sl [] true,.sl [] true]))::[],i.1⟩) (fun i=>i.2.1<=y.U.length) (fun i=>y.U.length - i.2.1) (_,0,0,0) (zL _) (wH (uI @W8 @Hi)) ?_;rintro⟨ck,i,g1,g2⟩ hi;simp only at hi;have pt:=b8 i;have e1:=M_ i;generalize e9:TM i=ng at*;refine UV ?_ ?_<;>intro h0
  .have PP:i<y.U.length:=oM;by_cases PL:i=0
   .subst PL;simp only[W8,Hi];refine uD ?_;refine SU ?_;refine uZ ?_;exact nX (_,0+1,ck+8,ck+12) (wH (uI @Sn (uI @gY @l6)))
   simp only[G4 PL,PO PL];refine Va @pt ?_;exact nX (_,i+1,g1,g2) (wH (uI @e1 (uI @gY @l6)))
  refine El ?_;have Wd:i=y.U.length:=oM;rw[Wd]at e9 pt;rw[Wd];simp only[G4 (show y.U.length≠0 by omega),PO (show y.U.length≠0 by omega)];refine uZ ?_;refine⟨(_,g1,g2),trivial,wH @e9⟩
 rintro⟨ck1,ga,gb⟩ -;refine uR ?_;intro K hK;have z:=(uI @z8 @Aa);refine PZ [] [(146,ck1+2,100,1)] false (h2) (xI z) (xI z) (Kg z) (Kg z) (Kg z) (Kg z) (Kg z) (Kg z) (Kg z) (Kg z) (Kg z) (Kg z) (Kg z) (Kg z) (Kg z) (Kg z) (Kg z) ?_;refine TA z ?_;clear z;refine hK _ ?_;clear hK K;refine Gk h3 ?_;refine Bj @U4 ?_;obtain⟨gm,CQ⟩:∃g,g=ck1+2:=⟨_,rfl⟩;rw[<-CQ];have hW:=h.z7;have Om:cs.length=y.U.length:=oM;have gu:=fun(j:Nat) (hj:j<y.U.length)=>AP y.U p hj;have hz:GX y.U p (WN y p cs fs) (Xt y.U.length) 0=(TM y.U.length,TM y.U.length):=rfl;have Lm:(GX y.U p (WN y p cs fs) (Xt y.U.length) 0).1=TM y.U.length:=rfl;have L3:(GX y.U p (WN y p cs fs) (Xt y.U.length) 0).2=TM y.U.length:=rfl;have e0:(y.U.length:Int)-1-((0:Nat):Int)=(y.U.length:Int)-1:=oM;refine uW ?_;refine PV (fun q:Nat×Nat×List Bool=>⟨[(2,IS cs),(3,.sl (YA fs) false),(4,.p 104 1 0 0 0),(5,.p 105 2 0 0 0),(8,.p 108 3 0 0 0),(11,.p 111 12 0 0 0),(13,.l 146 gm 0 y.U.length),(14,IS (Xt y.U.length)),(15,I ((y.U.length:Int)-1-q.2.1))],(111,some (12,.box [.l 137 ga 0 y.U.length,.l 141 gb 0 y.U.length]))::(137,some (ga,.own 3 1 (tk (GX y.U p (WN y p cs fs) (Xt y.U.length) q.2.1).1)))::(141,some (gb,.own 3 1 (tk (GX y.U p (WN y p cs fs) (Xt y.U.length) q.2.1).2)))::(146,some (gm,.own 4 1 (IM q.2.2)))::(104,some (1,.box (r8 y)))::(105,some (2,.box (GE p)))::(108,some (3,.box [.sl [] true,.sl [] true]))::[],q.1⟩)
  (fun q=>q.2.1<=y.U.length/\q.2.2.length=y.U.length/\∀j,j<y.U.length-q.2.1->q.2.2.getD j false=Y3 (y.U.getD j default) (p.Q.getD j [])) (fun q=>y.U.length-q.2.1) (_,0,FL y.U p y.U.length) ⟨zL _,qp,fun j hj=>gu j Ou⟩ (wK (uI @Lm @L3) @e0) ?_
 rintro⟨ck,c,op⟩ ⟨hc,S0,Ph⟩;simp only at hc S0 Ph;refine UV ?_ ?_<;>intro h9
 .have PP:c<y.U.length:=oM;obtain⟨t,ht⟩:∃t:Nat,t=y.U.length-1-c:=⟨_,rfl⟩;have lm:(y.U.length:Int)-1-c=(t:Int):=oM;have nh:t<y.U.length:=oM;have atp:t<(Xt y.U.length).length:=oM;have amw:=Ab nh;have AL:=al5 hW hc (p:=p);rw[show y.U.length-c=t+1 by omega]at AL;have mu:=acZ hW nh AL;have gB:=Ph t oM;have NV:∀j,j<y.U.length-(c+1)->op.getD j false=Y3 (y.U.getD j default) (p.Q.getD j []):=fun j hj=>Ph j oM;obtain⟨IQ,I5⟩:=Bv (xs:=y.U) (p:=p) (W:=WN y p cs fs) (ord:=Xt y.U.length) c;have hF:GX y.U p (WN y p cs fs) (Xt y.U.length) (c+1)=vu y.U p (WN y p cs fs) t (GX y.U p (WN y p cs fs) (Xt y.U.length) c):=by rw[GX,A8,<-ht,Ab nh,Mv]
  generalize GX y.U p (WN y p cs fs) (Xt y.U.length) c=F at*;obtain⟨lv,en⟩:=F;simp only at IQ I5 AL mu;simp only[lm];clear Ph hz Lm L3 e0 lm;refine md ?_;refine GA ?_;refine JP (fun q:Nat×List Bool=>⟨[(2,IS cs),(3,.sl (YA fs) false),(4,.p 104 1 0 0 0),(5,.p 105 2 0 0 0),(8,.p 108 3 0 0 0),(11,.p 111 12 0 0 0),(13,.l 146 gm 0 y.U.length),(14,IS (Xt y.U.length)),(15,I t)],(111,some (12,.box [.l 137 ga 0 y.U.length,.l 141 gb 0 y.U.length]))::(137,some (ga,.own 3 1 (tk (GX y.U p (WN y p cs fs) (Xt y.U.length) (c+1)).1)))::(141,some (gb,.own 3 1 (tk (GX y.U p (WN y p cs fs) (Xt y.U.length) (c+1)).2)))::(146,some (gm,.own 4 1 (IM q.2)))::(104,some (1,.box (r8 y)))::(105,some (2,.box (GE p)))::(108,some (3,.box [.sl [] true,.sl [] true]))::[],q.1⟩) (fun q=>q.2.length=y.U.length/\∀j,j<y.U.length-(c+1)->q.2.getD j false=Y3 (y.U.getD j default) (p.Q.getD j [])) ?_ ?_
  .generalize e2:y.U.getD t default=x at*;iterate 2 refine Bj (uI @U4 (uI (ma atp) (uI @amw (uI (bp nh) @e2)))) ?_
   obtain⟨gx,Ej⟩:∃g,g=ck+12:=⟨_,rfl⟩;rw[<-Ej];clear Ej CQ;have Z9:=GP y p cs fs t h.fp h.ff nh Om;have alh:t<n:=oM;have akB:∀j,j<y.U.length-(c+1)->t≠j:=fun j hj=>oM;rw[e2]at Z9;have aa3:=h.fp.row t nh;have VV:=h.fp.st t nh;have OV:=h.fp.sl;rw[e2]at aa3 VV;have I1:t<p.Q.length:=oM;have Kn:c9 x.kd=true->0<(p.Q.getD t []).length:=fun h=>by have:=VV h;omega
   have lC:t<lv.length:=oM;have NI:=(EL h hd sQ alh).1;rw[e2]at NI;generalize UW x (p.Q.getD t []) (p.R.getD t []) (cs.getD t 0) fs t=r at*;generalize e3:p.Q.getD t []=sl at*;obtain⟨ar,QG⟩:∃b,b=IG x sl ((WN y p cs fs).getD t 0) (lv.getD t 0):=⟨_,rfl⟩;obtain⟨lv1,LK⟩:∃l,l=if ar=true then lv.set t 0 else lv:=⟨_,rfl⟩
   have L9:lv1.length=y.U.length:=by rw[LK];split<;>simp[IQ]
   have Fq:GX y.U p (WN y p cs fs) (Xt y.U.length) (c+1)=if c9 x.kd=false then(Cj (WN y p cs fs) (yk y.U (WN y p cs fs) t (WN y p cs fs).length) (yk y.U (WN y p cs fs) t (WN y p cs fs).length) lv1,en) else if yk y.U (WN y p cs fs) t (WN y p cs fs).length≠0/\Y3 x sl=true/\ar=false then(lv1.set (tz 11 (yk y.U (WN y p cs fs) t (WN y p cs fs).length)) ((WN y p cs fs).getD (tz 11 (yk y.U (WN y p cs fs) t (WN y p cs fs).length)) 0),en.set t (tz 11 (yk y.U (WN y p cs fs) t (WN y p cs fs).length))) else(lv1,en):=by rw[hF,vu,e2,e3,LK,QG]
   clear hF;have aad:x.kd=5->c9 x.kd=true:=fun h5=>by rw[h5];decide
   have pI:x.kd=5->(lv1.getD t 0=0↔ar=true):=fun h5=>by
    rw[LK];cases ar with
    |true=>rw[iP rfl,F3,iP ⟨rfl,lC⟩];simp|false=>rw[iN sM];exact⟨fun h0=>absurd h0 (mu.2 h5),fun h0=>by cases h0⟩
   refine GA ?_;refine JP (fun q:Nat=>⟨[(2,IS cs),(3,.sl (YA fs) false),(4,.p 104 1 0 0 0),(5,.p 105 2 0 0 0),(8,.p 108 3 0 0 0),(11,.p 111 12 0 0 0),(13,.l 146 gm 0 y.U.length),(14,IS (Xt y.U.length)),(15,I t),(16,I t),(17,.p 117 gx 0 0 0)],(117,some (gx,.box [S x.nm,I x.kd,I x.ln,I x.zn,IS x.ex]))::(111,some (12,.box [.l 137 ga 0 y.U.length,.l 141 gb 0 y.U.length]))::(137,some (ga,.own 3 1 (tk lv1)))::(141,some (gb,.own 3 1 (tk en)))::(146,some (gm,.own 4 1 (IM op)))::(104,some (1,.box (r8 y)))::(105,some (2,.box (GE p)))::(108,some (3,.box [.sl [] true,.sl [] true]))::[],q⟩) (fun _=>True) ?_ ?_
   .by_cases c5:x.kd=5
    .have d5:decide (x.kd=5)=true:=dT c5;have zS:0<sl.length:=Kn (aad c5);by_cases cl:0<=(WN y p cs fs).getD t 0
     .have dr:decide (¬r=0)=true:=dT (NI.2 cl);by_cases cv:lv.getD t 0=-1
      .have dv:decide (lv.getD t 0=-1)=true:=dT cv;by_cases cz:sl.getD 0 0=0
       .have dz:decide (sl.getD 0 0=0)=true:=dT cz;have ha:ar=true:=by rw[QG,IG,d5,dz,dT cl,dT (show lv.getD t 0<0 by rw[cv];decide)];rfl
        rw[ha,iP rfl]at LK;refine nF (uI @d5 (uI @dr (uI @dv (uI @dz (uI (ma lC) (uI (ma zS) (uI (au I1) (uI @e3 @IQ)))))))) ?_;intro K hK;refine eh Z9 ?_;first|refine Z6 (uI @d5 (uI @dr (uI @dv (uI @dz (uI (ma lC) (uI (ma zS) (uI (au I1) (uI @e3 (uI @IQ @ic))))))))) ?_|exact an (uI @d5 (uI @dr (uI @dv (uI @dz (uI (ma lC) (uI (ma zS) (uI (au I1) (uI @e3 (uI @IQ @ic)))))))))
        refine uH ?_;refine hK _ ?_;clear hK K;refine uT ?_;refine aH @IQ ?_;refine⟨_,trivial,wH @LK⟩
       have dz:decide (sl.getD 0 0=0)=false:=dF cz;have ha:ar=false:=by rw[QG,IG,dz];simp
       rw[ha,iN sM]at LK;refine nF (uI @d5 (uI @dr (uI @dv (uI @dz (uI (ma lC) (uI (ma zS) (uI (au I1) (uI @e3 @IQ)))))))) ?_;intro K hK;refine eh Z9 ?_;first|refine Z6 (uI @d5 (uI @dr (uI @dv (uI @dz (uI (ma lC) (uI (ma zS) (uI (au I1) (uI @e3 (uI @IQ @ic))))))))) ?_|exact an (uI @d5 (uI @dr (uI @dv (uI @dz (uI (ma lC) (uI (ma zS) (uI (au I1) (uI @e3 (uI @IQ @ic)))))))))
       refine uH ?_;refine hK _ ?_;clear hK K;refine xJ ?_;refine⟨_,trivial,wH @LK⟩
      have dv:decide (lv.getD t 0=-1)=false:=dF cv;have ha:ar=false:=by rw[QG,IG,dF (p:=lv.getD t 0<0) (fun PP=>by rcases mu.1 with h1|h1;exact cv h1;exact absurd PP (Int.not_lt.2 h1))];simp
      rw[ha,iN sM]at LK;refine nF (uI @d5 (uI @dr (uI @dv (uI (ma lC) @IQ)))) ?_;intro K hK;refine eh Z9 ?_;first|refine Z6 (uI @d5 (uI @dr (uI @dv (uI (ma lC) @IQ)))) ?_|exact an (uI @d5 (uI @dr (uI @dv (uI (ma lC) @IQ))))
      refine uH ?_;refine hK _ ?_;clear hK K;refine xJ ?_;refine⟨_,trivial,wH @LK⟩
     have dr:decide (¬r=0)=false:=dF (fun h=>cl (NI.1 h));have ha:ar=false:=by rw[QG,IG,dF cl];simp
     rw[ha,iN sM]at LK;refine nF (uI @d5 @dr) ?_;intro K hK;refine eh Z9 ?_;first|refine Z6 (uI @d5 @dr) ?_|exact an (uI @d5 @dr)
     refine uH ?_;refine hK _ ?_;clear hK K;refine xJ ?_;refine⟨_,trivial,wH @LK⟩
    have d5:decide (x.kd=5)=false:=dF c5;have ha:ar=false:=by rw[QG,IG,d5];rfl
    rw[ha,iN sM]at LK;refine QT @d5 ?_;refine uW ?_;refine⟨_,trivial,wH @LK⟩
   rintro ck2 -;clear Z9 LK mu NI Kn;obtain⟨op1,Hd⟩:∃l,l=if ar=true then op.set t false else op:=⟨_,rfl⟩
   have X7:op1.length=y.U.length:=by rw[Hd];split<;>simp[S0]
   have BZ:t<op.length:=by rw[S0];exact nh
   have Gl:op1.getD t false=(!ar&&Y3 x sl):=by
    rw[Hd];cases ar with
    |true=>rw[iP rfl,F3,iP ⟨rfl,BZ⟩];rfl|false=>rw[iN sM];rw[gB];rfl
   have DX:∀j,j<y.U.length-(c+1)->op1.getD j false=Y3 (y.U.getD j default) (p.Q.getD j []):=fun j hj=>by
    rw[<-NV j hj,Hd];split
    .rw[F3,iN (fun h=>akB j hj h.1)]
    rfl
   have Wq:t<lv1.length:=by rw[L9];exact nh
   refine GA ?_;refine JP (fun q:Nat=>⟨[(2,IS cs),(3,.sl (YA fs) false),(4,.p 104 1 0 0 0),(5,.p 105 2 0 0 0),(8,.p 108 3 0 0 0),(11,.p 111 12 0 0 0),(13,.l 146 gm 0 y.U.length),(14,IS (Xt y.U.length)),(15,I t),(16,I t),(17,.p 117 gx 0 0 0)],(117,some (gx,.box [S x.nm,I x.kd,I x.ln,I x.zn,IS x.ex]))::(111,some (12,.box [.l 137 ga 0 y.U.length,.l 141 gb 0 y.U.length]))::(137,some (ga,.own 3 1 (tk lv1)))::(141,some (gb,.own 3 1 (tk en)))::(146,some (gm,.own 4 1 (IM op1)))::(104,some (1,.box (r8 y)))::(105,some (2,.box (GE p)))::(108,some (3,.box [.sl [] true,.sl [] true]))::[],q⟩) (fun _=>True) ?_ ?_
   .by_cases c5:x.kd=5
    .have d5:decide (x.kd=5)=true:=dT c5;have pI:=pI c5;by_cases ca:ar=true
     .have dz:decide (lv1.getD t 0=0)=true:=dT (pI.2 ca);rw[ca,iP rfl]at Hd;refine cx (uI @d5 (uI @dz (uI (ma Wq) @L9))) ?_;refine uT ?_;refine aH @S0 ?_;refine⟨_,trivial,wH @Hd⟩
     have dz:decide (lv1.getD t 0=0)=false:=dF (fun h=>ca (pI.1 h));rw[iN ca]at Hd;refine cx (uI @d5 (uI @dz (uI (ma Wq) @L9))) ?_;refine xJ ?_;refine⟨_,trivial,wH @Hd⟩
    have d5:decide (x.kd=5)=false:=dF c5;have ca:¬ar=true:=by rw[QG,IG,d5];simp
    rw[iN ca]at Hd;refine QT @d5 ?_;refine uW ?_;refine⟨_,trivial,wH @Hd⟩
   rintro ck3 -;clear pI gB NV Hd;have alH:=fun(k:Nat) (hk:k<y.U.length)=>GP y p cs fs k h.fp h.ff hk Om;have akz:=fun(k:Nat) (hk:k<n)=>EL h hd sQ hk;have aqx:=fun(k:Nat) (hk:k<y.U.length)=>an3 y cs k hk oM oM oM;have agt:=fun(k:Nat) (hk:k<n) (h0:0<=(WN y p cs fs).getD k 0)=>(wR h hk h0).1;have my:=hW.wl;have ED:=hW.n11;have vK:=h.fp.ex;have aqp:=ank (t:=t) ED my L9;have sI:t<op1.length:=by rw[X7];exact nh
   have F':en.length=y.U.length:=I5;have auD:t<en.length:=by rw[I5];exact nh
   have bE:c9 x.kd=false->op1.getD t false=true:=fun hs=>by rw[Gl,Y3,iN (by rw[hs];simp),QG,IG,dF (fun h5=>by rw[aad h5]at hs;cases hs)];rfl
   have Ev:c9 x.kd=true->op1.getD t false=false->¬(yk y.U (WN y p cs fs) t (WN y p cs fs).length≠0/\Y3 x sl=true/\ar=false):=fun _ hb hc=>by rw[Gl,hc.2.1,hc.2.2]at hb;cases hb
   have aoi:op1.getD t false=true->Y3 x sl=true/\ar=false:=fun hb=>by
    rw[Gl]at hb;cases ar<;>simp at hb
    exact⟨hb,rfl⟩
   clear Gl QG;generalize HL:op1.getD t false=ob at*;refine uA ?_;refine uW ?_;refine PV (fun q:Nat×Nat×List Int=>⟨[(2,IS cs),(3,.sl (YA fs) false),(4,.p 104 1 0 0 0),(5,.p 105 2 0 0 0),(8,.p 108 3 0 0 0),(11,.p 111 12 0 0 0),(13,.l 146 gm 0 y.U.length),(14,IS (Xt y.U.length)),(15,I t),(16,I t),(17,.p 117 gx 0 0 0),(18,I q.2.1)],(117,some (gx,.box [S x.nm,I x.kd,I x.ln,I x.zn,IS x.ex]))::(111,some (12,.box [.l 137 ga 0 y.U.length,.l 141 gb 0 y.U.length]))::(137,some (ga,.own 3 1 (tk q.2.2)))::(141,some (gb,.own 3 1 (tk en)))::(146,some (gm,.own 4 1 (IM op1)))::(104,some (1,.box (r8 y)))::(105,some (2,.box (GE p)))::(108,some (3,.box [.sl [] true,.sl [] true]))::[],q.1⟩)
    (fun q=>q.2.1<=y.U.length/\q.2.2.length=y.U.length/\(c9 x.kd=true->q.2.2=lv1/\∀j,j<q.2.1->Bc y.U (WN y p cs fs) t j=false)/\(c9 x.kd=false->q.2.2=p8 y.U (WN y p cs fs) t lv1 q.2.1)) (fun q=>y.U.length-q.2.1) (_,0,lv1) ⟨zL _,L9,fun _=>⟨rfl,fun j hj=>absurd hj (nZ _)⟩,fun _=>rfl⟩ (ch) ?_
   rintro⟨ck4,k,lk⟩ ⟨hk,Ib,P',BF⟩;simp only at hk Ib P' BF;by_cases js:k<y.U.length
   .have dk:=oN ((k:Int)<y.U.length);cases ob with
    |false=>
     refine cx (uI @dk (uI (kG sI) (uI @X7 @HL))) ?_;refine uF ?_;refine El ?_;have hs:c9 x.kd=true:=by
      cases hs:c9 x.kd with
      |true=>rfl|false=>have:=bE hs;cases this
     obtain⟨rfl,_⟩:=P' hs;rw[iN (by rw[hs];simp),iN (Ev hs rfl)]at Fq;have JX:=rD Prod.fst Fq;have W_:=rD Prod.snd Fq;simp only at JX W_;refine⟨(_,op1),⟨X7,DX⟩,wH (uI @JX @W_)⟩
    |true=>
     obtain⟨aZ,Wx⟩:=aoi rfl;refine cx (uI @dk (uI (kG sI) (uI @X7 @HL))) ?_;refine uT ?_;have FN:Bc y.U (WN y p cs fs) t k=false->(c9 x.kd=true->lk=lv1/\∀j,j<k+1->Bc y.U (WN y p cs fs) t j=false)/\(c9 x.kd=false->lk=p8 y.U (WN y p cs fs) t lv1 (k+1)):=fun hc=>by
      refine⟨fun hs=>⟨(P' hs).1,fun j hj=>?_⟩,fun hs=>?_⟩
      .by_cases DE:j=k
       .subst DE;exact hc
       exact(P' hs).2 j (Nat.lt_of_le_of_ne (Nat.le_of_lt_succ hj) DE)
      rw[p8,iN (by rw[hc];simp)];exact BF hs
     by_cases Rb:k=t
     .have hc:Bc y.U (WN y p cs fs) t k=false:=by rw[Bc,dF (fun h=>h Rb)];rfl
      have d1:decide ((k:Int)=t)=true:=dT (by rw[Rb]);refine zj @d1 ?_;intro K hK;refine hK _ ?_;clear hK K;refine uT ?_;refine jq ?_;refine⟨(_,k+1,lk),⟨js,Ib,FN hc⟩,kB js (fQ k),ch⟩
     have d1:decide ((k:Int)=t)=false:=dF (fun h=>Rb (Int.ofNat.inj h));have aap:k<n:=dW ▸ js;have SR:=alH k js;have pK:=aqx k js;obtain⟨W7,ajg⟩:=akz k aap;have UK:=agt k aap;have ik:=vK k js;have D3:Bc y.U (WN y p cs fs) t k=(decide (0<=(WN y p cs fs).getD k 0)&&decide ((y.U.getD k default).ex.getD ((WN y p cs fs).getD k 0).toNat 0=t)):=by rw[Bc,dT (show k≠t from Rb),Q2]
     generalize e8:y.U.getD k default=z at*;generalize UW z (p.Q.getD k []) (p.R.getD k []) (cs.getD k 0) fs k=r2 at*;by_cases w6:r2=0
     .have hc:Bc y.U (WN y p cs fs) t k=false:=by rw[D3,dF (fun h0=>(W7.2 h0) w6)];rfl
      have d2:decide (r2=0)=true:=dT w6;refine zj @d1 ?_;intro K hK;refine eh SR ?_;first|refine Z6 @d2 ?_|exact an @d2
      refine hK _ ?_;clear hK K;refine uT ?_;refine jq ?_;refine⟨(_,k+1,lk),⟨js,Ib,FN hc⟩,kB js (fQ k),ch⟩
     have vX:=W7.1 w6;have d2:decide (r2=0)=false:=dF w6;rw[<-ajg vX]at pK;have UK:=UK vX;obtain⟨w0,Wm⟩:∃w:Nat,(WN y p cs fs).getD k 0=w:=⟨((WN y p cs fs).getD k 0).toNat,(ua vX).symm⟩;rw[Wm]at pK UK D3;rw[dT (uc w0),Q2,Mv]at D3;have UK:w0<z.ex.length:=cG.1 UK;by_cases JL:z.ex.getD w0 0=t
     .rw[dT JL]at D3;have d3:decide (¬z.ex.getD w0 0=(t:Int))=false:=dF (fun h=>h JL);refine zj (uI @d1 (uI (bp js) @e8)) ?_;intro K hK;refine eh SR ?_;first|refine Z6 (uI @d2 (uI (bp js) @e8)) ?_|exact an (uI @d2 (uI (bp js) @e8))
      refine Dx pK ?_;first|refine Z6 (uI (ma UK) @d3) ?_|exact an (uI (ma UK) @d3)
      refine uH ?_;refine hK _ ?_;clear hK K;refine uF ?_;have hc:Bc y.U (WN y p cs fs) t k=true:=D3;have DN:k<lk.length:=by rw[Ib];exact js
      refine Dp @Ib ?_;intro K hK;refine Dx pK ?_;first|refine Z6 @Ib ?_|exact an @Ib
      refine uH ?_;refine hK _ ?_;clear hK K;cases hs:c9 x.kd with
      |true=>
       obtain⟨rfl,vN⟩:=P' hs;obtain⟨q1,q2⟩:=afq ED my js hc vN;rw[iN (by rw[hs];simp),iP ⟨q1,aZ,Wx⟩,q2,Wm]at Fq;have JX:=rD Prod.fst Fq;have W_:=rD Prod.snd Fq;simp only at JX W_;refine uR ?_;intro K hK;refine eh ((R5 x.kd)) ?_;first|refine Z6 @hs ?_|exact an @hs
       refine hK _ ?_;clear hK K;refine uT ?_;refine Bj @F' ?_;refine El ?_;refine⟨(_,op1),⟨X7,DX⟩,wH (uI @JX @W_)⟩
      |false=>
       have EU:=BF hs;have RK:p8 y.U (WN y p cs fs) t lv1 (k+1)=lk.set k w0:=by rw[p8,iP hc,Wm,<-EU]
       refine uR ?_;intro K hK;refine eh ((R5 x.kd)) ?_;first|refine Z6 @hs ?_|exact an @hs
       refine hK _ ?_;clear hK K;refine UN ?_;refine⟨(_,k+1,lk.set k w0),⟨js,by rw[su];exact Ib,fun h=>C3,fun _=>RK.symm⟩,kB js (fQ k),ch⟩
     rw[dF JL]at D3;have d3:decide (¬z.ex.getD w0 0=(t:Int))=true:=dT JL;refine zj (uI @d1 (uI (bp js) @e8)) ?_;intro K hK;refine eh SR ?_;first|refine Z6 (uI @d2 (uI (bp js) @e8)) ?_|exact an (uI @d2 (uI (bp js) @e8))
     refine Dx pK ?_;first|refine Z6 (uI (ma UK) @d3) ?_|exact an (uI (ma UK) @d3)
     refine uH ?_;refine hK _ ?_;clear hK K;refine uT ?_;refine jq ?_;refine⟨(_,k+1,lk),⟨js,Ib,FN D3⟩,kB js (fQ k),ch⟩
   have dk:=Vj ((k:Int)<y.U.length);have qG:k=y.U.length:=oM;refine QT @dk ?_;refine El ?_;cases hs:c9 x.kd with
   |true=>obtain⟨rfl,vN⟩:=P' hs;have xq:=adn (t:=t) my (fun j hj=>vN j (qG ▸ hj));rw[iN (by rw[hs];simp),iN (fun h=>h.1 xq)]at Fq;have JX:=rD Prod.fst Fq;have W_:=rD Prod.snd Fq;simp only at JX W_;refine⟨(_,op1),⟨X7,DX⟩,wH (uI @JX @W_)⟩
   |false=>have EU:=BF hs;rw[qG,aqp]at EU;rw[iP hs,<-EU]at Fq;have JX:=rD Prod.fst Fq;have W_:=rD Prod.snd Fq;simp only at JX W_;refine⟨(_,op1),⟨X7,DX⟩,wH (uI @JX @W_)⟩
  rintro⟨ck2,op1⟩ ⟨X7,DX⟩;simp only at X7 DX;have ahB:(y.U.length:Int)-1-((c+1:Nat):Int)=(t:Int)-1:=oM;refine uZ ?_;refine⟨(_,c+1,op1),⟨uO,X7,DX⟩,uO,wT @ahB⟩
 refine El ?_;have afg:c=y.U.length:=oM;subst afg;have hf:vO y.U p (WN y p cs fs) (Xt y.U.length)=GX y.U p (WN y p cs fs) (Xt y.U.length) y.U.length:=by rw[vO,A8]
 rw[hf];obtain⟨IQ,I5⟩:=Bv (xs:=y.U) (p:=p) (W:=WN y p cs fs) (ord:=Xt y.U.length) y.U.length;generalize GX y.U p (WN y p cs fs) (Xt y.U.length) y.U.length=F at*;refine WE ?_;rw[show f54.results.toList=[.cell 8 97,.tmp 9] from rfl];exact kv (uI @IQ @I5)
end
open Go.Plant
def amf(l:List Int)(x:Int):So l x=l.filter fun z=>!decide (z=x):=by rw[So];refine List.filter_congr fun z _=>?_;by_cases h:z=x<;>simp[h]
section
variable{A n:Nat}{y:Ly}{p:Pl}{cs:List Int}{fs:List T3}{L:List Int}
set_option maxHeartbeats 2000000 in
def Ke(h:Sx A n y p cs fs)(hi:Y9 y p L)(hL:mK L)(hd:CH fs=false)(Nx:UQ y)(hv:NP y=0)(BE:fs.length<=1000)(hb:Zk y.U cs fs=0):
  UB prog J9 18 [] [y.av,p.av,IS cs,.sl (YA fs) false] [] (.F1 [(ja y p cs fs).1.av,.sl (YA (ja y p cs fs).2) false,I 0]):=by
 have dW:=h.vq.len;have hn:=h.vq.n11;have iS:=h.cl;have sQ:∀t,t<n->∀b∈p.R.getD t [],b≠0:=fun t ht=>hi.Qp hL oM;have h1:=ajN h hd sQ Nx hv BE hb;have OV:=h.fp.sl;have QR:=h.fp.bl;have IA:∀i,i<p.Q.length->(p.Q.getD i []).length<=1000:=fun i hi=>by have:=h.fp.row i oM;have:=h.fp.ln i oM;omega
 have w6:∀i,i<p.R.length->(p.R.getD i []).length<=1000:=fun i hi=>by have:=h.fp.bin i oM;omega
 have h2:=Gt p oM oM IA w6;have Y7:(J4 y p cs fs).length=y.U.length:=h.eq.len;have aoq:=LN h;have Lz:=fun(m:Nat) (hm:m<n) (h0:0<=(J4 y p cs fs).getD m 0)=>Mh h hm h0;have Ap:∀m,m<n->0<=(J4 y p cs fs).getD m 0->YE y.U p cs fs (J4 y p cs fs) m≠0:=fun m hm h0=>yS h sQ hm h0;have Ov:=fun(m:Nat) (h0:(J4 y p cs fs).getD m 0<0)=>Lg (y:=y) (p:=p) (fs:=fs) (LV:=J4 y p cs fs) (m:=m) h0;show UB prog J9 18 [] [y.av,p.av,IS cs,.sl (YA fs) false] [] (.F1 [(XG y.U p cs fs (J4 y p cs fs)).1.av,.sl (YA (XG y.U p cs fs (J4 y p cs fs)).2) false,I 0]);have Lj:vO y.U p (WN y p cs fs) (Xt y.U.length)=(J4 y p cs fs,(vO y.U p (WN y p cs fs) (Xt y.U.length)).2):=rfl;rw[Lj]at h1;simp only at h1;generalize (vO y.U p (WN y p cs fs) (Xt y.U.length)).2=EN at*;clear Lj;generalize J4 y p cs fs=LV at*;refine MD func18 ntmps18 ?_;intro w e X hC;refine uA ?_;refine Gk h1 ?_;refine uA ?_;refine uF ?_;refine uR ?_;intro K hK;have z:=@z8;refine PZ [] [(132,20,100,1),(402,20,101,1)] false (h2) (xI z) (xI z) (Kg z) (Kg z) (Kg z) (Kg z) (Kg z) (Kg z) (Kg z) (Kg z) (Kg z) (Kg z) (Kg z) (Kg z) (Kg z) (Kg z) (Kg z) ?_;refine TA z ?_;clear z;refine hK _ ?_;clear hK K;iterate 2 refine uA ?_
 have wA:=fun i=>Z_ (xs:=y.U) (p:=p) (cs:=cs) (fs:=fs) (LV:=LV) i;have lI:=fun i=>xy (xs:=y.U) (p:=p) (cs:=cs) (fs:=fs) (LV:=LV) i;have Lm:(bv y.U p cs fs LV 0).1=p.Q:=rfl;have L3:(bv y.U p cs fs LV 0).2.1=p.R:=rfl;refine JP (fun q:Nat×List Int=>⟨[(2,IS cs),(3,.sl (YA fs) false),(4,.p 104 1 0 0 0),(5,.p 105 2 0 0 0),(8,.p 108 3 0 0 0),(10,I 0),(11,.p 111 14 0 0 0),(13,.p 113 21 0 0 0),(14,.l 136 26 0 y.U.length)],(132,some (20,.own 22 1 (PG 3 (bv y.U p cs fs LV y.U.length).1)))::(402,some (20,.own 22 1 (PG 3 (bv y.U p cs fs LV y.U.length).2.1)))::(136,some (26,.own 3 1 (tk q.2)))::(113,some (21,.box [.l 132 20 0 p.Q.length,.l 402 20 0 p.R.length]))::(111,some (14,.box [IS LV,IS EN]))::(104,some (1,.box (r8 y)))::(105,some (2,.box (GE p)))::(108,some (3,.box [.sl [] true,.sl [] true]))::[],q.1⟩)
  (fun q=>q.2.length=y.U.length/\∀j,j<y.U.length->q.2.getD j 0=if 0<=LV.getD j 0 then YE y.U p cs fs LV j else 0) ?_ ?_
 .refine uW ?_;refine PV (fun q:Nat×Nat×List Int=>⟨[(2,IS cs),(3,.sl (YA fs) false),(4,.p 104 1 0 0 0),(5,.p 105 2 0 0 0),(8,.p 108 3 0 0 0),(10,I 0),(11,.p 111 14 0 0 0),(13,.p 113 21 0 0 0),(14,.l 136 26 0 y.U.length),(15,I q.2.1)],(132,some (20,.own 22 1 (PG 3 (bv y.U p cs fs LV q.2.1).1)))::(402,some (20,.own 22 1 (PG 3 (bv y.U p cs fs LV q.2.1).2.1)))::(136,some (26,.own 3 1 (tk q.2.2)))::(113,some (21,.box [.l 132 20 0 p.Q.length,.l 402 20 0 p.R.length]))::(111,some (14,.box [IS LV,IS EN]))::(104,some (1,.box (r8 y)))::(105,some (2,.box (GE p)))::(108,some (3,.box [.sl [] true,.sl [] true]))::[],q.1⟩)
   (fun q=>q.2.1<=y.U.length/\q.2.2.length=y.U.length/\(∀j,j<q.2.1->q.2.2.getD j 0=if 0<=LV.getD j 0 then YE y.U p cs fs LV j else 0)/\∀j,q.2.1<=j->q.2.2.getD j 0=0) (fun q=>y.U.length-q.2.1) (_,0,List.replicate y.U.length 0) ⟨zL _,sM,fun j hj=>absurd hj (nZ _),fun j _=>by simp only[gE,HG];split<;>rfl⟩ (wH (uI @Lm @L3)) ?_
  rintro⟨ck,i,lf⟩ ⟨pU,L9,ry,Zv⟩;simp only at pU L9 ry Zv;have Wg:=wA i;have XK:=lI i;have ZO:bv y.U p cs fs LV (i+1)=_:=bv.eq_2 y.U p cs fs LV i;have ad8:=fun(QB:i<p.Q.length)=>yJ (xs:=y.U) (p:=p) (cs:=cs) (fs:=fs) (LV:=LV) QB i;generalize H5:bv y.U p cs fs LV i=s at*;obtain⟨s1,s2,s3⟩:=s;simp only at Wg XK ZO ad8;refine UV ?_ ?_<;>intro h0
  .have PP:i<y.U.length:=oM;have QB:i<n:=oM;have lV:i<cs.length:=oM;have YL:i<LV.length:=oM;have Ft:i<p.Q.length:=oM;have AL:i<p.R.length:=oM;have auX:i<s1.length:=oM;have aqS:i<s2.length:=oM;have T6:i<lf.length:=oM;have gk:=h.fp.row i PP;have fo:=h.fp.ln i PP;have OT:=w6 i AL;have Ov:=Ov i;have O':=NR (xs:=y.U) (p:=p) (cs:=cs) (fs:=fs) (LV:=LV) AL i;rw[H5,iN (fun h=>absurd h.1 (jx i))]at O';simp only at O';rw[aC]at Ov;have UY:=Kt y fs i PP oM BE ⟨oM,oM⟩ (fun j hj hb=>h.ff.ok j hj i PP hb);have iF:=aic (p.Q.getD i []) (u_ fs i (y.U.getD i default).ln.toNat) (decide (0<=LV.getD i 0)) (by rw[Ot];omega) oM;rw[aeo]at iF;have Vb:∀v,v=(if 0<=LV.getD i 0 then YE y.U p cs fs LV i else 0)->(∀j,j<i+1->(lf.set i v).getD j 0=if 0<=LV.getD j 0 then YE y.U p cs fs LV j else 0)/\∀j,i+1<=j->(lf.set i v).getD j 0=0:=fun v hv=>by
    refine⟨fun j hj=>?_,fun j hj=>?_⟩
    .rw[F3];split
     .rename_i U7;rw[<-U7.1];exact hv
     rename_i U7;exact ry j oM
    rw[F3,iN oM];exact Zv j oM
   have ri:YE y.U p cs fs LV i=if c9 (y.U.getD i default).kd=true then(aD (p.Q.getD i []) (u_ fs i (y.U.getD i default).ln.toNat) (decide (0<=LV.getD i 0))).2 else cs.getD i 0:=rfl
   have EB:(aD (p.Q.getD i []) (u_ fs i (y.U.getD i default).ln.toNat) (decide (0<=LV.getD i 0))).1.length=(p.Q.getD i []).length:=iR _ _ _;generalize e2:y.U.getD i default=x at*;generalize YE y.U p cs fs LV i=bg at*;generalize aD (p.Q.getD i []) (u_ fs i x.ln.toNat) (decide (0<=LV.getD i 0))=A at*;generalize u_ fs i x.ln.toNat=at1 at*;generalize e3:p.Q.getD i []=sl at*;refine WT (uI (bp PP) @e2) ((R5 x.kd)) ?_;cases c1:c9 x.kd with
   |true=>
    rw[c1]at ZO ri;simp only[ql]at ZO ri;refine uT ?_;have hv:A.2=if 0<=LV.getD i 0 then bg else 0:=by
     by_cases c:0<=LV.getD i 0
     .rw[iP c,ri]
     rw[iN c];exact Ov oM
    obtain⟨Wo,MZ⟩:=Vb _ hv;refine Dp (uI (au Ft) (uI @e3 (uI (ma YL) (uI @Wg (uI @XK @L9))))) ?_;intro K hK;refine uH ?_;refine cP UY ?_;refine uS ?_;first|refine Z6 (uI (au Ft) (uI @e3 (uI (ma YL) (uI @Wg (uI @XK @L9))))) ?_|exact an (uI (au Ft) (uI @e3 (uI (ma YL) (uI @Wg (uI @XK @L9)))))
    refine uH ?_;refine PZ [] [(172,ck+32,100,1)] false (iF) iw iw p6 p6 p6 p6 p6 p6 p6 p6 p6 p6 p6 p6 p6 p6 p6 ?_;refine x8 ?_;refine hK _ ?_;clear hK K;refine uZ ?_;refine⟨(_,i+1,lf.set i A.2),⟨uO,by rw[su];exact L9,Wo,MZ⟩,uO,wH @ZO⟩
   |false=>
    rw[c1]at ZO ri;simp only[C9,j4]at ZO ri;refine uF ?_;by_cases c2:0<=LV.getD i 0
    .have d2:decide (0<=LV.getD i 0)=true:=dT c2;obtain⟨Wo,MZ⟩:=Vb bg (by rw[iP c2]);rw[iP c2]at ZO;refine VF (uI (ma YL) (uI @d2 (uI (ma lV) @L9))) ?_;have rS:(s2.getD i []).length<=1000:=by rw[O'];exact OT
     have eS:=agb (s2.getD i []) (cs.getD i 0) rS;rw[amf]at eS;refine Dp (uI (Hc (t:=3) aqS) (uI @XK (uI @QR (ma lV)))) ?_;intro K hK;refine uH ?_;refine PZ [] [(202,ck+38,100,1)] true (eS) iw iw p6 p6 p6 p6 p6 p6 p6 p6 p6 p6 p6 p6 p6 p6 p6 ?_;refine x8 ?_;refine hK _ ?_;clear hK K;refine uZ ?_;refine⟨(_,i+1,lf.set i bg),⟨uO,by rw[su];exact L9,Wo,MZ⟩,uO,wK (uI @ZO (uI @QR (uI @dN.{0} @ri))) @ri⟩
    have d2:decide (0<=LV.getD i 0)=false:=dF c2;obtain⟨Wo,MZ⟩:=Vb 0 (by rw[iN c2]);rw[iN c2]at ZO;have Aw:lf.set i 0=lf:=by
     have:=Zv i (lR _);refine i7 sM fun j h1 h2=>?_;rw[PU];split
     .rename_i hj;subst hj;rw[gE,gG h2]at this;exact this.symm
     rfl
    rw[Aw]at Wo MZ;refine VF (uI (ma YL) @d2) ?_;refine⟨(_,i+1,lf),⟨uO,L9,Wo,MZ⟩,uO,wH @ZO⟩
  refine El ?_;have Wd:i=y.U.length:=oM;rw[Wd]at H5 ry;rw[H5];refine uZ ?_;refine⟨(_,lf),⟨L9,ry⟩,ch⟩
 rintro⟨ck1,lf⟩ ⟨L9,Aw⟩;simp only at L9 Aw;iterate 2 refine uA ?_
 have vn:=OM (cs:=cs) (fs:=fs) (LV:=LV) h.fp hi.Wh y.U.length (lR _);have dH:=fun i=>QP (xs:=y.U) (p:=p) (cs:=cs) (fs:=fs) (LV:=LV) i;have jO:=fun i=>jB (ms:=(bv y.U p cs fs LV y.U.length).2.2) vn i;have RK:=fun(i:Nat) (h0:0<=LV.getD i 0) (hi:i<y.U.length) {q}=>atJ (xs:=y.U) (p:=p) (cs:=cs) (fs:=fs) h0 hi (s:=((bv y.U p cs fs LV y.U.length).1,(bv y.U p cs fs LV y.U.length).2.1)) (q:=q);have NM:XG y.U p cs fs LV=(⟨(CL y.U (bv y.U p cs fs LV y.U.length).2.2 ((bv y.U p cs fs LV y.U.length).1,(bv y.U p cs fs LV y.U.length).2.1) (bv y.U p cs fs LV y.U.length).2.2.length).1,(CL y.U (bv y.U p cs fs LV y.U.length).2.2 ((bv y.U p cs fs LV y.U.length).1,(bv y.U p cs fs LV y.U.length).2.1) (bv y.U p cs fs LV y.U.length).2.2.length).2⟩,(bv y.U p cs fs LV y.U.length).2.2.filter fun m=>!decide (m.b=m.c)):=rfl;rw[NM];have Gq:CL y.U (bv y.U p cs fs LV y.U.length).2.2 ((bv y.U p cs fs LV y.U.length).1,(bv y.U p cs fs LV y.U.length).2.1) 0=((bv y.U p cs fs LV y.U.length).1,(bv y.U p cs fs LV y.U.length).2.1):=rfl;clear NM;have SI:(bv y.U p cs fs LV 0).2.2=[]:=rfl;generalize (bv y.U p cs fs LV y.U.length).1=sa at*;generalize (bv y.U p cs fs LV y.U.length).2.1=sb at*;obtain⟨ms,wj⟩:∃m,m=(bv y.U p cs fs LV y.U.length).2.2:=⟨_,rfl⟩;rw[<-wj];rw[<-wj]at jO RK Gq;have yq:(CL y.U ms (sa,sb) (bv y.U p cs fs LV 0).2.2.length).1=sa:=by rw[SI];exact rD Prod.fst Gq
 have RT:(CL y.U ms (sa,sb) (bv y.U p cs fs LV 0).2.2.length).2=sb:=by rw[SI];exact rD Prod.snd Gq
 have pI:((bv y.U p cs fs LV 0).2.2.filter fun m=>!decide (m.b=m.c))=[]:=by rw[SI];rfl
 have xP:YA ([]:List T3)=[]:=rfl;refine uW ?_;refine AJ y.U.length (fun q:Az=>⟨[(2,IS cs),(3,.sl (YA fs) false),(4,.p 104 1 0 0 0),(5,.p 105 2 0 0 0),(8,.p 108 3 0 0 0),(10,I 0),(11,.p 111 14 0 0 0),(13,.p 113 21 0 0 0),(14,.l 136 26 0 y.U.length),(16,.l 116 ck1 0 ((bv y.U p cs fs LV q.2).2.2.filter fun m=>!decide (m.b=m.c)).length),(17,I q.2)],(116,some (ck1,.own 107 3 (YA ((bv y.U p cs fs LV q.2).2.2.filter fun m=>!decide (m.b=m.c)))))::(132,some (20,.own 22 1 (PG 3 (CL y.U ms (sa,sb) (bv y.U p cs fs LV q.2).2.2.length).1)))::(402,some (20,.own 22 1 (PG 3 (CL y.U ms (sa,sb) (bv y.U p cs fs LV q.2).2.2.length).2)))::(136,some (26,.own 3 1 (tk lf)))::(113,some (21,.box [.l 132 20 0 p.Q.length,.l 402 20 0 p.R.length]))::(111,some (14,.box [IS LV,IS EN]))::(104,some (1,.box (r8 y)))::(105,some (2,.box (GE p)))::(108,some (3,.box [.sl [] true,.sl [] true]))::[],q.1⟩) (wK (uI @yq (uI @RT (uI @pI @xP))) @pI) ?_;intro ck i pU;clear yq RT pI xP SI Gq;have yQ:=jO (bv y.U p cs fs LV i).2.2.length;have as0:=dH i;refine UV ?_ ?_<;>intro h0
 .have PP:i<y.U.length:=oM;have QB:i<n:=oM;have T6:i<lf.length:=oM;have YL:i<LV.length:=oM;have ku:=Aw i PP;by_cases c0:0<=LV.getD i 0
  .rw[iP c0]at ku;have are:=Ap i QB c0;have GC:=aoq i PP c0;obtain⟨_,Q_,wO,_⟩:=Lz i QB c0;obtain⟨k,hk⟩:∃k:Nat,HV y.U LV i=k:=⟨(HV y.U LV i).toNat,(ua Q_).symm⟩;obtain⟨w0,hw⟩:∃w:Nat,LV.getD i 0=w:=⟨(LV.getD i 0).toNat,(ua c0).symm⟩;have hO:=af (xs:=y.U) (p:=p) (cs:=cs) (fs:=fs) c0;have SX:k<y.U.length:=by rw[hk]at wO;rw[dW];exact cG.1 wO
   have ik:(y.U.getD i default).ex.getD w0 0=(k:Int):=by rw[<-hk,HV,hw,Mv]
   rw[hw]at GC;have GC:w0<(y.U.getD i default).ex.length:=cG.1 GC;have hN:=fun {q}=>RK i c0 PP (q:=q);generalize li:CL y.U ms (sa,sb) (bv y.U p cs fs LV i).2.2.length=q at*;have hN:=hN rfl;obtain⟨q1,q2⟩:=q;obtain⟨NN,CK,bz,U2⟩:=yQ;simp only at NN CK bz U2 hN;rw[hk,Mv]at hN;have nR:D6 y.U p cs fs LV i=⟨YE y.U p cs fs LV i,i,k⟩:=by rw[D6,hk]
   rw[nR]at hO;have hF:((bv y.U p cs fs LV (i+1)).2.2.filter fun m=>!decide (m.b=m.c))=((bv y.U p cs fs LV i).2.2.filter fun m=>!decide (m.b=m.c))++(if(i:Int)=k then[] else[⟨YE y.U p cs fs LV i,i,k⟩]):=by
    rw[hO,aT];congr 1
    by_cases c:(i:Int)=k
    .rw[iP c,Mi (by simp[c])];rfl
    rw[iN c,IJ (by simp[c])];rfl
   have ce:((bv y.U p cs fs LV i).2.2.filter fun m=>!decide (m.b=m.c)).length<=i:=Jz (aU _ _) as0;have IA:=bz k SX;have w6:=(U2 k SX).2;have Ze:=h.fp.st k SX;clear hO nR bz U2 RK jO dH vn Lz Ap Ov li;generalize ((bv y.U p cs fs LV i).2.2.filter fun m=>!decide (m.b=m.c))=O at*;generalize YE y.U p cs fs LV i=bg at*;have Bl:k<q1.length:=by rw[NN];exact SX
   have O2:k<q2.length:=by rw[CK];exact SX
   generalize e2:y.U.getD i default=x at*;have d0:decide (bg=0)=false:=dF are;refine Bj (uI (ma T6) (uI @ku (uI @d0 @L9))) ?_;refine uF ?_;refine zr (uI (bp PP) (uI @e2 (uI (ma YL) (uI @hw (uI (ma GC) @ik))))) ?_;obtain⟨R,hR⟩:∃R,R=(if c9 (y.U.getD k default).kd=true then(q1.set k ((q1.getD k []).set 0 bg),q2) else(q1,q2.set k (kb (q2.getD k []) bg))):=⟨_,rfl⟩;rw[<-hR]at hN;generalize e4:y.U.getD k default=z at*;refine WT (uI (bp SX) @e4) ((R5 z.kd)) ?_;cases c1:c9 z.kd with
   |true=>
    rw[c1,iP rfl]at hR;have xc:R.1=q1.set k ((q1.getD k []).set 0 bg):=by rw[hR]
    have Nj:R.2=q2:=by rw[hR]
    have Lm:=Ze c1;have AF:0<(q1.getD k []).length:=by rw[IA];clear hR hN;omega
    clear hR;refine uT ?_;refine Ew (uI (Hc (t:=3) Bl) (uI @NN (uI @OV (uI (ma T6) (uI @ku @L9))))) ?_;have ass:∀v,((PG 3 q1).set k v).getD k .bad=v:=fun v=>by rw[F3,iP ⟨rfl,by rw[RC];exact Bl⟩]
    have SR:((q1.getD k []).set 0 bg).length=(q1.getD k []).length:=su;refine YW (id:=132) (gi:=20) (t:=22) (k:=1) (i:=k) (rid:=240) (rg:=ck+35) (n:=(q1.getD k []).length) rfl (by rw[su,RC];exact Bl) (ass _) dM ?_ ?_
    .simp only[go_sem,Kr,SR]
    simp only[go_sem,vZ,dN];by_cases cik:(i:Int)=k
    .have d9:decide (¬(k:Int)=i)=false:=dF (fun h=>h cik.symm);rw[iP cik,MP]at hF;refine VF @d9 ?_;refine⟨(_,i+1),PP,kB PP (fQ i),wK (uI @hF (uI @hN (uI @xc (uI @Nj (uI @OV @QR))))) @hF⟩
    have d9:decide (¬(k:Int)=i)=true:=dT (fun h=>cik h.symm);rw[iN cik]at hF;refine VF (uI @d9 (uI (ma T6) (uI @ku (uI @L9 @BN)))) ?_;refine⟨(_,i+1),PP,kB PP (fQ i),wK (uI @hF (uI @hN (uI @xc (uI @Nj (uI @OV @QR))))) @hF⟩
   |false=>
    rw[c1,iN sM]at hR;have xc:R.1=q1:=by rw[hR]
    have Nj:R.2=q2.set k (kb (q2.getD k []) bg):=by rw[hR]
    have ZK:=aoz (q2.getD k []) bg (by clear hR hN hF;omega);clear hR;refine uF ?_;refine Dp (uI (Hc (t:=3) O2) (uI @CK (uI @QR (uI (ma T6) (uI @ku @L9))))) ?_;intro K hK;refine uH ?_;refine PZ [] [(258,ck+43,100,1)] true (ZK) iw iw p6 p6 p6 p6 p6 p6 p6 p6 p6 p6 p6 p6 p6 p6 p6 ?_;refine x8 ?_;refine hK _ ?_;clear hK K;by_cases cik:(i:Int)=k
    .have d9:decide (¬(k:Int)=i)=false:=dF (fun h=>h cik.symm);rw[iP cik,MP]at hF;refine VF @d9 ?_;refine⟨(_,i+1),PP,kB PP (fQ i),wK (uI @hF (uI @hN (uI @xc (uI @Nj (uI @OV (uI @QR @dN.{0})))))) @hF⟩
    have d9:decide (¬(k:Int)=i)=true:=dT (fun h=>cik h.symm);rw[iN cik]at hF;refine VF (uI @d9 (uI (ma T6) (uI @ku (uI @L9 @BN)))) ?_;refine⟨(_,i+1),PP,kB PP (fQ i),wK (uI @hF (uI @hN (uI @xc (uI @Nj (uI @OV (uI @QR @dN.{0})))))) @hF⟩
  rw[iN c0]at ku;have zC:=Ck (xs:=y.U) (p:=p) (cs:=cs) (fs:=fs) c0;have d0:decide (lf.getD i 0=0)=true:=dT ku;refine Bj (uI (ma T6) (uI @d0 @L9)) ?_;refine uT ?_;refine jq ?_;exact nX (_,i+1) (wK @zC @zC)
 refine El ?_;have Wd:i=y.U.length:=oM;rw[Wd,<-wj]at yQ;obtain⟨NN,CK,bz,U2⟩:=yQ;rw[Wd,<-wj];have ce:(ms.filter fun m=>!decide (m.b=m.c)).length<=1000:=Jz (aU _ _) (by rw[wj];exact Jz (dH _) oM);generalize (ms.filter fun m=>!decide (m.b=m.c))=O at*;generalize CL y.U ms (sa,sb) ms.length=q at*;refine WE ?_;rw[show f18.results.toList=[.cell 8 36,.tmp 9,.tmp 10] from rfl];exact kv (uI @NN (uI @CK (uI @OV @QR)))
end
def cJ(p:Pl)(h:Gm p):UB prog J9 130 [] [p.av] [] (IS (qN p)):=by
 obtain⟨h1,h2,h3,h4⟩:=h;rw[Gs];refine MD func130 ntmps130 ?_;intro w e X hC;refine EP ?_;refine AJ p.Q.length (fun i:Az=>⟨[(1,.p 101 1 0 0 0),(3,.l 103 3 0 ((p.Q.take i.2).flatten).length),(9,RS p.Q),(10,I p.Q.length),(11,I i.2)],(103,some (3,.own 3 1 (tk (p.Q.take i.2).flatten)))::(101,some (1,.box (GE p)))::[],i.1⟩) (ch) ?_;intro ck i hi;have cQ:=CS (l:=p.Q.take i) fun r hr=>h3 r (Cz hr);rw[Hh,Q5 hi]at cQ;refine UV ?_ ?_<;>intro c
 .have PP:i<p.Q.length:=oM;have hg:=au PP;have hr:=h3 _ (Ug PP []);have hs:=qj PP;generalize p.Q.getD i []=r at*;have jJ:((p.Q.take (i+1)).flatten).length=((p.Q.take i).flatten).length+r.length:=by rw[hs,aL]
  refine aH (uI @hg @Tb) ?_;exact nX (_,i+1) (wK @hs @jJ)
 refine El ?_;have Wd:i=p.Q.length:=oM;subst Wd;rw[Sy]at cQ ⊢;generalize p.Q.flatten=A at*;refine EP ?_;refine AJ p.R.length (fun i:Az=>⟨[(1,.p 101 1 0 0 0),(3,.l 103 3 0 (A++gp (p.R.take i.2)).length),(20,RS p.R),(21,I p.R.length),(22,I i.2)],(103,some (3,.own 3 1 (tk (A++gp (p.R.take i.2)))))::(101,some (1,.box (GE p)))::[],i.1⟩) (wK @LW @LW) ?_;intro ck2 k hk;have OT:=aY (l:=p.R.take k) fun r hr=>h4 r (Cz hr);rw[Hh,Q5 hk]at OT;have EB:(A++gp (p.R.take k)).length=A.length+(gp (p.R.take k)).length:=aL;refine UV ?_ ?_<;>intro c
 .have PP:k<p.R.length:=oM;have hg:=au PP;have hr:=h4 _ (Ug PP []);have hs:A++gp (p.R.take (k+1))=A++gp (p.R.take k)++[((p.R.getD k []).length:Int)]++p.R.getD k []:=by rw[zq PP];simp only[Z5]
  generalize p.R.getD k []=r at*;generalize A++gp (p.R.take k)=M at*;have jJ:(A++gp (p.R.take (k+1))).length=A.length+(gp (p.R.take k)).length+1+r.length:=by rw[hs,aL,aL,EB];rfl
  refine aH (uI @hg (uI @Tb @EB)) ?_;exact nX (_,k+1) (wK @hs @jJ)
 refine El ?_;have Wd:k=p.R.length:=oM;subst Wd;rw[Sy];refine OD ?_;try rfl
 exact uX
def Js(cm:List Int)(n:Nat)(s:List Int)(k:Nat):List T3:=
 if s.getD k 0=0 then[]
 else if k+1=s.length then(if cm.getD n 0<0 then[] else[⟨1,n,k⟩])
 else if s.getD (k+1) 0≠0 then[]
 else⟨1,n,k⟩::(if k+2<s.length then(if s.getD (k+2) 0=0 then[⟨2,n,k⟩] else[]) else[])
def Hf(cm:List Int)(n:Nat)(s:List Int):Nat->List T3
 |0=>[]|k+1=>Hf cm n s k++Js cm n s k
theorem aft{cm:List Int}{n:Nat}{s:List Int}:Hf cm n s 0=[]:=rfl
def YT(cm:List Int)(ss:List (List Int)):Nat->List T3
 |0=>[]|n+1=>YT cm ss n++Hf cm n (ss.getD n []) (ss.getD n []).length
def eC(cm:List Int)(p:Pl):List T3:=YT cm p.Q p.Q.length
def jb(cm:List Int)(n:Nat)(s:List Int)(k:Nat):(Js cm n s k).length<=2:=by
 unfold Js
 repeat' split
 all_goals simp
theorem pu(cm:List Int)(n:Nat)(s:List Int):∀k,(Hf cm n s k).length<=2*k
 |0=>lR _|k+1=>by have:=pu cm n s k;have:=jb cm n s k;rw[Hf,aL];omega
theorem Fa(cm:List Int)(ss:List (List Int))(hs:∀r∈ss,r.length<=1000):∀n,n<=ss.length->(YT cm ss n).length<=2000*n
 |0,_=>lR _|n+1,h=>by have:=Fa cm ss hs n oM;have h2:=pu cm n (ss.getD n []) (ss.getD n []).length;have h3:=hs _ (Ug (show n<ss.length by omega) []);rw[YT,aL];omega
def WU(y:Ly)(ord:List Int)(p:Pl)(cm:List Int)(h:Gm p)(hc:p.Q.length<=cm.length)(oh:cm.length<=1000):
  UB prog J9 120 [] [.P (g_ y ord),p.av,IS cm] [] (.sl (YA (eC cm p)) false):=by
 obtain⟨h1,-,h3,-⟩:=h;unfold eC;refine MD func120 ntmps120 ?_;intro w e X hC;refine EP ?_;refine AJ p.Q.length (fun i:Az=>⟨[(2,IS cm),(4,.p 104 1 0 0 0),(7,.l 107 3 0 (YT cm p.Q i.2).length),(14,RS p.Q),(15,I p.Q.length),(16,I i.2)],(107,some (3,.own 95 3 (YA (YT cm p.Q i.2))))::(104,some (1,.box (GE p)))::[],i.1⟩) (ch) ?_;intro ck n hn;have pt:=Fa cm p.Q h3 n hn;refine UV ?_ ?_<;>intro c
 .have PP:n<p.Q.length:=oM;have hg:=au PP;have hr:=h3 _ (Ug PP []);have Lz:=ma (show n<cm.length by omega);have bE:YT cm p.Q (n+1)=YT cm p.Q n++Hf cm n (p.Q.getD n []) (p.Q.getD n []).length:=rfl;generalize YT cm p.Q n=F at*;generalize p.Q.getD n []=s at*;have OK:F++Hf cm n s 0=F:=by rw[aft,MP]
  refine LY @hg ?_;refine AJ s.length (fun i:Az=>⟨[(2,IS cm),(4,.p 104 1 0 0 0),(7,.l 107 3 0 (F++Hf cm n s i.2).length),(14,RS p.Q),(15,I p.Q.length),(16,I n),(8,I n),(9,IS s),(21,IS s),(22,I s.length),(23,I i.2)],(107,some (3,.own 95 3 (YA (F++Hf cm n s i.2))))::(104,some (1,.box (GE p)))::[],i.1⟩) (wK @OK @OK) ?_;intro ck2 k hk;have jJ:=pu cm n s k;have BE:F++Hf cm n s (k+1)=(F++Hf cm n s k)++Js cm n s k:=by rw[Hf,Z5]
  have S0:(F++Hf cm n s k).length=F.length+(Hf cm n s k).length:=aL;refine UV ?_ ?_<;>intro c2
  .have DN:k<s.length:=oM;have uL:=ma DN;generalize F++Hf cm n s k=o at*;rw[Js]at BE;by_cases c0:s.getD k 0=0
   .rw[iP c0,MP]at BE;have d0:decide (s.getD k 0=0)=true:=dT c0;have cQ:(F++Hf cm n s (k+1)).length=F.length+(Hf cm n s k).length:=by rw[BE];exact S0
    refine VF (uI @uL @d0) ?_;refine jq ?_;exact nX (_,k+1) (wK @BE @cQ)
   have d0:decide (s.getD k 0=0)=false:=dF c0;rw[iN c0]at BE;by_cases cl:k+1=s.length
   .have dl:=oN ((k:Int)=(s.length:Int)-1);rw[iP cl]at BE;by_cases cn:cm.getD n 0<0
    .have dn:decide (cm.getD n 0<0)=true:=dT cn;rw[iP cn,MP]at BE;have cQ:(F++Hf cm n s (k+1)).length=F.length+(Hf cm n s k).length:=by rw[BE];exact S0
     refine VF (uI @uL (uI @d0 (uI @dl (uI @Lz @dn)))) ?_;refine jq ?_;exact nX (_,k+1) (wK @BE @cQ)
    have dn:decide (cm.getD n 0<0)=false:=dF cn;have d2:=Vj ((k:Int)+2<(s.length:Int));rw[iN cn]at BE;have cQ:(F++Hf cm n s (k+1)).length=F.length+(Hf cm n s k).length+1:=by rw[BE];simp[S0]
    refine VF (uI @uL (uI @d0 (uI @dl (uI @Lz (uI @dn @d2))))) ?_;exact nX (_,k+1) (wK @BE @cQ)
   have dl:=Vj ((k:Int)=(s.length:Int)-1);rw[iN cl]at BE;have wO:=ma (show k+1<s.length by omega);have e1:((k:Int)+1).toNat=k+1:=oM;by_cases c1:s.getD (k+1) 0=0
   .have d1:decide (s.getD (k+1) 0≠0)=false:=dF (fun h=>h c1);rw[iN (fun h=>h c1)]at BE;by_cases c3:k+2<s.length
    .have d3:=oN ((k:Int)+2<(s.length:Int));have Jg:=ma c3;have e2:((k:Int)+2).toNat=k+2:=oM;rw[iP c3]at BE;by_cases c4:s.getD (k+2) 0=0
     .have d4:decide (s.getD (k+2) 0=0)=true:=dT c4;rw[iP c4]at BE;have BE:F++Hf cm n s (k+1)=o++[⟨1,n,k⟩]++[⟨2,n,k⟩]:=by rw[BE];simp
      have cQ:(F++Hf cm n s (k+1)).length=F.length+(Hf cm n s k).length+2:=by rw[BE];simp[S0]
      refine VF (uI @uL (uI @d0 (uI @dl (uI @wO (uI @e1 (uI @d1 (uI @d3 (uI @Jg (uI @e2 @d4))))))))) ?_;exact nX (_,k+1) (wK @BE @cQ)
     have d4:decide (s.getD (k+2) 0=0)=false:=dF c4;rw[iN c4]at BE;have cQ:(F++Hf cm n s (k+1)).length=F.length+(Hf cm n s k).length+1:=by rw[BE];simp[S0]
     refine VF (uI @uL (uI @d0 (uI @dl (uI @wO (uI @e1 (uI @d1 (uI @d3 (uI @Jg (uI @e2 @d4))))))))) ?_;exact nX (_,k+1) (wK @BE @cQ)
    have d3:=Vj ((k:Int)+2<(s.length:Int));rw[iN c3]at BE;have cQ:(F++Hf cm n s (k+1)).length=F.length+(Hf cm n s k).length+1:=by rw[BE];simp[S0]
    refine VF (uI @uL (uI @d0 (uI @dl (uI @wO (uI @e1 (uI @d1 @d3)))))) ?_;exact nX (_,k+1) (wK @BE @cQ)
   have d1:decide (s.getD (k+1) 0≠0)=true:=dT c1;rw[iP c1,MP]at BE;have cQ:(F++Hf cm n s (k+1)).length=F.length+(Hf cm n s k).length:=by rw[BE];exact S0
   refine VF (uI @uL (uI @d0 (uI @dl (uI @wO (uI @e1 @d1))))) ?_;refine jq ?_;exact nX (_,k+1) (wK @BE @cQ)
  refine El ?_;have Wd:k=s.length:=oM;subst Wd;have I5:(YT cm p.Q (n+1)).length=F.length+(Hf cm n s s.length).length:=by rw[bE,aL]
  rw[<-bE];refine uZ ?_;exact nX (_,n+1) (wT @I5)
 refine El ?_;have Wd:n=p.Q.length:=oM;subst Wd;refine OD ?_;try rfl
 exact uX
end Go.Proofs.YtfcgkbinohibcaaGreatDoor
