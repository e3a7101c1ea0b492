/- Lemmas towards inferAsks_card: no conditions of their own. -/
import Derived.Test.YtfcgkbinohibcaaGreatDoorA5
import Derived.Shelf.Spec.SlicesInsertGrow
import Derived.Ground.Names2Prog
set_option linter.all false
namespace Go.Proofs.YtfcgkbinohibcaaGreatDoor
open Go Go.Sym Go.Proofs.Tryz
open Go.Shelf Go.Lib
def Tryz.lays21_ren:Go.Shelf.Ren:=⟨fun|21=>257|27=>276|28=>277|35=>283|39=>284|n=>n,fun|22=>22|3=>3|4=>4|0=>0|n=>n,fun|n=>n⟩
theorem Tryz.lays21:Go.Proofs.Lays2.n21 prog Tryz.lays21_ren:={
 mixed:=kR
 f21:=func257.trans (congrArg some kR)
 f27:=func276.trans (congrArg some kR)
 f28:=func277.trans (congrArg some kR)
 f35:=func283.trans (congrArg some kR)
 f39:=func284.trans (congrArg some kR)
 t0:=underlying0
 a0:=isAgg0
 z0:=sizeOf0
 v0:=zeroValue0
 t3:=underlying3
 a3:=isAgg3
 z3:=sizeOf3
 v3:=zeroValue3
 t4:=underlying4
 a4:=isAgg4
 z4:=sizeOf4
 v4:=zeroValue4
 t22:=underlying22
 a22:=isAgg22
 z22:=sizeOf22
 v22:=zeroValue22
 i3:=by kernel_rfl}
structure D8 (b:Nat) (w w':World):Prop where
 size:w'.heap.size=w.heap.size
 os:w'.os=w.os
 tape:w'.tape=w.tape
 output:w'.output=w.output
 other:∀i,i≠b->w'.heap[i]?=w.heap[i]?
 here:∀cs t f,w.heap[b]?=some (.cells cs t f)->∃AO,w'.heap[b]?=some (.cells AO t f)/\AO.size=cs.size
 drawn:w.drawn<=w'.drawn
theorem D8.refl (b:Nat) (w:World):D8 b w w:=⟨rfl,rfl,rfl,rfl,fun _ _=>rfl,fun cs _ _ h=>⟨cs,h,rfl⟩,lR _⟩
theorem D8.trans {b:Nat} {w w' w'':World} (h:D8 b w w') (h2:D8 b w' w''):D8 b w w'':=
 ⟨h2.size.trans h.size,h2.os.trans h.os,h2.tape.trans h.tape,h2.output.trans h.output,fun i hi=>(h2.other i hi).trans (h.other i hi),fun cs t f hc=>by
  obtain⟨c1,e1,e2⟩:=h.here cs t f hc;obtain⟨c2,e3,e4⟩:=h2.here c1 t f e1;exact⟨c2,e3,e4.trans e2⟩,Nat.le_trans h.drawn h2.drawn⟩
theorem D8.drew (b:Nat) (w:World):D8 b w w.drew:=⟨rfl,rfl,rfl,rfl,fun _ _=>rfl,fun cs _ _ h=>⟨cs,h,rfl⟩,Nat.le_succ _⟩
theorem D8.set (b o:Nat) (v:Value) (w:World):D8 b w (w.setCell ⟨b,o,none⟩ v):=by
 refine⟨?_,rfl,rfl,rfl,?_,?_,lR _⟩
 .simp[World.setCell]
 .intro i hi;simp only[World.setCell,Array.getElem?_modify];rw[iN (fun h=>hi h.symm)]
 intro cs t f h;refine⟨cs.setIfInBounds o v,?_,sM⟩;simp only[World.setCell,Array.getElem?_modify,if_true,h,Option.map_some];rfl
theorem D8.cells (b:Nat):∀(vs:List Value) (o:Nat) (w:World),D8 b w (w.setCells b o vs)
 |[],_,w=> .refl b w|v::r,o,w=>(D8.set b o v w).trans (D8.cells b r (o+1) _)
theorem Qbc {w w':World} {e:An} {hp:Hp} (hr:AU w e (Az 1) hp) (hz:∀b,e.z b->b<w.heap.size) {B cap t:Nat} {l:List Int} {cs:Array Value}
  (hB:w.heap.size<=B\/BN e B) (Aa:B<w'.heap.size) (hw:Cl w' B cs t) (Dt:cs.size=cap) (Gs:cap<=maxLen) (hn:l.length<=cap)
  (G6:∀j,j<l.length->cs[j]?=some (.int .i64 (l.getD j 0))) (X5:w'.os=w.os) (ht:w'.tape=w.tape) (ho:w'.output=w.output) (Be:w.heap.size<=w'.heap.size)
  (Qr:∀b,b<w.heap.size->b≠B->w'.heap[b]?=w.heap[b]?) (Nv:w.drawn<=w'.drawn):
  ∃e',AU w' e' (Az 2) [(100,some (1, .own t 1 (As l)))]/\VR w' (UE e') e' (Az 2) (.l 100 1 0 l.length) (.slice (some ⟨B,0,none⟩) l.length cap)/\AB w e (Az 1) w' e' (Az 2)/\e'.z=e.z/\
   (∀b,AQ e' b->w.heap.size<=b\/AQ e b)/\PD e w w':=by
 obtain⟨e',AP⟩:∃e':An,e'=⟨fun i=>if i=100 then some ⟨1,some (B,cap),1,l.length⟩ else none,e.z,fun _=>none⟩:=⟨_,rfl⟩;have hm:∀i ee,e' i=some ee->i=100/\ee=⟨1,some (B,cap),1,l.length⟩:=by
  intro i ee h;subst AP;by_cases hi:i=100
  .subst hi;simp at h;exact⟨rfl,h.symm⟩
  simp[hi] at h
 have sV:e' 100=some ⟨1,some (B,cap),1,l.length⟩:=by subst AP;simp
 have D2:e'.z=e.z:=by subst AP;rfl
 have Mo:∀b,e'.kid b=none:=by subst AP;intro b;rfl
 have wg:¬e.z B:=by
  rcases hB with h|h
  .intro h2;have:=hz B h2;omega
  exact hr.obj_nz h
 have DS:∀b,AQ e' b->b=B:=by
  intro b hb;rcases hb with ⟨id,ee,c,h1,h2⟩|⟨_,_,h,_⟩
  .obtain⟨_,rfl⟩:=hm _ _ h1;cases h2;rfl
  rw[Mo] at h;cases h
 have Uy:w.heap.size<=B\/AQ e B:=hB.imp id .inl;refine⟨e',⟨?_,?_,?_,?_,?_,?_,?_,?_⟩,?_,⟨Be,?_,?_,?_,?_⟩,D2,?_,⟨X5,ht,ho,Be,?_,Nv⟩⟩
 .intro id h;cases hx:e' id with
  |none=>rfl|some ee=>obtain⟨rfl,_⟩:=hm _ _ hx;simp[Hp.get] at h
 .intro id g ob h;simp only[Hp.get] at h;by_cases hi:100=id
  .rw[iP hi] at h;cases h
   subst hi;refine⟨_,sV,rfl,by show 1<2;omega,rfl,by rw[HL],oM,?_,?_,?_⟩
   .intro i h;simp[As,AV.cells,I]
   .intro i h j h';simp[As,AV.cells,I,AV.one]
   refine⟨Gs,by rw[HL];exact hn,cs,hw,oM,?_⟩;intro i h j h';have hj:j=0:=by simp[As,AV.cells,I] at h';omega
   subst hj;have Dw:i<l.length:=by rwa[HL] at h
   have e1:(As l)[i].cells[0]=I (l.getD i 0):=by simp[As,AV.cells,I,Dw]
   have e2:cs.getD (i*1+0) undef= .int .i64 (l.getD i 0):=by rw[gA,show i*1+0=i by omega,G6 i Dw];rfl
   rw[e1,e2];exact .val _ _ (.dat _ _ (.lit _ rfl))
  rw[iN hi] at h;cases h
 .intro id Br ee Au b c c' h1 h2 _ _;rw[(hm _ _ h1).1,(hm _ _ h2).1]
 .intro id ee b c h1 h2;obtain⟨_,rfl⟩:=hm _ _ h1;cases h2;exact Aa
 .intro id ee b c h1 h2;obtain⟨_,rfl⟩:=hm _ _ h1;cases h2;rw[D2];exact wg
 .intro b B' c h;rw[Mo] at h;cases h
 .intro b _;exact Mo b
 .intro b B' c h;rw[Mo] at h;cases h
 .refine .l _ _ _ _ _ (by show 1<2;omega) rfl ?_;intro ee h _;obtain⟨_,rfl⟩:=hm _ _ h;refine⟨sM,fun _=>⟨cap,sM,sM,hn⟩⟩
 .intro g hg;exact tL hg oM
 .intro b hb hu;refine⟨by rw[D2];exact hu.1,fun h=>?_⟩;have:=DS b h;subst this;rcases Uy with h|h
  .omega
  exact hu.2 h
 .intro b hb hu;refine Qr b hb fun h=>?_;subst h;rcases Uy with h|h
  .omega
  exact hu.2 h
 .intro id ee h hg;obtain⟨_,rfl⟩:=hm _ _ h;exact absurd hg (by show ¬(1<1);omega)
 .intro b h;have:=DS b h;subst this;exact Uy
 intro b hb hu;refine Qr b hb fun h=>?_;subst h;rcases Uy with h|h
 .omega
 exact hu h
theorem gY {w:World} {e:An} {G:Nat->Prop} {t:Nat} {l:List Int} {ee:EE} {b bcap:Nat} (ho:Gh w e G (.own t 1 (As l)) ee) (hb:ee.blk=some (b,bcap)):
  bcap<=maxLen/\l.length<=bcap/\∃cs,Cl w b cs t/\cs.size=bcap/\∀j,j<l.length->cs[j]?=some (.int .i64 (l.getD j 0)):=by
 obtain⟨_,_,_,h4,h5,h6⟩:=ho;rw[hb] at h6;obtain⟨h7,h8,cs,h9,C8,C9⟩:=h6;rw[HL] at h8;refine⟨h7,h8,cs,h9,oM,fun j hj=>?_⟩;have Co:j<(As l).length:=by rwa[HL]
 have hc:(As l)[j].cells=[I (l.getD j 0)]:=by simp[As,AV.cells,I,hj]
 have:=C9 j Co 0 (by rw[hc];simp);have e1:(As l)[j].cells[0]'(by rw[hc];simp)=I (l.getD j 0):=by simp only[hc,List.getElem_cons_zero]
 rw[e1] at this;cases this with
 |val _ _ h=>have e2:=h.lit_inv.1;rw[gA,show j*1+0=j by omega,Array.getElem?_eq_getElem oM] at e2;rw[Array.getElem?_eq_getElem oM];exact congrArg some e2
theorem S0 {w:World} {b o:Nat} {vs:List Value} {j:Nat} {v:Value} (h:∀j,j<vs.length->(w.cell? ⟨b,o+j,none⟩).isSome=true)
  (hj:(o<=j/\j<o+vs.length/\vs[j - o]?=some v)\/((j<o\/o+vs.length<=j)/\w.cell? ⟨b,j,none⟩=some v)):(w.setCells b o vs).cell? ⟨b,j,none⟩=some v:=by
 rcases hj with ⟨h1,h2,h3⟩|⟨h1,h2⟩
 .have:=World.cell?_setCells_in b vs o w h (j - o) oM;rw[show o+(j - o)=j by omega] at this;rw[this,<-h3,gG oM]
 rw[World.cell?_setCells_out b vs o w ⟨b,j,none⟩ (fun _ _=>h1)];exact h2
theorem IW {w:World} {b t j:Nat} {cs:Array Value} {f:Nat×Nat} (h:w.heap[b]?=some (.cells cs t f)):w.cell? ⟨b,j,none⟩=cs[j]?:=by simp[World.cell?,h]
theorem Rr {w:World} {b t j:Nat} {cs:Array Value} (h:w.heap[b]?=some (.cells cs t (0,0))):w.frozen? ⟨b,j,none⟩=false:=by simp[World.frozen?,h]
theorem bD {w:World} {b:Nat} {cs:Array Value} (h:Cl w b cs 3):w.heap[b]?=some (.cells cs 3 (0,0)):=by
 obtain⟨fz,h1,-,h2|h2⟩:=h
 .rw[h1,h2]
 exact absurd h2 dM
theorem xR {l:List Int} {x:Int} {i j:Nat} (hi:i<=l.length) (hj:j<l.length+1):(l.take i++[x]++l.drop i).getD j 0=if j<i then l.getD j 0 else if j=i then x else l.getD (j - 1) 0:=by
 have Dd:(l.take i).length=i:=vv9;simp only[gE,List.append_assoc];by_cases h1:j<i
 .rw[iP h1,List.getElem?_append_left oM,List.getElem?_take,iP h1]
 rw[iN h1,List.getElem?_append_right oM,Dd];by_cases h2:j=i
 .subst h2;rw[iP rfl];simp
 rw[iN h2,List.getElem?_append_right vv2,List.getElem?_drop];simp only[List.length_singleton];rw[show i+(j - i - 1)=j - 1 by omega]
theorem qj {l:List Int} {j:Nat} {v:Value} (h:(l.map fun y=>Value.int .i64 y)[j]?=some v):j<l.length/\v= .int .i64 (l.getD j 0):=by obtain⟨hj,e⟩:=List.getElem?_eq_some_iff.1 h;have Ah:j<l.length:=vx2;refine⟨Ah,?_⟩;rw[<-e];simp[Ah]
theorem xS (l:List Int) (x:Int) (i:Nat) (hi:i<=l.length) (hl:l.length<=1000):
  Ag prog Ad 257 [(0,some (0, .own 3 1 (As l))),(1,some (0, .own 3 1 (As [x])))] [.l 0 0 0 l.length,I i, .l 1 0 0 1]
   [(100,some (1, .own 3 1 (As (l.take i++[x]++l.drop i))))] (.l 100 1 0 (l.take i++[x]++l.drop i).length):=by
 refine⟨⟨Tryz.f257,func257,xv4,xv4⟩,?_⟩;intro w e vals hr hz _ hlen Iv;have vO:(l.take i++[x]++l.drop i).length=l.length+1:=vv2;obtain⟨v0,v1,v2,rfl⟩:∃v0 v1 v2,vals=#[v0,v1,v2]:=by
  have h3:vals.size=3:=hlen.symm;refine⟨vals[0],vals[1],vals[2],?_⟩;apply Array.ext
  ·simpa using h3
  intro j h1 h2;have:j<3:=oM;rcases(by omega:j=0\/j=1\/j=2) with rfl|rfl|rfl<;>rfl
 have a0:VR w (UE e) e (Az 1) (.l 0 0 0 l.length) v0:=Iv 0 sM;have a1:VR w (UE e) e (Az 1) (I i) v1:=Iv 1 sM;have a2:VR w (UE e) e (Az 1) (.l 1 0 0 1) v2:=Iv 2 sM;obtain rfl:v1= .int .i64 i:=a1.lit_inv.1;obtain⟨ee,he,H8,C2,AI,A8⟩:=LO hr a0 rfl (by rw[HL];omega);obtain⟨ee2,RW,F3,EZ,Jd,fR⟩:=LO hr a2 rfl rfl;cases BX:ee2.blk with
 |none=>obtain⟨_,_,_,_,_,h6⟩:=fR;rw[BX] at h6;cases h6
 |some q2=>
 obtain⟨vb,vcap⟩:=q2;obtain⟨Jg,Gy,vc,KO,hv4,w6⟩:=gY fR BX;replace KO:=bD KO;unfold Ex at Jd;rw[BX] at Jd;obtain⟨c2,rfl,hv6,hv7⟩:=Jd;have Gz:∀j v,[Value.int .i64 x][j]?=some v->w.cell? ⟨vb,0*ee2.k+j,none⟩=some v:=by
  intro j v h;cases j with
  |zero=>
   cases h
   rw[Nat.zero_mul,Nat.zero_add,IW KO,w6 0 sM];rfl
  |succ j=>simp at h
 have Rz:∀v∈[Value.int .i64 x],v.oneCell'=true:=by simp[Value.oneCell']
 have Du:(l.map fun y=>Value.int .i64 y).length=l.length:=sM;have ek:∀v∈(l.map fun y=>Value.int .i64 y),v.oneCell'=true:=by simp[Value.oneCell']
 have fin:∀(B cap t:Nat) (w':World) (cs:Array Value),(w.heap.size<=B\/BN e B)->B<w'.heap.size->Cl w' B cs t->t=3->cs.size=cap->cap<=maxLen->l.length+1<=cap->
   (∀j,j<l.length+1->w'.cell? ⟨B,j,none⟩=some (.int .i64 (if j<i then l.getD j 0 else if j=i then x else l.getD (j - 1) 0)))->w'.os=w.os->w'.tape=w.tape->w'.output=w.output->w.heap.size<=w'.heap.size->
   (∀b,b<w.heap.size->b≠B->w'.heap[b]?=w.heap[b]?)->w.drawn<=w'.drawn->
   ∃v e',Ending.returned (.slice (some ⟨B,0,none⟩) (l.length+1) cap)= .returned v/\AU w' e' (Az 2) [(100,some (1, .own 3 1 (As (l.take i++[x]++l.drop i))))]/\
    VR w' (UE e') e' (Az 2) (.l 100 1 0 (l.take i++[x]++l.drop i).length) v/\AB w e (Az 1) w' e' (Az 2)/\e'.z=e.z/\(∀b,AQ e' b->w.heap.size<=b\/AQ e b)/\PD e w w':=by
  intro B cap t w' cs h1 h2 h3 ht h4 h5 h6 h7 h8 h9 C8 C9 F1 Ll;subst ht;obtain⟨e',q1,q2,q3⟩:=Qbc (l:=l.take i++[x]++l.drop i) hr hz h1 h2 h3 h4 h5 oM (fun j hj=>by
   have:=h7 j oM;rw[h3.cell] at this;rw[this,xR hi oM]) h8 h9 C8 C9 F1 Ll
  rw[vO] at q2 ⊢;exact⟨_,e',rfl,q1,q2,q3⟩
 have cal:∀Q:Ending->World->Prop,Calls prog (Tryz.lays21_ren.f 21) #[v0, .int .i64 i, .slice (some ⟨vb,0*ee2.k,none⟩) 1 c2] w Q->Calls prog 257 #[v0, .int .i64 i, .slice (some ⟨vb,0*ee2.k,none⟩) 1 c2] w Q:=fun Q h=>h
 have Jf:Tryz.lays21_ren.t 3=3:=rfl;refine cal _ ?_;cases hb:ee.blk with
 |none=>
  obtain⟨_,_,_,_,_,h6⟩:=A8;rw[hb] at h6;have DR:l=[]:=by
   have:(As l).length=0:=by rw[h6];rfl
   rw[HL] at this;exact List.eq_nil_of_length_eq_zero this
  subst DR;unfold Ex at AI;rw[hb] at AI;obtain⟨_,_,a,rfl⟩:=AI;obtain rfl:i=0:=vv5;refine(Any2.slices_Insert_int_end_grow Tryz.lays21 a 0 0 vb (0*ee2.k) 1 c2 [] [.int .i64 x] w oM oM oM oM rfl rfl (fun _=>rfl) (fun _ _ j v h=>vz3) Gz Rz).mono ?_;rintro en w' ⟨rfl,DJ⟩;generalize hG:grownCap w (0+1) 0 (Tryz.lays21_ren.t 3)=G at*;have I2:0+1<=G:=vw1;have Oq:G<=maxLen:=vy5;have Be:w'.heap.size=w.heap.size+1:=by rw[DJ];exact Hi w.drew _
  refine fin w.heap.size G _ w' _ (.inl (lR _)) oM (.of vw9) Jf ?_ Oq (by simpa using I2) ?_ (by rw[DJ];rfl) (by rw[DJ];rfl) (by rw[DJ];rfl) oM ?_ (by rw[DJ];exact Nat.le_succ _)
  ·simp[size_zeroCells,Value.cells];omega
  ·intro j hj;have JN:j=0:=vx2;subst JN;rw[IW vw9];simp only[List.nil_append];rw[Array.getElem?_append_left sM];rfl
  intro b hb _;rw[DJ];exact(CX.drew_alloc w _).same b hb
 |some q=>
 obtain⟨b,bcap⟩:=q;obtain⟨Ml,eV,cs,H4,hc4,Xp⟩:=gY A8 hb;replace H4:=bD H4;unfold Ex at AI;rw[hb] at AI;obtain⟨c,rfl,hc6,hc7⟩:=AI;obtain rfl:c=bcap:=oM;have Dl:BN e b:= .of he hb;have Al:b<w.heap.size:=hr.obj_lt Dl;have SC:vb≠b:=by intro h;subst h;have:=hr.inj 0 1 ee ee2 _ _ _ he RW hb BX;omega
 have Mx:vb<w.heap.size:=hr.obj_lt (.of RW BX);have Dt:∀j v,(l.map fun y=>Value.int .i64 y)[j]?=some v->w.cell? ⟨b,0+j,none⟩=some v:=by intro j v h;obtain⟨hj,rfl⟩:=qj h;rw[Nat.zero_add,IW H4,Xp j hj]
 have Fq:∀j,j<c->(w.cell? ⟨b,0+j,none⟩).isSome=true:=by intro j hj;rw[Nat.zero_add,IW H4,Array.getElem?_eq_getElem oM];rfl
 have I8:∀j,j<c->w.frozen? ⟨b,j,none⟩=false:=fun j hj=>Rr H4;have OO:c<=9223372036854775807:=by unfold maxLen at Ml;omega
 by_cases If:l.length+1<=c
 ·by_cases Aa:i<l.length
  ·refine(Any2.slices_Insert_int_shift Tryz.lays21 b (0*ee.k) l.length c i vb (0*ee2.k) 1 c2 (l.map fun y=> .int .i64 y) [.int .i64 x] w Aa oM If OO SC Du rfl xv1 (fun j hj=>by rw[Nat.zero_mul];exact Fq j oM) (fun j hj=>Rr H4) Gz ek Rz _ _ _ _ (by simp[World.shape?,KO];exact⟨rfl,rfl⟩) (by simp[World.shape?,H4];exact⟨rfl,rfl⟩) oM (Rr KO) (Rr KO)).mono ?_;rintro en w' ⟨rfl,DJ⟩;simp only[Nat.zero_mul,Nat.zero_add] at DJ ⊢;have S1:D8 b w (w.drew.setCells b (i+1) ((l.map fun y=>Value.int .i64 y).drop i)):=(D8.drew b w).trans (D8.cells b _ _ _);have S2:D8 b w w':=by rw[DJ];exact S1.trans (D8.cells b _ _ _)
   obtain⟨cs1,k1,k2⟩:=S1.here _ _ _ H4;obtain⟨cs2,k3,k4⟩:=S2.here _ _ _ H4;refine fin b c _ w' cs2 (.inr Dl) (by rw[S2.size];exact Al) (.of k3) rfl oM Ml If ?_ S2.os S2.tape S2.output (by rw[S2.size];exact lR _) (fun b' _ h=>S2.other b' h) S2.drawn;intro j hj;rw[DJ];refine S0 (fun t ht=>by rw[IW k1,Array.getElem?_eq_getElem vz9];rfl) ?_;by_cases h2:j=i
   ·left
    subst h2;simp
   right
   refine⟨by simp only[List.length_singleton];omega,?_⟩;rw[iN h2];refine S0 (fun t ht=>by rw[IW (w:=w.drew) H4,Array.getElem?_eq_getElem (by rw[List.length_drop,Du] at ht;omega)];rfl) ?_;by_cases h3:j<i
   ·right
    refine⟨.inl oM,?_⟩;rw[iP h3,IW (w:=w.drew) H4,Xp j oM]
   left
   refine⟨oM,by rw[List.length_drop,Du];omega,?_⟩;rw[iN h3,List.getElem?_drop,show i+(j - (i+1))=j - 1 by omega];simp[show j - 1<l.length by omega]
  obtain rfl:i=l.length:=oM;refine(Any2.slices_Insert_int_end_room Tryz.lays21 b (0*ee.k) l.length c vb (0*ee2.k) 1 c2 [.int .i64 x] w oM If OO rfl (fun j hj=>by have:=Fq (l.length+j) oM;rwa[Nat.zero_mul,Nat.add_assoc]) (fun j hj=>Rr H4) Gz Rz).mono ?_;rintro en w' ⟨rfl,DJ⟩;simp only[Nat.zero_mul,Nat.zero_add] at DJ ⊢;have S2:D8 b w w':=by rw[DJ];exact D8.cells b _ _ _
  obtain⟨cs2,k3,k4⟩:=S2.here _ _ _ H4;refine fin b c _ w' cs2 (.inr Dl) (by rw[S2.size];exact Al) (.of k3) rfl oM Ml If ?_ S2.os S2.tape S2.output (by rw[S2.size];exact lR _) (fun b' _ h=>S2.other b' h) S2.drawn;intro j hj;rw[DJ];refine S0 (fun t ht=>by rw[IW H4,Array.getElem?_eq_getElem vz9];rfl) ?_;by_cases h2:j=l.length
  ·left
   subst h2;simp
  right
  refine⟨.inl oM,?_⟩;rw[iP oM,IW H4,Xp j oM]
 by_cases Aa:i<l.length
 ·refine(Any2.slices_Insert_int_grow Tryz.lays21 b (0*ee.k) l.length c i vb (0*ee2.k) 1 c2 (l.map fun y=> .int .i64 y) [.int .i64 x] w Aa oM eV oM oM Du rfl xv1 Gz ek Rz).mono ?_;rintro en w' ⟨rfl,DJ⟩;generalize hG:grownCap w (l.length+1) c (Tryz.lays21_ren.t 3)=G at*;have I2:l.length+1<=G:=vw1;have Oq:G<=maxLen:=vy5;obtain⟨ROW,hR⟩:∃ROW,ROW=((List.take i (l.map fun y=>Value.int .i64 y)).toArray++Builtin.zeroCells (Value.int IntKind.i64 0).cells (l.length+1 - i)++Builtin.zeroCells (Value.int IntKind.i64 0).cells (G - (l.length+1))):=⟨_,rfl⟩;rw[<-hR] at DJ;have hRs:ROW.size=G:=by rw[hR];simp[size_zeroCells,Value.cells];omega
  have th:∀j,j<i->ROW[j]?=some (.int .i64 (l.getD j 0)):=by intro j hj;rw[hR,Array.append_assoc,Array.getElem?_append_left vv2];simp[hj,show j<l.length by omega]
  have hN:((w.alloc (.cells ROW (Tryz.lays21_ren.t 3))).drew).heap[w.heap.size]?=some (.cells ROW 3 (0,0)):=Hz w _;have S1:D8 w.heap.size (w.alloc (.cells ROW (Tryz.lays21_ren.t 3))).drew ((w.alloc (.cells ROW (Tryz.lays21_ren.t 3))).drew.setCells w.heap.size i [.int .i64 x]).drew:=(D8.cells _ _ _ _).trans (D8.drew _ _);have S2:D8 w.heap.size (w.alloc (.cells ROW (Tryz.lays21_ren.t 3))).drew w':=by rw[DJ];exact S1.trans (D8.cells _ _ _ _)
  obtain⟨cs1,k1,k2⟩:=S1.here _ _ _ hN;obtain⟨cs2,k3,k4⟩:=S2.here _ _ _ hN;have Be:w'.heap.size=w.heap.size+1:=by rw[S2.size];exact Hi w _
  refine fin w.heap.size G _ w' cs2 (.inl (lR _)) oM (.of k3) rfl oM Oq I2 ?_ S2.os S2.tape S2.output oM (fun b' CO h=>(S2.other b' h).trans ((CX.alloc w _).same b' CO)) (Nat.le_trans (Nat.le_succ _) S2.drawn);intro j hj;rw[DJ];refine S0 (fun t ht=>by rw[IW k1,Array.getElem?_eq_getElem (by rw[List.length_drop,Du] at ht;omega)];rfl) ?_;by_cases h2:i<j
  ·left
   refine⟨oM,by rw[List.length_drop,Du];omega,?_⟩;rw[iN oM,iN oM,List.getElem?_drop,show i+(j - (i+1))=j - 1 by omega];simp[show j - 1<l.length by omega]
  right
  refine⟨.inl oM,?_⟩;show World.cell? ((w.alloc (.cells ROW (Tryz.lays21_ren.t 3))).drew.setCells w.heap.size i [.int .i64 x]) _=_;refine S0 (fun t ht=>by rw[IW hN,Array.getElem?_eq_getElem vz9];rfl) ?_;by_cases h3:j<i
  ·right
   refine⟨.inl h3,?_⟩;rw[iP h3,IW hN,th j h3]
  left
  obtain rfl:j=i:=oM;simp
 obtain rfl:i=l.length:=oM;refine(Any2.slices_Insert_int_end_grow Tryz.lays21 (some ⟨b,0*ee.k,none⟩) l.length c vb (0*ee2.k) 1 c2 (l.map fun y=> .int .i64 y) [.int .i64 x] w oM eV oM oM Du rfl sM (fun a ha j v h=>by cases ha;rw[Addr.add_lit];have:=Dt j v h;simpa using this) Gz Rz).mono ?_;rintro en w' ⟨rfl,DJ⟩;generalize hG:grownCap w (l.length+1) c (Tryz.lays21_ren.t 3)=G at*;have I2:l.length+1<=G:=vw1;have Oq:G<=maxLen:=vy5;have Be:w'.heap.size=w.heap.size+1:=by rw[DJ];exact Hi w.drew _
 refine fin w.heap.size G _ w' _ (.inl (lR _)) oM (.of vw9) Jf ?_ Oq I2 ?_ (by rw[DJ];rfl) (by rw[DJ];rfl) (by rw[DJ];rfl) oM ?_ (by rw[DJ];exact Nat.le_succ _)
 ·simp[size_zeroCells,Value.cells];omega
 ·intro j hj;rw[IW vw9];rw[Array.getElem?_append_left vv2];by_cases h2:j=l.length
  ·subst h2;simp
  rw[iP oM];simp[List.getElem?_append_left,show j<l.length by omega]
 intro b hb _;rw[DJ];exact(CX.drew_alloc w _).same b hb
theorem QbU (l:List Int) (x:Int):DA l x=l.take (FX l x)++[x]++l.drop (FX l x):=by
 have h1:l.takeWhile (fun y=>decide (y<x))++l.dropWhile (fun y=>decide (y<x))=l:=List.takeWhile_append_dropWhile;have h2:l.take (FX l x)=l.takeWhile (fun y=>decide (y<x)):=by
  conv=>lhs;arg 2;rw[<-h1]
  unfold FX;rw[List.take_left]
 have h3:l.drop (FX l x)=l.dropWhile (fun y=>decide (y<x)):=by
  conv=>lhs;arg 2;rw[<-h1]
  unfold FX;rw[List.drop_left]
 rw[DA,h2,h3]
theorem qs (l:List Int) (x:Int) (hl:l.length<=1000) (hs:l.Pairwise (·<=·)):
  Ag prog Ad 214 [(0,some (0, .own 3 1 (As l)))] [.l 0 0 0 l.length,I x] [(100,some (1, .own 3 1 (As (DA l x))))] (.l 100 1 0 (DA l x).length):=by
 have hc:=pM l x;rw[QbU];have hi:=xS l x (FX l x) hc hl;have hb:=QeR l x hl hs;generalize (decide (FX l x<l.length)&&decide (l.getD (FX l x) 0=x))=bb at hb;generalize FX l x=k at*;generalize l.take k++[x]++l.drop k=z at*;refine Am func214 ntmps214 ?_;intro w e X hC;refine uA ?_;refine uR ?_;intro K hK;refine JA (rc:= .tup [I k,B bb]) ?_ ?_ ?_ ?_ ?_ ?_;(focus (first|exact trivial|(simp only[go_sem,seval,]<;>trivial)));(focus (simp only[go_sem,seval,];exact hb));(focus (first|exact trivial|(simp only[go_sem,seval,]<;>trivial)));(focus (first|exact trivial|(simp only[go_sem,seval,]<;>trivial)));(focus (first|exact trivial|(simp only[go_sem,seval,]<;>trivial)));first|refine uS ?_|exact uX
 refine hK _ ?_;clear hK K;refine uR ?_;intro K hK;refine CL [(0,0,0,0),(1,0,116,13)] [(117,14,100,1)] false (hi) Bz Bz Ab Ab Ab Ab Ab Ab Ab Ab Ab Ab Ab Ab Ab Ab Ab ?_;refine DM ?_;refine hK _ ?_;clear hK K;refine Ay ?_;rw[show f214.results.toList=[.tmp 4] from rfl];(refine DB [(100,1,117,14)] D4 sM sM sM Bp Bp Bp ?_ ?_;all_goals (first|refine Fb ?_|exact Fc|skip))
open Go.Plant
def D9 (xs:List Nd) (p:Pl) (cs:List Int) (fs:List T3) (LV:List Int) (n:Nat):Int:=
 if AN (xs.getD n default).kd=true then(BO (p.Q.getD n []) (DW fs n (xs.getD n default).ln.toNat) (decide (0<=LV.getD n 0))).2 else cs.getD n 0
def AD (xs:List Nd) (p:Pl) (cs:List Int) (fs:List T3) (LV:List Int):Nat->List (List Int)×List (List Int)×List T3
 |0=>(p.Q,p.R,[])|n+1=>
  (if AN (xs.getD n default).kd=true then(AD xs p cs fs LV n).1.set n (BO (p.Q.getD n []) (DW fs n (xs.getD n default).ln.toNat) (decide (0<=LV.getD n 0))).1 else(AD xs p cs fs LV n).1,
   if AN (xs.getD n default).kd=true then(AD xs p cs fs LV n).2.1 else if 0<=LV.getD n 0 then(AD xs p cs fs LV n).2.1.set n (((AD xs p cs fs LV n).2.1.getD n []).filter fun y=>!decide (y=cs.getD n 0)) else(AD xs p cs fs LV n).2.1,
   if 0<=LV.getD n 0 then(AD xs p cs fs LV n).2.2++[⟨D9 xs p cs fs LV n,n,(xs.getD n default).ex.getD (LV.getD n 0).toNat 0⟩] else(AD xs p cs fs LV n).2.2)
def Cs (xs:List Nd) (ms:List T3) (s:List (List Int)×List (List Int)):Nat->List (List Int)×List (List Int)
 |0=>s|i+1=>
  let m:=ms.getD i default
  if AN (xs.getD m.c.toNat default).kd=true then((Cs xs ms s i).1.set m.c.toNat (((Cs xs ms s i).1.getD m.c.toNat []).set 0 m.a),(Cs xs ms s i).2)
  else((Cs xs ms s i).1,(Cs xs ms s i).2.set m.c.toNat (DA ((Cs xs ms s i).2.getD m.c.toNat []) m.a))
def EQ (xs:List Nd) (p:Pl) (cs:List Int) (fs:List T3) (LV:List Int):Pl×List T3:=
 let s:=AD xs p cs fs LV xs.length
 let q:=Cs xs s.2.2 (s.1,s.2.1) s.2.2.length
 (⟨q.1,q.2⟩,s.2.2.filter fun m=>!decide (m.b=m.c))
theorem Ef {α:Type} {l:List α} {i n:Nat} {x d:α}:(l.set i x).getD n d=if i=n/\i<l.length then x else l.getD n d:=by
 simp only[gE,List.getElem?_set];by_cases h:i=n
 .subst h;by_cases h2:i<l.length
  .simp[h2]
  simp[h2,List.getElem?_eq_none (Nat.le_of_not_lt h2)]
 simp[h]
theorem QbS (y:Int) (l:List Int) (x:Int):DA (y::l) x=if y<x then y::DA l x else x::y::l:=by
 unfold DA;by_cases h:y<x
 .simp[h]
 simp[h]
theorem QbV {l:List Int} {x z:Int}:z∈DA l x↔z=x\/z∈l:=by
 have h1:z∈l↔z∈l.takeWhile (fun y=>decide (y<x))\/z∈l.dropWhile (fun y=>decide (y<x)):=by rw[<-List.mem_append,List.takeWhile_append_dropWhile]
 rw[h1];simp only[DA,List.mem_append,List.mem_singleton];exact⟨fun h=>by rcases h with (h|h)|h<;>simp[h],fun h=>by rcases h with h|h|h<;>simp[h]⟩
theorem jm:∀{l:List Int} {x:Int},l.Pairwise (·<=·)->(DA l x).Pairwise (·<=·)
 |[],x,_=>by simp[DA]|y::l,x,h=>by
  rw[QbS];obtain⟨h1,h2⟩:=List.pairwise_cons.1 h;split
  .refine List.pairwise_cons.2 ⟨fun z hz=>?_,jm h2⟩;rcases QbV.1 hz with rfl|hz
   .omega
   exact h1 z hz
  refine List.pairwise_cons.2 ⟨fun z hz=>?_,h⟩;rcases List.mem_cons.1 hz with rfl|hz
  .omega
  have:=h1 z hz;omega
structure VT (xs:List Nd) (c:Nat) (s:List (List Int)×List (List Int)):Prop where
 l1:s.1.length=xs.length
 l2:s.2.length=xs.length
 r1:∀n,n<xs.length->(s.1.getD n []).length=(xs.getD n default).ln.toNat
 r2:∀n,n<xs.length->(s.2.getD n []).Pairwise (·<=·)/\(s.2.getD n []).length<=500+c
theorem Vn {xs:List Nd} {p:Pl} {cs:List Int} {fs:List T3} {LV:List Int} (hp:FB xs p) (H3:∀n,n<xs.length->(p.R.getD n []).Pairwise (·<=·)):
  ∀i,i<=xs.length->VT xs 0 ((AD xs p cs fs LV i).1,(AD xs p cs fs LV i).2.1)
 |0,_=>⟨hp.sl,hp.bl,hp.row,fun n hn=>⟨H3 n hn,hp.bin n hn⟩⟩|i+1,hi=>by
  obtain⟨h1,h2,h3,h4⟩:=Vn (cs:=cs) (fs:=fs) (LV:=LV) hp H3 i oM;rw[AD];generalize AD xs p cs fs LV i=s at*;simp only at h1 h2 h3 h4 ⊢;refine⟨?_,?_,fun n hn=>?_,fun n hn=>?_⟩
  .split<;>simp[h1]
  .split<;>(try split)<;>simp[h2]
  .try simp only
   split
   .rw[Ef];split
    .rename_i h;rw[Tp,hp.row i oM,h.1]
    exact h3 n hn
   exact h3 n hn
  try simp only
  split
  .exact h4 n hn
  split
  .rw[Ef];split
   .obtain⟨q1,q2⟩:=h4 i oM;exact⟨q1.filter _,Nat.le_trans (List.length_filter_le _ _) q2⟩
   exact h4 n hn
  exact h4 n hn
theorem Vo {xs:List Nd} {ms:List T3} {s:List (List Int)×List (List Int)} (h:VT xs 0 s):∀i,VT xs i (Cs xs ms s i)
 |0=>h|i+1=>by
  obtain⟨h1,h2,h3,h4⟩:=Vo (ms:=ms) h i;rw[Cs];generalize Cs xs ms s i=q at*;have TY:∀n,n<xs.length->(q.2.getD n []).Pairwise (·<=·)/\(q.2.getD n []).length<=500+(i+1):=fun n hn=>⟨(h4 n hn).1,by have:=(h4 n hn).2;omega⟩;try simp only
  split
  .refine⟨by simp[h1],h2,fun n hn=>?_,TY⟩;try simp only
   rw[Ef];split
   .rename_i h5;obtain⟨rfl,h6⟩:=h5;rw[List.length_set];exact h3 _ hn
   exact h3 n hn
  refine⟨h1,by simp[h2],h3,fun n hn=>?_⟩;try simp only
  rw[Ef];split
  .rename_i h5;obtain⟨rfl,h6⟩:=h5;rw[jl];exact⟨jm (h4 _ hn).1,by have:=(h4 _ hn).2;omega⟩
  exact TY n hn
theorem j4 {xs:List Nd} {p:Pl} {cs:List Int} {fs:List T3} {LV:List Int}:∀i,(AD xs p cs fs LV i).2.2.length<=i
 |0=>lR _|i+1=>by
  have ih:=j4 (xs:=xs) (p:=p) (cs:=cs) (fs:=fs) (LV:=LV) i;rw[AD];simp only;split
  .rw[aL];simp only[List.length_singleton];omega
  omega
def N2 (xs:List Nd):Prop:=∀n,n<xs.length->∀j,j<(xs.getD n default).ex.length->0<=(xs.getD n default).ex.getD j 0/\(xs.getD n default).ex.getD j 0<xs.length
def PG (xs:List Nd) (LV:List Int):Prop:=∀n,n<xs.length->0<=LV.getD n 0->LV.getD n 0<(xs.getD n default).ex.length
theorem ZI {xs:List Nd} {p:Pl} {cs:List Int} {fs:List T3} {LV:List Int} (hx:N2 xs) (hl:PG xs LV):∀i,i<=xs.length->∀m∈(AD xs p cs fs LV i).2.2,0<=m.c/\m.c<xs.length
 |0,_,m,hm=>by cases hm
 |i+1,hi,m,hm=>by
  have ih:=ZI (p:=p) (cs:=cs) (fs:=fs) hx hl i oM;rw[AD] at hm;simp only at hm;split at hm
  .rename_i h;rcases List.mem_append.1 hm with hm|hm
   .exact ih m hm
   rw[List.mem_singleton] at hm;subst hm;have:=hl i oM h;exact hx i oM _ oM
  exact ih m hm
open Go.Plant
theorem TR (y:Ly) (p:Pl) (ord cs:List Int) (fs:List T3) (hp:FB y.U p) (hN:y.U.length<=11) (hc:cs.length=y.U.length) (hf:N3 y.U fs)
  (hx:∀m,m<y.U.length->0<=(Fe y.U p cs fs y.U.length).getD m 0->(Fe y.U p cs fs y.U.length).getD m 0<(y.U.getD m default).ex.length)
  (AR:ord.length<=1000) (Sn:∀i,i<ord.length->0<=ord.getD i 0/\ord.getD i 0<y.U.length) (LV EN:List Int)
  (Qd:LV.length=y.U.length) (G7:PG y.U LV) (hex:N2 y.U) (H3:∀n,n<y.U.length->(p.R.getD n []).Pairwise (·<=·)) (te:H0 y.U p (Fe y.U p cs fs y.U.length) ord=(LV,EN)):
  Ag prog Ad 166 [] [.P (Df y ord),p.av,IS cs, .sl (Ai fs) false]
   [(100,some (1, .own 22 1 (BI 3 (EQ y.U p cs fs LV).1.Q))),(101,some (1, .own 22 1 (BI 3 (EQ y.U p cs fs LV).1.R))),(102,some (1, .own 107 3 (Ai (EQ y.U p cs fs LV).2)))]
   (.tup [.agg [.l 100 1 0 (EQ y.U p cs fs LV).1.Q.length, .l 101 1 0 (EQ y.U p cs fs LV).1.R.length], .l 102 1 0 (EQ y.U p cs fs LV).2.length]):=by
 have fi:=qV y p ord cs fs hp hN hc hf.len hx AR Sn;rw[te] at fi;have C4:=hp.xl;have BJ:∀i,i<p.Q.length->(p.Q.getD i []).length<=1000:=fun i hi=>by rw[hp.sl] at hi;have:=hp.row i hi;have:=hp.ln i hi;omega
 have BE:∀i,i<p.R.length->(p.R.getD i []).length<=1000:=fun i hi=>by rw[hp.bl] at hi;have:=hp.bin i hi;omega
 have Yd:∀i,(AD y.U p cs fs LV i).1.length=p.Q.length:=fun i=>by
  induction i with
  |zero=>rfl|succ i ih=>rw[AD];simp only;split<;>simp[ih]
 have Yg:∀i,(AD y.U p cs fs LV i).2.1.length=p.R.length:=fun i=>by
  induction i with
  |zero=>rfl|succ i ih=>rw[AD];simp only;split<;>(try split)<;>simp[ih]
 have wG:∀i,(AD y.U p cs fs LV i).2.2.length<=i:=fun i=>by
  induction i with
  |zero=>exact lR _|succ i ih=>
   rw[AD];simp only;split
   .rw[aL];simp only[List.length_singleton];omega
   omega
 have Ye:∀i n,((AD y.U p cs fs LV i).2.1.getD n []).length<=500:=fun i=>by
  induction i with
  |zero=>
   intro n;by_cases h:n<p.R.length
   .exact hp.bin n (by rw[<-hp.bl];exact h)
   show(p.R.getD n []).length<=500;rw[gE,List.getElem?_eq_none oM];simp
  |succ i ih=>
   intro n;rw[AD];simp only;split
   .exact ih n
   split
   .generalize AD y.U p cs fs LV i=s at ih;have h1:=ih n;have h2:=ih i;rw[Ef];split
    .exact Nat.le_trans (List.length_filter_le _ _) h2
    exact h1
   exact ih n
 refine Am func166 ntmps166 ?_;intro w e X hC;refine uA ?_;refine xz1 fi ?_;refine uR ?_;intro K hK;have z:=@Bool.or_true;refine CL [] [(125,12,100,1),(401,12,101,1)] false ((bE p (by rw[hp.sl];omega) (by rw[hp.bl];omega) BJ BE)) (Ke z) (Ke z) (AW z) (AW z) (AW z) (AW z) (AW z) (AW z) (AW z) (AW z) (AW z) (AW z) (AW z) (AW z) (AW z) (AW z) (AW z) ?_;refine QV z ?_;clear z;refine hK _ ?_;clear hK K;refine xy4 ?_;refine Aw (fun i:Nat×Nat×Nat=>⟨[(0, .P (Df y ord)),(2,IS cs),(3, .sl (Ai fs) false),(5, .p 105 1 0 0 0),(8, .p 108 2 0 0 0),(10, .p 110 9 0 0 0),(11, .p 111 13 0 0 0),(12, .l 112 i.2.2 0 (AD y.U p cs fs LV i.2.1).2.2.length),(30, .sl (AA y.U) false),(31,I y.U.length),(32,I i.2.1)],
  (112,some (i.2.2, .own 107 3 (Ai (AD y.U p cs fs LV i.2.1).2.2)))::(111,some (13, .box [.l 125 12 0 p.Q.length, .l 401 12 0 p.R.length]))::(125,some (12, .own 22 1 (BI 3 (AD y.U p cs fs LV i.2.1).1)))::(401,some (12, .own 22 1 (BI 3 (AD y.U p cs fs LV i.2.1).2.1)))::(110,some (9, .box [IS LV,IS EN]))::(108,some (2, .box [.sl [] true, .sl [] true]))::(105,some (1, .box [RS p.Q,RS p.R]))::[],i.1⟩)
  (fun i=>i.2.1<=y.U.length) (fun i=>y.U.length - i.2.1) (_,0,_) (zL _) (.of (lR _) (by repeat first|exact AX.nil|refine Jq ?_|(refine AX.cons ?_ ?_;(focus (simp only[go_sem,seval,-Int.reduceNatCast',AD];done)))) (by repeat first|exact BA.nil|refine Jr ?_|(refine BA.cons ?_ ?_;(focus (simp only[go_sem,seval,-Int.reduceNatCast',AD];done))))) ?_
 .rintro⟨ck,i,gm⟩ hi;simp only at hi;have Kx:=Yd i;have Lm:=Yg i;have WV:=Ye i i;have tb:=wG i;have FI:AD y.U p cs fs LV (i+1)=_:=AD.eq_2 y.U p cs fs LV i;have JZ:=ZI (p:=p) (cs:=cs) (fs:=fs) hex G7 i hi;have AI:=Vn (cs:=cs) (fs:=fs) (LV:=LV) hp H3 i hi;generalize Su:AD y.U p cs fs LV i=s at*;obtain⟨s1,s2,s3⟩:=s;simp only at Kx Lm WV tb FI;refine xy1 (fun h=>?_) (fun h=>?_)
  .have Aa:i<y.U.length:=oM;have Uk:i<cs.length:=oM;have Lq:i<LV.length:=oM;have T4:=fun h0=>qi y p ord fs i (decide (0<=LV.getD i 0)) hp hf Aa h0;have Mi:(BO (p.Q.getD i []) (DW fs i (y.U.getD i default).ln.toNat) (decide (0<=LV.getD i 0))).1.length=(p.Q.getD i []).length:=Tp _ _ _;have NG:=hp.row i Aa;have HH:=hp.sl;have Ic:=hp.bl;have AM:AN (y.U.getD i default).kd=true->1<=(y.U.getD i default).ln:=hp.st i Aa;have AK:=hp.ln i Aa;have Ul:i<s1.length:=by rw[Kx,hp.sl];exact Aa
   have NB:i<s2.length:=by rw[Lm,hp.bl];exact Aa
   generalize e2:y.U.getD i default=x at*;refine Bg (uI (AG Aa) @e2) ?_;refine xq2 (uI (Ao Uk) (Ao Lq)) ?_;have FD:D9 y.U p cs fs LV i=if AN x.kd=true then(BO (p.Q.getD i []) (DW fs i x.ln.toNat) (decide (0<=LV.getD i 0))).2 else cs.getD i 0:=by rw[D9,e2]
   generalize D9 y.U p cs fs LV i=bg at*;generalize BO (p.Q.getD i []) (DW fs i x.ln.toNat) (decide (0<=LV.getD i 0))=A at*;generalize EY:(if AN x.kd=true then s1.set i A.1 else s1)=n1 at*;generalize EZ:(if AN x.kd=true then s2 else if 0<=LV.getD i 0 then s2.set i ((s2.getD i []).filter fun y=>!decide (y=cs.getD i 0)) else s2)=n2 at*;refine A5 ?_;refine CE (fun q:Nat=>⟨[(0, .P (Df y ord)),(2,IS cs),(3, .sl (Ai fs) false),(5, .p 105 1 0 0 0),(8, .p 108 2 0 0 0),(10, .p 110 9 0 0 0),(11, .p 111 13 0 0 0),(12, .l 112 gm 0 s3.length),(13,I i),(14, .p 114 (ck+4) 0 0 0),(15, .p 115 (ck+17) 0 0 0),(16,B (decide (0<=LV.getD i 0))),(30, .sl (AA y.U) false),(31,I y.U.length),(32,I i)],(115,some (ck+17, .box [I bg]))::(114,some (ck+4, .box [S x.nm,I x.kd,I x.ln,I x.zn,IS x.ex]))::(112,some (gm, .own 107 3 (Ai s3)))::(111,some (13, .box [.l 125 12 0 p.Q.length, .l 401 12 0 p.R.length]))::(125,some (12, .own 22 1 (BI 3 n1)))::(401,some (12, .own 22 1 (BI 3 n2)))::(110,some (9, .box [IS LV,IS EN]))::(108,some (2, .box [.sl [] true, .sl [] true]))::(105,some (1, .box [RS p.Q,RS p.R]))::[],q⟩) (fun _=>True) ?_ ?_
   .refine xx9 ((Kt x.kd)) ?_;cases c1:AN x.kd with
    |true=>
     rw[c1] at EY EZ FD;simp only[if_true] at EY EZ FD;refine uT ?_;have Mu:0<(p.Q.getD i []).length:=by have:=AM c1;omega
     have tC:=T4 Mu;generalize (p.Q.getD i []).length=rl at*;refine uD ?_;intro K hK;refine CL [] [(159,ck+31,100,1)] false (tC) Bz Bz Ab Ab Ab Ab Ab Ab Ab Ab Ab Ab Ab Ab Ab Ab Ab ?_;refine xq7 ?_;refine hK _ ?_;clear hK K;subst EZ FD;refine⟨_,trivial, .of (lR _) (Ax @EY) A4⟩
    |false=>
     rw[c1] at EY EZ FD;simp only[Bool.false_eq_true,if_false] at EY EZ FD;subst EY FD;refine uF ?_;refine xw9 (fun c2=>?_) (fun c2=>?_)
     .rw[iP c2] at EZ;(repeat first|refine A5 ?_|refine BQ ?_|refine B5 ?_);refine M4 hC kR kR rfl fun K hK=>?_;simp only[go_sem,seval,O7 NB,Lm,Ic]
      refine⟨oM,oM,?_⟩;refine CL [(0,0,171,ck+31)] [(173,ck+33,100,1)] true ((pS (s2.getD i []) 213 [I (cs.getD i 0)] (fun y=>decide (y=cs.getD i 0)) oM (fun y _=>Qe6 (cs.getD i 0) y))) Bz Bz Ab Ab Ab Ab Ab Ab Ab Ab Ab Ab Ab Ab Ab Ab Ab ?_;refine xq7 ?_;refine hK _ ?_;clear hK K;refine⟨_,trivial, .of (lR _) (Ax (uI @EZ (uI @Ic @List.set_set.{0}))) A4⟩
     rw[iN c2] at EZ;subst EZ;refine uW ?_;refine⟨_,trivial,Af⟩
   rintro ck2 -;have gz:=G7 i Aa;rw[e2] at gz;refine xy1 (fun c3=>?_) (fun c3=>?_)
   .rw[iP c3] at FI;obtain⟨k,hk⟩:∃k:Nat,k=(LV.getD i 0).toNat:=⟨_,rfl⟩;have Ia:LV.getD i 0=(k:Int):=oM;rw[<-hk] at FI;have Sb:=gz c3;rw[Ia] at Sb;have vB:k<x.ex.length:=oM;refine xq2 (uI (Ao Lq) (uI @Ia (Ao vB))) ?_;refine uZ ?_;refine⟨(_,i+1,gm),uO,uO, .of (lR _) (Ax @FI) (AS (uI @FI @List.length_singleton.{0}))⟩
   rw[iN c3] at FI;refine uZ ?_;refine⟨(_,i+1,gm),uO,uO, .of (lR _) (Ax @FI) (AS @FI)⟩
  refine At ?_;obtain rfl:i=y.U.length:=oM;have Jd:=Vo (ms:=s3) AI;have HH:=hp.sl;have Ic:=hp.bl;clear AI Kx Lm WV FI;refine xy4 ?_;refine Aw (fun i:Nat×Nat=>⟨[(0, .P (Df y ord)),(2,IS cs),(3, .sl (Ai fs) false),(5, .p 105 1 0 0 0),(8, .p 108 2 0 0 0),(10, .p 110 9 0 0 0),(11, .p 111 13 0 0 0),(12, .l 112 gm 0 s3.length),(92, .l 112 gm 0 s3.length),(93,I s3.length),(94,I i.2)],
   (112,some (gm, .own 107 3 (Ai s3)))::(111,some (13, .box [.l 125 12 0 p.Q.length, .l 401 12 0 p.R.length]))::(125,some (12, .own 22 1 (BI 3 (Cs y.U s3 (s1,s2) i.2).1)))::(401,some (12, .own 22 1 (BI 3 (Cs y.U s3 (s1,s2) i.2).2)))::(110,some (9, .box [IS LV,IS EN]))::(108,some (2, .box [.sl [] true, .sl [] true]))::(105,some (1, .box [RS p.Q,RS p.R]))::[],i.1⟩)
   (fun i=>i.2<=s3.length) (fun i=>s3.length - i.2) (_,0) (zL _) (.of (lR _) (by repeat first|exact AX.nil|refine Jq ?_|(refine AX.cons ?_ ?_;(focus (simp only[go_sem,seval,-Int.reduceNatCast',Cs];done)))) vv4) ?_
  rintro⟨ck,i⟩ hi;simp only at hi;have Sl:=Jd i;have hE:Cs y.U s3 (s1,s2) (i+1)=_:=Cs.eq_2 y.U s3 (s1,s2) i;generalize X8:Cs y.U s3 (s1,s2) i=q at*;obtain⟨q1,q2⟩:=q;obtain⟨II,Ie,KM,OR⟩:=Sl;simp only at II Ie KM OR hE;refine xy1 (fun h1=>?_) (fun h1=>?_)
  .have Aa:i<s3.length:=oM;obtain⟨HD,Fo⟩:=JZ (s3.getD i default) (Fs Aa);generalize e3:s3.getD i default=m at*;obtain⟨k,hk⟩:∃k:Nat,k=m.c.toNat:=⟨_,rfl⟩;have ON:m.c=(k:Int):=oM;rw[<-hk] at hE;have Cp:k<y.U.length:=oM;have OJ:k<q1.length:=oM;have XR:k<q2.length:=oM;have BJ:=KM k Cp;obtain⟨BE,Mv⟩:=OR k Cp;have AM:AN (y.U.getD k default).kd=true->1<=(y.U.getD k default).ln:=hp.st k Cp;generalize e4:y.U.getD k default=x at*;refine Ac (uI (By Aa) @e3) ?_;refine Cv (uI @ON (uI (AG Cp) @e4)) ?_;intro K hK;refine⟨oM,?_⟩;refine xw6 ((Kt x.kd)) ?_;refine hK _ ?_;clear hK K;cases c1:AN x.kd with
   |true=>
    have:=AM c1;have Mu:0<(q1.getD k []).length:=oM;rw[c1] at hE;simp only[if_true] at hE;refine uT ?_;(repeat first|refine A5 ?_|refine BQ ?_|refine B5 ?_);refine M4 hC kR kR rfl fun K hK=>?_;simp only[go_sem,seval,O7 OJ,II,HH,ON]
    refine uH ?_;refine hK _ ?_;clear hK K;have Sv:∀v,((BI 3 q1).set k v).getD k .bad=v:=fun v=>by rw[Ef,iP ⟨rfl,by rw[O8];exact OJ⟩]
    have Fm:((q1.getD k []).set 0 m.a).length=(q1.getD k []).length:=List.length_set;refine V4 (id:=125) (gi:=12) (t:=22) (k:=1) (i:=k) (rid:=214) (rg:=ck+21) (n:=(q1.getD k []).length) rfl (by rw[List.length_set,O8];exact OJ) (Sv _) dM ?_ ?_
    .simp only[go_sem,seval,attP,Fm]
    simp only[go_sem,seval,att,List.set_set];refine uZ ?_;refine⟨(_,i+1),uO,uO, .of (lR _) (Ax (uI @hE @HH)) A4⟩
   |false=>
    rw[c1] at hE;simp only[Bool.false_eq_true,if_false] at hE;refine uF ?_;(repeat first|refine A5 ?_|refine BQ ?_|refine B5 ?_);refine M4 hC kR kR rfl fun K hK=>?_;simp only[go_sem,seval,O7 XR,Ie,Ic,ON]
    refine⟨oM,oM,?_⟩;refine CL [(0,0,227,ck+25)] [(230,ck+28,100,1)] false ((qs (q2.getD k []) m.a oM BE)) Bz Bz Ab Ab Ab Ab Ab Ab Ab Ab Ab Ab Ab Ab Ab Ab Ab ?_;refine xq7 ?_;refine hK _ ?_;clear hK K;refine uZ ?_;refine⟨(_,i+1),uO,uO, .of (lR _) (Ax (uI @hE (uI @Ic @List.set_set.{0}))) A4⟩
  refine At ?_;obtain rfl:i=s3.length:=oM;have AM:EQ y.U p cs fs LV=(⟨q1,q2⟩,s3.filter fun m=>!decide (m.b=m.c)):=by unfold EQ;rw[Su];simp only[X8]
  rw[AM];simp only;refine uD ?_;intro K hK;refine CL [(0,0,112,gm)] [(235,ck+3,100,1)] false ((pT s3 216 (fun m=>decide (m.b=m.c)) oM (fun m _=>Qe7 m))) Bz Bz Ab Ab Ab Ab Ab Ab Ab Ab Ab Ab Ab Ab Ab Ab Ab ?_;refine xq7 ?_;refine hK _ ?_;clear hK K;have hA:p.Q.length=q1.length:=oM;have hB:p.R.length=q2.length:=oM;rw[hA,hB];refine Ay ?_;rw[show Tryz.f166.results.toList=[.cell 8 36, .tmp 9] from rfl];(refine DB [(100,1,125,12),(101,1,401,12),(102,1,235,ck+3)] D4 sM sM sM Bp Bp Bp ?_ ?_;all_goals (first|refine Fb ?_|exact Fc|skip))
abbrev U8 (c:Nat):AV:= .lit (.int .u8 (c:Int))
def EM (c:Nat):Bool:=decide ((65:Int)<=c)&&decide ((c:Int)<=90)
def CF (c:Nat):Bool:=decide ((48:Int)<=c)&&decide ((c:Int)<=57)
def bs (s:ByteArray):List Nat:=s.data.toList.map UInt8.toNat
def LI (s:ByteArray):Bool:=decide (1<=(bs s).length)&&(decide ((bs s).length<=12)&&(EM ((bs s).getD 0 0)&&(bs s).all fun c=>EM c||CF c))
theorem L6 (s:ByteArray):(bs s).length=s.data.toList.length:=by simp[bs]
theorem Oa (s:ByteArray) (i:Nat):(s.data.toList.getD i 0).toNat=(bs s).getD i 0:=by
 unfold bs;by_cases h:i<s.data.toList.length
 .simp only[gE,List.getElem?_map,gG h];rfl
 simp only[gE,List.getElem?_map,List.getElem?_eq_none (Nat.le_of_not_lt h)];rfl
theorem iq (c:Nat):Ag prog Ad 234 [] [U8 c] [] (B (EM c)):=by
 refine Am func234 ntmps234 ?_;intro w e X hC;cases d1:decide ((65:Int)<=c) with
 |true=>
  refine xz9 @d1 ?_;try rfl
  simp only[go_sem,seval,EM,d1,Bool.true_and]
 |false=>
  refine xz9 @d1 ?_;try rfl
  simp only[go_sem,seval,EM,d1,Bool.false_and]
theorem p4 (c:Nat):Ag prog Ad 237 [] [U8 c] [] (B (CF c)):=by
 refine Am func237 ntmps237 ?_;intro w e X hC;cases d1:decide ((48:Int)<=c) with
 |true=>
  refine xz9 @d1 ?_;try rfl
  simp only[go_sem,seval,CF,d1,Bool.true_and]
 |false=>
  refine xz9 @d1 ?_;try rfl
  simp only[go_sem,seval,CF,d1,Bool.false_and]
theorem ip (c:Nat):Ag prog Ad 221 [] [U8 c] [] (B (EM c)):=by
 refine Am func221 ntmps221 ?_;intro w e X hC;cases d1:decide ((65:Int)<=c) with
 |true=>
  refine xz9 @d1 ?_;try rfl
  simp only[go_sem,seval,EM,d1,Bool.true_and]
 |false=>
  refine xz9 @d1 ?_;try rfl
  simp only[go_sem,seval,EM,d1,Bool.false_and]
theorem pZ (c:Nat):Ag prog Ad 222 [] [U8 c] [] (B (CF c)):=by
 refine Am func222 ntmps222 ?_;intro w e X hC;cases d1:decide ((48:Int)<=c) with
 |true=>
  refine xz9 @d1 ?_;try rfl
  simp only[go_sem,seval,CF,d1,Bool.true_and]
 |false=>
  refine xz9 @d1 ?_;try rfl
  simp only[go_sem,seval,CF,d1,Bool.false_and]
theorem zK (c:Nat):Ag prog Ad 236 [] [U8 c] [] (B (EM c||CF c)):=by
 have h1:=iq c;have h2:=p4 c;generalize EM c=a at*;generalize CF c=b at*;refine Am func236 ntmps236 ?_;intro w e X hC;refine uA ?_;refine uR ?_;intro K hK;refine xz0 h1 ?_;cases a with
 |true=>
  first|refine uS ?_|exact uX
  refine hK _ ?_;clear hK K;exact uP
 |false=>
  first|refine uS ?_|exact uX
  refine xz0 h2 ?_;refine hK _ ?_;clear hK K;exact uP
theorem M5 (s:ByteArray):(bs s).length=s.size:=by simp[L6]
theorem aN (s:ByteArray) (k:Nat) (p:Nat->Bool) (hl:(bs s).length<=1000) (hk:∀c,Ag prog Ad k [] [U8 c] [] (B (p c))):
  Ag prog Ad 235 [] [S s, .fn k []] [] (B ((bs s).all p)):=by
 have Al:=L6 s;have Es:=M5 s;refine Am func235 ntmps235 ?_;intro w e X hC;repeat ((repeat first|refine A5 ?_|refine BQ ?_|refine B5 ?_);refine Ep hC rfl fun K hK=>?_;simp only[go_sem,seval,-Int.reduceNatCast',<-Al,<-Es];(repeat ((with_reducible refine And.intro ?_ ?_);focus (((repeat' apply And.intro)<;>first|omega|(simp;done)|kernel_rfl))));refine hK _ ?_;clear hK K)
 refine uW ?_;refine Aw (fun i:Nat×Nat=>⟨[(0,S s),(1, .fn k []),(7,I (bs s).length),(8,I i.2)],[],i.1⟩) (fun i=>i.2<=(bs s).length/\∀j,j<i.2->p ((bs s).getD j 0)=true) (fun i=>(bs s).length - i.2) (_,0) ⟨zL _,fun j hj=>absurd hj (nZ _)⟩ (Af) ?_;rintro⟨ck,i⟩ ⟨hi,hj⟩;simp only at hi hj;refine xy1 (fun h=>?_) (fun h=>?_)
 .have Aa:i<(bs s).length:=oM;have Bk:=hk ((bs s).getD i 0);have hg:=Oa s i;refine uA ?_;cases c1:p ((bs s).getD i 0) with
  |true=>
   rw[c1] at Bk;(repeat first|refine A5 ?_|refine BQ ?_|refine B5 ?_);refine Ep hC rfl fun K hK=>?_;simp only[go_sem,seval,-Int.reduceNatCast',hg,<-Al,<-Es]
   refine⟨oM,?_⟩;refine xz0 Bk ?_;refine hK _ ?_;clear hK K;refine xy9 ?_;refine⟨(_,i+1),⟨uO,fun j Ah=>?_⟩,uO,Af⟩;by_cases AF:j=i
   .subst AF;exact c1
   exact hj j vv6
  |false=>
   rw[c1] at Bk;(repeat first|refine A5 ?_|refine BQ ?_|refine B5 ?_);refine Ep hC rfl fun K hK=>?_;simp only[go_sem,seval,-Int.reduceNatCast',hg,<-Al,<-Es]
   refine⟨oM,?_⟩;refine xz0 Bk ?_;refine hK _ ?_;clear hK K;refine xq4 ?_;try rfl
   have:(bs s).all p=false:=by rw[List.all_eq_false];exact⟨_,Fs (d:=0) Aa,by rw[c1];simp⟩
   rw[this];rfl
 refine At ?_;refine xz3 ?_;try rfl
 have:(bs s).all p=true:=by rw[List.all_eq_true];intro c hc;obtain⟨j,Ah,rfl⟩:=List.getElem_of_mem hc;have:=hj j oM;simpa[Ah] using this
 rw[this];rfl
theorem qZ (s:ByteArray) (hl:(bs s).length<=1000):Ag prog Ad 184 [] [S s,I 12] [] (B (LI s)):=by
 have Al:=L6 s;have Es:=M5 s;have hg:=Oa s 0;have h1:=iq ((bs s).getD 0 0);have h2:=aN s 236 (fun c=>EM c||CF c) hl zK;unfold LI;generalize EM ((bs s).getD 0 0)=a at*;generalize ((bs s).all fun c=>EM c||CF c)=b at*;refine Am func184 ntmps184 ?_;intro w e X hC;refine uA ?_;by_cases c0:1<=(bs s).length
 .have d0:decide (1<=(bs s).length)=true:=dT c0;have de:decide (¬s.data.toList=[])=true:=dT (fun h=>by rw[Al,h] at c0;simp at c0);rw[d0,Bool.true_and];by_cases c2:(bs s).length<=12
  .have d2:=uDt (((bs s).length:Int)<=12);have d3:decide ((bs s).length<=12)=true:=dT c2;rw[d3,Bool.true_and];(repeat first|refine A5 ?_|refine BQ ?_|refine B5 ?_);refine Ep hC rfl fun K hK=>?_;simp only[go_sem,seval,-Int.reduceNatCast',hg,<-Al,<-Es,de,d2]
   refine⟨oM,?_⟩;refine xz0 h1 ?_;cases a with
   |true=>
    first|refine uS ?_|exact uX
    refine xz0 h2 ?_;refine hK _ ?_;clear hK K;exact uP
   |false=>
    first|refine uS ?_|exact uX
    refine hK _ ?_;clear hK K;exact uP
  have d2:=uDf (((bs s).length:Int)<=12);have d3:decide ((bs s).length<=12)=false:=dF c2;rw[d3,Bool.false_and];(repeat first|refine A5 ?_|refine BQ ?_|refine B5 ?_);refine Ep hC rfl fun K hK=>?_;simp only[go_sem,seval,-Int.reduceNatCast',hg,<-Al,<-Es,de,d2]
  refine hK _ ?_;clear hK K;exact uP
 have d0:decide (1<=(bs s).length)=false:=dF c0;have de:decide (¬s.data.toList=[])=false:=dF (fun h=>h (List.eq_nil_of_length_eq_zero oM));rw[d0,Bool.false_and];(repeat first|refine A5 ?_|refine BQ ?_|refine B5 ?_);refine Ep hC rfl fun K hK=>?_;simp only[go_sem,seval,-Int.reduceNatCast',hg,<-Al,<-Es,de]
 refine hK _ ?_;clear hK K;exact uP
theorem Y5 (s:ByteArray) (hl:(bs s).length<=1000):Ag prog Ad 175 [] [S s] [] (B (LI s)):=by
 have Al:=L6 s;have Es:=M5 s;have H8:=Oa s 0;have h1:=ip ((bs s).getD 0 0);unfold LI;generalize tD:EM ((bs s).getD 0 0)=a at*;refine Am func175 ntmps175 ?_;intro w e X hC;refine uA ?_;refine A5 ?_;refine CE (fun q:Nat=>⟨[(0,S s)],[],q⟩) (fun _=>(decide (1<=(bs s).length)&&(decide ((bs s).length<=12)&&a))=true) ?_ ?_
 .by_cases c0:1<=(bs s).length
  .have d0:decide (1<=(bs s).length)=true:=dT c0;have de:=uDf (((bs s).length:Int)<1);by_cases c2:(bs s).length<=12
   .have d2:=uDf ((12:Int)<(bs s).length);have d3:decide ((bs s).length<=12)=true:=dT c2;rw[d0,d3];(repeat first|refine A5 ?_|refine BQ ?_|refine B5 ?_);refine Ep hC rfl fun K hK=>?_;simp only[go_sem,seval,-Int.reduceNatCast',H8,<-Al,<-Es,de,d2]
    refine⟨oM,?_⟩;refine xz0 h1 ?_;cases a with
    |true=>
     first|refine uS ?_|exact uX
     refine hK _ ?_;clear hK K;refine xq9 ?_;refine⟨_,rfl,Af⟩
    |false=>
     first|refine uS ?_|exact uX
     refine hK _ ?_;clear hK K;exact xz7
   have d2:=uDt ((12:Int)<(bs s).length);have d3:decide ((bs s).length<=12)=false:=dF c2;rw[d0,d3];(repeat first|refine A5 ?_|refine BQ ?_|refine B5 ?_);refine Ep hC rfl fun K hK=>?_;simp only[go_sem,seval,-Int.reduceNatCast',H8,<-Al,<-Es,de,d2]
   refine hK _ ?_;clear hK K;exact xz7
  have d0:decide (1<=(bs s).length)=false:=dF c0;have de:=uDt (((bs s).length:Int)<1);rw[d0];(repeat first|refine A5 ?_|refine BQ ?_|refine B5 ?_);refine Ep hC rfl fun K hK=>?_;simp only[go_sem,seval,-Int.reduceNatCast',H8,<-Al,<-Es,de]
  refine hK _ ?_;clear hK K;exact xz7
 rintro ck0 AI;have DZ:(decide (1<=(bs s).length)&&(decide ((bs s).length<=12)&&(a&&(bs s).all fun c=>EM c||CF c)))=(bs s).all fun c=>EM c||CF c:=by rw[<-Bool.and_assoc (decide ((bs s).length<=12)),<-Bool.and_assoc,AI,Bool.true_and]
 rw[DZ];clear DZ AI h1 tD;refine xy4 ?_;refine Aw (fun i:Nat×Nat=>⟨[(0,S s),(3,I i.2)],[],i.1⟩) (fun i=>i.2<=(bs s).length/\∀j,j<i.2->(EM ((bs s).getD j 0)||CF ((bs s).getD j 0))=true) (fun i=>(bs s).length - i.2) (_,0) ⟨zL _,fun j hj=>absurd hj (nZ _)⟩ (Af) ?_;rintro⟨ck,i⟩ ⟨hi,hj⟩;simp only at hi hj;repeat ((repeat first|refine A5 ?_|refine BQ ?_|refine B5 ?_);refine Ep hC rfl fun K hK=>?_;simp only[go_sem,seval,-Int.reduceNatCast',<-Al,<-Es];(repeat ((with_reducible refine And.intro ?_ ?_);focus (((repeat' apply And.intro)<;>first|omega|(simp;done)|kernel_rfl))));refine hK _ ?_;clear hK K)
 refine GF (fun h=>?_) (fun h=>?_)
 .have Aa:i<(bs s).length:=oM;have h1:=ip ((bs s).getD i 0);have h2:=pZ ((bs s).getD i 0);have hg:=Oa s i;have Cz:(EM ((bs s).getD i 0)||CF ((bs s).getD i 0))=true->∀j,j<i+1->(EM ((bs s).getD j 0)||CF ((bs s).getD j 0))=true:=fun h j Ah=>by
   by_cases AF:j=i
   .subst AF;exact h
   exact hj j oM
  have Bc:(EM ((bs s).getD i 0)||CF ((bs s).getD i 0))=false->((bs s).all fun c=>EM c||CF c)=false:=fun h=>by rw[List.all_eq_false];exact⟨_,Fs (d:=0) Aa,by rw[h];simp⟩
  generalize EM ((bs s).getD i 0)=a at*;generalize CF ((bs s).getD i 0)=b at*;(repeat first|refine A5 ?_|refine BQ ?_|refine B5 ?_);refine Ep hC rfl fun K hK=>?_;simp only[go_sem,seval,-Int.reduceNatCast',hg,<-Al,<-Es]
  refine⟨oM,?_⟩;refine xz0 h1 ?_;cases a with
  |true=>
   first|refine uS ?_|exact uX
   refine hK _ ?_;clear hK K;refine xy9 ?_;refine⟨(_,i+1),⟨uO,Cz rfl⟩,uO,Af⟩
  |false=>
   simp only[go_sem,seval,-Int.reduceNatCast',hg,<-Al,<-Es];refine⟨oM,?_⟩;refine xz0 h2 ?_;cases b with
   |true=>
    first|refine uS ?_|exact uX
    refine hK _ ?_;clear hK K;refine xy9 ?_;refine⟨(_,i+1),⟨uO,Cz rfl⟩,uO,Af⟩
   |false=>
    first|refine uS ?_|exact uX
    refine hK _ ?_;clear hK K;refine xy3 ?_;rw[Bc rfl];exact uP
 refine At ?_;have:((bs s).all fun c=>EM c||CF c)=true:=by rw[List.all_eq_true];intro c hc;obtain⟨j,Ah,rfl⟩:=List.getElem_of_mem hc;have:=hj j oM;simpa[Ah] using this
 rw[this];exact xz5
theorem yU (kd:Int):Ag prog Ad 238 [] [I kd] [] (I (CT kd)):=by
 refine Am func238 ntmps238 ?_;intro w e X hC;iterate 2 refine uA ?_
 have kds:kd=8\/kd=9\/kd=4\/kd=5\/kd=6\/(¬kd=4/\¬kd=5/\¬kd=6/\¬kd=8/\¬kd=9):=oM;rcases kds with rfl|rfl|rfl|rfl|rfl|⟨k4,k5,k6,k8,k9⟩
 .refine J8 ?_;exact uP
 .refine J8 ?_;exact uP
 .refine J8 ?_;exact uP
 .refine J8 ?_;exact uP
 .refine J8 ?_;exact uP
 have d4:=dF k4;have d5:=dF k5;have d6:=dF k6;have d8:=dF k8;have d9:=dF k9;refine xq3 (uI @d4 (uI @d5 (uI @d6 (uI @d8 @d9)))) ?_;try rfl
 rw[CT,iN oM,iN oM];rfl
def MG (x:Nd):Bool:=if AN x.kd=true then(if x.kd=5 then decide (2<=x.ln) else decide (1<=x.ln))&&decide (x.ln<=8) else decide (x.ln=0)
theorem yR (x:Nd):Ag prog Ad 185 [] [x.av] [] (B (MG x)):=by
 have h1:=Kt x.kd;unfold MG;generalize AN x.kd=s at*;refine Am func185 ntmps185 ?_;intro w e X hC;refine uA ?_;refine uR ?_;intro K hK;refine xz0 h1 ?_;cases s with
 |false=>
  first|refine uS ?_|exact uX
  refine hK _ ?_;clear hK K;exact xz7
 |true=>
  first|refine uS ?_|exact uX
  refine hK _ ?_;clear hK K;refine uF ?_;refine xy1 (fun c5=>?_) (fun c5=>?_)
  .cases c2:decide (2<=x.ln) with
   |true=>
    refine xq3 @c2 ?_;try rfl
    simp only[go_sem,seval,iP c5,if_true,Bool.true_and,c2]
   |false=>
    refine xq3 @c2 ?_;try rfl
    simp only[go_sem,seval,iP c5,if_true,Bool.false_and,c2]
  cases c2:decide (1<=x.ln) with
  |true=>
   refine xq3 @c2 ?_;try rfl
   simp only[go_sem,seval,iN c5,if_true,Bool.true_and,c2]
  |false=>
   refine xq3 @c2 ?_;try rfl
   simp only[go_sem,seval,iN c5,if_true,Bool.false_and,c2]
def GA (N i:Int) (x:Nd) (k:Nat):Bool:=decide (0<=x.ex.getD k 0)&&(decide (x.ex.getD k 0<N)&&((decide (x.ex.getD k 0=i)==(decide (x.kd=5)&&decide (k=0)))&&!((x.ex.take k).any fun y=>decide (x.ex.getD k 0=y))))
def Hb (N i:Int) (x:Nd):Bool:=decide ((x.ex.length:Int)=CT x.kd)&&(List.range x.ex.length).all (GA N i x)
theorem SM {N i:Int} {x:Nd}:Hb N i x=true↔(x.ex.length:Int)=CT x.kd/\∀k,k<x.ex.length->GA N i x k=true:=by simp only[Hb,Bool.and_eq_true,decide_eq_true_eq,List.all_eq_true,List.mem_range]
theorem yO {N i:Int} {x:Nd} {k:Nat} (hk:k<x.ex.length) (h:GA N i x k=false):Hb N i x=false:=by
 cases h2:Hb N i x with
 |false=>rfl|true=>have:=(SM.1 h2).2 k hk;rw[h] at this;cases this
theorem yY (y:Ly) (i:Nat) (hi:i<y.U.length) (hN:y.U.length<=1000) (hx:(y.U.getD i default).ex.length<=1000):
  Ag prog Ad 186 [] [y.av,I i] [] (B (Hb y.U.length i (y.U.getD i default))):=by
 refine Am func186 ntmps186 ?_;intro w e X hC;generalize e1:y.U.getD i default=x at*;have MB:=yU x.kd;refine uA ?_;refine Bg (uI (AG hi) @e1) ?_;refine A5 ?_;refine CE (fun q:Nat=>⟨[(1,I i),(2, .p 102 1 0 0 0),(5, .p 105 8 0 0 0)],(105,some (8, .box [S x.nm,I x.kd,I x.ln,I x.zn,IS x.ex]))::(102,some (1, .box [.sl (AA y.U) false, .sl (Ai y.D) false]))::[],q⟩) (fun _=>(x.ex.length:Int)=CT x.kd) ?_ ?_
 .refine uE ?_;intro K hK;refine xw6 MB ?_;refine hK _ ?_;clear hK K;refine GF (fun c0=>?_) (fun c0=>?_)
  .refine xz3 ?_;try rfl
   have:Hb y.U.length i x=false:=by simp[Hb,c0]
   rw[this];rfl
  refine uW ?_;refine⟨_,Decidable.byContradiction c0,Af⟩
 rintro ck0 hlen;clear MB;refine xy4 ?_;refine Aw (fun q:Nat×Nat=>⟨[(1,I i),(2, .p 102 1 0 0 0),(5, .p 105 8 0 0 0),(22,IS x.ex),(23,I x.ex.length),(24,I q.2)],(105,some (8, .box [S x.nm,I x.kd,I x.ln,I x.zn,IS x.ex]))::(102,some (1, .box [.sl (AA y.U) false, .sl (Ai y.D) false]))::[],q.1⟩) (fun q=>q.2<=x.ex.length/\∀j,j<q.2->GA y.U.length i x j=true) (fun q=>x.ex.length - q.2) (_,0) ⟨zL _,fun j hj=>absurd hj (nZ _)⟩ (Af) ?_;rintro⟨ck,k⟩ ⟨hk,hj⟩;simp only at hk hj;refine xy1 (fun h=>?_) (fun h=>?_)
 .have Aa:k<x.ex.length:=oM;have Bc:=yO (N:=y.U.length) (i:=i) Aa;obtain⟨lk,BC⟩:∃lk,lk=GA y.U.length i x k:=⟨_,rfl⟩;rw[<-BC] at Bc;have H6:=TH (x.ex.take k) (x.ex.getD k 0) vv9;have dk:decide ((k:Int)=0)=decide (k=0):=by
   by_cases h0:k=0
   .subst h0;rfl
   rw[dF h0];exact dF oM
  have G4:(x.ex.take k).length=k:=vv9;have Cz:GA y.U.length i x k=true->∀j,j<k+1->GA y.U.length i x j=true:=fun h j Ah=>by
   by_cases AF:j=k
   .subst AF;exact h
   exact hj j oM
  rw[<-BC] at Cz;unfold GA at BC;have bb1:(true==true)=true:=rfl;have bb2:(true==false)=false:=rfl;have bb3:(false==true)=false:=rfl;have bb4:(false==false)=true:=rfl;generalize ((x.ex.take k).any fun y=>decide (x.ex.getD k 0=y))=v at*;generalize e2:x.ex.getD k 0=e at*;refine Ac (uI (Ao Aa) @e2) ?_;cases d5:decide (x.kd=5) with
  |true=>
   cases d0':decide (k=0) with
   |true=>
    have d0:=dk.trans d0';cases dx:decide (e=(i:Int)) with
    |true=>
     refine Ac (uI @d5 @d0) ?_;cases c1:decide (e<0) with
     |true=>have q1:decide (0<=e)=false:=dF vw2;rw[q1,Bool.false_and] at BC;exact xz6 @c1|false=>
      have q1:decide (0<=e)=true:=dT vw3;rw[q1,Bool.true_and] at BC;cases c2:decide ((y.U.length:Int)<=e) with
      |true=>have q2:decide (e<(y.U.length:Int))=false:=dF vw4;rw[q2,Bool.false_and] at BC;exact xz6 (uI @c1 @c2)|false=>
       have q2:decide (e<(y.U.length:Int))=true:=dT vw5;rw[q2,Bool.true_and] at BC;simp[d5,d0',dx] at BC;refine Av (uI @c1 (uI @c2 (uI @dx (uI @bb1 (uI @bb2 (uI @bb3 (uI @bb4 (uI @O5 @G4)))))))) ?_;intro K hK;refine⟨oM,?_⟩;refine xz0 H6 ?_;refine hK _ ?_;clear hK K;cases v with
       |true=>refine xy3 ?_;rw[Bc xv2];exact uP|false=>refine xy9 ?_;refine⟨(_,k+1),⟨uO,Cz xv2⟩,uO,Af⟩
    |false=>
     refine Ac (uI @d5 @d0) ?_;cases c1:decide (e<0) with
     |true=>have q1:decide (0<=e)=false:=dF vw2;rw[q1,Bool.false_and] at BC;exact xz6 @c1|false=>
      have q1:decide (0<=e)=true:=dT vw3;rw[q1,Bool.true_and] at BC;cases c2:decide ((y.U.length:Int)<=e) with
      |true=>have q2:decide (e<(y.U.length:Int))=false:=dF vw4;rw[q2,Bool.false_and] at BC;exact xz6 (uI @c1 @c2)|false=>have q2:decide (e<(y.U.length:Int))=true:=dT vw5;rw[q2,Bool.true_and] at BC;simp[d5,d0',dx] at BC;exact xz6 (uI @c1 (uI @c2 (uI @dx (uI @bb1 (uI @bb2 (uI @bb3 @bb4))))))
   |false=>
    have d0:=dk.trans d0';cases dx:decide (e=(i:Int)) with
    |true=>
     refine Ac (uI @d5 @d0) ?_;cases c1:decide (e<0) with
     |true=>have q1:decide (0<=e)=false:=dF vw2;rw[q1,Bool.false_and] at BC;exact xz6 @c1|false=>
      have q1:decide (0<=e)=true:=dT vw3;rw[q1,Bool.true_and] at BC;cases c2:decide ((y.U.length:Int)<=e) with
      |true=>have q2:decide (e<(y.U.length:Int))=false:=dF vw4;rw[q2,Bool.false_and] at BC;exact xz6 (uI @c1 @c2)|false=>have q2:decide (e<(y.U.length:Int))=true:=dT vw5;rw[q2,Bool.true_and] at BC;simp[d5,d0',dx] at BC;exact xz6 (uI @c1 (uI @c2 (uI @dx (uI @bb1 (uI @bb2 (uI @bb3 @bb4))))))
    |false=>
     refine Ac (uI @d5 @d0) ?_;cases c1:decide (e<0) with
     |true=>have q1:decide (0<=e)=false:=dF vw2;rw[q1,Bool.false_and] at BC;exact xz6 @c1|false=>
      have q1:decide (0<=e)=true:=dT vw3;rw[q1,Bool.true_and] at BC;cases c2:decide ((y.U.length:Int)<=e) with
      |true=>have q2:decide (e<(y.U.length:Int))=false:=dF vw4;rw[q2,Bool.false_and] at BC;exact xz6 (uI @c1 @c2)|false=>
       have q2:decide (e<(y.U.length:Int))=true:=dT vw5;rw[q2,Bool.true_and] at BC;simp[d5,d0',dx] at BC;refine Av (uI @c1 (uI @c2 (uI @dx (uI @bb1 (uI @bb2 (uI @bb3 (uI @bb4 (uI @O5 @G4)))))))) ?_;intro K hK;refine⟨oM,?_⟩;refine xz0 H6 ?_;refine hK _ ?_;clear hK K;cases v with
       |true=>refine xy3 ?_;rw[Bc xv2];exact uP|false=>refine xy9 ?_;refine⟨(_,k+1),⟨uO,Cz xv2⟩,uO,Af⟩
  |false=>
   have d0:=trivial;cases dx:decide (e=(i:Int)) with
   |true=>
    refine Ac @d5 ?_;cases c1:decide (e<0) with
    |true=>have q1:decide (0<=e)=false:=dF vw2;rw[q1,Bool.false_and] at BC;exact xz6 @c1|false=>
     have q1:decide (0<=e)=true:=dT vw3;rw[q1,Bool.true_and] at BC;cases c2:decide ((y.U.length:Int)<=e) with
     |true=>have q2:decide (e<(y.U.length:Int))=false:=dF vw4;rw[q2,Bool.false_and] at BC;exact xz6 (uI @c1 @c2)|false=>have q2:decide (e<(y.U.length:Int))=true:=dT vw5;rw[q2,Bool.true_and] at BC;simp[d5,dx] at BC;exact xz6 (uI @c1 (uI @c2 (uI @dx (uI @bb1 (uI @bb2 (uI @bb3 @bb4))))))
   |false=>
    refine Ac @d5 ?_;cases c1:decide (e<0) with
    |true=>have q1:decide (0<=e)=false:=dF vw2;rw[q1,Bool.false_and] at BC;exact xz6 @c1|false=>
     have q1:decide (0<=e)=true:=dT vw3;rw[q1,Bool.true_and] at BC;cases c2:decide ((y.U.length:Int)<=e) with
     |true=>have q2:decide (e<(y.U.length:Int))=false:=dF vw4;rw[q2,Bool.false_and] at BC;exact xz6 (uI @c1 @c2)|false=>
      have q2:decide (e<(y.U.length:Int))=true:=dT vw5;rw[q2,Bool.true_and] at BC;simp[d5,dx] at BC;refine Av (uI @c1 (uI @c2 (uI @dx (uI @bb1 (uI @bb2 (uI @bb3 (uI @bb4 (uI @O5 @G4)))))))) ?_;intro K hK;refine⟨oM,?_⟩;refine xz0 H6 ?_;refine hK _ ?_;clear hK K;cases v with
      |true=>refine xy3 ?_;rw[Bc xv2];exact uP|false=>refine xy9 ?_;refine⟨(_,k+1),⟨uO,Cz xv2⟩,uO,Af⟩
 refine At ?_;have:Hb y.U.length i x=true:=SM.2 ⟨hlen,fun j Ah=>hj j oM⟩;rw[this];exact xz5
def Do (N i:Int) (x:Nd):Int:=
 if LI x.nm=false then 3 else if x.kd<1\/9<x.kd then 4 else if MG x=true/\(x.zn=0\/x.zn=1)/\Hb N i x=true then 0 else 1
theorem y1 (y:Ly) (i:Nat) (hi:i<y.U.length) (hN:y.U.length<=1000) (hx:(y.U.getD i default).ex.length<=1000) (FN:(bs (y.U.getD i default).nm).length<=1000):
  Ag prog Ad 141 [] [y.av,I i] [] (I (Do y.U.length i (y.U.getD i default))):=by
 have h1:=qZ _ FN;have h2:=yR (y.U.getD i default);have h3:=yY y i hi hN hx;generalize e1:y.U.getD i default=x at*;have hE:Do y.U.length i x=_:=Do.eq_1 _ _ _;generalize Do y.U.length i x=r at*;generalize LI x.nm=a at*;generalize MG x=l at*;generalize Hb y.U.length i x=p at*;refine Am func141 ntmps141 ?_;intro w e X hC;refine uA ?_;refine Bg (uI (AG hi) @e1) ?_;refine xx9 h1 ?_;cases a with
 |false=>refine xy3 ?_;rw[iP rfl] at hE;subst hE;exact uP|true=>
  rw[iN dM] at hE;refine uF ?_;cases d1:decide (x.kd<1) with
  |true=>rw[iP (.inl (oT d1))] at hE;subst hE;refine xy8 @d1 ?_;exact xz7|false=>
   cases d2:decide (9<x.kd) with
   |true=>rw[iP (.inr (oT d2))] at hE;subst hE;refine xy8 (uI @d1 @d2) ?_;exact xz7|false=>
    rw[iN (by have:=oF d1;have:=oF d2;omega)] at hE;refine xy8 (uI @d1 @d2) ?_;refine uF ?_;refine uR ?_;intro K hK;refine xz0 h2 ?_;cases l with
    |false=>
     rw[iN sM] at hE;subst hE;first|refine uS ?_|exact uX
     refine hK _ ?_;clear hK K;exact xz7
    |true=>
     first|refine uS ?_|exact uX
     cases z0:decide (¬x.zn=0) with
     |false=>
      have q0:x.zn=0:=Decidable.byContradiction (oF z0);first|refine Ap @z0 ?_|exact Aq @z0
      refine xz0 h3 ?_;cases p with
      |true=>
       rw[iP ⟨rfl, .inl q0,rfl⟩] at hE;subst hE;first|refine uS ?_|exact uX
       refine hK _ ?_;clear hK K;refine xy9 ?_;exact uP
      |false=>
       rw[iN sM] at hE;subst hE;first|refine uS ?_|exact uX
       refine hK _ ?_;clear hK K;exact xz7
     |true=>
      have q0:¬x.zn=0:=oT z0;cases z1:decide (¬x.zn=1) with
      |true=>
       have q1:¬x.zn=1:=oT z1;rw[iN (fun h=>h.2.1.elim q0 q1)] at hE;subst hE;first|refine Ap (uI @z0 @z1) ?_|exact Aq (uI @z0 @z1)
       refine hK _ ?_;clear hK K;exact xz7
      |false=>
       have q1:x.zn=1:=Decidable.byContradiction (oF z1);first|refine Ap (uI @z0 @z1) ?_|exact Aq (uI @z0 @z1)
       refine xz0 h3 ?_;cases p with
       |true=>
        rw[iP ⟨rfl, .inr q1,rfl⟩] at hE;subst hE;first|refine uS ?_|exact uX
        refine hK _ ?_;clear hK K;refine xy9 ?_;exact uP
       |false=>
        rw[iN sM] at hE;subst hE;first|refine uS ?_|exact uX
        refine hK _ ?_;clear hK K;exact xz7
theorem y9 (y:Ly) (hy:y.U.length<=1000) (hx:∀i,i<y.U.length->0<=(y.U.getD i default).ln/\(y.U.getD i default).ln<=1000):
  Ag prog Ad 142 [] [y.av] [] (I (MV y.U)):=by
 refine Am func142 ntmps142 ?_;intro w e X hC;refine xy4 ?_;refine Aw (fun i:Nat×Nat=>⟨[(1, .p 101 1 0 0 0),(3,I (FT y.U i.2)),(7, .sl (AA y.U) false),(8,I y.U.length),(9,I i.2)],(101,some (1, .box [.sl (AA y.U) false, .sl (Ai y.D) false]))::[],i.1⟩) (fun i=>i.2<=y.U.length) (fun i=>y.U.length - i.2) (_,0) (zL _) (.of (lR _) (by repeat first|exact AX.nil|refine Jq ?_|(refine AX.cons ?_ ?_;(focus (simp only[go_sem,seval,-Int.reduceNatCast',FT];done)))) (by repeat first|exact BA.nil|refine Jr ?_|(refine BA.cons ?_ ?_;(focus (simp only[go_sem,seval,-Int.reduceNatCast',FT];done))))) ?_;rintro⟨ck,i⟩ hi;simp only at hi;refine xy1 (fun h=>?_) (fun h=>?_)
 .have hn:i<y.U.length:=oM;have hb:=ZR (fun j hj=>hx j oM) i hi;have YB:=hx i hn;have e1:FT y.U (i+1)=FT y.U i+(y.U.getD i default).ln:=rfl;generalize FT y.U i=t at*;refine Bg (AG hn) ?_;refine⟨(_,i+1),uO,uO, .of (lR _) Cb (AS @e1)⟩
 refine At ?_;have Ar:i=y.U.length:=oM;subst Ar;exact xz5
theorem qM (x:Nd) (nm:ByteArray):Ag prog Ad 239 [] [x.av, .P [S nm]] [] (B (decide (x.nm=nm))):=by
 refine Am func239 ntmps239 ?_;intro w e X hC;refine xz3 ?_;try rfl
 have:decide (x.nm.data.toList=nm.data.toList)=decide (x.nm=nm):=by
  by_cases h:x.nm=nm
  .rw[h];simp
  rw[dF h];exact dF fun h2=>h (bh h2)
 rw[<-this];rfl
theorem da (xs:List Nd) (nm:ByteArray):Fi xs nm=DK (fun x=>decide (x.nm=nm)) xs:=rfl
theorem yV (y:Ly) (nm:ByteArray) (hy:y.U.length<=1000):Ag prog Ad 187 [] [y.av,S nm] [] (I (Fi y.U nm)):=by rw[da];refine Am func187 ntmps187 ?_;intro w e X hC;refine uA ?_;refine uR ?_;intro K hK;refine bz Ak ((yh y.U 239 [S nm] (fun x=>decide (x.nm=nm)) hy (fun x _=>qM x nm))) Ak Ak Ak ?_;refine uS ?_;refine hK _ ?_;clear hK K;exact uP
def MI (xs:List Nd):Bool:=(List.range xs.length).all fun i=>decide (Fi xs (xs.getD i default).nm=(i:Int))
theorem IN {n:Nat} {p:Nat->Bool} (h:∀i,i<n->p i=true):(List.range n).all p=true:=by rw[List.all_eq_true];intro i hi;exact h i (List.mem_range.1 hi)
theorem MQ {n i:Nat} {p:Nat->Bool} (hi:i<n) (h:p i=false):(List.range n).all p=false:=by rw[List.all_eq_false];exact⟨i,List.mem_range.2 hi,by rw[h];simp⟩
theorem yZ (y:Ly) (hy:y.U.length<=1000):Ag prog Ad 143 [] [y.av] [] (B (MI y.U)):=by
 refine Am func143 ntmps143 ?_;intro w e X hC;refine xy4 ?_;refine Aw (fun i:Nat×Nat=>⟨[(1, .p 101 1 0 0 0),(6, .sl (AA y.U) false),(7,I y.U.length),(8,I i.2)],(101,some (1, .box [.sl (AA y.U) false, .sl (Ai y.D) false]))::[],i.1⟩) (fun i=>i.2<=y.U.length/\∀j,j<i.2->decide (Fi y.U (y.U.getD j default).nm=(j:Int))=true) (fun i=>y.U.length - i.2) (_,0) ⟨zL _,fun j hj=>absurd hj (nZ _)⟩ (Af) ?_;rintro⟨ck,i⟩ ⟨hi,hj⟩;simp only at hi hj;refine xy1 (fun h=>?_) (fun h=>?_)
 .have hn:i<y.U.length:=oM;have Bk:=yV y (y.U.getD i default).nm hy;have Bc:=MQ (p:=fun i=>decide (Fi y.U (y.U.getD i default).nm=(i:Int))) hn;have Cz:decide (Fi y.U (y.U.getD i default).nm=(i:Int))=true->∀j,j<i+1->decide (Fi y.U (y.U.getD j default).nm=(j:Int))=true:=fun h j Ah=>by
   by_cases AF:j=i
   .subst AF;exact h
   exact hj j oM
  try simp only at Bc
  generalize e1:y.U.getD i default=x at*;generalize Fi y.U x.nm=f at*;refine Ac (uI (AG hn) @e1) ?_;refine xz1 Bk ?_;refine GF (fun c1=>?_) (fun c1=>?_)
  .refine xz3 ?_;try rfl
   rw[show MI y.U=false from Bc (dF c1)];rfl
  refine uZ ?_;refine⟨(_,i+1),⟨uO,Cz (dT (Decidable.byContradiction c1))⟩,uO,Af⟩
 refine At ?_;have:MI y.U=true:=IN fun j Ah=>hj j oM;rw[this];exact xz5
def HR (x:Nd):Bool:=if x.kd=1\/x.kd=3\/x.kd=6 then decide (x.zn=0) else if x.kd=7\/x.kd=8 then decide (x.zn=1) else true
def Ev (x:Nd) (k:Nat):Int:=if x.kd=6/\k=1 then 1 else x.zn
def HS (xs:List Nd) (x:Nd) (k:Nat):Bool:=!(decide ((xs.getD (x.ex.getD k 0).toNat default).kd=1)||decide (¬(xs.getD (x.ex.getD k 0).toNat default).zn=Ev x k))
def Dg (xs:List Nd) (x:Nd):Bool:=HR x&&(List.range x.ex.length).all (HS xs x)
theorem Qj4 (y:Ly) (i:Nat) (hi:i<y.U.length) (hN:y.U.length<=1000) (hx:(y.U.getD i default).ex.length<=1000) (hr:∀k,k<(y.U.getD i default).ex.length->0<=(y.U.getD i default).ex.getD k 0/\(y.U.getD i default).ex.getD k 0<y.U.length):
  Ag prog Ad 144 [] [y.av,I i] [] (B (Dg y.U (y.U.getD i default))):=by
 refine Am func144 ntmps144 ?_;intro w e X hC;generalize e1:y.U.getD i default=x at*;refine uA ?_;refine xz2 (uI (AG hi) @e1) ?_;refine A5 ?_;refine CE (fun q:Nat=>⟨[(1,I i),(2, .p 102 1 0 0 0),(5, .p 105 8 0 0 0)],(105,some (8, .box [S x.nm,I x.kd,I x.ln,I x.zn,IS x.ex]))::(102,some (1, .box [.sl (AA y.U) false, .sl (Ai y.D) false]))::[],q⟩) (fun _=>HR x=true) ?_ ?_
 .refine uR ?_;intro K hK;refine hK _ ?_;clear hK K;have kds:x.kd=1\/x.kd=3\/x.kd=6\/x.kd=7\/x.kd=8\/(¬x.kd=1/\¬x.kd=3/\¬x.kd=6/\¬x.kd=7/\¬x.kd=8):=oM;rcases kds with c|c|c|c|c|⟨n1,n3,n6,n7,n8⟩
  .have d1:decide (x.kd=1)=true:=dT c;have hA:HR x=decide (x.zn=0):=by simp[HR,c]
   cases z0:decide (¬x.zn=0) with
   |true=>refine IB (uI @d1 @z0) ?_;have:Dg y.U x=false:=vz1;rw[this];exact uP|false=>refine xq5 (uI @d1 @z0) ?_;refine⟨_,vx9,Af⟩
  .have d1:=uDf (x.kd=1);have d3:decide (x.kd=3)=true:=dT c;have hA:HR x=decide (x.zn=0):=by simp[HR,c]
   cases z0:decide (¬x.zn=0) with
   |true=>refine IB (uI @d1 (uI @d3 @z0)) ?_;have:Dg y.U x=false:=vz1;rw[this];exact uP|false=>refine xq5 (uI @d1 (uI @d3 @z0)) ?_;refine⟨_,vx9,Af⟩
  .have d1:=uDf (x.kd=1);have d3:=uDf (x.kd=3);have d6:decide (x.kd=6)=true:=dT c;have hA:HR x=decide (x.zn=0):=by simp[HR,c]
   cases z0:decide (¬x.zn=0) with
   |true=>refine IB (uI @d1 (uI @d3 (uI @d6 @z0))) ?_;have:Dg y.U x=false:=vz1;rw[this];exact uP|false=>refine xq5 (uI @d1 (uI @d3 (uI @d6 @z0))) ?_;refine⟨_,vx9,Af⟩
  .have d1:=uDf (x.kd=1);have d3:=uDf (x.kd=3);have d6:=uDf (x.kd=6);have d7:decide (x.kd=7)=true:=dT c;have hA:HR x=decide (x.zn=1):=by simp[HR,c]
   cases z0:decide (¬x.zn=1) with
   |true=>refine IB (uI @d1 (uI @d3 (uI @d6 (uI @d7 @z0)))) ?_;have:Dg y.U x=false:=vz1;rw[this];exact uP|false=>refine xq5 (uI @d1 (uI @d3 (uI @d6 (uI @d7 @z0)))) ?_;refine⟨_,vx9,Af⟩
  .have d1:=uDf (x.kd=1);have d3:=uDf (x.kd=3);have d6:=uDf (x.kd=6);have d7:=uDf (x.kd=7);have d8:decide (x.kd=8)=true:=dT c;have hA:HR x=decide (x.zn=1):=by simp[HR,c]
   cases z0:decide (¬x.zn=1) with
   |true=>refine IB (uI @d1 (uI @d3 (uI @d6 (uI @d7 (uI @d8 @z0))))) ?_;have:Dg y.U x=false:=vz1;rw[this];exact uP|false=>refine xq5 (uI @d1 (uI @d3 (uI @d6 (uI @d7 (uI @d8 @z0))))) ?_;refine⟨_,vx9,Af⟩
  have d1:=dF n1;have d3:=dF n3;have d6:=dF n6;have d7:=dF n7;have d8:=dF n8;refine xq5 (uI @d1 (uI @d3 (uI @d6 (uI @d7 @d8)))) ?_;refine⟨_,by simp[HR,n1,n3,n6,n7,n8],Af⟩
 rintro ck0 hA;refine xy4 ?_;refine Aw (fun q:Nat×Nat=>⟨[(2, .p 102 1 0 0 0),(5, .p 105 8 0 0 0),(30,IS x.ex),(31,I x.ex.length),(32,I q.2)],(105,some (8, .box [S x.nm,I x.kd,I x.ln,I x.zn,IS x.ex]))::(102,some (1, .box [.sl (AA y.U) false, .sl (Ai y.D) false]))::[],q.1⟩) (fun q=>q.2<=x.ex.length/\∀j,j<q.2->HS y.U x j=true) (fun q=>x.ex.length - q.2) (_,0) ⟨zL _,fun j hj=>absurd hj (nZ _)⟩ (Af) ?_;rintro⟨ck,k⟩ ⟨hk,hj⟩;simp only at hk hj;refine xy1 (fun h=>?_) (fun h=>?_)
 .have Aa:k<x.ex.length:=oM;obtain⟨r0,r1⟩:=hr k Aa;have Bc:HS y.U x k=false->Dg y.U x=false:=fun h=>by rw[Dg,MQ Aa h,Bool.and_false]
  have Cz:HS y.U x k=true->∀j,j<k+1->HS y.U x j=true:=fun h j Ah=>by
   by_cases AF:j=k
   .subst AF;exact h
   exact hj j oM
  obtain⟨zk,F5⟩:∃zk,zk=HS y.U x k:=⟨_,rfl⟩;rw[<-F5] at Bc Cz;unfold HS at F5;obtain⟨m,hm⟩:∃m,m=(x.ex.getD k 0).toNat:=⟨_,rfl⟩;have DF:x.ex.getD k 0=(m:Int):=oM;rw[<-hm] at F5;have CW:m<y.U.length:=oM;generalize e3:y.U.getD m default=t at*;iterate 2 refine Ac (uI (Ao Aa) @DF) ?_
  refine A5 ?_;refine CE (fun q:Nat=>⟨[(2, .p 102 1 0 0 0),(5, .p 105 8 0 0 0),(7,I m),(8,I (Ev x k)),(30,IS x.ex),(31,I x.ex.length),(32,I k)],(105,some (8, .box [S x.nm,I x.kd,I x.ln,I x.zn,IS x.ex]))::(102,some (1, .box [.sl (AA y.U) false, .sl (Ai y.D) false]))::[],q⟩) (fun _=>True) ?_ ?_
  .by_cases c6:x.kd=6
   .have d6:=dT c6;by_cases ck1:k=1
    .have dk:=uDt ((k:Int)=1);have hw:Ev x k=1:=by rw[Ev,iP ⟨c6,ck1⟩]
     refine xq5 (uI @d6 @dk) ?_;refine⟨_,trivial, .of (lR _) (Ax @hw) (AS @hw)⟩
    have dk:=uDf ((k:Int)=1);have hw:Ev x k=x.zn:=by rw[Ev,iN (fun h=>ck1 h.2)]
    refine xq5 (uI @d6 @dk) ?_;refine⟨_,trivial, .of (lR _) (Ax @hw) (AS @hw)⟩
   have d6:=dF c6;have hw:Ev x k=x.zn:=by rw[Ev,iN (fun h=>c6 h.1)]
   refine xq5 @d6 ?_;refine⟨_,trivial, .of (lR _) (Ax @hw) (AS @hw)⟩
  rintro ck1 -;generalize Ev x k=wt at*;cases c1:decide (t.kd=1) with
  |true=>rw[c1,Bool.true_or] at F5;refine IB (uI (AG CW) (uI @e3 @c1)) ?_;rw[Bc F5];exact uP|false=>
   cases c2:decide (¬t.zn=wt) with
   |true=>rw[c1,c2] at F5;refine IB (uI (AG CW) (uI @e3 (uI @c1 @c2))) ?_;rw[Bc F5];exact uP|false=>rw[c1,c2] at F5;refine IB (uI (AG CW) (uI @e3 (uI @c1 @c2))) ?_;refine⟨(_,k+1),⟨uO,Cz F5⟩,uO,Af⟩
 refine At ?_;have:Dg y.U x=true:=by rw[Dg,hA,IN fun j Ah=>hj j oM];rfl
 rw[this];exact xz5
def Ez (xs:List Nd) (d:T3):Int:=
 if ¬d.a=1/\¬d.a=2 then 4 else if d.b<0\/(xs.length:Int)<=d.b\/d.c<0\/(xs.getD d.b.toNat default).ln<=d.c then 1 else 0
def Gl (ds:List T3) (i:Nat):Bool:=!(ds.take i).any fun y=>CD (ds.getD i default) y
def JD (xs:List Nd) (ds:List T3):Int:=match ds.find? fun d=>!decide (Ez xs d=0) with
 |some d=>Ez xs d|none=>if(List.range ds.length).all (Gl ds)=true then 0 else 5
theorem Qig {xs:List Nd} {ds:List T3} {i:Nat} (hi:i<ds.length) (h:∀j,j<i->Ez xs (ds.getD j default)=0) (hb:¬Ez xs (ds.getD i default)=0):JD xs ds=Ez xs (ds.getD i default):=by
 have:(ds.find? fun d=>!decide (Ez xs d=0))=some (ds.getD i default):=by rw[List.find?_eq_some_iff_getElem];refine⟨xx6,i,hi,by simp[hi],fun j hj=>?_⟩;have Co:j<ds.length:=oM;have:=h j hj;simpa[Co] using this
 rw[JD,this]
theorem Wo {xs:List Nd} {ds:List T3} (h:∀j,j<ds.length->Ez xs (ds.getD j default)=0):JD xs ds=if(List.range ds.length).all (Gl ds)=true then 0 else 5:=by
 have:(ds.find? fun d=>!decide (Ez xs d=0))=none:=by rw[List.find?_eq_none];intro d hd;obtain⟨j,hj,rfl⟩:=List.getElem_of_mem hd;have:=h j hj;simpa[hj] using this
 rw[JD,this]
theorem yN (y:Ly) (hN:y.U.length<=1000) (hD:y.D.length<=1000):Ag prog Ad 146 [] [y.av] [] (I (JD y.U y.D)):=by
 refine Am func146 ntmps146 ?_;intro w e X hC;refine xy4 ?_;refine Aw (fun q:Nat×Nat=>⟨[(1, .p 101 1 0 0 0),(8, .sl (Ai y.D) false),(9,I y.D.length),(10,I q.2)],(101,some (1, .box [.sl (AA y.U) false, .sl (Ai y.D) false]))::[],q.1⟩) (fun q=>q.2<=y.D.length/\∀j,j<q.2->Ez y.U (y.D.getD j default)=0) (fun q=>y.D.length - q.2) (_,0) ⟨zL _,fun j hj=>absurd hj (nZ _)⟩ (Af) ?_;rintro⟨ck,k⟩ ⟨hk,hj⟩;simp only at hk hj;refine xy1 (fun h=>?_) (fun h=>?_)
 .have Aa:k<y.D.length:=oM;have Bc:=Qig Aa hj;have Cz:Ez y.U (y.D.getD k default)=0->∀j,j<k+1->Ez y.U (y.D.getD j default)=0:=fun h j Ah=>by
   by_cases AF:j=k
   .subst AF;exact h
   exact hj j oM
  have hE:Ez y.U (y.D.getD k default)=_:=Ez.eq_1 _ _;generalize Ez y.U (y.D.getD k default)=r at*;generalize e1:y.D.getD k default=d at*;refine Ac (uI (By Aa) @e1) ?_;refine B5 ?_;refine A5 ?_;refine CE (fun q:Nat=>⟨[(1, .p 101 1 0 0 0),(4, .p 104 (ck+3) 0 0 0),(8, .sl (Ai y.D) false),(9,I y.D.length),(10,I k),(14,B (decide (¬d.a=1/\¬d.a=2)))],(104,some (ck+3, .box [I d.a,I d.b,I d.c]))::(101,some (1, .box [.sl (AA y.U) false, .sl (Ai y.D) false]))::[],q⟩) (fun _=>True) ?_ ?_
  .cases d1:decide (¬d.a=1) with
   |true=>
    have h1:=oT d1;cases d2:decide (¬d.a=2) with
    |true=>rw[dT (show ¬d.a=1/\¬d.a=2 from⟨h1,oT d2⟩)];refine Bg (uI @d1 @d2) ?_;refine⟨_,trivial,Af⟩|false=>have h2:=oF d2;rw[dF (show ¬(¬d.a=1/\¬d.a=2) from fun h=>h2 h.2)];refine Bg (uI @d1 @d2) ?_;refine⟨_,trivial,Af⟩
   |false=>have h1:=oF d1;rw[dF (show ¬(¬d.a=1/\¬d.a=2) from fun h=>h1 h.1)];refine Bg @d1 ?_;refine⟨_,trivial,Af⟩
  rintro ck1 -;refine GF (fun ca=>?_) (fun ca=>?_)
  .rw[iP ca] at hE;refine uZ ?_;rw[Bc oM,hE];exact uP
  rw[iN ca] at hE;cases d1:decide (d.b<0) with
  |true=>rw[iP (.inl (oT d1))] at hE;refine xq1 @d1 ?_;refine xy3 ?_;rw[Bc oM,hE];exact uP|false=>
   have g1:=oF d1;cases d2:decide ((y.U.length:Int)<=d.b) with
   |true=>rw[iP (.inr (.inl (oT d2)))] at hE;refine xq1 (uI @d1 @d2) ?_;refine xy3 ?_;rw[Bc oM,hE];exact uP|false=>
    have g2:=oF d2;cases d3:decide (d.c<0) with
    |true=>rw[iP (.inr (.inr (.inl (oT d3))))] at hE;refine xq1 (uI @d1 (uI @d2 @d3)) ?_;refine xy3 ?_;rw[Bc oM,hE];exact uP|false=>
     have g3:=oF d3;obtain⟨m,hm⟩:∃m,m=d.b.toNat:=⟨_,rfl⟩;have DF:d.b=(m:Int):=oM;rw[<-hm] at hE;have CW:m<y.U.length:=oM;generalize e2:y.U.getD m default=x at*;have d2':decide ((y.U.length:Int)<=m)=false:=dF oM;have d1':decide ((m:Int)<0)=false:=dF oM;cases d4:decide (x.ln<=d.c) with
     |true=>rw[iP (.inr (.inr (.inr (oT d4))))] at hE;refine xq1 (uI @DF (uI @d1' (uI @d2' (uI @d3 (uI (AG CW) (uI @e2 @d4)))))) ?_;refine xy3 ?_;rw[Bc oM,hE];exact uP|false=>have g4:=oF d4;rw[iN (fun h=>by rcases h with h|h|h|h<;>omega)] at hE;refine xq1 (uI @DF (uI @d1' (uI @d2' (uI @d3 (uI (AG CW) (uI @e2 @d4)))))) ?_;refine xy9 ?_;refine⟨(_,k+1),⟨uO,Cz hE⟩,uO,Af⟩
 refine At ?_;obtain rfl:k=y.D.length:=oM;rw[Wo hj];clear hj;refine xy4 ?_;refine Aw (fun q:Nat×Nat=>⟨[(1, .p 101 1 0 0 0),(54, .sl (Ai y.D) false),(55,I y.D.length),(56,I q.2)],(101,some (1, .box [.sl (AA y.U) false, .sl (Ai y.D) false]))::[],q.1⟩) (fun q=>q.2<=y.D.length/\∀j,j<q.2->Gl y.D j=true) (fun q=>y.D.length - q.2) (_,0) ⟨zL _,fun j hj=>absurd hj (nZ _)⟩ (Af) ?_;rintro⟨ck2,k⟩ ⟨hk,hj⟩;simp only at hk hj;refine xy1 (fun h=>?_) (fun h=>?_)
 .have Aa:k<y.D.length:=oM;have H6:=pI (y.D.take k) (y.D.getD k default) vv9;have Bc:Gl y.D k=false->(List.range y.D.length).all (Gl y.D)=false:=MQ Aa;have Cz:Gl y.D k=true->∀j,j<k+1->Gl y.D j=true:=fun h j Ah=>by
   by_cases AF:j=k
   .subst AF;exact h
   exact hj j oM
  unfold Gl at Bc Cz;have G4:(y.D.take k).length=k:=vv9;generalize ((y.D.take k).any fun z=>CD (y.D.getD k default) z)=v at*;generalize e1:y.D.getD k default=d at*;refine Ac (uI (By Aa) @e1) ?_;refine Cv (uI @S6 @G4) ?_;intro K hK;refine⟨oM,?_⟩;refine xw6 H6 ?_;refine hK _ ?_;clear hK K;cases v with
  |true=>rw[iN (fun h=>absurd (h.symm.trans (Bc rfl)) dM)];exact xz7|false=>refine xy9 ?_;refine⟨(_,k+1),⟨uO,Cz rfl⟩,uO,Af⟩
 refine At ?_;rw[iP (IN fun j Ah=>hj j oM)];exact xz5
theorem YY (n:Int):∀(l:List (Int×Int)) (i:Nat),Hc n l (i+1)=(Hc n l i).map fun q=>(q.1+1,q.2)
 |[],_=>rfl|p::l,i=>by
  rw[Hc,Hc];split
  .rfl
  exact YY n l (i+1)
theorem SQ (p:Int×Int) (l:List (Int×Int)) (m:Int):HM (p::l) m=if m=p.1 then p.2 else HM l m:=by
 unfold HM;rw[Hc];by_cases h:m=p.1
 .rw[iP h,iP h]
 rw[iN h,iN h,YY];cases Hc m l 0<;>rfl
theorem zI (p:Int×Int) (l:List (Int×Int)) (n v:Int):KT (p::l) n v=if n=p.1 then(n,v)::l else p::KT l n v:=by
 unfold KT;rw[Hc];by_cases h:n=p.1
 .rw[iP h,iP h];rfl
 rw[iN h,iN h,YY];cases Hc n l 0 with
 |none=>rfl|some q=>rfl
theorem YZ (n v m:Int):∀l:List (Int×Int),HM (KT l n v) m=if m=n then v else HM l m
 |[]=>by show HM [(n,v)] m=_;rw[SQ]|p::l=>by
  rw[zI];split
  .rename_i h;rw[SQ,SQ];by_cases hm:m=n
   .simp[hm]
   simp[hm,<-h]
  rename_i h;rw[SQ,SQ,YZ n v m l];by_cases hm:m=n
  .subst hm;simp[h]
  simp[hm]
def L0 (ex:List Int) (k i:Int):Int:=(ex.countP fun e=>decide (e=i)&&!decide (e=k):Nat)
theorem jd (ex:List Int) (e k i:Int):L0 (ex++[e]) k i=L0 ex k i+if e=i/\¬e=k then 1 else 0:=by
 unfold L0;rw[List.countP_append];by_cases h:e=i/\¬e=k
 .rw[iP h];simp[h.1,h.2,List.countP_cons];rw[<-h.1];simp[h.2]
 rw[iN h];have:(decide (e=i)&&!decide (e=k))=false:=by
  by_cases h1:e=i
  .have:e=k:=Decidable.byContradiction fun h2=>h ⟨h1,h2⟩;simp[this]
  simp[h1]
 simp[List.countP_cons,this]
theorem U5 (ex:List Int) (k i:Int):0<=L0 ex k i:=by unfold L0;omega
theorem Ze (ex:List Int) (k i:Int):L0 ex k i<=ex.length:=by unfold L0;have:=List.countP_le_length (l:=ex) (p:=fun e=>decide (e=i)&&!decide (e=k));omega
theorem Qbb {ex:List Int} {k i:Int}:L0 ex k i=0↔¬(¬k=i/\i∈ex):=by
 unfold L0;rw[show((ex.countP fun e=>decide (e=i)&&!decide (e=k):Nat):Int)=0↔(ex.countP fun e=>decide (e=i)&&!decide (e=k))=0 by omega,List.countP_eq_zero];constructor
 .rintro h ⟨h1,h2⟩;have:=h i h2;simp at this;exact h1 this.symm
 intro h a ha h2;simp only[Bool.and_eq_true,decide_eq_true_eq,Bool.not_eq_true',decide_eq_false_iff_not] at h2;obtain⟨rfl,h3⟩:=h2;exact h ⟨fun h4=>h3 h4.symm,ha⟩
def DN (xs:List Nd) (out:List Int) (i:Int):Nat->Int
 |0=>0|k+1=>DN xs out i k+if(k:Int)∈out then 0 else L0 (xs.getD k default).ex k i
theorem VF (xs:List Nd) (out:List Int) (i:Int):∀k,0<=DN xs out i k
 |0=>Int.le_refl _|k+1=>by have:=VF xs out i k;have:=U5 (xs.getD k default).ex k i;rw[DN];split<;>omega
theorem Z4 {xs:List Nd} {out:List Int} {i:Int} (hx:∀k,k<xs.length->(xs.getD k default).ex.length<=1000):∀k,k<=xs.length->DN xs out i k<=1000*k
 |0,_=>by simp[DN]|k+1,h=>by have:=Z4 (out:=out) (i:=i) hx k oM;have:=Ze (xs.getD k default).ex k i;have:=hx k oM;rw[DN];split<;>omega
theorem kW {xs:List Nd} {out:List Int} {i:Int}:∀{n},DN xs out i n=0↔∀k,k<n->¬(k:Int)∈out->L0 (xs.getD k default).ex k i=0
 |0=>by simp[DN]|n+1=>by
  have ih:=kW (xs:=xs) (out:=out) (i:=i) (n:=n);have h1:=VF xs out i n;have h2:=U5 (xs.getD n default).ex n i;rw[DN];constructor
  .intro h k hk OI;have hw:DN xs out i n=0:=by split at h<;>omega
   by_cases Cp:k=n
   .subst Cp;rw[iN OI] at h;omega
   exact ih.1 hw k oM OI
  intro h;have hw:=ih.2 fun k hk=>h k oM;rw[hw];split
  .rfl
  rename_i ho;rw[h n oM ho];rfl
theorem kV {xs:List Nd} {out:List Int} {i:Int} {m:Nat} (hm:¬(m:Int)∈out):∀n,DN xs (out++[(m:Int)]) i n=DN xs out i n - if m<n then L0 (xs.getD m default).ex m i else 0
 |0=>by simp[DN]|n+1=>by
  have ih:=kV (xs:=xs) (i:=i) hm n;rw[DN,DN,ih];by_cases CW:m=n
  .subst CW;simp[hm]
  have e1:((n:Int)∈out++[(m:Int)])↔(n:Int)∈out:=by simp only[List.mem_append,List.mem_singleton];exact⟨fun h=>h.elim id fun h=>oM, .inl⟩
  simp only[e1];by_cases Aa:m<n
  .simp only[iP Aa,iP (show m<n+1 by omega)];split<;>omega
  simp only[iN Aa,iN (show ¬m<n+1 by omega)];split<;>omega
theorem QM {xs:List Nd} {out:List Int} {i:Nat}:∀{n},EC xs out i n=true↔¬(i:Int)∈out/\∀k,k<n->KR (xs.getD k default) k i=true->(k:Int)∈out
 |0=>by simp[EC]|n+1=>by
  rw[EC];constructor
  .intro h;split at h
   .cases h
   rename_i h2;obtain⟨h3,h4⟩:=QM.1 h;refine⟨h3,fun k hk hl=>?_⟩;by_cases Cp:k=n
   .subst Cp;exact Decidable.byContradiction fun ho=>h2 ⟨hl,ho⟩
   exact h4 k oM hl
  rintro⟨h1,h2⟩;rw[iN (fun h=>h.2 (h2 n oM h.1))];exact QM.2 ⟨h1,fun k hk=>h2 k oM⟩
theorem Qb5 {xs:List Nd} {out:List Int} {i:Nat}:EC xs out i xs.length=(!decide ((i:Int)∈out)&&decide (DN xs out i xs.length=0)):=by rw[Bool.eq_iff_iff,QM];simp only[Bool.and_eq_true,Bool.not_eq_true',decide_eq_false_iff_not,decide_eq_true_eq,kW,Qbb,KR];refine and_congr_right fun _=>⟨fun h k hk ho h2=>ho (h k hk h2),fun h k hk h2=>Decidable.byContradiction fun ho=>h k hk ho h2⟩
theorem iO {xs:List Nd} {out:List Int} {i:Nat} (hi:i<xs.length) (h:EC xs out i xs.length=true) (hb:∀j,j<i->EC xs out j xs.length=false):Gb xs out=i:=by
 have:∀c,c<=xs.length->xs.length - c<=i->Ga xs out c=i:=by
  intro c;induction c with
  |zero=>intro _ h2;omega|succ c ih=>
   intro h1 h2;rw[Ga];by_cases he:xs.length - 1 - c=i
   .rw[he,iP h]
   rw[hb _ oM,iN dM];exact ih oM oM
 exact this xs.length (lR _) oM
theorem Qan {xs:List Nd} {out:List Int} (hb:∀j,j<xs.length->EC xs out j xs.length=false):Gb xs out=-1:=by
 have:∀c,c<=xs.length->Ga xs out c=-1:=by
  intro c;induction c with
  |zero=>intro _;rfl|succ c ih=>intro h1;rw[Ga,hb _ oM,iN dM];exact ih oM
 exact this xs.length (lR _)
def dl (N:Nat) (o:List Int):List Bool:=(List.range N).map fun(i:Nat)=>decide ((i:Int)∈o)
theorem PW (N:Nat) (o:List Int):(dl N o).length=N:=by simp[dl]
theorem p5 {N i:Nat} {o:List Int} (h:i<N):(dl N o).getD i false=decide ((i:Int)∈o):=by simp[dl,h]
theorem Rh (N:Nat):List.replicate N false=dl N []:=by
 apply List.ext_getElem
 .simp[dl]
 intro i h1 h2;simp[dl]
theorem p6 {N m:Nat} {o:List Int}:(dl N o).set m true=dl N (o++[(m:Int)]):=by
 apply List.ext_getElem
 .simp[dl]
 intro i h1 h2;rw[List.getElem_set];by_cases h:m=i
 .subst h;simp[dl]
 have:¬(i:Int)=(m:Int):=oM;simp[dl,h,this]
theorem iR {xs:List Nd} {out:List Int}:∀c,0<=Ga xs out c->EC xs out (Ga xs out c).toNat xs.length=true
 |0,h=>by rw[Ga] at h;omega|c+1,h=>by
  rw[Ga] at h ⊢;by_cases h2:EC xs out (xs.length - 1 - c) xs.length=true
  .rw[iP h2,Int.toNat_natCast];exact h2
  rw[iN h2] at h ⊢;exact iR c h
theorem jY (y:Ly) (hy:y.U.length<=1000) (hx:∀i,i<y.U.length->(y.U.getD i default).ex.length<=1000) (hr:∀i,i<y.U.length->∀j,j<(y.U.getD i default).ex.length->0<=(y.U.getD i default).ex.getD j 0/\(y.U.getD i default).ex.getD j 0<y.U.length):
  Ag prog Ad 145 [] [y.av] [] (IS (Dz y.U)):=by
 refine Am func145 ntmps145 ?_;intro w e X hC;refine xy4 ?_;refine Aw (fun q:Nat×Nat×List (Int×Int)=>⟨[(1, .p 101 1 0 0 0),(3, .mpO 114 3),(16, .sl (AA y.U) false),(17,I y.U.length),(18,I q.2.1)],(114,some (3, .mp q.2.2))::(101,some (1, .box [.sl (AA y.U) false, .sl (Ai y.D) false]))::[],q.1⟩) (fun q=>q.2.1<=y.U.length/\∀i,HM q.2.2 i=DN y.U [] i q.2.1) (fun q=>y.U.length - q.2.1) (_,0,[]) ⟨zL _,fun _=>rfl⟩ (Af) ?_;rintro⟨ck,a,es⟩ ⟨ha,Iy⟩;simp only at ha Iy;refine xy1 (fun h=>?_) (fun h=>?_)
 .have Aa:a<y.U.length:=oM;have xr:=hx a Aa;have hW:∀i,DN y.U [] i (a+1)=DN y.U [] i a+L0 (y.U.getD a default).ex a i:=fun i=>by rw[DN,iN sM]
  have Xb:∀i,DN y.U [] i a<=1000*a:=fun i=>Z4 hx a ha;have Xc:∀i,0<=DN y.U [] i a:=fun i=>VF _ _ _ _;generalize e1:y.U.getD a default=x at*;refine Bg (uI (AG Aa) @e1) ?_;refine uW ?_;refine Aw (fun q:Nat×Nat×List (Int×Int)=>⟨[(1, .p 101 1 0 0 0),(3, .mpO 114 3),(4,I a),(16, .sl (AA y.U) false),(17,I y.U.length),(18,I a),(24,IS x.ex),(25,I x.ex.length),(26,I q.2.1)],(114,some (3, .mp q.2.2))::(101,some (1, .box [.sl (AA y.U) false, .sl (Ai y.D) false]))::[],q.1⟩) (fun q=>q.2.1<=x.ex.length/\∀i,HM q.2.2 i=DN y.U [] i a+L0 (x.ex.take q.2.1) a i) (fun q=>x.ex.length - q.2.1) (_,0,es) ⟨zL _,fun i=>by simp only[List.take_zero];rw[Iy i,L0];simp⟩ (Af) ?_;rintro⟨ck2,c,es2⟩ ⟨hc,I5⟩;simp only at hc I5;refine xy1 (fun h2=>?_) (fun h2=>?_)
  .have Gv:c<x.ex.length:=oM;have G4:=Jp (d:=0) Gv;have hO:∀i,L0 (x.ex.take (c+1)) a i=L0 (x.ex.take c) a i+if x.ex.getD c 0=i/\¬x.ex.getD c 0=a then 1 else 0:=fun i=>by rw[G4,jd]
   have RF:∀i,L0 (x.ex.take c) a i<=c:=fun i=>by have:=Ze (x.ex.take c) a i;rw[List.length_take] at this;omega
   have W7:∀i,0<=L0 (x.ex.take c) a i:=fun i=>U5 _ _ _;generalize e2:x.ex.getD c 0=e at*;have Nz:=I5 e;have:=Xb e;have:=Xc e;have:=RF e;have:=W7 e;refine Bg (uI (Ao Gv) @e2) ?_;refine GF (fun h3=>?_) (fun h3=>?_)
   .refine uZ ?_;refine⟨(_,c+1,KT es2 e (HM es2 e+1)),⟨uO,fun i=>?_⟩,uO,Af⟩;simp only;rw[YZ,hO i,I5 e,I5 i];by_cases hi:i=e
    .subst hi;rw[iP rfl,iP ⟨rfl,h3⟩];omega
    rw[iN hi,iN (fun h=>hi h.1.symm)];omega
   refine uZ ?_;refine⟨(_,c+1,es2),⟨uO,fun i=>?_⟩,uO,Af⟩;simp only;rw[hO i,I5 i,iN (fun h=>h3 h.2)];omega
  refine xq6 ?_;refine⟨(_,a+1,es2),⟨uO,fun i=>?_⟩,uO,Af⟩;simp only;rw[hW i,I5 i,List.take_of_length_le oM]
 refine At ?_;obtain rfl:a=y.U.length:=oM;clear h ha;refine xy4 ?_;refine Aw (fun q:Nat×Nat×List (Int×Int)×Nat×Nat=>⟨[(1, .p 101 1 0 0 0),(3, .mpO 114 3),(8, .l 108 q.2.2.2.2 0 q.2.1),(9, .l 142 q.2.2.2.1 0 y.U.length),(45,I y.U.length),(46,I q.2.1)],
  (142,some (q.2.2.2.1, .own 4 1 (Er (dl y.U.length (CA y.U q.2.1)))))::(108,some (q.2.2.2.2, .own 3 1 (As (CA y.U q.2.1))))::(114,some (3, .mp q.2.2.1))::(101,some (1, .box [.sl (AA y.U) false, .sl (Ai y.D) false]))::[],q.1⟩)
  (fun q=>q.2.1<=y.U.length/\(CA y.U q.2.1).length=q.2.1/\∀i,HM q.2.2.1 i=DN y.U (CA y.U q.2.1) i y.U.length) (fun q=>y.U.length - q.2.1) (_,0,es,ck+5,ck+1) ⟨zL _,rfl,Iy⟩ (.of (lR _) (by repeat (first|exact AX.nil|refine AX.cons rfl ?_|refine AX.gone ?_|refine AX.opt rfl ?_|(refine AX.cons ?_ ?_;(focus (simp only[go_sem,seval,-Int.reduceNatCast',CA,<-Rh];done)))|(refine AX.less rfl (FV.ofBW ?_) ?_;(focus ((repeat (first|exact BW.nil|refine BW.same ?_|(refine BW.frz ?_ ?_ ?_ ?_;(focus (first|exact trivial|(simp only[go_sem,seval,-Int.reduceNatCast',CA,<-Rh]<;>trivial)));(focus (first|rfl|((simp only[go_sem,seval,-Int.reduceNatCast',CA,<-Rh]<;>rfl);done)));(focus (first|(simp only[go_sem,seval,-Int.reduceNatCast',CA,<-Rh];done)|((simp only[go_sem,seval,-Int.reduceNatCast',CA,<-Rh]<;>simp);done)|(simp;done)))))));done)))) A4) ?_
 clear Iy;rintro⟨ck,n,es,g1,g2⟩ ⟨hn,AR,Iy⟩;simp only at hn AR Iy;have e1:CA y.U (n+1)=_:=CA.eq_2 y.U n;have AM:Gb y.U (CA y.U n)<0->Dz y.U=CA y.U n:=fun h=>by have:=Zd h (y.U.length - n);rw[show n+(y.U.length - n)=y.U.length by omega] at this;exact this
 have Xz:n=y.U.length->Dz y.U=CA y.U n:=fun h=>by rw[h];rfl
 generalize CA y.U n=o at*;refine xy1 (fun h=>?_) (fun h=>?_)
 .have Aa:n<y.U.length:=oM;refine uA ?_;refine A5 ?_;refine CE (fun q:Nat=>⟨[(1, .p 101 1 0 0 0),(3, .mpO 114 3),(8, .l 108 g2 0 n),(9, .l 142 g1 0 y.U.length),(10,I (Gb y.U o)),(45,I y.U.length),(46,I n)],
   (142,some (g1, .own 4 1 (Er (dl y.U.length o))))::(108,some (g2, .own 3 1 (As o)))::(114,some (3, .mp es))::(101,some (1, .box [.sl (AA y.U) false, .sl (Ai y.D) false]))::[],q⟩) (fun _=>True) ?_ ?_
  .refine xy4 ?_;refine Aw (fun q:Nat×Nat=>⟨[(1, .p 101 1 0 0 0),(3, .mpO 114 3),(8, .l 108 g2 0 n),(9, .l 142 g1 0 y.U.length),(10,I (-1)),(45,I y.U.length),(46,I n),(50,I y.U.length),(51,I q.2)],
    (142,some (g1, .own 4 1 (Er (dl y.U.length o))))::(108,some (g2, .own 3 1 (As o)))::(114,some (3, .mp es))::(101,some (1, .box [.sl (AA y.U) false, .sl (Ai y.D) false]))::[],q.1⟩) (fun q=>q.2<=y.U.length/\∀j,j<q.2->EC y.U o j y.U.length=false) (fun q=>y.U.length - q.2) (_,0) ⟨zL _,fun j hj=>absurd hj (nZ _)⟩ (Af) ?_
   rintro⟨ck2,i⟩ ⟨hi,hj⟩;simp only at hi hj;refine xy1 (fun h2=>?_) (fun h2=>?_)
   .have DQ:i<y.U.length:=oM;have DU:=Qb5 (xs:=y.U) (out:=o) (i:=i);have uz:EC y.U o i y.U.length=true->Gb y.U o=i:=fun h=>iO DQ h hj;have Cz:EC y.U o i y.U.length=false->∀j,j<i+1->EC y.U o j y.U.length=false:=fun h j Ah=>by
     by_cases AF:j=i
     .subst AF;exact h
     exact hj j oM
    generalize EC y.U o i y.U.length=r at*;rw[<-Iy i] at DU;have Al:i<(dl y.U.length o).length:=by rw[PW];exact DQ
    have Nu:=p5 (o:=o) DQ;cases c1:decide ((i:Int)∈o) with
    |true=>rw[c1] at DU Nu;simp only[Bool.not_true,Bool.false_and] at DU;refine uA ?_;refine IB (uI (Q9 Al) (uI @Nu @PW)) ?_;refine⟨(_,i+1),⟨uO,Cz DU⟩,uO,Af⟩|false=>
     rw[c1] at DU Nu;simp only[Bool.not_false,Bool.true_and] at DU;cases c2:decide (HM es i=0) with
     |true=>rw[c2] at DU;refine uA ?_;refine IB (uI (Q9 Al) (uI @Nu (uI @PW @c2))) ?_;refine At ?_;refine⟨_,trivial, .of (lR _) Cb (AS (uz DU))⟩|false=>rw[c2] at DU;refine uA ?_;refine IB (uI (Q9 Al) (uI @Nu (uI @PW @c2))) ?_;refine⟨(_,i+1),⟨uO,Cz DU⟩,uO,Af⟩
   refine At ?_;have v8:Gb y.U o=-1:=Qan fun j Ah=>hj j oM;refine⟨_,trivial, .of (lR _) Cb (AS @v8)⟩
  rintro ck2 -;refine xy1 (fun h2=>?_) (fun h2=>?_)
  .have e5:=AM h2;refine xq6 ?_;(refine Ay (QO (Vv @AR) ?_);try rfl)
   exact Aq (uI @AR @e5)
  rw[iN h2] at e1;have DU:EC y.U o (Gb y.U o).toNat y.U.length=true:=iR _ (by show 0<=Gb y.U o;omega);have Gv:Gb y.U o<max 1 (y.U.length:Int):=iQ _;obtain⟨m,hm⟩:∃m,m=(Gb y.U o).toNat:=⟨_,rfl⟩;rw[<-hm] at DU;have DF:Gb y.U o=(m:Int):=oM;rw[DF] at e1;have CW:m<y.U.length:=oM;have XZ:¬(m:Int)∈o:=(QM.1 DU).1;have hW:∀i,DN y.U (o++[(m:Int)]) i y.U.length=DN y.U o i y.U.length - L0 (y.U.getD m default).ex m i:=fun i=>by rw[kV XZ,iP CW]
  have Xb:∀i,DN y.U o i y.U.length<=1000*y.U.length:=fun i=>Z4 hx _ (lR _);have Xc:∀i,0<=DN y.U o i y.U.length:=fun i=>VF _ _ _ _;have xr:=hx m CW;have I4:=PW y.U.length o;have DO:=p6 (N:=y.U.length) (m:=m) (o:=o);have wj:(o++[(m:Int)]).length=n+1:=by simp[AR]
  generalize e3:y.U.getD m default=x at*;refine Bg (uI @DF (uI @AR (uI @PW (uI @DO (uI (AG CW) @e3))))) ?_;refine uW ?_;refine Aw (fun q:Nat×Nat×List (Int×Int)×Nat=>⟨[(1, .p 101 1 0 0 0),(3, .mpO 114 3),(8, .l 108 q.2.2.2 0 (n+1)),(9, .l 142 g1 0 y.U.length),(10,I m),(45,I y.U.length),(46,I n),(81,IS x.ex),(82,I x.ex.length),(83,I q.2.1)],
   (142,some (g1, .own 4 1 (Er (dl y.U.length (o++[(m:Int)])))))::(108,some (q.2.2.2, .own 3 1 (As (o++[(m:Int)]))))::(114,some (3, .mp q.2.2.1))::(101,some (1, .box [.sl (AA y.U) false, .sl (Ai y.D) false]))::[],q.1⟩)
   (fun q=>q.2.1<=x.ex.length/\∀i,HM q.2.2.1 i=DN y.U o i y.U.length - L0 (x.ex.take q.2.1) m i) (fun q=>x.ex.length - q.2.1) (_,0,es,_) ⟨zL _,fun i=>by simp only[List.take_zero];rw[Iy i,L0];simp⟩ (.of (lR _) (Ax @AR) (AS @AR)) ?_
  rintro⟨ck3,c,es2,g3⟩ ⟨hc,I5⟩;simp only at hc I5;refine xy1 (fun h5=>?_) (fun h5=>?_)
  .have OM:c<x.ex.length:=oM;have G4:=Jp (d:=0) OM;have hO:∀i,L0 (x.ex.take (c+1)) m i=L0 (x.ex.take c) m i+if x.ex.getD c 0=i/\¬x.ex.getD c 0=m then 1 else 0:=fun i=>by rw[G4,jd]
   have RF:∀i,L0 (x.ex.take c) m i<=c:=fun i=>by have:=Ze (x.ex.take c) m i;rw[List.length_take] at this;omega
   have W7:∀i,0<=L0 (x.ex.take c) m i:=fun i=>U5 _ _ _;generalize e6:x.ex.getD c 0=e at*;have Nz:=I5 e;have:=Xb e;have:=Xc e;have:=RF e;have:=W7 e;refine Bg (uI (Ao OM) @e6) ?_;refine GF (fun h6=>?_) (fun h6=>?_)
   .refine uZ ?_;refine⟨(_,c+1,KT es2 e (HM es2 e - 1),_),⟨uO,fun i=>?_⟩,uO,Af⟩;simp only;rw[YZ,hO i,I5 e,I5 i];by_cases hi:i=e
    .subst hi;rw[iP rfl,iP ⟨rfl,h6⟩];omega
    rw[iN hi,iN (fun h=>hi h.1.symm)];omega
   refine uZ ?_;refine⟨(_,c+1,es2,_),⟨uO,fun i=>?_⟩,uO,Af⟩;simp only;rw[hO i,I5 i,iN (fun h=>h6 h.2)];omega
  refine xq6 ?_;refine⟨(_,n+1,es2,g1,g3),⟨uO,by simp only;rw[e1];exact wj,fun i=>?_⟩,uO, .of (lR _) (Ax @e1) A4⟩;simp only;rw[e1,hW i,I5 i,List.take_of_length_le oM]
 refine At ?_;have e4:=Xz oM;refine uZ ?_;(refine Ay (QO (Vv @AR) ?_);try rfl)
 exact Aq (uI @AR @e4)
def HT (A n:Nat) (e:Int):Int:=if e<=A\/e=(n:Int) - 2 then 0 else 1
def EX (A n i:Nat) (z:Int) (e:Int):Prop:=(i:Int)<e/\e<n/\HT A n e=z
structure Q2 (A n i:Nat) (x:Nd):Prop where
 kd:1<=x.kd/\x.kd<=9
 k1:x.kd=1↔i=0
 k6:x.kd=6->i=A
 k8:8<=x.kd->A<i
 zn:x.zn=HT A n i
 z0:x.kd=1\/x.kd=3\/x.kd=6->x.zn=0
 z1:x.kd=7\/x.kd=8->x.zn=1
 ln:x.kd<=6->1<=x.ln/\x.ln<=4
 l5:x.kd=5->2<=x.ln
 l0:7<=x.kd->x.ln=0
 ex:(8<=x.kd/\x.ex=[])\/((x.kd=1\/x.kd=2\/x.kd=3\/x.kd=7)/\∃e,x.ex=[e]/\EX A n i x.zn e)\/
  (x.kd=4/\∃e f,x.ex=[e,f]/\e≠f/\EX A n i x.zn e/\EX A n i x.zn f)\/
  (x.kd=5/\∃f,x.ex=[(i:Int),f]/\EX A n i x.zn f)\/
  (x.kd=6/\∃e f,x.ex=[e,f]/\e≠f/\EX A n i 0 e/\EX A n i 1 f)
theorem dO {l:List Int} {a:Nat} {es:List Int} {x:Int}:((gO l a es x).1=-1/\Ae es x=[])\/((gO l a es x).1∈es/\(gO l a es x).1≠x):=by
 unfold gO;split
 .next h=>exact .inl ⟨rfl,h⟩
 next h=>
 refine .inr ?_;have hl:0<(Ae es x).length:=List.length_pos_iff.mpr h;have hb:=Lh (l:=l) (a:=a) (n:=((Ae es x).length:Int)) oM;have hm:=P7 (l:=Ae es x) (n:=(gN l a (Ae es x).length).toNat) oM;simp only;rw[Ae,List.mem_filter] at hm;exact⟨hm.1,oT hm.2⟩
theorem Rv {l:List Int} {a:Nat} {es:List Int} (h:es≠[]):gP l a es∈es:=by have hl:0<es.length:=List.length_pos_iff.mpr h;have hb:=Lh (l:=l) (a:=a) (n:=(es.length:Int)) oM;exact P7 oM
theorem Qce {es:List Int} {x:Int} (h:es≠[]) (hx:x∉es):Ae es x≠[]:=by
 obtain⟨y,hy⟩:=List.exists_mem_of_ne_nil es h;intro h0;have:y∈Ae es x:=by rw[Ae,List.mem_filter];exact⟨hy,by simp;intro h;exact hx (h ▸ hy)⟩
 rw[h0] at this;cases this
theorem WO {l:List Int} {a:Nat} {i z:Int} {kinds to:List Int} (hk:kinds≠[]) (ht:to≠[]) (P:Int->Prop) (hP:∀e∈to,P e/\0<=e):
  ((gS l a i z kinds to).1.kd∈kinds\/((gS l a i z kinds to).1.kd=2/\4∈kinds))/\(gS l a i z kinds to).1.zn=z/\(1<=(gS l a i z kinds to).1.ln/\(gS l a i z kinds to).1.ln<=4)/\((gS l a i z kinds to).1.kd=5->2<=(gS l a i z kinds to).1.ln)/\
  (((gS l a i z kinds to).1.kd=5/\∃f,(gS l a i z kinds to).1.ex=[i,f]/\P f)\/((gS l a i z kinds to).1.kd=4/\∃e f,(gS l a i z kinds to).1.ex=[e,f]/\e≠f/\P e/\P f)\/
   ((gS l a i z kinds to).1.kd≠4/\(gS l a i z kinds to).1.kd≠5/\∃e,(gS l a i z kinds to).1.ex=[e]/\P e)):=by
 have Fo:(-1:Int)∉to:=fun h=>by have:=(hP _ h).2;omega
 have Mp:=Rv (l:=l) (a:=a) hk;have AK:=Iu (l:=l) (a:=a+1) (lo:=1) (hi:=3) oM;have hf:P (gO l (a+2) to (-1)).1:=by
  rcases dO (l:=l) (a:=a+2) (es:=to) (x:=-1) with ⟨_,h⟩|⟨h,_⟩
  .exact absurd h (Qce ht Fo)
  exact(hP _ h).1
 unfold gS;simp only;split
 .next h5=>
  refine⟨.inl Mp,rfl,?_,?_, .inl ⟨h5,_,rfl,hf⟩⟩
  .simp only;omega
  simp only;omega
 next h5=>
 split
 .next h4=>
  rcases dO (l:=l) (a:=(gO l (a+2) to (-1)).2) (es:=to) (x:=(gO l (a+2) to (-1)).1) with ⟨h,_⟩|⟨h,Bj⟩
  .rw[iP oM];exact⟨.inr ⟨rfl,h4 ▸ Mp⟩,rfl,uO,fun h=>vz3, .inr (.inr ⟨show(2:Int)≠4 by decide,show(2:Int)≠5 by decide,_,rfl,hf⟩)⟩
  have:=(hP _ h);rw[iN oM];exact⟨.inl Mp,rfl,uO,fun h=>absurd h h5, .inr (.inl ⟨h4,_,_,rfl,fun h=>Bj h.symm,hf,this.1⟩)⟩
 next h4=>exact⟨.inl Mp,rfl,uO,fun h=>absurd h h5, .inr (.inr ⟨h4,h5,_,rfl,hf⟩)⟩
theorem ZY {lo:Nat} {e:Int}:∀{k:Nat},e∈Kf lo k->(lo:Int)<=e/\e<lo+k
 |0,h=>by simp[Kf] at h|k+1,h=>by
  rw[Kf,List.mem_append,List.mem_singleton] at h;rcases h with h|h
  .have:=ZY h;omega
  omega
structure Sz (A B n:Nat):Prop where
 a:1<=A/\A<=3
 b:B<=3
 n:A+1+B+1+2<=n/\n<=A+1+B+2+2
theorem Qhf {A B n i:Nat} (h:Sz A B n) (hi:i<=A):∀e∈GH A n i,EX A n i 0 e/\0<=e:=by
 obtain⟨h1,h2,h3⟩:=h;intro e he;rw[GH,List.mem_append,List.mem_singleton] at he;unfold EX HT;rcases he with he|he
 .have:=ZY he;rw[iP oM];omega
 rw[iP oM];omega
theorem Qaz {A B n i:Nat} (h:Sz A B n) (hi:i<A+1+B):∀e∈Fw A n i,EX A n i 1 e/\0<=e:=by
 obtain⟨h1,h2,h3⟩:=h;intro e he;rw[Fw,List.mem_append,List.mem_singleton] at he;unfold EX HT;rcases he with he|he
 .have:=ZY he;rw[iN oM];omega
 rw[iN oM];omega
theorem iU {A n i:Nat}:Fw A n i≠[]:=by simp[Fw]
theorem lg {A n i:Nat}:GH A n i≠[]:=by simp[GH]
theorem zg {l:List Int} {A B n i a:Nat} (h:Sz A B n) (hi:i<n) (nm:ByteArray):Q2 A n i {(D3 l A B n i a).1 with nm:=nm}:=by
 obtain⟨h1,h2,h3⟩:=h;have hz:=Qhf (i:=i) ⟨h1,h2,h3⟩;have ho:=Qaz (i:=i) ⟨h1,h2,h3⟩;unfold D3;by_cases c0:i=0
 .rw[iP c0];obtain⟨g1,g2,g3,g4,g5⟩:=WO (l:=l) (a:=a) (i:=(i:Int)) (z:=0) (kinds:=[1]) sM lg (EX A n i 0) (hz oM);generalize (gS l a i 0 [1] (GH A n i)).1=x at*;have GY:x.kd=1:=by
   rcases g1 with g1|⟨_,g1⟩
   .simpa using g1
   simp at g1
  refine⟨uO,uO,uO,uO,?_,fun _=>g2,uO,fun _=>g3,uO,uO, .inr (.inl ⟨.inl GY,?_⟩)⟩
  .simp only;rw[g2,HT,iP oM]
  simp only;rw[g2];rcases g5 with ⟨g,_⟩|⟨g,_⟩|⟨_,_,g⟩
  .omega
  .omega
  exact g
 rw[iN c0];by_cases c1:i<A
 .rw[iP c1];obtain⟨g1,g2,g3,g4,g5⟩:=WO (l:=l) (a:=a) (i:=(i:Int)) (z:=0) (kinds:=[2,3,4,5,3]) sM lg (EX A n i 0) (hz oM);generalize (gS l a i 0 [2,3,4,5,3] (GH A n i)).1=x at*;have GY:x.kd=2\/x.kd=3\/x.kd=4\/x.kd=5:=by
   rcases g1 with g1|⟨g1,_⟩
   .simp at g1;omega
   exact .inl g1
  refine⟨uO,uO,uO,uO,?_,fun _=>g2,uO,fun _=>g3,g4,uO,?_⟩
  .simp only;rw[g2,HT,iP oM]
  simp only;rw[g2];rcases g5 with ⟨g,g'⟩|⟨g,g'⟩|⟨g,g'',g'⟩
  .exact .inr (.inr (.inr (.inl ⟨g,g'⟩)))
  .exact .inr (.inr (.inl ⟨g,g'⟩))
  exact .inr (.inl ⟨oM,g'⟩)
 rw[iN c1];by_cases c2:i=A
 .rw[iP c2];have hg:=Rv (l:=l) (a:=a+1) (iU (A:=A) (n:=n) (i:=i));have he:=(ho oM _ hg).1;have hr:=Iu (l:=l) (a:=a) (lo:=1) (hi:=3) oM;refine⟨uO,uO,fun _=>c2,uO,?_,fun _=>rfl,uO,fun _=>uO,uO,uO, .inr (.inr (.inr (.inr ⟨rfl,_,_,rfl,?_,?_,he⟩)))⟩
  .simp only;rw[HT,iP oM]
  .intro h;rw[<-h] at he;have:=he.2.2;rw[HT,iP oM] at this;omega
  unfold EX HT;rw[iP oM];omega
 rw[iN c2];by_cases c3:i<A+1+B
 .rw[iP c3];obtain⟨g1,g2,g3,g4,g5⟩:=WO (l:=l) (a:=a) (i:=(i:Int)) (z:=1) (kinds:=[2,4,5,7]) sM iU (EX A n i 1) (ho c3);simp only;generalize (gS l a i 1 [2,4,5,7] (Fw A n i))=x at*;have GY:x.1.kd=2\/x.1.kd=4\/x.1.kd=5\/x.1.kd=7:=by
   rcases g1 with g1|⟨g1,_⟩
   .simp at g1;omega
   exact .inl g1
  have O3:x.1.zn=HT A n i:=by rw[g2,HT,iN oM]
  split
  .next h7=>
   refine⟨uO,uO,uO,uO,O3,uO,fun _=>g2,uO,uO,fun _=>rfl,?_⟩;simp only;rw[g2];rcases g5 with ⟨g,g'⟩|⟨g,g'⟩|⟨g,g'',g'⟩
   .omega
   .omega
   exact .inr (.inl ⟨oM,g'⟩)
  next h7=>
  refine⟨uO,uO,uO,uO,O3,uO,fun _=>g2,fun _=>g3,g4,uO,?_⟩;simp only;rw[g2];rcases g5 with ⟨g,g'⟩|⟨g,g'⟩|⟨g,g'',g'⟩
  .exact .inr (.inr (.inr (.inl ⟨g,g'⟩)))
  .exact .inr (.inr (.inl ⟨g,g'⟩))
  exact .inr (.inl ⟨oM,g'⟩)
 rw[iN c3];by_cases c4:i<n - 2
 .rw[iP c4];refine⟨uO,uO,uO,uO,?_,uO,fun _=>rfl,uO,uO,fun _=>rfl, .inl ⟨uO,rfl⟩⟩;simp only;rw[HT,iN oM]
 rw[iN c4];refine⟨uO,uO,uO,uO,?_,uO,uO,uO,uO,fun _=>rfl, .inl ⟨uO,rfl⟩⟩;simp only;unfold HT;split<;>omega
theorem qO {A B n k:Nat} {x:Nd} (h:Sz A B n) (hk:k<A) (hs:Q2 A n k x):Q2 A n k (Ks k x):=by
 obtain⟨h1,h2,h3⟩:=h;unfold Ks;split
 .next hc=>
  obtain⟨hc,hm⟩:=hc;have hz:x.zn=0:=by rw[hs.zn,HT,iP oM]
  have hx:EX A n k x.zn ((k+1:Nat):Int):=by unfold EX;rw[hz,HT,iP oM];omega
  refine⟨hs.kd,hs.k1,hs.k6,hs.k8,hs.zn,hs.z0,hs.z1,hs.ln,hs.l5,hs.l0,?_⟩;rcases hs.ex with ⟨g,g'⟩|⟨g,e,g',_⟩|⟨g,e,f,g',Bj,he,hf⟩|⟨g,_⟩|⟨g,_⟩
  .have:=hs.k8 g;omega
  .refine .inr (.inl ⟨g,_,?_,hx⟩);simp only[Ol,g'];rfl
  .refine .inr (.inr (.inl ⟨g,_,f,?_,?_,hx,hf⟩))
   .simp only[Ol,g'];rfl
   intro h;rw[g'] at hm;exact hm (by rw[h];simp)
  .exact absurd g hc
  have:=hs.k6 g;omega
 exact hs
structure Good (A n:Nat) (y:Ly):Prop where
 sz:∃B,Sz A B n
 len:y.U.length=n
 shp:∀i,i<n->Q2 A n i (y.U.getD i default)
 nm:∀i,i<n->(y.U.getD i default).nm=KV i
theorem Good.n11 {A n:Nat} {y:Ly} (h:Good A n y):5<=n/\n<=11/\1<=A/\A<=3/\A+3<n:=by obtain⟨⟨B,⟨h1,h2⟩,h3,h4,h5⟩,_,_,_⟩:=h;omega
theorem r9 (l:List Int) (a:Nat):∃A n,Good A n (gL l a).1:=by
 have hA:=Iu (l:=l) (a:=a) (lo:=1) (hi:=3) oM;have hB:=Iu (l:=l) (a:=a+1) (lo:=0) (hi:=3) oM;have hC:=Iu (l:=l) (a:=a+2) (lo:=1) (hi:=2) oM;unfold gL;simp only;obtain⟨A,eA⟩:∃A,A=(gR l a 1 3).toNat:=⟨_,rfl⟩;obtain⟨B,eB⟩:∃B,B=(gR l (a+1) 0 3).toNat:=⟨_,rfl⟩;obtain⟨n,en⟩:∃n,n=A+1+B+(gR l (a+2) 1 2).toNat+2:=⟨_,rfl⟩;rw[<-eA,<-eB,<-en];have hs:Sz A B n:=⟨oM,oM,oM⟩;refine⟨A,n,⟨B,hs⟩,?_,?_,?_⟩
 .simp only;split
  .rw[WD,NQ]
  rw[NQ]
 .intro i hi;have h1:Q2 A n i ((EO l A B n (a+3) n).1.getD i default):=by rw[SP n hi];exact zg hs hi _
  simp only;split
  .rw[TU (by rw[NQ];exact hi)];split
   .exact qO hs (by assumption) h1
   exact h1
  exact h1
 intro i hi;have h1:((EO l A B n (a+3) n).1.getD i default).nm=KV i:=by rw[SP n hi]
 simp only;split
 .rw[TU (by rw[NQ];exact hi)];split
  .rw[dh.2.2.2];exact h1
  exact h1
 exact h1
def Ri (d e:T3):Prop:=d.b<e.b\/(d.b=e.b/\(d.c<e.c\/(d.c=e.c/\e.a<d.a)))
def VL (xs:List Nd) (i w:Nat) (o:List T3):Prop:=
 o.Pairwise Ri/\∀d∈o,(d.a=1\/d.a=2)/\0<=d.b/\d.b<xs.length/\0<=d.c/\d.c<(xs.getD d.b.toNat default).ln/\(d.b<i\/(d.b=i/\d.c<w))
theorem cx {l:List Int} {xs:List Nd} {i:Nat} {o:List T3×Nat} (hi:i<xs.length) (h:VL xs i 0 o.1):∀w,w<=(xs.getD i default).ln.toNat->VL xs i w (IY l (xs.getD i default) i o w).1
 |0,_=>h|w+1,hw=>by
  obtain⟨h1,h2⟩:=cx (l:=l) hi h w oM;rw[IY];generalize IY l (xs.getD i default) i o w=r at*;have h3:(FZ l (xs.getD i default) i w r).1.Pairwise Ri/\∀d∈(FZ l (xs.getD i default) i w r).1,(d.a=1\/d.a=2)/\0<=d.b/\d.b<xs.length/\0<=d.c/\d.c<(xs.getD d.b.toNat default).ln/\(d.b<i\/(d.b=i/\(d.c<w\/(d.c=w/\d.a=2)))):=by
   have GR:∀d∈r.1,(d.a=1\/d.a=2)/\0<=d.b/\d.b<xs.length/\0<=d.c/\d.c<(xs.getD d.b.toNat default).ln/\(d.b<i\/(d.b=i/\(d.c<w\/(d.c=w/\d.a=2)))):=fun d hd=>by obtain⟨g1,g2,g3,g4,g5,g6⟩:=h2 d hd;exact⟨g1,g2,g3,g4,g5,oM⟩
   unfold FZ;split
   .split
    .refine⟨List.pairwise_append.2 ⟨h1,sM,fun d hd e he=>?_⟩,fun d hd=>?_⟩
     .rw[List.mem_singleton] at he;subst he;obtain⟨g1,g2,g3,g4,g5,g6⟩:=h2 d hd;unfold Ri;simp only;omega
     rcases List.mem_append.1 hd with hd|hd
     .exact GR d hd
     rw[List.mem_singleton] at hd;subst hd;simp only[Int.toNat_natCast];exact⟨.inr trivial,oM,oM,oM,oM, .inr ⟨trivial, .inr ⟨trivial,trivial⟩⟩⟩
    exact⟨h1,GR⟩
   exact⟨h1,GR⟩
  obtain⟨h4,h5⟩:=h3;generalize FZ l (xs.getD i default) i w r=s at*;have WU:∀d∈s.1,(d.a=1\/d.a=2)/\0<=d.b/\d.b<xs.length/\0<=d.c/\d.c<(xs.getD d.b.toNat default).ln/\(d.b<i\/(d.b=i/\d.c<(w+1:Nat))):=fun d hd=>by obtain⟨g1,g2,g3,g4,g5,g6⟩:=h5 d hd;exact⟨g1,g2,g3,g4,g5,oM⟩
  unfold Kl;split
  .split
   .refine⟨List.pairwise_append.2 ⟨h4,sM,fun d hd e he=>?_⟩,fun d hd=>?_⟩
    .rw[List.mem_singleton] at he;subst he;obtain⟨g1,g2,g3,g4,g5,g6⟩:=h5 d hd;unfold Ri;simp only;omega
    rcases List.mem_append.1 hd with hd|hd
    .exact WU d hd
    rw[List.mem_singleton] at hd;subst hd;simp only[Int.toNat_natCast];exact⟨.inl trivial,oM,oM,oM,oM, .inr ⟨trivial,oM⟩⟩
   exact⟨h4,WU⟩
  exact⟨h4,WU⟩
theorem cw {l:List Int} {xs:List Nd} {a:Nat} (hx:∀i,i<xs.length->0<=(xs.getD i default).ln):∀i,i<=xs.length->VL xs i 0 (EG l xs a i).1
 |0,_=>⟨by simp[EG],by simp[EG]⟩|i+1,hi=>by obtain⟨h1,h2⟩:=cx (l:=l) oM (cw hx i oM) _ (lR _);refine⟨h1,fun d hd=>?_⟩;obtain⟨g1,g2,g3,g4,g5,g6⟩:=h2 d hd;exact⟨g1,g2,g3,g4,g5,oM⟩
theorem jo {α:Type} {R:α->α->Prop} {l:List α} {d:α} (h:l.Pairwise R) {i j:Nat} (Da:i<j) (hj:j<l.length):R (l.getD i d) (l.getD j d):=by have:=List.pairwise_iff_getElem.1 h i j oM hj Da;simpa[hj,show i<l.length by omega] using this
theorem pV {l:List Int} {xs:List Nd} {a:Nat} (hx:∀i,i<xs.length->0<=(xs.getD i default).ln):JD xs (gD l a xs).1=0:=by
 obtain⟨h1,h2⟩:=cw (l:=l) (a:=a) hx _ (lR _);rw[Wo fun j hj=>?_]
 .rw[iP];refine IN fun i hi=>?_;rw[Gl,Bool.not_eq_true',List.any_eq_false];intro z hz Lp;rw[Wx] at Lp;obtain⟨j,hj,e⟩:=List.getElem_of_mem hz;have AF:j<i:=by rw[List.length_take] at hj;omega
  have h3:=jo (d:=default) h1 AF hi;have h4:(EG l xs a xs.length).1.getD j default=z:=by rw[<-e,List.getElem_take];have Co:j<(EG l xs a xs.length).1.length:=Nat.lt_trans AF hi;simp[Co];rfl
  rw[h4,show(EG l xs a xs.length).1.getD i default=z from Lp] at h3;unfold Ri at h3;omega
 have h3:=h2 _ (Fs (d:=default) hj);show Ez xs ((EG l xs a xs.length).1.getD j default)=0;generalize (EG l xs a xs.length).1.getD j default=d at*;unfold Ez;rw[iN oM,iN oM]
theorem z8:∀i,i<11->LI (KV i)=true:=vv1
theorem z6:∀i,i<11->∀j,j<11->KV i=KV j->i=j:=vv1
theorem zM {A n:Nat} {y:Ly} (h:Good A n y):MI y.U=true:=by have hn:=h.n11;refine IN fun i hi=>?_;rw[h.len] at hi;have hN:=h.len;rw[decide_eq_true_eq,da];refine Kr (d:=default) oM (fun j hj=>?_) sM;rw[h.nm i hi,h.nm j oM,decide_eq_false_iff_not];intro h2;have:=z6 j oM i oM h2;omega
theorem Good.ex {A n:Nat} {y:Ly} (h:Good A n y):N2 y.U:=by
 intro i hi j hj;rw[h.len] at hi ⊢;have hn:=h.n11;rcases(h.shp i hi).ex with ⟨_,g⟩|⟨_,e,g,he⟩|⟨_,e,f,g,_,he,hf⟩|⟨_,f,g,hf⟩|⟨_,e,f,g,_,he,hf⟩
 .rw[g] at hj;simp at hj
 .rw[g] at hj ⊢;obtain rfl:j=0:=vx2;obtain⟨h1,h2,_⟩:=he;simp;omega
 .rw[g] at hj ⊢;obtain⟨h1,h2,_⟩:=he;obtain⟨h3,h4,_⟩:=hf;have:j=0\/j=1:=vx8;rcases this with rfl|rfl<;>simp<;>omega
 .rw[g] at hj ⊢;obtain⟨h3,h4,_⟩:=hf;have:j=0\/j=1:=vx8;rcases this with rfl|rfl<;>simp<;>omega
 rw[g] at hj ⊢;obtain⟨h1,h2,_⟩:=he;obtain⟨h3,h4,_⟩:=hf;have:j=0\/j=1:=vx8;rcases this with rfl|rfl<;>simp<;>omega
theorem Good.node {A n:Nat} {y:Ly} (h:Good A n y) {i:Nat} (hi:i<n):Do n i (y.U.getD i default)=0:=by
 have hn:=h.n11;have hs:=h.shp i hi;have hm:=h.nm i hi;generalize y.U.getD i default=x at*;obtain⟨kd1,kd2⟩:=hs.kd;have hz:x.zn=0\/x.zn=1:=by rw[hs.zn,HT];split<;>simp
 have hl:MG x=true:=by
  have AK:=hs.ln;have hl5:=hs.l5;have DR:=hs.l0;unfold MG AN;by_cases h6:x.kd<=6
  .rw[iP vv2];split
   .simp;omega
   simp;omega
  rw[iN vv2];simp;omega
 suffices vF:Hb n i x=true by rw[Do,iN (by rw[hm,z8 i oM];decide),iN oM,iP ⟨hl,hz,vF⟩]
 rw[SM];have hb:∀b:Bool,(false==b)=!b:=dM;rcases hs.ex with ⟨k,g⟩|⟨k,e,g,he⟩|⟨k,e,f,g,Bj,he,hf⟩|⟨k,f,g,hf⟩|⟨k,e,f,g,Bj,he,hf⟩
 .rw[g];refine⟨?_,fun j hj=>by simp at hj⟩;rw[CT,iN oM,iP oM];rfl
 .refine⟨by rw[g,CT,iN oM,iN oM];rfl,fun j hj=>?_⟩;rw[g] at hj;obtain rfl:j=0:=vx2;obtain⟨h1,h2,_⟩:=he;rw[GA,g];simp;refine⟨oM,h2,oM,oM⟩
 .refine⟨by rw[g,CT,iP oM];rfl,fun j hj=>?_⟩;rw[g] at hj;obtain⟨h1,h2,_⟩:=he;obtain⟨h3,h4,_⟩:=hf;have:j=0\/j=1:=vx8;rcases this with rfl|rfl
  .rw[GA,g];simp;refine⟨oM,h2,oM,oM⟩
  rw[GA,g];simp;refine⟨oM,h4,oM,fun h=>Bj h.symm⟩
 .refine⟨by rw[g,CT,iP oM];rfl,fun j hj=>?_⟩;rw[g] at hj;obtain⟨h3,h4,_⟩:=hf;have:j=0\/j=1:=vx8;rcases this with rfl|rfl
  .rw[GA,g];simp[k];omega
  rw[GA,g];simp;omega
 refine⟨by rw[g,CT,iP oM];rfl,fun j hj=>?_⟩;rw[g] at hj;obtain⟨h1,h2,_⟩:=he;obtain⟨h3,h4,_⟩:=hf;have:j=0\/j=1:=vx8;rcases this with rfl|rfl
 .rw[GA,g];simp;refine⟨oM,h2,oM,oM⟩
 rw[GA,g];simp;refine⟨oM,h4,oM,fun h=>Bj h.symm⟩
theorem Good.tot {A n:Nat} {y:Ly} (h:Good A n y):0<=MV y.U/\MV y.U<=44:=by
 have hn:=h.n11;have:∀i,i<=n->0<=FT y.U i/\FT y.U i<=4*i:=by
  intro i;induction i with
  |zero=>intro _;simp[FT]|succ i ih=>intro hi;have h1:=ih oM;have hs:=h.shp i oM;have h2:=hs.ln;have h3:=hs.l0;have h4:=hs.kd;rw[FT];omega
 have:=this n (lR _);unfold MV;rw[h.len];omega
theorem Good.zoned {A n:Nat} {y:Ly} (h:Good A n y) {i:Nat} (hi:i<n):Dg y.U (y.U.getD i default)=true:=by
 have hn:=h.n11;have hs:=h.shp i hi;have JZ:∀z e,EX A n i z e->¬(y.U.getD e.toNat default).kd=1/\(y.U.getD e.toNat default).zn=z:=by intro z e ⟨h1,h2,h3⟩;obtain⟨m,rfl⟩:∃m:Nat,e=m:=⟨e.toNat,oM⟩;have ht:=h.shp m oM;rw[Int.toNat_natCast];exact⟨fun hk=>by have:=ht.k1.1 hk;omega,by rw[ht.zn,h3]⟩
 have Qid:=h.shp i hi;generalize hx:y.U.getD i default=x at*;rw[Dg,Bool.and_eq_true];refine⟨?_,IN fun j hj=>?_⟩
 .have h0:=hs.z0;have h1:=hs.z1;unfold HR;split
  .exact dT (h0 (by assumption))
  split
  .exact dT (h1 (by assumption))
  rfl
 have key:∀e,x.ex.getD j 0=e->¬(y.U.getD e.toNat default).kd=1->(y.U.getD e.toNat default).zn=Ev x j->HS y.U x j=true:=by intro e he h1 h2;rw[HS,he,dF h1,h2];simp
 rcases hs.ex with ⟨k,g⟩|⟨k,e,g,he⟩|⟨k,e,f,g,Bj,he,hf⟩|⟨k,f,g,hf⟩|⟨k,e,f,g,Bj,he,hf⟩
 .rw[g] at hj;simp at hj
 .rw[g] at hj;obtain rfl:j=0:=vx2;have:=JZ _ _ he;exact key e (by rw[g];rfl) this.1 (by rw[this.2,Ev,iN oM])
 .rw[g] at hj;have h3:=JZ _ _ he;have h4:=JZ _ _ hf;have:j=0\/j=1:=vx8;rcases this with rfl|rfl
  .exact key e (by rw[g];rfl) h3.1 (by rw[h3.2,Ev,iN oM])
  exact key f (by rw[g];rfl) h4.1 (by rw[h4.2,Ev,iN oM])
 .rw[g] at hj;have h4:=JZ _ _ hf;have:j=0\/j=1:=vx8;rcases this with rfl|rfl
  .refine key i (by rw[g];rfl) ?_ ?_
   .rw[Int.toNat_natCast,hx];omega
   rw[Int.toNat_natCast,hx,Ev,iN oM]
  exact key f (by rw[g];rfl) h4.1 (by rw[h4.2,Ev,iN oM])
 rw[g] at hj;have h3:=JZ _ _ he;have h4:=JZ _ _ hf;have hz:=hs.z0 oM;have:j=0\/j=1:=vx8;rcases this with rfl|rfl
 .exact key e (by rw[g];rfl) h3.1 (by rw[h3.2,Ev,iN oM,hz])
 exact key f (by rw[g];rfl) h4.1 (by rw[h4.2,Ev,iP ⟨k,rfl⟩])
def Ci (n:Nat):List Int:=(List.range n).map fun(i:Nat)=>(i:Int)
theorem M0 (n:Nat):(Ci n).length=n:=by simp[Ci]
theorem ZZ {n:Nat} {k:Nat}:(k:Int)∈Ci n↔k<n:=by
 simp only[Ci,List.mem_map,List.mem_range];constructor
 .rintro⟨a,ha,h⟩;omega
 intro h;exact⟨k,h,rfl⟩
theorem Tc {n i:Nat} (h:i<n):(Ci n).getD i 0=i:=by simp[Ci,h]
theorem Good.up {A n:Nat} {y:Ly} (h:Good A n y) {k:Nat} (hk:k<n) {i:Int} (hl:KR (y.U.getD k default) k i=true):(k:Int)<i:=by
 rw[KR,Bool.and_eq_true,decide_eq_true_eq,decide_eq_true_eq] at hl;obtain⟨h1,h2⟩:=hl;rcases(h.shp k hk).ex with ⟨_,g⟩|⟨_,e,g,he⟩|⟨_,e,f,g,_,he,hf⟩|⟨_,f,g,hf⟩|⟨_,e,f,g,_,he,hf⟩
 .rw[g] at h2;simp at h2
 .rw[g] at h2;simp at h2;rw[h2];exact he.1
 .rw[g] at h2;simp at h2;rcases h2 with rfl|rfl
  .exact he.1
  exact hf.1
 .rw[g] at h2;simp at h2;rcases h2 with rfl|rfl
  .exact absurd rfl h1
  exact hf.1
 rw[g] at h2;simp at h2;rcases h2 with rfl|rfl
 .exact he.1
 exact hf.1
theorem Good.ord {A n:Nat} {y:Ly} (h:Good A n y):Dz y.U=Ci n:=by
 have hN:=h.len;have:∀m,m<=n->CA y.U m=Ci m:=by
  intro m;induction m with
  |zero=>intro _;rfl|succ m ih=>
   intro hm;have hx:Gb y.U (Ci m)=m:=by
    refine iO oM ?_ fun j hj=>?_
    .rw[QM];refine⟨fun h=>by have:=ZZ.1 h;omega,fun k hk hl=>ZZ.2 ?_⟩;have:=h.up oM hl;omega
    rw[<-Bool.not_eq_true,QM];exact fun h=>h.1 (ZZ.2 hj)
   rw[CA,ih oM,hx,iN oM];simp[Ci,List.range_succ]
 rw[Dz,hN];exact this n (lR _)
theorem QgN:((List.range 2048).all fun S=>decide (S=0)||(S.testBit (tz 11 S)&&((List.range 11).all fun j=>((S &&& (S - 1)).testBit j==(S.testBit j&&!decide (j=tz 11 S)))&&(!S.testBit j||decide (tz 11 S<=j)))))=true:=kR
theorem ZW {S:Nat} (h:S<2048) (h0:S≠0):S.testBit (tz 11 S)=true/\(∀j,j<11->(S &&& (S - 1)).testBit j=(S.testBit j&&!decide (j=tz 11 S)))/\∀j,j<11->S.testBit j=true->tz 11 S<=j:=by
 have:=List.all_eq_true.1 QgN S (List.mem_range.2 h);simp only[Bool.or_eq_true,Bool.and_eq_true,decide_eq_true_eq,List.all_eq_true,List.mem_range,beq_iff_eq,Bool.not_eq_true'] at this;rcases this with h1|⟨h1,h2⟩
 .exact absurd h1 h0
 refine⟨h1,fun j hj=>(h2 j hj).1,fun j hj hb=>?_⟩;rcases(h2 j hj).2 with h3|h3
 .rw[hb] at h3;cases h3
 exact h3
theorem PT (xs:List Nd) (W:List Int) (n:Nat) (j:Nat):∀m,(CC xs W n m).testBit j=(decide (j<m)&&Cw xs W n j)
 |0=>by simp[CC]|m+1=>by
  have ih:=PT xs W n j m;rw[CC];by_cases vo:j=m
  .subst vo;split
   .rename_i h;rw[Nat.testBit_or,ih,Nat.testBit_two_pow];simp[h]
   rename_i h;rw[ih];simp[h]
  have e:decide (j<m+1)=decide (j<m):=by
   by_cases h:j<m
   .rw[dT h,dT oM]
   rw[dF h,dF oM]
  rw[e];split
  .rw[Nat.testBit_or,ih,Nat.testBit_two_pow];simp[show ¬m=j by omega]
  exact ih
theorem ZU (W:List Int) {k:Nat}:∀(f S:Nat) (lv:List Int),S<=f->S<2048->k<lv.length->k<11->(Il W f S lv).getD k 0=if S.testBit k=true then W.getD k 0 else lv.getD k 0
 |0,S,lv,h1,_,_,_=>by obtain rfl:S=0:=oM;simp[Il]
 |f+1,S,lv,h1,h2,h3,h4=>by
  rw[Il];split
  .rename_i h;subst h;simp
  rename_i h0;obtain⟨b1,b2,b3⟩:=ZW h2 h0;have hle:S &&& (S - 1)<=S - 1:=Nat.and_le_right;rw[ZU W f _ _ oM oM (by simpa using h3) h4,b2 k h4,Ef];by_cases hk:k=tz 11 S
  .subst hk;simp[b1,h3]
  simp[hk,show ¬tz 11 S=k from fun h=>hk h.symm]
def Ct (xs:List Nd) (W:List Int) (m:Nat):Int:=(xs.getD m default).ex.getD (W.getD m 0).toNat 0
theorem PS {xs:List Nd} {W:List Int} {n m:Nat}:Cw xs W n m=true↔m≠n/\0<=W.getD m 0/\Ct xs W m=n:=by simp[Cw,Ct]
structure PK (xs:List Nd) (W:List Int):Prop where
 n11:xs.length<=11
 wl:W.length=xs.length
 up:∀m,m<xs.length->0<=W.getD m 0->(m:Int)<=Ct xs W m/\Ct xs W m<xs.length
 lp:∀m,m<xs.length->(xs.getD m default).kd=5->W.getD m 0=0->Ct xs W m=m
def ES (xs:List Nd) (p:Pl) (W LV:List Int) (m t:Nat):Prop:=
 AN (xs.getD t default).kd=false\/(Dy (xs.getD t default) (p.Q.getD t [])=true/\¬((xs.getD t default).kd=5/\LV.getD t 0=0)/\∀k,k<m->Cw xs W t k=false)
def Tm (xs:List Nd) (p:Pl) (m:Nat):Prop:=(xs.getD m default).kd=5/\(p.Q.getD m []).getD 0 0=0
def Fin (xs:List Nd) (p:Pl) (W LV:List Int) (m:Nat):Prop:=
 (W.getD m 0<0/\LV.getD m 0=-1)\/(0<=W.getD m 0/\
  ((LV.getD m 0=W.getD m 0/\Ct xs W m≠m/\ES xs p W LV m (Ct xs W m).toNat)\/
   (¬(Ct xs W m≠m/\ES xs p W LV m (Ct xs W m).toNat)/\((Tm xs p m/\LV.getD m 0=0)\/(¬Tm xs p m/\LV.getD m 0=-1)))))
structure ab (xs:List Nd) (p:Pl) (W LV:List Int):Prop where
 len:LV.length=xs.length
 fin:∀m,m<xs.length->Fin xs p W LV m
structure Q0 (xs:List Nd) (p:Pl) (W LV:List Int) (b:Nat):Prop where
 len:LV.length=xs.length
 fin:∀m,m<xs.length->b<=m->Fin xs p W LV m
 neg:∀m,m<xs.length->m<b->(W.getD m 0<0\/Ct xs W m<b)->LV.getD m 0=-1
 mid:∀m,m<xs.length->m<b->0<=W.getD m 0->b<=Ct xs W m->(LV.getD m 0=W.getD m 0/\ES xs p W LV m (Ct xs W m).toNat)\/(LV.getD m 0=-1/\¬ES xs p W LV m (Ct xs W m).toNat)
theorem ES.congr {xs:List Nd} {p:Pl} {W LV LV':List Int} {m t:Nat} (h:LV'.getD t 0=LV.getD t 0):ES xs p W LV' m t↔ES xs p W LV m t:=by unfold ES;rw[h]
theorem Fin.congr {xs:List Nd} {p:Pl} {W LV LV':List Int} {m:Nat} (h:LV'.getD m 0=LV.getD m 0) (ht:0<=W.getD m 0->LV'.getD (Ct xs W m).toNat 0=LV.getD (Ct xs W m).toNat 0):Fin xs p W LV m->Fin xs p W LV' m:=by
 unfold Fin;rintro(h1|⟨h1,h2⟩)
 .exact .inl (h ▸ h1)
 refine .inr ⟨h1,?_⟩;rw[ES.congr (ht h1),h];exact h2
theorem aP {x:Nd} {sl:List Int} {w l:Int}:Ey x sl w l=true↔x.kd=5/\0<=w/\l<0/\sl.getD 0 0=0:=by simp only[Ey,Bool.and_eq_true,decide_eq_true_eq]
theorem qP {xs:List Nd} {p:Pl} {W:List Int} {n:Nat} {s:List Int×List Int} (hu:PK xs W) (hl:s.1.length=xs.length) {k:Nat} (hk:k<xs.length) (hn:n<xs.length):
  (IZ xs p W n s).1.getD k 0=
   (if k=n then(if Ey (xs.getD n default) (p.Q.getD n []) (W.getD n 0) (s.1.getD n 0)=true then 0 else s.1.getD k 0)
    else if Cw xs W n k=true/\(AN (xs.getD n default).kd=false\/(Dy (xs.getD n default) (p.Q.getD n [])=true/\Ey (xs.getD n default) (p.Q.getD n []) (W.getD n 0) (s.1.getD n 0)=false/\∀j,j<k->Cw xs W n j=false)) then W.getD k 0
    else s.1.getD k 0):=by
 have hN:=hu.n11;have hS:CC xs W n W.length<2048:=by have:=PU xs W n W.length;have h2:2^W.length<=2^11:=Nat.pow_le_pow_right oM (by rw[hu.wl];omega);omega
 have Qh:=fun j=>PT xs W n j W.length;rw[hu.wl] at Qh hS;unfold IZ;simp only[hu.wl];generalize CC xs W n xs.length=S at*;generalize Ey (xs.getD n default) (p.Q.getD n []) (W.getD n 0) (s.1.getD n 0)=ar at*;have XX:(if ar=true then s.1.set n 0 else s.1).getD k 0=if k=n then(if ar=true then 0 else s.1.getD k 0) else s.1.getD k 0:=by
  split
  .rw[Ef];by_cases h:k=n
   .subst h;simp[hl,hk]
   simp[h,show ¬n=k from fun h2=>h h2.symm]
  simp
 have Eh:(if ar=true then s.1.set n 0 else s.1).length=xs.length:=by split<;>simp[hl]
 generalize (if ar=true then s.1.set n 0 else s.1)=lv at*;have Ei:Cw xs W n n=false:=by simp[Cw]
 by_cases c1:AN (xs.getD n default).kd=false
 .rw[iP c1];simp only;rw[ZU W _ _ _ (lR _) hS oM oM,Qh k,XX];by_cases Cp:k=n
  .subst Cp;simp[Ei]
  rw[iN Cp,iN Cp];by_cases hc:Cw xs W n k=true
  .rw[iP (by rw[hc,dT hk];rfl),iP ⟨hc, .inl c1⟩]
  rw[iN (by simp[hc]),iN (fun h=>hc h.1)]
 rw[iN c1];have c1':AN (xs.getD n default).kd=true:=by simpa using c1
 split
 .rename_i h;obtain⟨h0,h1,h2⟩:=h;obtain⟨b1,b2,b3⟩:=ZW hS h0;rw[Qh,Bool.and_eq_true,decide_eq_true_eq] at b1;have hm:tz 11 S≠n:=fun h=>by rw[h,Ei] at b1;cases b1.2
  simp only;rw[Ef,Eh,XX];by_cases Mp:tz 11 S=k
  .have CP:∀j,j<k->Cw xs W n j=false:=fun j hj=>by rw[<-Bool.not_eq_true];intro hc;have:=b3 j oM (by rw[Qh,hc];simp;omega);omega
   rw[iP ⟨Mp,oM⟩,iN oM,iP ⟨Mp ▸ b1.2, .inr ⟨h1,h2,CP⟩⟩,Mp]
  rw[iN (fun h=>Mp h.1)];by_cases Cp:k=n
  .rw[iP Cp,iP Cp]
  rw[iN Cp,iN Cp,iN];rintro⟨hc,h3|⟨_,_,h3⟩⟩
  .exact c1 h3
  have:=b3 k oM (by rw[Qh,hc];simp;omega);have:=h3 (tz 11 S) oM;rw[b1.2] at this;cases this
 rename_i h;simp only;rw[XX];by_cases Cp:k=n
 .rw[iP Cp,iP Cp]
 rw[iN Cp,iN Cp,iN];rintro⟨hc,h3|⟨h3,h4,_⟩⟩
 .exact c1 h3
 refine h ⟨?_,h3,h4⟩;intro h0;have:=Qh k;rw[hc,h0] at this;simp[hk] at this
theorem di {xs:List Nd} {p:Pl} {W:List Int} {n:Nat} {s:List Int×List Int} (hu:PK xs W) (hn:n<xs.length) (h:Q0 xs p W s.1 (n+1)):Q0 xs p W (IZ xs p W n s).1 n:=by
 obtain⟨hl,hf,hg,hm⟩:=h;have get:=fun k hk=>qP (p:=p) (s:=s) hu hl (k:=k) hk hn;have FL:(IZ xs p W n s).1.length=xs.length:=WE.1.trans hl;generalize (IZ xs p W n s).1=lv at*;have FG:∀k,k<xs.length->n<k->Cw xs W n k=false:=fun k hk Mt=>by rw[<-Bool.not_eq_true,PS];rintro⟨_,h1,h2⟩;have:=(hu.up k hk h1).1;omega
 have R6:∀k,k<xs.length->n<k->lv.getD k 0=s.1.getD k 0:=fun k hk Mt=>by rw[get k hk,iN oM,FG k hk Mt,iN sM]
 have Si:(W.getD n 0<0/\s.1.getD n 0=-1)\/(0<=W.getD n 0/\((s.1.getD n 0=W.getD n 0/\Ct xs W n≠n/\ES xs p W s.1 n (Ct xs W n).toNat)\/(s.1.getD n 0=-1/\¬(Ct xs W n≠n/\ES xs p W s.1 n (Ct xs W n).toNat)))):=by
  by_cases h0:W.getD n 0<0
  .exact .inl ⟨h0,hg n hn oM (.inl h0)⟩
  refine .inr ⟨oM,?_⟩;obtain⟨u1,u2⟩:=hu.up n hn oM;by_cases h1:Ct xs W n=n
  .exact .inr ⟨hg n hn oM (.inr oM),fun h=>h.1 h1⟩
  rcases hm n hn oM oM oM with ⟨h2,h3⟩|⟨h2,h3⟩
  .exact .inl ⟨h2,h1,h3⟩
  exact .inr ⟨h2,fun h=>h3 h.2⟩
 have R4:=get n hn;rw[iP rfl] at R4;have AK:∀k,k<xs.length->k<n->((Cw xs W n k=true/\ES xs p W lv k n->lv.getD k 0=W.getD k 0)/\(¬(Cw xs W n k=true/\ES xs p W lv k n)->lv.getD k 0=s.1.getD k 0)):=fun k hk Cp=>by
  rw[get k hk,iN oM];have:Ey (xs.getD n default) (p.Q.getD n []) (W.getD n 0) (s.1.getD n 0)=false↔¬((xs.getD n default).kd=5/\lv.getD n 0=0):=by
   rw[R4];by_cases ha:Ey (xs.getD n default) (p.Q.getD n []) (W.getD n 0) (s.1.getD n 0)=true
   .rw[ha,iP rfl];have:(xs.getD n default).kd=5:=by rw[Ey,Bool.and_eq_true,decide_eq_true_eq] at ha;exact ha.1
    exact⟨fun h=>vx0,fun h=>absurd ⟨this,rfl⟩ h⟩
   rw[iN ha];simp only[Bool.not_eq_true] at ha;rw[ha];simp only[true_iff];rintro⟨h5,h0⟩;rcases Si with ⟨_,h1⟩|⟨h1,⟨h2,h3,_⟩|⟨h2,_⟩⟩
   .omega
   .exact h3 (hu.lp n hn h5 oM)
   omega
  have hc:(Cw xs W n k=true/\(AN (xs.getD n default).kd=false\/(Dy (xs.getD n default) (p.Q.getD n [])=true/\Ey (xs.getD n default) (p.Q.getD n []) (W.getD n 0) (s.1.getD n 0)=false/\∀j,j<k->Cw xs W n j=false)))↔(Cw xs W n k=true/\ES xs p W lv k n):=by unfold ES;rw[this]
  exact⟨fun h=>iP (hc.2 h),fun h=>iN (fun h2=>h (hc.1 h2))⟩
 have eE:∀m t,n<t->t<xs.length->(ES xs p W lv m t↔ES xs p W s.1 m t):=fun m t h1 h2=>ES.congr (R6 t h2 h1);refine⟨FL,fun m Fo HE=>?_,fun m Fo HE Sf=>?_,fun m Fo HE Sf hm4=>?_⟩
 .by_cases CW:m=n
  .subst CW;unfold Fin;rcases Si with ⟨h1,h2⟩|⟨h1,h2⟩
   .refine .inl ⟨h1,?_⟩;rw[R4,iN (fun h=>by have:=aP.1 h;omega),h2]
   refine .inr ⟨h1,?_⟩;obtain⟨u1,u2⟩:=hu.up m hn h1;have hL:(Ct xs W m≠m/\ES xs p W lv m (Ct xs W m).toNat)↔(Ct xs W m≠m/\ES xs p W s.1 m (Ct xs W m).toNat):=and_congr_right fun h=>eE _ _ oM oM;rcases h2 with ⟨h2,h3⟩|⟨h2,h3⟩
   .refine .inl ⟨?_,hL.2 h3⟩;rw[R4,iN (fun h=>by have:=aP.1 h;omega),h2]
   refine .inr ⟨fun h=>h3 (hL.1 h),?_⟩;rw[R4,h2];unfold Tm;by_cases hr:(xs.getD m default).kd=5/\(p.Q.getD m []).getD 0 0=0
   .refine .inl ⟨hr,?_⟩;rw[iP];simp only[Ey,Bool.and_eq_true,decide_eq_true_eq];exact⟨hr.1,h1,dM,hr.2⟩
   refine .inr ⟨hr,?_⟩;rw[iN];simp only[Ey,Bool.and_eq_true,decide_eq_true_eq];exact fun h=>hr ⟨h.1,h.2.2.2⟩
  refine Fin.congr (R6 m Fo oM) (fun h=>?_) (hf m Fo oM);obtain⟨u1,u2⟩:=hu.up m Fo h;exact R6 _ oM oM
 .rw[(AK m Fo HE).2 (by
   rw[PS];rintro⟨⟨_,h1,h2⟩,_⟩;omega)]
  exact hg m Fo oM oM
 obtain⟨u1,u2⟩:=hu.up m Fo Sf;by_cases ht:Ct xs W m=n
 .have hc:Cw xs W n m=true:=PS.2 ⟨oM,Sf,ht⟩;rw[ht,Int.toNat_natCast];by_cases hL:ES xs p W lv m n
  .rw[(AK m Fo HE).1 ⟨hc,hL⟩];exact .inl ⟨rfl,hL⟩
  rw[(AK m Fo HE).2 (fun h=>hL h.2)];exact .inr ⟨hg m Fo oM (.inr oM),hL⟩
 rw[(AK m Fo HE).2 (fun h=>ht (PS.1 h.1).2.2),eE _ _ oM oM];exact hm m Fo oM Sf oM
theorem qU {xs:List Nd} {p:Pl} {W:List Int} (hu:PK xs W):ab xs p W (H0 xs p W (Ci xs.length)).1:=by
 have:∀c,c<=xs.length->Q0 xs p W (C7 xs p W (Ci xs.length) c).1 (xs.length - c):=by
  intro c;induction c with
  |zero=>
   intro _;refine⟨QG _,fun m h1 h2=>oM,fun m h1 h2 h3=>?_,fun m h1 h2 h3 h4=>?_⟩
   .simp[C7,El,h1]
   have:=(hu.up m h1 h3).2;omega
  |succ c ih=>intro hc;have h1:=ih oM;rw[C7,M0,Tc oM,Int.toNat_natCast];have e:xs.length - c=(xs.length - 1 - c)+1:=oM;rw[e] at h1;have:=di hu oM h1;rw[show xs.length - (c+1)=xs.length - 1 - c by omega];exact this
 have h:=this xs.length (lR _);rw[H0,M0];exact⟨h.len,fun m hm=>h.fin m hm oM⟩
open Go.Plant
structure Sx (A n:Nat) (y:Ly) (p:Pl) (cs:List Int) (fs:List T3):Prop where
 good:Good A n y
 fp:FB y.U p
 ff:N3 y.U fs
 cl:cs.length=n
 cmd:∀i,i<n->CM (y.U.getD i default) (cs.getD i 0)=true
def WN (y:Ly) (p:Pl) (cs:List Int) (fs:List T3):List Int:=Fe y.U p cs fs y.U.length
def Bd (y:Ly) (p:Pl) (cs:List Int) (fs:List T3):List Int:=(H0 y.U p (WN y p cs fs) (Ci y.U.length)).1
section
variable {A n:Nat} {y:Ly} {p:Pl} {cs:List Int} {fs:List T3}
theorem Good.exl (h:Good A n y) {m:Nat} (hm:m<n):((y.U.getD m default).ex.length:Int)=CT (y.U.getD m default).kd:=by
 have:=h.node hm;rw[Do] at this;split at this
 .cases this
 split at this
 .cases this
 split at this
 .rename_i h2;exact(SM.1 h2.2.2).1
 cases this
theorem Good.lp (h:Good A n y) {m:Nat} (hm:m<n) (h5:(y.U.getD m default).kd=5):(y.U.getD m default).ex.getD 0 0=m:=by
 rcases(h.shp m hm).ex with ⟨k,g⟩|⟨k,e,g,he⟩|⟨k,e,f,g,Bj,he,hf⟩|⟨k,f,g,hf⟩|⟨k,e,f,g,Bj,he,hf⟩
 .omega
 .omega
 .omega
 .rw[g];rfl
 omega
theorem Py (h:Sx A n y p cs fs) {m:Nat} (hm:m<n) (h0:0<=(WN y p cs fs).getD m 0):
  (WN y p cs fs).getD m 0<(y.U.getD m default).ex.length/\
  (((y.U.getD m default).kd=7/\(WN y p cs fs).getD m 0=0/\cs.getD m 0∈p.R.getD m [])\/
   (AN (y.U.getD m default).kd=true/\(WN y p cs fs).getD m 0=cs.getD m 0/\(p.Q.getD m []).getD ((y.U.getD m default).ln.toNat - 1) 0≠0/\fs.any (fun z=>CD ⟨1,m,(y.U.getD m default).ln - 1⟩ z)=false)):=by
 have hl:=h.good.len;have he:=h.good.exl hm;have hc:=h.cmd m hm;rw[WN,kP oM] at h0 ⊢;unfold IQ at h0 ⊢;split at h0
 .rename_i k7;rw[iP k7];split at h0
  .rename_i hb;rw[iP hb];refine⟨by rw[he,CT,iN oM,iN oM];decide, .inl ⟨k7,rfl,?_⟩⟩;obtain⟨z,hz,Lp⟩:=List.any_eq_true.1 hb;rw[decide_eq_true_eq] at Lp;rw[Lp];exact hz
  omega
 rename_i k7;rw[iN k7];split at h0
 .omega
 rename_i ks;rw[iN ks];split at h0
 .omega
 rename_i hs;rw[iN hs];refine⟨?_, .inr ⟨by simpa using ks,rfl,fun h=>hs (.inl h),by simpa using fun h=>hs (.inr h)⟩⟩;unfold CM at hc;rw[iN k7,iN (by simpa using ks),iN oM] at hc;simp at hc;exact hc.2
theorem Sx.ups (h:Sx A n y p cs fs):PK y.U (WN y p cs fs):=by
 have hl:=h.good.len;have hn:=h.good.n11;refine⟨oM,kQ _ _ _ _ _,fun m hm h0=>?_,fun m hm h5 h0=>?_⟩
 .obtain⟨h1,_⟩:=Py h oM h0;have hx:=h.good.ex m hm ((WN y p cs fs).getD m 0).toNat oM;refine⟨?_,hx.2⟩;by_cases hs:Ct y.U (WN y p cs fs) m=m
  .omega
  refine Int.le_of_lt (h.good.up oM ?_);rw[KR,Bool.and_eq_true,decide_eq_true_eq,decide_eq_true_eq];exact⟨fun h=>hs h.symm,P7 oM⟩
 rw[Ct,h0];exact h.good.lp oM h5
theorem Sx.eq (h:Sx A n y p cs fs):ab y.U p (WN y p cs fs) (Bd y p cs fs):=qU h.ups
def DY (xs:List Nd) (LV:List Int) (m:Nat):Int:=(xs.getD m default).ex.getD (LV.getD m 0).toNat 0
theorem Lk (h:Sx A n y p cs fs) {m:Nat} (hm:m<n) (h0:0<=(Bd y p cs fs).getD m 0):
  0<=(WN y p cs fs).getD m 0/\0<=DY y.U (Bd y p cs fs) m/\DY y.U (Bd y p cs fs) m<n/\
  ((DY y.U (Bd y p cs fs) m=Ct y.U (WN y p cs fs) m/\(Bd y p cs fs).getD m 0=(WN y p cs fs).getD m 0/\Ct y.U (WN y p cs fs) m≠m/\ES y.U p (WN y p cs fs) (Bd y p cs fs) m (Ct y.U (WN y p cs fs) m).toNat)\/
   (DY y.U (Bd y p cs fs) m=m/\Tm y.U p m/\(Bd y p cs fs).getD m 0=0)):=by
 have hl:=h.good.len;have hu:=h.ups;have hf:=h.eq.fin m oM;unfold Fin at hf;rcases hf with ⟨h1,h2⟩|⟨h1,⟨h2,h3,h4⟩|⟨h2,⟨h3,h4⟩|⟨h3,h4⟩⟩⟩
 .omega
 .have hg:DY y.U (Bd y p cs fs) m=Ct y.U (WN y p cs fs) m:=by rw[DY,Ct,h2]
  have:=hu.up m oM h1;exact⟨h1,oM,oM, .inl ⟨hg,h2,h3,h4⟩⟩
 .have hg:DY y.U (Bd y p cs fs) m=m:=by rw[DY,h4];exact h.good.lp hm h3.1
  exact⟨h1,oM,oM, .inr ⟨hg,h3,h4⟩⟩
 omega
theorem WR (h:Sx A n y p cs fs):PG y.U (Bd y p cs fs):=by
 intro m hm h0;have hl:=h.good.len;obtain⟨h1,_,_,h2⟩:=Lk h oM h0;have:=(Py h oM h1).1;rcases h2 with ⟨_,h2,_⟩|⟨_,h2,h3⟩
 .omega
 omega
theorem sH (h:Sx A n y p cs fs) {m k t:Nat} (hm:m<n) (hk:k<n) (h0:0<=(Bd y p cs fs).getD m 0) (h1:0<=(Bd y p cs fs).getD k 0)
  (vT:DY y.U (Bd y p cs fs) m=t) (Eg:DY y.U (Bd y p cs fs) k=t) (hs:AN (y.U.getD t default).kd=true):m=k:=by
 obtain⟨a1,_,_,a2⟩:=Lk h hm h0;obtain⟨b1,_,_,b2⟩:=Lk h hk h1;rcases a2 with ⟨e1,e2,e3,e4⟩|⟨e1,e2,e3⟩<;>rcases b2 with ⟨f1,f2,f3,f4⟩|⟨f1,f2,f3⟩
 .have e5:Ct y.U (WN y p cs fs) m=t:=oM;have f5:Ct y.U (WN y p cs fs) k=t:=oM;rw[e5,Int.toNat_natCast] at e4;rw[f5,Int.toNat_natCast] at f4;rcases e4 with e4|⟨_,_,e4⟩
  .rw[hs] at e4;cases e4
  rcases f4 with f4|⟨_,_,f4⟩
  .rw[hs] at f4;cases f4
  rcases Nat.lt_trichotomy m k with Aa|heq|R6
  .have:=f4 m Aa;rw[PS.2 ⟨oM,a1,e5⟩] at this;cases this
  .exact heq
  have:=e4 k R6;rw[PS.2 ⟨oM,b1,f5⟩] at this;cases this
 .have e5:Ct y.U (WN y p cs fs) m=t:=oM;have f5:k=t:=oM;subst f5;rw[e5,Int.toNat_natCast] at e4;rcases e4 with e4|⟨_,e4,_⟩
  .rw[hs] at e4;cases e4
  exact absurd ⟨f2.1,f3⟩ e4
 .have f5:Ct y.U (WN y p cs fs) k=t:=oM;have e5:m=t:=oM;subst e5;rw[f5,Int.toNat_natCast] at f4;rcases f4 with f4|⟨_,f4,_⟩
  .rw[hs] at f4;cases f4
  exact absurd ⟨e2.1,e3⟩ f4
 omega
theorem sI (h:Sx A n y p cs fs) {m t:Nat} (hm:m<n) (h0:0<=(Bd y p cs fs).getD m 0) (vT:DY y.U (Bd y p cs fs) m=t) (hs:AN (y.U.getD t default).kd=true):
  (p.Q.getD t []).getD 0 0=0/\(m≠t->(y.U.getD t default).kd=5->2<=GP (p.Q.getD t [])):=by
 obtain⟨a1,_,_,a2⟩:=Lk h hm h0;rcases a2 with ⟨e1,e2,e3,e4⟩|⟨e1,e2,e3⟩
 .have e5:Ct y.U (WN y p cs fs) m=t:=oM;rw[e5,Int.toNat_natCast] at e4;rcases e4 with e4|⟨e4,_,_⟩
  .rw[hs] at e4;cases e4
  rw[Dy,iP hs,Bool.and_eq_true,Bool.or_eq_true,decide_eq_true_eq,decide_eq_true_eq,decide_eq_true_eq] at e4;exact⟨e4.1,fun _ h5=>e4.2.resolve_left (fun h=>h h5)⟩
 have:m=t:=oM;subst this;exact⟨e2.2,fun h=>absurd rfl h⟩
theorem V0 {fs:List T3} {n:Int} {ln k:Nat}:∀i,i<=fs.length->(Fg fs n ln i).getD k 0=1->∃j,j<i/\(fs.getD j default).b=n/\(fs.getD j default).c.toNat=k/\(fs.getD j default).a=1
 |0,_,h=>by simp only[Fg,gE,List.getElem?_replicate] at h;split at h<;>simp at h
 |i+1,hi,h=>by
  rw[Fg] at h;unfold M3 at h;split at h
  .rename_i hb;rw[Ef] at h;split at h
   .rename_i hc;exact⟨i,oM,hb,hc.1,h⟩
   obtain⟨j,h1,h2⟩:=V0 i oM h;exact⟨j,oM,h2⟩
  obtain⟨j,h1,h2⟩:=V0 i oM h;exact⟨j,oM,h2⟩
theorem aQ (hf:N3 y.U fs) {m k:Nat} (hm:m<y.U.length) (h:fs.any (fun z=>CD ⟨1,m,k⟩ z)=false) {ln:Nat}:(DW fs m ln).getD k 0≠1:=by
 intro h1;obtain⟨j,h2,h3,h4,h5⟩:=V0 _ (lR _) h1;have:=(hf.ok j h2 m hm h3).1;rw[List.any_eq_false] at h;refine h _ (Fs (d:=default) h2) (Wx.2 ?_);generalize fs.getD j default=f at*;cases f
 simp only at h3 h4 h5 this;rw[<-h3,<-h5];congr 1
 omega
def IV (y:Ly) (p:Pl) (fs:List T3) (LV:List Int) (m:Nat):List Int×Int:=BO (p.Q.getD m []) (DW fs m (y.U.getD m default).ln.toNat) (decide (0<=LV.getD m 0))
theorem ot (h:Sx A n y p cs fs) {m:Nat} (hm:m<n) (h0:0<=(Bd y p cs fs).getD m 0) (hs:AN (y.U.getD m default).kd=true):
  (IV y p fs (Bd y p cs fs) m).2=(p.Q.getD m []).getD ((y.U.getD m default).ln.toNat - 1) 0/\(p.Q.getD m []).getD ((y.U.getD m default).ln.toNat - 1) 0≠0:=by
 have hl:=h.good.len;obtain⟨a1,_⟩:=Lk h hm h0;obtain⟨_,⟨k7,_⟩|⟨_,_,h1,h2⟩⟩:=Py h hm a1
 .rw[k7] at hs;exact absurd hs dM
 have NG:=h.fp.row m oM;have AM:=h.fp.st m oM hs;refine⟨?_,h1⟩;have e:((y.U.getD m default).ln - 1:Int)=(((y.U.getD m default).ln.toNat - 1:Nat):Int):=oM;rw[e] at h2;rw[IV,aC,dT h0,NG,iP ⟨rfl,aQ h.ff oM h2⟩]
theorem bi {LV:List Int} {m:Nat} (h0:LV.getD m 0<0):(IV y p fs LV m).2=0:=by rw[IV,aC,dF oM,iN sM]
end
open Go.Plant
section
variable {xs:List Nd} {p:Pl} {cs:List Int} {fs:List T3} {LV:List Int}
def Pa (xs:List Nd) (p:Pl) (cs:List Int) (fs:List T3) (LV:List Int) (m:Nat):T3:=⟨D9 xs p cs fs LV m,m,DY xs LV m⟩
theorem Vk:∀i,(AD xs p cs fs LV i).1.length=p.Q.length
 |0=>rfl|i+1=>by rw[AD];simp only;split<;>simp[Vk i]
theorem Vl:∀i,(AD xs p cs fs LV i).2.1.length=p.R.length
 |0=>rfl|i+1=>by rw[AD];simp only;split<;>(try split)<;>simp[Vl i]
theorem ZH {n:Nat} (hn:n<p.Q.length):∀i,(AD xs p cs fs LV i).1.getD n []=if n<i/\AN (xs.getD n default).kd=true then(BO (p.Q.getD n []) (DW fs n (xs.getD n default).ln.toNat) (decide (0<=LV.getD n 0))).1 else p.Q.getD n []
 |0=>by simp[AD]|i+1=>by
  have ih:=ZH hn i;have hl:=Vk (xs:=xs) (p:=p) (cs:=cs) (fs:=fs) (LV:=LV) i;rw[AD];simp only;by_cases h:AN (xs.getD i default).kd=true
  .rw[iP h,Ef,hl,ih];by_cases A2:i=n
   .subst A2;rw[iP ⟨rfl,hn⟩,iP ⟨oM,h⟩]
   rw[iN (fun h=>A2 h.1)];by_cases Aa:n<i
   .simp[Aa,show n<i+1 by omega]
   simp[Aa,show ¬n<i+1 by omega]
  rw[iN h,ih];by_cases A2:i=n
  .subst A2;rw[iN (fun h2=>h h2.2),iN (fun h2=>h h2.2)]
  by_cases Aa:n<i
  .simp[Aa,show n<i+1 by omega]
  simp[Aa,show ¬n<i+1 by omega]
theorem ZF {n:Nat} (hn:n<p.R.length):∀i,(AD xs p cs fs LV i).2.1.getD n []=if n<i/\¬AN (xs.getD n default).kd=true/\0<=LV.getD n 0 then(p.R.getD n []).filter (fun y=>!decide (y=cs.getD n 0)) else p.R.getD n []
 |0=>by simp[AD]|i+1=>by
  have ih:=ZF hn i;have hl:=Vl (xs:=xs) (p:=p) (cs:=cs) (fs:=fs) (LV:=LV) i;have e:∀P:Prop,[Decidable P]->i≠n->(n<i+1/\P↔n<i/\P):=fun P _ h=>and_congr_left fun _=>⟨fun h2=>oM,fun h2=>oM⟩;rw[AD];simp only;by_cases h:AN (xs.getD i default).kd=true
  .rw[iP h,ih];by_cases A2:i=n
   .subst A2;rw[iN (fun h2=>h2.2.1 h),iN (fun h2=>h2.2.1 h)]
   simp only[e _ A2]
  rw[iN h];split
  .rename_i h0;rw[Ef,hl];by_cases A2:i=n
   .subst A2;have ih2:(AD xs p cs fs LV i).2.1.getD i []=p.R.getD i []:=by rw[ih,iN oM]
    rw[iP ⟨rfl,hn⟩,iP ⟨oM,h,h0⟩,ih2]
   rw[iN (fun h=>A2 h.1),ih];simp only[e _ A2]
  rename_i h0;rw[ih];by_cases A2:i=n
  .subst A2;rw[iN (fun h2=>h0 h2.2.2),iN (fun h2=>h0 h2.2.2)]
  simp only[e _ A2]
theorem ZG:∀i,(AD xs p cs fs LV i).2.2=((List.range i).filter fun m=>decide (0<=LV.getD m 0)).map (Pa xs p cs fs LV)
 |0=>rfl|i+1=>by
  rw[AD,List.range_succ,List.filter_append,List.map_append,<-ZG i];simp only;split
  .rename_i h;rw[List.filter_cons_of_pos (by exact dT h)];rfl
  rename_i h;rw[List.filter_cons_of_neg (by simpa only[decide_eq_true_eq] using h)];simp
theorem j7 {ms:List T3} {s:List (List Int)×List (List Int)} {n:Nat} (hs:s.1.length=xs.length) (hn:n<xs.length) (hm:∀m∈ms,0<=m.c/\m.c<xs.length):
  ∀i,i<=ms.length->(Cs xs ms s i).1.length=xs.length/\(Cs xs ms s i).1.getD n []=if AN (xs.getD n default).kd=true then((ms.take i).filter fun m:T3=>decide (m.c=(n:Int))).foldl (fun r m=>r.set 0 m.a) (s.1.getD n []) else s.1.getD n []
 |0,_=>by simp[Cs,hs]|i+1,hi=>by
  obtain⟨hl,ih⟩:=j7 hs hn hm i oM;have vQ:=hm _ (Fs (d:=default) (show i<ms.length by omega));rw[Cs,Jp (d:=default) (show i<ms.length by omega),List.filter_append,List.foldl_append];generalize ms.getD i default=m at*;by_cases h:AN (xs.getD m.c.toNat default).kd=true
  .rw[iP h];refine⟨by simp[hl],?_⟩;simp only;rw[Ef,hl];by_cases hc:m.c=n
   .have:m.c.toNat=n:=oM;rw[this] at h ⊢;rw[iP ⟨rfl,hn⟩,ih,iP h,iP h];simp[hc]
   rw[iN oM,ih];simp[hc]
  rw[iN h];refine⟨hl,?_⟩;simp only;rw[ih];by_cases hc:m.c=n
  .have:m.c.toNat=n:=oM;rw[this] at h;rw[iN h,iN h]
  simp[hc]
theorem j6 {ms:List T3} {s:List (List Int)×List (List Int)} {n:Nat} (hs:s.2.length=xs.length) (hn:n<xs.length) (hm:∀m∈ms,0<=m.c/\m.c<xs.length):
  ∀i,i<=ms.length->(Cs xs ms s i).2.length=xs.length/\(Cs xs ms s i).2.getD n []=if AN (xs.getD n default).kd=true then s.2.getD n [] else((ms.take i).filter fun m:T3=>decide (m.c=(n:Int))).foldl (fun r m=>DA r m.a) (s.2.getD n [])
 |0,_=>by simp[Cs,hs]|i+1,hi=>by
  obtain⟨hl,ih⟩:=j6 hs hn hm i oM;have vQ:=hm _ (Fs (d:=default) (show i<ms.length by omega));rw[Cs,Jp (d:=default) (show i<ms.length by omega),List.filter_append,List.foldl_append];generalize ms.getD i default=m at*;by_cases h:AN (xs.getD m.c.toNat default).kd=true
  .rw[iP h];refine⟨hl,?_⟩;simp only;rw[ih];by_cases hc:m.c=n
   .have:m.c.toNat=n:=oM;rw[this] at h;rw[iP h,iP h]
   simp[hc]
  rw[iN h];refine⟨by simp[hl],?_⟩;simp only;rw[Ef,hl];by_cases hc:m.c=n
  .have:m.c.toNat=n:=oM;rw[this] at h ⊢;rw[iP ⟨rfl,hn⟩,ih,iN h,iN h];simp[hc]
  rw[iN oM,ih];simp[hc]
end
def YK (xs:List Nd) (LV:List Int) (t:Nat):List Nat:=(List.range xs.length).filter fun m=>decide (0<=LV.getD m 0)&&decide (DY xs LV m=t)
def Ph (xs:List Nd) (p:Pl) (cs:List Int) (fs:List T3) (LV:List Int) (t:Nat):List Int:=if 0<=LV.getD t 0 then[D9 xs p cs fs LV t] else[]
theorem cV {α:Type} {q:α->Bool}:∀{l:List α},l.Nodup->(∀a∈l,∀b∈l,q a=true->q b=true->a=b)->l.filter q=[]\/∃a,a∈l/\q a=true/\l.filter q=[a]
 |[],_,_=> .inl rfl|x::l,hd,h=>by
  rw[List.nodup_cons] at hd;have ih:=cV hd.2 (fun a ha b hb=>h a (mC _ ha) b (mC _ hb));by_cases hx:q x=true
  .rw[List.filter_cons_of_pos hx];refine .inr ⟨x,mS,hx,?_⟩;congr 1
   rw[List.filter_eq_nil_iff];intro a ha X9;have:=h x mS a (mC _ ha) hx X9;rw[this] at hd;exact hd.1 ha
  rw[List.filter_cons_of_neg vk9];rcases ih with ih|⟨a,ha,X9,ih⟩
  .exact .inl ih
  exact .inr ⟨a,mC _ ha,X9,ih⟩
section
variable {A n:Nat} {y:Ly} {p:Pl} {cs:List Int} {fs:List T3}
abbrev Cg (y:Ly) (p:Pl) (cs:List Int) (fs:List T3):Pl×List T3:=EQ y.U p cs fs (Bd y p cs fs)
abbrev MD (y:Ly) (p:Pl) (cs:List Int) (fs:List T3) (t:Nat):List Nat:=YK y.U (Bd y p cs fs) t
abbrev K8 (y:Ly) (p:Pl) (cs:List Int) (fs:List T3) (m:Nat):Int:=D9 y.U p cs fs (Bd y p cs fs) m
abbrev QI (y:Ly) (p:Pl) (cs:List Int) (fs:List T3) (m:Nat):List Int:=Ph y.U p cs fs (Bd y p cs fs) m
theorem iF {xs:List Nd} {LV:List Int} {t:Nat}:(((List.range xs.length).filter fun m=>decide (0<=LV.getD m 0)).map (Pa xs p cs fs LV)).filter (fun m:T3=>decide (m.c=(t:Int)))=(YK xs LV t).map (Pa xs p cs fs LV):=by
 rw[List.filter_map,List.filter_filter,YK];congr 2
 funext m
 show(decide (DY xs LV m=t)&&decide (0<=LV.getD m 0))=_;rw[Bool.and_comm]
theorem iG (h:Sx A n y p cs fs):∀m∈(AD y.U p cs fs (Bd y p cs fs) y.U.length).2.2,0<=m.c/\m.c<y.U.length:=
 ZI h.good.ex (WR h) _ (lR _)
theorem ka (h:Sx A n y p cs fs) {t:Nat} (ht:t<n):
  (Cg y p cs fs).1.Q.getD t []=if AN (y.U.getD t default).kd=true then(MD y p cs fs t).foldl (fun r m=>r.set 0 (K8 y p cs fs m)) (IV y p fs (Bd y p cs fs) t).1 else p.Q.getD t []:=by
 have hl:=h.good.len;have h1:=(j7 (n:=t) (s:=((AD y.U p cs fs (Bd y p cs fs) y.U.length).1,(AD y.U p cs fs (Bd y p cs fs) y.U.length).2.1)) (by simp only;rw[Vk,h.fp.sl]) oM (iG h) _ (lR _)).2;show(Cs _ _ _ _).1.getD t []=_;rw[h1,List.take_length,ZG,iF,List.foldl_map];simp only;rw[ZH (by rw[h.fp.sl];omega)];by_cases hs:AN (y.U.getD t default).kd=true
 .rw[iP hs,iP hs,iP ⟨oM,hs⟩];rfl
 rw[iN hs,iN hs,iN (fun h=>hs h.2)]
theorem j9 (h:Sx A n y p cs fs) {t:Nat} (ht:t<n):
  (Cg y p cs fs).1.R.getD t []=if AN (y.U.getD t default).kd=true then p.R.getD t [] else(MD y p cs fs t).foldl (fun r m=>DA r (K8 y p cs fs m)) (if 0<=(Bd y p cs fs).getD t 0 then(p.R.getD t []).filter (fun z=>!decide (z=cs.getD t 0)) else p.R.getD t []):=by
 have hl:=h.good.len;have h1:=(j6 (n:=t) (s:=((AD y.U p cs fs (Bd y p cs fs) y.U.length).1,(AD y.U p cs fs (Bd y p cs fs) y.U.length).2.1)) (by simp only;rw[Vl,h.fp.bl]) oM (iG h) _ (lR _)).2;show(Cs _ _ _ _).2.getD t []=_;rw[h1,List.take_length,ZG,iF,List.foldl_map];simp only;rw[ZF (by rw[h.fp.bl];omega)];by_cases hs:AN (y.U.getD t default).kd=true
 .rw[iP hs,iP hs,iN (fun h=>h.2.1 hs)]
 rw[iN hs,iN hs];by_cases h0:0<=(Bd y p cs fs).getD t 0
 .rw[iP ⟨oM,hs,h0⟩,iP h0];rfl
 rw[iN (fun h=>h0 h.2.2),iN h0];rfl
theorem xQ (h:Sx A n y p cs fs) {t:Nat} (hs:AN (y.U.getD t default).kd=true):MD y p cs fs t=[]\/∃m,m<n/\0<=(Bd y p cs fs).getD m 0/\DY y.U (Bd y p cs fs) m=t/\MD y p cs fs t=[m]:=by
 have hl:=h.good.len;rcases cV (q:=fun m=>decide (0<=(Bd y p cs fs).getD m 0)&&decide (DY y.U (Bd y p cs fs) m=t)) (l:=List.range y.U.length) List.nodup_range (fun a ha b hb qa qb=>by
   simp only[Bool.and_eq_true,decide_eq_true_eq] at qa qb;rw[List.mem_range] at ha hb;exact sH h oM oM qa.1 qb.1 qa.2 qb.2 hs) with h1|⟨m,h1,h2,h3⟩
 .exact .inl h1
 simp only[Bool.and_eq_true,decide_eq_true_eq] at h2;rw[List.mem_range] at h1;exact .inr ⟨m,oM,h2.1,h2.2,h3⟩
theorem We (h:Sx A n y p cs fs) (DG:∀t,t<n->∀b∈p.R.getD t [],b≠0) {m:Nat} (hm:m<n) (h0:0<=(Bd y p cs fs).getD m 0):K8 y p cs fs m≠0:=by
 show D9 _ _ _ _ _ _≠0;rw[D9];split
 .rename_i hs;have:=ot h hm h0 hs;have h2:(IV y p fs (Bd y p cs fs) m).2≠0:=by rw[this.1];exact this.2
  exact h2
 rename_i hs;obtain⟨a1,_⟩:=Lk h hm h0;obtain⟨_,⟨k7,_,hb⟩|⟨Fp,_⟩⟩:=Py h hm a1
 .exact DG m hm _ hb
 exact absurd Fp hs
theorem iS {b:Int} (h:b≠0):nz [b]=[b]:=by rw[Pe h];rfl
theorem Qe9 (h:Sx A n y p cs fs) (DG:∀t,t<n->∀b∈p.R.getD t [],b≠0) {t:Nat} (ht:t<n) (hs:AN (y.U.getD t default).kd=true):
  nz ((Cg y p cs fs).1.Q.getD t [])++QI y p cs fs t=(MD y p cs fs t).map (K8 y p cs fs)++nz (p.Q.getD t []):=by
 have hl:=h.good.len;rw[ka h ht,iP hs];have e1:=m8 (p.Q.getD t []) (DW fs t (y.U.getD t default).ln.toNat) (decide (0<=(Bd y p cs fs).getD t 0));have e2:nz [(IV y p fs (Bd y p cs fs) t).2]=QI y p cs fs t:=by
  show _=Ph _ _ _ _ _ _;rw[Ph];split
  .rename_i h0;have:=We h DG ht h0;have e3:D9 y.U p cs fs (Bd y p cs fs) t=(IV y p fs (Bd y p cs fs) t).2:=by rw[D9,iP hs];rfl
   rw[e3,iS (by rw[<-e3];exact this)]
  rename_i h0;rw[bi oM];rfl
 have e1':nz (IV y p fs (Bd y p cs fs) t).1++QI y p cs fs t=nz (p.Q.getD t []):=by rw[<-e2];exact e1
 rcases xQ h hs with h1|⟨m,hm,h0,hg,h1⟩
 .rw[h1];exact e1'
 rw[h1];have hb:=We h DG hm h0;have hr:=(sI h hm h0 hg hs).1;have hz:=m7 (p.Q.getD t []) (DW fs t (y.U.getD t default).ln.toNat) (decide (0<=(Bd y p cs fs).getD t 0)) hr;have hlen:(IV y p fs (Bd y p cs fs) t).1.length=(p.Q.getD t []).length:=Tp _ _ _;have NG:=h.fp.row t oM;have AM:=h.fp.st t oM hs;rw[<-e1'];have NN:(IV y p fs (Bd y p cs fs) t).1.getD 0 0=0:=hz;generalize (IV y p fs (Bd y p cs fs) t).1=a at*;cases a with
 |nil=>rw[List.length_nil] at hlen;omega|cons z r=>simp at NN;subst NN;simp only[List.foldl_cons,List.foldl_nil,List.set_cons_zero,List.map_cons,List.map_nil,NU,Pe hb,List.cons_append,List.nil_append]
end
open Go.Plant
def DC (f:Nat->Nat):Nat->Nat
 |0=>0|k+1=>DC f k+f k
theorem S5 {f g:Nat->Nat}:∀{k},(∀i,i<k->f i=g i)->DC f k=DC g k
 |0,_=>rfl|k+1,h=>by rw[DC,DC,S5 fun i hi=>h i oM,h k oM]
theorem Vq {f g:Nat->Nat}:∀k,DC (fun i=>f i+g i) k=DC f k+DC g k
 |0=>rfl|k+1=>by rw[DC,DC,DC,Vq k];omega
theorem ki:∀k,DC (fun _=>0) k=0
 |0=>rfl|k+1=>by rw[DC,ki k]
theorem kg {g:Nat->Nat->Nat} {M:Nat}:∀N,DC (fun t=>DC (fun m=>g t m) M) N=DC (fun m=>DC (fun t=>g t m) N) M
 |0=>by rw[DC];exact(ki M).symm|N+1=>by rw[DC,kg N,<-Vq];rfl
theorem ke {c:Nat} {v:Nat}:∀{N},DC (fun t=>if t=c then v else 0) N=if c<N then v else 0
 |0=>by simp[DC]|N+1=>by
  rw[DC,ke];by_cases h:N=c
  .subst h;simp
  rw[iN h];by_cases h2:c<N
  .rw[iP h2,iP oM];rfl
  rw[iN h2,iN oM]
theorem b8 {q:Nat->Bool} {f:Nat->Int} {b:Int}:∀N,(((List.range N).filter q).map f).count b=DC (fun m=>if q m=true/\f m=b then 1 else 0) N
 |0=>rfl|N+1=>by
  rw[List.range_succ,List.filter_append,List.map_append,List.count_append,b8 N,DC];congr 1
  by_cases h:q N=true
  .by_cases h2:f N=b
   .simp[h,h2]
   simp[h,h2]
  simp[h]
def FS (p:Pl) (t:Nat):List Int:=nz (p.Q.getD t [])++p.R.getD t []
def ED (p:Pl):Nat->List Int
 |0=>[]|t+1=>ED p t++FS p t
theorem VV (p:Pl) (b:Int):∀N,(ED p N).count b=DC (fun t=>(FS p t).count b) N
 |0=>rfl|N+1=>by rw[ED,List.count_append,VV p b N];rfl
theorem Tq {p:Pl} {b:Int}:∀{N},b∈ED p N↔∃t,t<N/\b∈FS p t
 |0=>by simp[ED]|N+1=>by
  rw[ED,List.mem_append,Tq];constructor
  .rintro(⟨t,h,h2⟩|h)
   .exact⟨t,oM,h2⟩
   exact⟨N,oM,h⟩
  rintro⟨t,h,h2⟩;by_cases ht:t=N
  .subst ht;exact .inr h2
  exact .inl ⟨t,oM,h2⟩
theorem aI {p:Pl} {t:Nat}:∀{N},t<N->(FS p t).length<=(ED p N).length
 |N+1,h=>by
  rw[ED,aL];by_cases ht:t=N
  .subst ht;omega
  have:=aI (p:=p) (t:=t) (N:=N) oM;omega
theorem aH {p:Pl} {t:Nat}:∀{N},t<N->(ED p N).Nodup->(FS p t).Nodup
 |N+1,h,hd=>by
  rw[ED,List.nodup_append] at hd;by_cases ht:t=N
  .subst ht;exact hd.2.1
  exact aH oM hd.1
theorem QbT {l:List Int} {x b:Int}:(DA l x).count b=l.count b+if x=b then 1 else 0:=by
 have h:l.count b=(l.takeWhile (fun y=>decide (y<x))).count b+(l.dropWhile (fun y=>decide (y<x))).count b:=by rw[<-List.count_append,List.takeWhile_append_dropWhile]
 rw[DA,List.count_append,List.count_append,h];by_cases hx:x=b
 .simp[hx];omega
 simp[hx]
theorem jn {b:Int} {f:Nat->Int}:∀{ms:List Nat} {l:List Int},(ms.foldl (fun r m=>DA r (f m)) l).count b=l.count b+(ms.map f).count b
 |[],l=>sM|m::ms,l=>by
  rw[List.foldl_cons,jn,QbT,List.map_cons,List.count_cons];by_cases h:f m=b
  .simp[h];omega
  simp[h]
theorem qL {l:List Int} {c b:Int} (hd:l.Nodup) (hc:c∈l):(l.filter fun z=>!decide (z=c)).count b+(if c=b then 1 else 0)=l.count b:=by
 by_cases h:c=b
 .subst h;have h1:(l.filter fun z=>!decide (z=c)).count c=0:=by rw[List.count_eq_zero];intro h2;have:=(List.mem_filter.1 h2).2;simp at this
  rw[h1,List.Nodup.count hd,iP rfl,iP hc]
 rw[iN h,Nat.add_zero,List.count_filter];simp;exact fun h2=>h h2.symm
structure Bh (y:Ly) (p:Pl) (L:List Int):Prop where
 fp:FB y.U p
 perm:(ED p y.U.length).Perm L
 srt:∀t,t<y.U.length->(p.R.getD t []).Pairwise (·<=·)
structure FU (L:List Int):Prop where
 nd:L.Nodup
 pos:∀b∈L,1<=b/\b<=40
 len:L.length<=40
section
variable {A n:Nat} {y:Ly} {p:Pl} {cs:List Int} {fs:List T3} {L:List Int}
theorem Bh.nd (h:Bh y p L) (hL:FU L):(ED p y.U.length).Nodup:=(h.perm.nodup_iff).2 hL.nd
theorem Bh.mem (h:Bh y p L) {b:Int}:b∈ED p y.U.length↔b∈L:=h.perm.mem_iff
theorem Bh.rowpos (h:Bh y p L) (hL:FU L) {t:Nat} (ht:t<y.U.length) {b:Int} (hb:b∈FS p t):1<=b/\b<=40:=
 hL.pos b (h.mem.1 (Tq.2 ⟨t,ht,hb⟩))
theorem Bh.binpos (h:Bh y p L) (hL:FU L) {t:Nat} (ht:t<y.U.length):∀b∈p.R.getD t [],b≠0:=fun b hb=>by have:=h.rowpos hL ht (b:=b) (List.mem_append.2 (.inr hb));omega
theorem Qfb (h:Sx A n y p cs fs) (hi:Bh y p L) (hL:FU L) {t:Nat} (ht:t<n) (b:Int):
  (FS (Cg y p cs fs).1 t).count b+(QI y p cs fs t).count b=((MD y p cs fs t).map (K8 y p cs fs)).count b+(FS p t).count b:=by
 have hl:=h.good.len;have DG:∀t,t<n->∀b∈p.R.getD t [],b≠0:=fun t ht=>hi.binpos hL oM;unfold FS;rw[List.count_append,List.count_append];by_cases hs:AN (y.U.getD t default).kd=true
 .have h1:=congrArg (List.count b) (Qe9 h DG ht hs);rw[List.count_append,List.count_append] at h1;rw[j9 h ht,iP hs];omega
 rw[ka h ht,j9 h ht,iN hs,iN hs,jn];show _+(Ph _ _ _ _ _ _).count b=_;rw[Ph];have Lv:(p.R.getD t []).Nodup:=by have:=aH oM (hi.nd hL) (p:=p) (t:=t);rw[FS,List.nodup_append] at this;exact this.2.1
 split
 .rename_i h0;obtain⟨a1,_⟩:=Lk h ht h0;obtain⟨_,⟨k7,_,hb⟩|⟨Fp,_⟩⟩:=Py h ht a1
  .have:=qL (b:=b) Lv hb;have e:(D9 y.U p cs fs (Bd y p cs fs) t)=cs.getD t 0:=by rw[D9,iN hs]
   rw[e,List.count_singleton];simp only[beq_iff_eq];have e2:(if cs.getD t 0=b then 1 else 0)=(if cs.getD t 0=b then 1 else 0:Nat):=rfl;omega
  exact absurd Fp hs
 simp;omega
theorem Qfa (h:Sx A n y p cs fs) (hi:Bh y p L) (hL:FU L):(ED (Cg y p cs fs).1 y.U.length).Perm L:=by
 have hl:=h.good.len;refine List.Perm.trans ?_ hi.perm;rw[List.perm_iff_count];intro b;rw[VV,VV];have h1:DC (fun t=>(FS (Cg y p cs fs).1 t).count b+(QI y p cs fs t).count b) n=DC (fun t=>((MD y p cs fs t).map (K8 y p cs fs)).count b+(FS p t).count b) n:=S5 fun t ht=>Qfb h hi hL ht b;rw[Vq,Vq] at h1;have h2:DC (fun t=>((MD y p cs fs t).map (K8 y p cs fs)).count b) n=DC (fun t=>(QI y p cs fs t).count b) n:=by
  have e1:∀t,t<n->((MD y p cs fs t).map (K8 y p cs fs)).count b=DC (fun m=>if t=(DY y.U (Bd y p cs fs) m).toNat then(if 0<=(Bd y p cs fs).getD m 0/\K8 y p cs fs m=b then 1 else 0) else 0) n:=fun t ht=>by
   show(((List.range y.U.length).filter _).map _).count b=_;rw[b8,hl];refine S5 fun m hm=>?_;simp only[Bool.and_eq_true,decide_eq_true_eq];by_cases h0:0<=(Bd y p cs fs).getD m 0
   .obtain⟨_,g1,g2,_⟩:=Lk h hm h0;by_cases hg:DY y.U (Bd y p cs fs) m=t
    .simp[h0,hg]
    simp[hg,show ¬t=(DY y.U (Bd y p cs fs) m).toNat by omega]
   rw[iN (fun h2=>h0 h2.1.1)];split
   .rw[iN (fun h2=>h0 h2.1)]
   rfl
  rw[S5 e1,kg];refine S5 fun m hm=>?_;rw[ke];show _=(Ph _ _ _ _ _ _).count b;rw[Ph];by_cases h0:0<=(Bd y p cs fs).getD m 0
  .obtain⟨_,g1,g2,_⟩:=Lk h hm h0;rw[iP oM,iP h0,List.count_singleton];by_cases hb:D9 y.U p cs fs (Bd y p cs fs) m=b
   .rw[iP ⟨h0,hb⟩,iP xx6]
   rw[iN (fun h2=>hb h2.2),iN xx6]
  rw[iN h0,iN (fun h2:0<=(Bd y p cs fs).getD m 0/\K8 y p cs fs m=b=>h0 h2.1)];simp
 rw[hl];omega
theorem Vp (h:Sx A n y p cs fs) (hi:Bh y p L) (hL:FU L):Bh y (Cg y p cs fs).1 L:=by
 have hl:=h.good.len;have hp:=Qfa h hi hL;have AI:=Vo (ms:=(AD y.U p cs fs (Bd y p cs fs) y.U.length).2.2) (Vn (cs:=cs) (fs:=fs) (LV:=Bd y p cs fs) hi.fp hi.srt _ (lR _)) (AD y.U p cs fs (Bd y p cs fs) y.U.length).2.2.length;refine⟨⟨hi.fp.xl,AI.l1,AI.l2,AI.r1,fun t ht=>?_,hi.fp.ln,hi.fp.st,hi.fp.ex⟩,hp,fun t ht=>(AI.r2 t ht).1⟩;have h1:=aI (p:=(Cg y p cs fs).1) ht;rw[hp.length_eq] at h1;have:=hL.len;have h2:((Cg y p cs fs).1.R.getD t []).length<=(FS (Cg y p cs fs).1 t).length:=by rw[FS,aL];omega
 omega
end
open Go.Plant
theorem dW {α:Type} {l:List α} {x d:α} {t:Nat}:(l++[x]).getD t d=if t<l.length then l.getD t d else if t=l.length then x else d:=by
 simp only[gE,List.getElem?_append];split
 .rfl
 split
 .rename_i h;subst h;simp
 rw[List.getElem?_eq_none vv2];rfl
open Go.Plant
theorem pw {A n:Nat} {y:Ly} (hg:Good A n y) (l:List Int) (a:Nat) {i:Nat} (hi:i<n):CM (y.U.getD i default) (EF l (y.U.getD i default) a).1=true:=by
 have hs:=hg.shp i hi;have he:=hg.exl hi;generalize y.U.getD i default=x at*;obtain⟨k1,k2⟩:=hs.kd;unfold EF;by_cases c7:x.kd=7
 .rw[iP c7,CM,iP c7];have:=Lh (l:=l) (a:=a) (n:=8) oM;simp;omega
 rw[iN c7];by_cases c8:x.kd=8\/x.kd=9
 .rw[iP c8,CM,iN c7,iP (by simp[AN];omega)];rfl
 rw[iN c8];have AM:¬AN x.kd=false:=by simp[AN];omega
 by_cases c5:x.kd=5
 .rw[iP c5,CM,iN c7,iN AM];have hm:=Rv (l:=l) (a:=a) (es:=[1,1,0]) sM;simp only[List.mem_cons,List.not_mem_nil,or_false] at hm;simp only;rw[iN oM];rw[CT,iP oM] at he;simp;omega
 rw[iN c5];by_cases c4:x.kd=4\/x.kd=6
 .rw[iP c4,CM,iN c7,iN AM];have hm:=Rv (l:=l) (a:=a) (es:=[1,0,1,0,-1]) sM;simp only[List.mem_cons,List.not_mem_nil,or_false] at hm;simp only;rw[CT,iP oM] at he;split
  .simp[c5]
  simp;omega
 rw[iN c4,CM,iN c7,iN AM];have hm:=Rv (l:=l) (a:=a) (es:=[0,0,0,0,-1]) sM;simp only[List.mem_cons,List.not_mem_nil,or_false] at hm;simp only;rw[CT,iN oM,iN oM] at he;split
 .simp[c5]
 simp;omega
theorem bI (l:List Int) (xs:List Nd) (a:Nat):∀i j,j<i->∃b,(HY l xs a i).1.getD j 0=(EF l (xs.getD j default) b).1
 |0,j,h=>absurd h (nZ _)|i+1,j,h=>by
  rw[HY,dW,Rf];by_cases hj:j<i
  .rw[iP hj];exact bI l xs a i j hj
  have:j=i:=oM;subst this;rw[iN hj,iP rfl];exact⟨_,rfl⟩
theorem dN {A n:Nat} {y:Ly} (hg:Good A n y) (l:List Int) (a:Nat):(gC l a y.U).1.length=n/\∀i,i<n->CM (y.U.getD i default) ((gC l a y.U).1.getD i 0)=true:=by refine⟨by rw[gC,Rf,hg.len],fun i hi=>?_⟩;obtain⟨b,hb⟩:=bI l y.U a y.U.length i (by rw[hg.len];exact hi);rw[gC,hb];exact pw hg l b hi
structure Ju (xs:List Nd) (fs:List T3):Prop where
 ok:∀f∈fs,(f.a=1\/f.a=2)/\0<=f.b/\f.b<xs.length/\0<=f.c/\f.c<(xs.getD f.b.toNat default).ln
 dif:fs.Pairwise fun f g=>¬(g.b=f.b/\g.c=f.c)
theorem zJ {A n:Nat} {y:Ly} (hg:Good A n y) (l:List Int) (a:Nat):∀k,Ju y.U (QE l y.U a k).1
 |0=>⟨by simp[QE],by simp[QE]⟩|k+1=>by
  obtain⟨h1,h2⟩:=zJ hg l a k;have hn:=hg.n11;have hl:=hg.len;rw[QE];generalize QE l y.U a k=o at*;unfold iE;simp only;have hk:=Lh (l:=l) (a:=o.2) (n:=(y.U.length:Int)) oM;have hx:=hg.shp (gN l o.2 y.U.length).toNat oM;have AK:=hx.ln;have DR:=hx.l0;split
  .exact⟨h1,h2⟩
  rename_i Bj;have hw:=Lh (l:=l) (a:=o.2+2) (n:=(y.U.getD (gN l o.2 y.U.length).toNat default).ln) oM;have hr:=Iu (l:=l) (a:=o.2+1) (lo:=1) (hi:=2) oM;split
  .exact⟨h1,h2⟩
  rename_i Qf;refine⟨fun f hf=>?_,List.pairwise_append.2 ⟨h2,sM,fun f hf g F3=>?_⟩⟩
  .rcases List.mem_append.1 hf with hf|hf
   .exact h1 f hf
   rw[List.mem_singleton] at hf;subst hf;simp only;omega
  rw[List.mem_singleton] at F3;simp only[Bool.not_eq_true,List.any_eq_false] at Qf;have:=Qf f hf;subst F3;rw[jP,Bool.and_eq_false_iff,decide_eq_false_iff_not,decide_eq_false_iff_not] at this;simp only;rintro⟨e1,e2⟩;exact this.elim (fun h=>h e1.symm) (fun h=>h e2.symm)
theorem Ju.fit {xs:List Nd} {fs:List T3} (h:Ju xs fs) (hl:fs.length<=1000):N3 xs fs:=by refine⟨hl,fun i hi n hn hb=>?_⟩;have:=h.ok _ (Fs (d:=default) hi);rw[hb,Int.toNat_natCast] at this;exact this.2.2.2
theorem Ju.first {xs:List Nd}:∀{fs:List T3},Ju xs fs->FC xs fs=0
 |[],_=>rfl|f::r,h=>by
  have hf:=h.ok f mS;have:Lg xs f=0:=by unfold Lg;rw[iN oM,iN oM]
  rw[FC,iN (by rw[this];simp)];exact Ju.first ⟨fun g hg=>h.ok g (mC _ hg),(List.pairwise_cons.1 h.dif).2⟩
theorem Ju.dup {xs:List Nd} {fs:List T3} (h:Ju xs fs):FY fs=false:=by
 rw[FY,List.any_eq_false];intro i hi;rw[List.mem_range] at hi;simp only[Bool.not_eq_true,List.any_eq_false,List.mem_range];intro k hk;have:=jo (d:=default) h.dif hk hi;simp only[Bool.not_eq_true,Bool.and_eq_false_iff,decide_eq_false_iff_not];by_cases h1:(fs.getD i default).b=(fs.getD k default).b
 .exact .inr fun h2=>this ⟨h1,h2⟩
 exact .inl h1
theorem ji {A n:Nat} {y:Ly} {cs:List Int} {fs:List T3} (hg:Good A n y) (hc:cs.length=n) (hk:∀i,i<n->CM (y.U.getD i default) (cs.getD i 0)=true) (hf:Ju y.U fs) (hl:fs.length<=4):Hf y.U cs fs=0:=by have hN:=hg.len;rw[Hf,iN oM,iN,iN oM,hf.first,iN sM,hf.dup,iN sM];rw[JB,hc,IN hk];simp
theorem Good.sx {A n:Nat} {y:Ly} {p:Pl} {L:List Int} (hg:Good A n y) (hi:Bh y p L) {cs:List Int} {fs:List T3} (hc:cs.length=n) (hk:∀i,i<n->CM (y.U.getD i default) (cs.getD i 0)=true) (hf:Ju y.U fs) (hl:fs.length<=4):Sx A n y p cs fs:=
 ⟨hg,hi.fp,hf.fit oM,hc,hk⟩
open Go.Plant
theorem ZO {ms:List T3} {j:Nat} (h:j<ms.length):ms.take (j+1)=ms.take j++[ms.getD j default]:=by rw[List.take_add_one,gG h,gE,gG h];rfl
section
variable {A n:Nat} {y:Ly} {p:Pl} {cs:List Int} {fs:List T3}
end
open Go.Plant
theorem zz {s:List Int} {b:Int} (h0:b≠0):b∈nz s↔b∈s:=by rw[nz,List.mem_filter];simp[h0]
section
variable {A n:Nat} {y:Ly} {p:Pl} {cs:List Int} {fs:List T3} {L:List Int}
end
open Go.Plant
section
variable {α:Type} {f:α->α} {l:List α} {k:Nat} {d:α}
end
def n5 (x:Int):Int:=x+20
def BL (r:List Int):List Int:=r.map n5
open Go.Plant
theorem aS {fs:List T3} {n:Int} {ln k j:Nat} (hb:(fs.getD j default).b=n) (hc:(fs.getD j default).c.toNat=k) (ha:(fs.getD j default).a=1) (hk:k<ln)
  (hu:∀i,i<fs.length->i≠j->(fs.getD i default).b=n->(fs.getD i default).c.toNat≠k):∀i,i<=fs.length->j<i->(Fg fs n ln i).getD k 0=1
 |0,_,h=>absurd h (nZ _)|i+1,hi,h=>by
  have hl:=Q5 fs n ln i;rw[Fg];unfold M3;by_cases Da:i=j
  .subst Da;rw[iP hb,Ef,iP ⟨hc,oM⟩,ha]
  have ih:=aS hb hc ha hk hu i oM oM;split
  .rename_i h2;rw[Ef,iN (fun h3=>hu i oM Da h2 h3.1)];exact ih
  exact ih
theorem p9 {fs:List T3} (hd:FY fs=false) {i j:Nat} (hi:i<fs.length) (hj:j<fs.length) (Bj:i≠j):¬((fs.getD i default).b=(fs.getD j default).b/\(fs.getD i default).c=(fs.getD j default).c):=by
 have key:∀{i j:Nat},i<fs.length->j<i->¬((fs.getD i default).b=(fs.getD j default).b/\(fs.getD i default).c=(fs.getD j default).c):=by intro i j hi hj h;rw[FY,List.any_eq_false] at hd;refine hd i (List.mem_range.2 hi) (List.any_eq_true.2 ⟨j,List.mem_range.2 hj,?_⟩);rw[dT h.1,dT h.2];rfl
 rcases Nat.lt_or_gt_of_ne Bj with h|h
 .exact fun h2=>key hj h ⟨h2.1.symm,h2.2.symm⟩
 exact key hi h
theorem nD {xs:List Nd} {fs:List T3} (hf:N3 xs fs) (hd:FY fs=false) {m k:Nat} (hm:m<xs.length) (hk:k<(xs.getD m default).ln.toNat) (h:fs.any (fun z=>CD ⟨1,m,k⟩ z)=true):
  (DW fs m (xs.getD m default).ln.toNat).getD k 0=1:=by
 obtain⟨z,hz,he⟩:=List.any_eq_true.1 h;obtain⟨j,hj,rfl⟩:=List.getElem_of_mem hz;have e:=Wx.1 he;have ej:fs.getD j default=⟨1,m,k⟩:=by rw[e];simp[hj]
 refine aS (j:=j) (by rw[ej]) (by rw[ej];simp) (by rw[ej]) hk (fun i hi Bj hb hc=>?_) _ (lR _) hj;have h1:=hf.ok i hi m hm hb;refine p9 hd hi hj Bj ⟨by rw[hb,ej],by rw[ej];show _=(k:Int);omega⟩
section
variable {A n:Nat} {y:Ly} {p:Pl} {cs:List Int} {fs:List T3}
theorem il (h:Sx A n y p cs fs) (hd:FY fs=false) (DG:∀t,t<n->∀b∈p.R.getD t [],b≠0) {m:Nat} (hm:m<n):
  (KQ (y.U.getD m default) (p.Q.getD m []) (p.R.getD m []) (cs.getD m 0) fs m≠0↔0<=(WN y p cs fs).getD m 0)/\
  (0<=(WN y p cs fs).getD m 0->(WN y p cs fs).getD m 0=Tf (y.U.getD m default) (cs.getD m 0)):=by
 have hl:=h.good.len;have FF:=h.cmd m hm;have AM:=h.fp.st m oM;have HH:=DG m hm;rw[WN,kP oM,IQ,KQ,Tf];by_cases k7:(y.U.getD m default).kd=7
 .rw[iP k7,iP k7,iP k7];by_cases hc:cs.getD m 0∈p.R.getD m []
  .have e:((p.R.getD m []).any fun y=>decide (cs.getD m 0=y))=true:=List.any_eq_true.2 ⟨_,hc,dT rfl⟩;rw[iP hc,iP e];exact⟨⟨fun _=>oM,fun _=>HH _ hc⟩,fun _=>rfl⟩
  have e:¬((p.R.getD m []).any fun y=>decide (cs.getD m 0=y))=true:=fun h2=>by obtain⟨z,hz,Lp⟩:=List.any_eq_true.1 h2;rw[oT Lp] at hc;exact hc hz
  rw[iN hc,iN e];exact⟨⟨fun h=>absurd rfl h,fun h=>oM⟩,fun h=>oM⟩
 rw[iN k7,iN k7,iN k7];cases hs:AN (y.U.getD m default).kd with
 |false=>rw[iP (.inl rfl),iP rfl];exact⟨⟨fun h=>absurd rfl h,fun h=>oM⟩,fun h=>oM⟩|true=>
  have AM:=AM hs;rw[CM,iN k7,iN (by rw[hs];simp)] at FF;have e1:((y.U.getD m default).ln - 1:Int)=(((y.U.getD m default).ln.toNat - 1:Nat):Int):=oM;rw[iN (show ¬(true=false) by simp),e1];by_cases UD:(fs.any fun z=>CD ⟨1,m,(((y.U.getD m default).ln.toNat - 1:Nat):Int)⟩ z)=true
  .have:=nD (m:=m) (k:=(y.U.getD m default).ln.toNat - 1) h.ff hd oM oM UD;rw[iP (.inr (.inr this)),iP (.inr UD)];exact⟨⟨fun h=>absurd rfl h,fun h=>oM⟩,fun h=>oM⟩
  have B8:=aQ (m:=m) (k:=(y.U.getD m default).ln.toNat - 1) (ln:=(y.U.getD m default).ln.toNat) h.ff oM (by simpa using UD);by_cases FG:cs.getD m 0=-1
  .rw[iP (.inr (.inl FG))];refine⟨⟨fun h=>absurd rfl h,fun h=>?_⟩,fun h=>?_⟩
   .split at h<;>omega
   split at h<;>omega
  rw[iN FG,Bool.and_eq_true,decide_eq_true_eq,decide_eq_true_eq] at FF;rw[iN (show ¬(true=false\/cs.getD m 0=-1\/(DW fs m (y.U.getD m default).ln.toNat).getD ((y.U.getD m default).ln.toNat - 1) 0=1) from fun h=>by
   rcases h with h|h|h
   ·cases h
   ·exact FG h
   exact B8 h)]
  by_cases h0:(p.Q.getD m []).getD ((y.U.getD m default).ln.toNat - 1) 0=0
  .rw[iP (.inl h0)];exact⟨⟨fun h=>absurd h0 h,fun h=>oM⟩,fun h=>oM⟩
  rw[iN (fun h=>by rcases h with h|h;exact h0 h;exact UD h)];exact⟨⟨fun _=>FF.1,fun _=>h0⟩,fun _=>rfl⟩
theorem Qj3 {lv:List Int} {xs:List Nd} {W:List Int} (hu:PK xs W) {m:Nat} (hm:m<xs.length) (h:Q0 xs p W lv (m+1)):(lv.getD m 0=-1\/0<=lv.getD m 0)/\((xs.getD m default).kd=5->lv.getD m 0≠0):=by
 by_cases h1:W.getD m 0<0\/Ct xs W m<((m+1:Nat):Int)
 .have:=h.neg m hm oM h1;exact⟨.inl this,fun _=>oM⟩
 have h0:0<=W.getD m 0:=oM;have h2:((m+1:Nat):Int)<=Ct xs W m:=oM;rcases h.mid m hm oM h0 h2 with ⟨h3,_⟩|⟨h3,_⟩
 .refine⟨.inr oM,fun h5 h6=>?_⟩;have:=hu.lp m hm h5 oM;omega
 exact⟨.inl h3,fun _=>oM⟩
theorem xW {xs:List Nd} {W:List Int} (hu:PK xs W) {c:Nat} (hc:c<=xs.length):Q0 xs p W (C7 xs p W (Ci xs.length) c).1 (xs.length - c):=by
 induction c with
 |zero=>
  refine⟨QG _,fun m h1 h2=>oM,fun m h1 h2 h3=>?_,fun m h1 h2 h3 h4=>?_⟩
  .simp[C7,El,h1]
  have:=(hu.up m h1 h3).2;omega
 |succ c ih=>have h1:=ih oM;rw[C7,M0,Tc oM,Int.toNat_natCast];have e:xs.length - c=(xs.length - 1 - c)+1:=oM;rw[e] at h1;have:=di hu oM h1;rw[show xs.length - (c+1)=xs.length - 1 - c by omega];exact this
end
def Js (xs:List Nd) (W:List Int) (t:Nat) (lv:List Int):Nat->List Int
 |0=>lv|k+1=>if Cw xs W t k=true then(Js xs W t lv k).set k (W.getD k 0) else Js xs W t lv k
theorem Td {xs:List Nd} {W:List Int} {t:Nat} {lv:List Int}:∀k,(Js xs W t lv k).length=lv.length
 |0=>rfl|k+1=>by rw[Js];split<;>simp[Td k]
theorem Vx {xs:List Nd} {W:List Int} {t:Nat} {lv:List Int} {j:Nat} (hj:j<lv.length):∀k,(Js xs W t lv k).getD j 0=if j<k/\Cw xs W t j=true then W.getD j 0 else lv.getD j 0
 |0=>by rw[iN (fun h=>absurd h.1 (nZ _))];rfl|k+1=>by
  have hl:=Td (xs:=xs) (W:=W) (t:=t) (lv:=lv) k;rw[Js];by_cases Db:j=k
  .subst Db;by_cases hc:Cw xs W t j=true
   .rw[iP hc,Ef,iP ⟨rfl,oM⟩,iP ⟨oM,hc⟩]
   rw[iN hc,Vx hj j,iN (fun h=>hc h.2),iN (fun h=>hc h.2)]
  have e:(j<k+1/\Cw xs W t j=true)=(j<k/\Cw xs W t j=true):=by refine propext ⟨fun h=>⟨oM,h.2⟩,fun h=>⟨oM,h.2⟩⟩
  split
  .rw[Ef,iN (fun h=>Db h.1.symm),Vx hj k];simp only[e]
  rw[Vx hj k];simp only[e]
theorem QgS {xs:List Nd} {W:List Int} {t:Nat} {lv:List Int} (C9:xs.length<=11) (hw:W.length=xs.length) (hl:lv.length=xs.length):
  Js xs W t lv xs.length=Il W (CC xs W t W.length) (CC xs W t W.length) lv:=by
 have hS:CC xs W t W.length<2048:=tL (PU xs W t W.length) (Nat.pow_le_pow_right dM (by omega:W.length<=11));refine List.ext_getElem (by rw[Td,ZV]) fun j h1 h2=>?_;rw[Td] at h1;have e1:=Vx (xs:=xs) (W:=W) (t:=t) h1 xs.length;have e2:=ZU W (k:=j) _ _ lv (lR _) hS h1 oM;rw[PT] at e2;have e3:(Js xs W t lv xs.length).getD j 0=(Il W (CC xs W t W.length) (CC xs W t W.length) lv).getD j 0:=by
  rw[e1,e2,hw];by_cases hc:Cw xs W t j=true
  .rw[iP ⟨oM,hc⟩,iP (by rw[dT oM,hc];rfl)]
  rw[iN (fun h=>hc h.2),iN (by simp[hc])]
 simpa[h1,h2,Td] using e3
theorem pF {xs:List Nd} {W:List Int} {t:Nat} (hw:W.length=xs.length) (h:∀k,k<xs.length->Cw xs W t k=false):CC xs W t W.length=0:=by
 refine Nat.eq_of_testBit_eq fun j=>?_;rw[PT,Nat.zero_testBit];by_cases hj:j<W.length
 .rw[h j oM,Bool.and_false]
 rw[dF hj,Bool.false_and]
theorem pE {xs:List Nd} {W:List Int} {t k:Nat} (C9:xs.length<=11) (hw:W.length=xs.length) (hk:k<xs.length) (hc:Cw xs W t k=true) (h:∀j,j<k->Cw xs W t j=false):
  CC xs W t W.length≠0/\tz 11 (CC xs W t W.length)=k:=by
 have hS:CC xs W t W.length<2048:=tL (PU xs W t W.length) (Nat.pow_le_pow_right dM (by omega:W.length<=11));have hb:(CC xs W t W.length).testBit k=true:=by rw[PT,hc,dT oM];rfl
 have h0:CC xs W t W.length≠0:=fun h0=>by rw[h0,Nat.zero_testBit] at hb;cases hb
 obtain⟨b1,_,b3⟩:=ZW hS h0;have h1:=b3 k oM hb;refine⟨h0,?_⟩;refine Decidable.byContradiction fun Bj=>?_;rw[PT,h _ oM,Bool.and_false] at b1;cases b1
theorem cI (xs:List Nd) (p:Pl) {j:Nat}:∀{i},j<i->(Ko xs p i).getD j false=Dy (xs.getD j default) (p.Q.getD j [])
 |0,h=>absurd h (nZ _)|i+1,h=>by
  have hl:=TO xs p i;rw[Ko,gE];by_cases hj:j=i
  .subst hj;rw[List.getElem?_append_right oM,hl,Nat.sub_self];rfl
  rw[List.getElem?_append_left oM,<-gE];exact cI xs p oM
open Go.Plant
def run:List Int->List Int->Bool->List Int->List Int×Int
 |[],_,_,x=>(x,0)|b::r,fs,op,x=>
  if b=0 then(x.headD 0::(run r (fs.drop 1) op x.tail).1,(run r (fs.drop 1) op x.tail).2)
  else if r=[] then(if op=true/\fs.getD 0 0≠1 then([x.headD 0],b) else([b],0))
  else if fs.getD 0 0=1\/r.getD 0 0≠0 then(b::(run r (fs.drop 1) op x.tail).1,(run r (fs.drop 1) op x.tail).2)
  else if fs.getD 0 0=2/\1<r.length/\r.getD 1 0=0 then(x.headD 0::(run r (fs.drop 1) op (x.tail.set 1 b)).1,(run r (fs.drop 1) op (x.tail.set 1 b)).2)
  else(x.headD 0::(run r (fs.drop 1) op (x.tail.set 0 b)).1,(run r (fs.drop 1) op (x.tail.set 0 b)).2)
theorem Zv (op:Bool):∀(r fs x:List Int) (i:Nat) (v:Int),i<r.length->x.length=r.length->(∀j,j<=i->r.getD j 0=0)->run r fs op (x.set i v)=((run r fs op x).1.set i v,(run r fs op x).2)
 |[],_,_,_,_,h,_,_=>absurd h (nZ _)|b::r,fs,x,i,v,hi,hx,hz=>by
  have hb:b=0:=by simpa using hz 0 (zL _)
  subst hb;cases x with
  |nil=>simp at hx|cons x0 x=>
   rw[run,iP rfl,run,iP rfl];cases i with
   |zero=>rfl|succ i=>have:=Zv op r (fs.drop 1) x i v vv5 vk9 (fun j hj=>by simpa using hz (j+1) oM);simp only[List.set_cons_succ,List.tail_cons,List.headD_cons];rw[this]
theorem jA (op:Bool):∀(r fs:List Int),run r fs op (List.replicate r.length 0)=BO r fs op
 |[],_=>rfl|b::r,fs=>by
  have ih:=jA op r (fs.drop 1);rw[List.length_cons,List.replicate_succ,run,BO];simp only[List.tail_cons,List.headD_cons];by_cases hb:b=0
  .rw[iP hb,iP hb,ih]
  rw[iN hb,iN hb];by_cases hr:r=[]
  .rw[iP hr,iP hr]
  have fJ:0<r.length:=List.length_pos_iff.2 hr;rw[iN hr,iN hr];by_cases c1:fs.getD 0 0=1\/r.getD 0 0≠0
  .rw[iP c1,iP c1,ih]
  rw[iN c1,iN c1];have h0:r.getD 0 0=0:=Decidable.byContradiction fun h=>c1 (.inr h);by_cases c2:fs.getD 0 0=2/\1<r.length/\r.getD 1 0=0
  .rw[iP c2,iP c2,Zv op r _ _ 1 b c2.2.1 sM (fun j hj=>by
    have:j=0\/j=1:=oM;rcases this with rfl|rfl
    ·exact h0
    exact c2.2.2),ih]
  rw[iN c2,iN c2,Zv op r _ _ 0 b fJ sM (fun j hj=>by
   have:j=0:=oM;subst this;exact h0),ih]
theorem VZ (a b:List Int) (i:Nat):(a++b).getD (a.length+i) 0=b.getD i 0:=Rx a b i
theorem nu (a b:List Int) (i:Nat) (x:Int):(a++b).set (a.length+i) x=a++b.set i x:=ZA a b i x
theorem aF (fs:List Int) (op:Bool):∀(r a u x:List Int),u.length=a.length->x.length=r.length->Hn (a++r) fs op a.length=(u++x,0)->
  Hn (a++r) fs op (a++r).length=(u++(run r (fs.drop a.length) op x).1,(run r (fs.drop a.length) op x).2)
 |[],a,u,x,hu,hx,h=>by rw[List.append_nil] at h ⊢;rw[h];rfl|b::r,a,u,x,hu,hx,h=>by
  cases x with
  |nil=>simp at hx|cons x0 x=>
   have SE:x.length=r.length:=vk9;have e:∀z:List Int,a++b::z=(a++[b])++z:=fun z=>sM;have el:(a++[b]).length=a.length+1:=sM;have Hs:(a++b::r).getD a.length 0=b:=by have:=VZ a (b::r) 0;simpa using this
   have Uh:fs.getD a.length 0=(fs.drop a.length).getD 0 0:=by simp[gE]
   have Hw:fs.drop (a.length+1)=(fs.drop a.length).drop 1:=by rw[List.drop_drop]
   have hlen:(a++b::r).length=a.length+r.length+1:=vv2;have AM:Hn (a++b::r) fs op (a.length+1)=In (a++b::r) fs op a.length (u++x0::x,0):=by rw[Hn,h]
   have next:∀y0 y:_,y.length=r.length->Hn (a++b::r) fs op (a.length+1)=(u++y0::y,0)->Hn (a++b::r) fs op (a++b::r).length=(u++y0::(run r ((fs.drop a.length).drop 1) op y).1,(run r ((fs.drop a.length).drop 1) op y).2):=fun y0 y hy h2=>by have:=aF fs op r (a++[b]) (u++[y0]) y (by simp[hu]) hy (by rw[el,<-e,h2];simp);rw[<-e,el,Hw] at this;rw[this];simp
   rw[In,Hs] at AM;rw[run];simp only[List.tail_cons,List.headD_cons];by_cases hb:b=0
   .rw[iP hb] at AM ⊢;exact next x0 x SE AM
   rw[iN hb] at AM ⊢;have DH:∀(z:List Int) (i:Nat) (v:Int),(u++z).set (a.length+i) v=u++z.set i v:=fun z i v=>by rw[<-hu];exact nu u z i v
   by_cases hr:r=[]
   .subst hr;obtain rfl:x=[]:=by simpa using SE
    have Dc:¬a.length+1<(a++[b]).length:=sM;rw[iN Dc,Uh] at AM;rw[iP rfl,el,AM];split
    .rfl
    have:=DH [x0] 0 b;simp only[Nat.add_zero] at this;rw[this];rfl
   have fJ:0<r.length:=List.length_pos_iff.2 hr;rw[iP (by rw[hlen];omega)] at AM;rw[iN hr];have h1:(a++b::r).getD (a.length+1) 0=r.getD 0 0:=VZ a (b::r) 1;have h2:(a++b::r).getD (a.length+2) 0=r.getD 1 0:=VZ a (b::r) 2;by_cases c1:(fs.drop a.length).getD 0 0=1\/r.getD 0 0≠0
   .have ht:Hk (a++b::r) fs a.length=a.length:=by rw[Hk,Uh,h1];first|rw[iP c1]|(rcases c1 with c1|c1<;>simp[c1])
    rw[ht] at AM;have:=DH (x0::x) 0 b;simp only[Nat.add_zero,List.set_cons_zero] at this;rw[this] at AM;rw[iP c1];exact next b x SE AM
   rw[iN c1];by_cases c2:(fs.drop a.length).getD 0 0=2/\1<r.length/\r.getD 1 0=0
   .have ht:Hk (a++b::r) fs a.length=a.length+2:=by rw[Hk,Uh,h1,h2,hlen,iN c1,iP ⟨c2.1,oM,c2.2.2⟩]
    rw[ht] at AM;have:=DH (x0::x) 2 b;simp only[List.set_cons_succ] at this;rw[this] at AM;rw[iP c2];exact next x0 (x.set 1 b) (by rw[List.length_set];exact SE) AM
   have ht:Hk (a++b::r) fs a.length=a.length+1:=by rw[Hk,Uh,h1,h2,hlen,iN c1,iN (fun h=>c2 ⟨h.1,oM,h.2.2⟩)]
   rw[ht] at AM;have:=DH (x0::x) 1 b;simp only[List.set_cons_succ] at this;rw[this] at AM;rw[iN c2];exact next x0 (x.set 0 b) (by rw[List.length_set];exact SE) AM
theorem m9 (s fs:List Int) (op:Bool):Q4 s fs op=BO s fs op:=by have:=aF fs op s [] [] (List.replicate s.length 0) rfl sM rfl;simp only[List.nil_append,List.length_nil,List.drop_zero] at this;rw[Q4,this,jA]
open Go.Plant
section
variable {xs:List Nd} {p:Pl} {cs:List Int} {fs:List T3} {LV:List Int}
theorem Vm {i:Nat} (h0:0<=LV.getD i 0):(AD xs p cs fs LV (i+1)).2.2=(AD xs p cs fs LV i).2.2++[Pa xs p cs fs LV i]:=by rw[AD];simp only;rw[iP h0];rfl
theorem j5 {i:Nat} (h0:¬0<=LV.getD i 0):(AD xs p cs fs LV (i+1)).2.2=(AD xs p cs fs LV i).2.2:=by rw[AD];simp only;rw[iN h0]
theorem j3 {i:Nat} (h0:0<=LV.getD i 0):∀{m},i<m->(AD xs p cs fs LV i).2.2.length<(AD xs p cs fs LV m).2.2.length/\(AD xs p cs fs LV m).2.2.getD (AD xs p cs fs LV i).2.2.length default=Pa xs p cs fs LV i
 |0,h=>absurd h (nZ _)|m+1,h=>by
  by_cases hm:i=m
  .subst hm;rw[Vm h0];refine⟨sM,?_⟩;rw[gE,List.getElem?_append_right (lR _),Nat.sub_self];rfl
  obtain⟨h1,h2⟩:=j3 h0 (m:=m) oM;by_cases c:0<=LV.getD m 0
  .rw[Vm c];refine⟨by rw[aL];omega,?_⟩;rw[gE,List.getElem?_append_left h1,<-gE];exact h2
  rw[j5 c];exact⟨h1,h2⟩
theorem Qe4 {i N:Nat} {s:List (List Int)×List (List Int)} (h0:0<=LV.getD i 0) (hi:i<N) {q:List (List Int)×List (List Int)} (hq:Cs xs (AD xs p cs fs LV N).2.2 s (AD xs p cs fs LV i).2.2.length=q):
  Cs xs (AD xs p cs fs LV N).2.2 s (AD xs p cs fs LV (i+1)).2.2.length=if AN (xs.getD (DY xs LV i).toNat default).kd=true then(q.1.set (DY xs LV i).toNat ((q.1.getD (DY xs LV i).toNat []).set 0 (D9 xs p cs fs LV i)),q.2)
   else(q.1,q.2.set (DY xs LV i).toNat (DA (q.2.getD (DY xs LV i).toNat []) (D9 xs p cs fs LV i))):=by
 have e:(AD xs p cs fs LV (i+1)).2.2.length=(AD xs p cs fs LV i).2.2.length+1:=by rw[Vm h0];simp
 rw[e,Cs,(j3 h0 hi).2,hq];rfl
end
def Pc (xs:List Nd):Int:=match (List.range xs.length).find? (fun(i:Nat)=>!decide (Do xs.length i (xs.getD i default)=0)) with
 |some i=>Do xs.length i (xs.getD i default)|none=>0
theorem Y9 {xs:List Nd} {i:Nat} (hi:i<xs.length) (h:∀j,j<i->Do xs.length j (xs.getD j default)=0) (hb:¬Do xs.length i (xs.getD i default)=0):Pc xs=Do xs.length i (xs.getD i default):=by
 have:((List.range xs.length).find? fun(i:Nat)=>!decide (Do xs.length i (xs.getD i default)=0))=some i:=by rw[List.find?_eq_some_iff_getElem];refine⟨xx6,i,vv5,sM,fun j hj=>?_⟩;have:=h j hj;simp only[List.getElem_range];simpa using this
 rw[Pc,this]
theorem Za {xs:List Nd} (h:∀j,j<xs.length->Do xs.length j (xs.getD j default)=0):Pc xs=0:=by
 have:((List.range xs.length).find? fun(i:Nat)=>!decide (Do xs.length i (xs.getD i default)=0))=none:=by rw[List.find?_eq_none];intro i hi;have:=h i (List.mem_range.1 hi);simpa using this
 rw[Pc,this]
def Nb (xs:List Nd):Bool:=xs.any fun x=>decide (x.kd=1)
def K4 (xs:List Nd):Bool:=(List.range xs.length).all fun i=>Dg xs (xs.getD i default)
def Dp (y:Ly):Int:=
 if 24<y.U.length\/24<y.D.length then 2
 else if ¬Pc y.U=0 then Pc y.U
 else if 80<MV y.U then 2
 else if MI y.U=false then 5
 else if K4 y.U=false then 7
 else if(Dz y.U).length<y.U.length then 9
 else if ¬JD y.U y.D=0 then JD y.U y.D
 else if Nb y.U=false then 6 else 0
theorem J6 {N i:Int} {x:Nd} (h:Do N i x=0):0<=x.ln/\x.ln<=8/\Hb N i x=true:=by
 rw[Do] at h;split at h
 .cases h
 split at h
 .cases h
 split at h
 .rename_i h2;obtain⟨h3,_,h4⟩:=h2;refine⟨?_,?_,h4⟩<;>(unfold MG at h3;split at h3<;>(try split at h3)<;>simp at h3<;>omega)
 cases h
theorem Y8 {N i:Int} {x:Nd} (h:Do N i x=0):∀k,k<x.ex.length->0<=x.ex.getD k 0/\x.ex.getD k 0<N:=by have:=(SM.1 (J6 h).2.2).2;intro k hk;have:=this k hk;simp only[GA,Bool.and_eq_true,decide_eq_true_eq] at this;exact⟨this.1,this.2.1⟩
theorem qm (x:Nd):Ag prog Ad 148 [] [x.av] [] (B (decide (x.kd=1))):=by refine Am func148 ntmps148 ?_;intro w e X hC;exact xz5
structure HW (y:Ly):Prop where
 n:y.U.length<=1000
 d:y.D.length<=1000
 x:∀i,i<y.U.length->(y.U.getD i default).ex.length<=1000
 nm:∀i,i<y.U.length->(bs (y.U.getD i default).nm).length<=1000
theorem Z0 (y:Ly) (hs:HW y):Ag prog Ad 84 [] [y.av] [] (I (Dp y)):=by
 obtain⟨hN,hD,hx,FN⟩:=hs;have Sh:=fun i hi=>y1 y i hi hN (hx i hi) (FN i hi);have O0:=y9 y hN;have vY:=yZ y hN;have O4:=fun i hi=>Qj4 y i hi hN (hx i hi);have Sw:=jY y hN hx;have ui:=yN y hN hD;have Ns:=pO y.U 148 (fun x=>decide (x.kd=1)) hN (fun x _=>qm x);have hE:Dp y=_:=Dp.eq_1 y;generalize Dp y=r at*;refine Am func84 ntmps84 ?_;intro w e X hC;refine uZ ?_;cases d1:decide (24<(y.U.length:Int)) with
 |true=>have h1:=oT d1;rw[iP (.inl oM)] at hE;subst hE;refine IB @d1 ?_;exact uP|false=>
 have h1:=oF d1;cases d2:decide (24<(y.D.length:Int)) with
 |true=>have h2:=oT d2;rw[iP (.inr oM)] at hE;subst hE;refine IB (uI @d1 @d2) ?_;exact uP|false=>
 have h2:=oF d2;rw[iN oM] at hE;refine xy8 (uI @d1 @d2) ?_;refine uF ?_;refine xy4 ?_;refine Aw (fun q:Nat×Nat=>⟨[(1, .p 101 1 0 0 0),(19,I y.U.length),(20,I q.2)],(101,some (1, .box [.sl (AA y.U) false, .sl (Ai y.D) false]))::[],q.1⟩) (fun q=>q.2<=y.U.length/\∀j,j<q.2->Do y.U.length j (y.U.getD j default)=0) (fun q=>y.U.length - q.2) (_,0) ⟨zL _,fun j hj=>absurd hj (nZ _)⟩ (Af) ?_;rintro⟨ck,k⟩ ⟨hk,hj⟩;simp only at hk hj;refine xy1 (fun h=>?_) (fun h=>?_)
 .have Aa:k<y.U.length:=oM;have Bc:=Y9 Aa hj;have Bk:=Sh k Aa;have Cz:Do y.U.length k (y.U.getD k default)=0->∀j,j<k+1->Do y.U.length j (y.U.getD j default)=0:=fun h j Ah=>by
   by_cases AF:j=k
   .subst AF;exact h
   exact hj j oM
  generalize Do y.U.length k (y.U.getD k default)=e at*;refine uA ?_;refine xx9 Bk ?_;refine xy1 (fun c1=>?_) (fun c1=>?_)
  .rw[iP (by rw[Bc c1];exact c1),Bc c1] at hE;subst hE;exact xz5
  refine uZ ?_;refine⟨(_,k+1),⟨uO,Cz (Decidable.byContradiction c1)⟩,uO,Af⟩
 refine At ?_;obtain rfl:k=y.U.length:=oM;rw[iN (by rw[Za hj];simp)] at hE;replace O0:=O0 fun i hi=>⟨(J6 (hj i hi)).1,by have:=(J6 (hj i hi)).2.1;omega⟩;replace O4:=fun i hi=>O4 i hi fun k hk=>Y8 (hj i hi) k hk;replace Sw:=Sw fun i hi k hk=>Y8 (hj i hi) k hk;clear hj Sh;have SG:K4 y.U=_:=K4.eq_1 y.U;generalize MV y.U=t at*;generalize MI y.U=nb at*;generalize K4 y.U=zb at*;generalize Dz y.U=o at*;generalize JD y.U y.D=de at*;have uo:Nb y.U=_:=Nb.eq_1 y.U;rw[<-uo] at Ns;generalize Nb y.U=eb at*;refine xx9 O0 ?_;refine GF (fun c1=>?_) (fun c1=>?_)
 .rw[iP c1] at hE;subst hE;exact xz5
 rw[iN c1] at hE;refine xx9 vY ?_;cases nb with
 |false=>rw[iP rfl] at hE;subst hE;exact xz7|true=>
 rw[iN dM] at hE;refine uF ?_;refine xy4 ?_;refine Aw (fun q:Nat×Nat=>⟨[(1, .p 101 1 0 0 0),(40,I y.U.length),(41,I q.2)],(101,some (1, .box [.sl (AA y.U) false, .sl (Ai y.D) false]))::[],q.1⟩) (fun q=>q.2<=y.U.length/\∀j,j<q.2->Dg y.U (y.U.getD j default)=true) (fun q=>y.U.length - q.2) (_,0) ⟨zL _,fun j hj=>absurd hj (nZ _)⟩ (Af) ?_;rintro⟨ck2,k⟩ ⟨hk,hj⟩;simp only at hk hj;refine xy1 (fun h2=>?_) (fun h2=>?_)
 .have Aa:k<y.U.length:=oM;have Bc:=MQ (p:=fun i=>Dg y.U (y.U.getD i default)) Aa;try simp only at Bc
  rw[<-SG] at Bc;have Bk:=O4 k Aa;have Cz:Dg y.U (y.U.getD k default)=true->∀j,j<k+1->Dg y.U (y.U.getD j default)=true:=fun h j Ah=>by
   by_cases AF:j=k
   .subst AF;exact h
   exact hj j oM
  generalize Dg y.U (y.U.getD k default)=e at*;refine uA ?_;refine xx9 Bk ?_;cases e with
  |false=>rw[iP (Bc rfl)] at hE;subst hE;exact xz7|true=>refine xy9 ?_;refine⟨(_,k+1),⟨uO,Cz rfl⟩,uO,Af⟩
 refine At ?_;rw[iN (by rw[SG,IN fun j Ah=>hj j oM];decide)] at hE;clear hj;refine uE ?_;refine xy5 Sw ?_;refine GF (fun c2=>?_) (fun c2=>?_)
 .rw[iP oM] at hE;subst hE;exact xz5
 rw[iN oM] at hE;refine xx9 ui ?_;refine xy1 (fun c3=>?_) (fun c3=>?_)
 .rw[iP c3] at hE;subst hE;exact xz5
 rw[iN c3] at hE;refine xz1 Ns ?_;cases eb with
 |false=>rw[iP rfl] at hE;subst hE;exact xz7|true=>rw[iN dM] at hE;subst hE;refine xy9 ?_;exact uP
open Go.Plant
theorem y8 (y:Ly) (hs:HW y) (hv:Dp y=0) (hr:∀i,i<y.U.length->∀j,j<(y.U.getD i default).ex.length->0<=(y.U.getD i default).ex.getD j 0/\(y.U.getD i default).ex.getD j 0<y.U.length):
  Ag prog Ad 164 [] [y.av] [] (IS (Dz y.U)):=by
 have h1:=Z0 y hs;rw[hv] at h1;have h2:=jY y hs.n hs.x hr;refine Am func164 ntmps164 ?_;intro w e X hC;refine uA ?_;refine xx9 h1 ?_;refine uF ?_;refine xz1 h2 ?_;exact uP
theorem qk (y:Ly) (hs:HW y) (hv:Dp y=0) (hr:∀i,i<y.U.length->∀j,j<(y.U.getD i default).ex.length->0<=(y.U.getD i default).ex.getD j 0/\(y.U.getD i default).ex.getD j 0<y.U.length):
  Ag prog Ad 113 [] [y.av] [] (.tup [.P (Df y (Dz y.U)),B true]):=by
 have h1:=Z0 y hs;rw[hv] at h1;have h2:=y8 y hs hv hr;refine Am func113 ntmps113 ?_;intro w e X hC;refine uA ?_;refine xx9 h1 ?_;refine uF ?_;refine uD ?_;refine xy5 h2 ?_;refine Ay ?_;rw[show f113.results.toList=[.tmp 2, .tmp 3] from rfl];exact Bm
def LF (N i:Int) (x:Nd) (k:Nat):Bool:=E6 (x.ex.getD k 0) 0 (N - 1)&&(decide (x.ex.getD k 0=i)==(decide (x.kd=5)&&decide (k=0)))
theorem yP {N i:Int} {x:Nd} (h:(x.ex.length:Int)=CT x.kd):Hb N i x=((List.range x.ex.length).all (LF N i x)&&!(decide (x.ex.length=2)&&decide (x.ex.getD 0 0=x.ex.getD 1 0))):=by
 have hl:x.ex.length=0\/x.ex.length=1\/x.ex.length=2:=by
  have:CT x.kd=0\/CT x.kd=1\/CT x.kd=2:=by unfold CT;split<;>(try split)<;>simp
  omega
 have A2:∀e:Int,E6 e 0 (N - 1)=(decide (0<=e)&&decide (e<N)):=fun e=>by
  unfold E6;congr 1
  by_cases h:e<N
  .rw[dT h,dT oM]
  rw[dF h,dF oM]
 rw[Hb,dT h,Bool.true_and];rcases hl with hl|hl|hl
 .rw[hl];simp
 .rw[hl];simp[List.range_succ,GA,LF,A2,Bool.and_assoc]
 match he:x.ex,hl with
 |[a,b],_=>
  simp[List.range_succ,GA,LF,A2,he,Bool.and_assoc];have:decide (b=a)=decide (a=b):=by by_cases h:a=b<;>simp[h,eq_comm]
  rw[this]
def QC (kd:Int):Int:=if kd=5 then 2 else if AN kd=true then 1 else 0
def OG (kd:Int):Int:=if AN kd=true then 8 else 0
theorem yQ (x:Nd):MG x=E6 x.ln (QC x.kd) (OG x.kd):=by
 unfold MG E6 QC OG;by_cases h5:x.kd=5
 .simp only[iP h5,iP (show AN x.kd=true by rw[h5];decide)]
 simp only[iN h5];split
 .rfl
 by_cases h:x.ln=0
 .simp[h]
 rw[dF h];simp;omega
theorem QdE (y:Ly) (i:Nat) (hi:i<y.U.length) (hN:y.U.length<=1000) (hx:(y.U.getD i default).ex.length<=1000) (FN:(bs (y.U.getD i default).nm).length<=1000):
  Ag prog Ad 155 [] [y.av,I i] [] (I (Do y.U.length i (y.U.getD i default))):=by
 have h1:=Y5 _ FN;generalize e1:y.U.getD i default=x at*;have hE:Do y.U.length i x=_:=Do.eq_1 _ _ _;have JQ:=fun h=>yP (N:=y.U.length) (i:=i) (x:=x) h;have hex:¬((x.ex.length:Int)=CT x.kd)->Hb y.U.length i x=false:=fun h=>by rw[Hb,dF h,Bool.false_and]
 rw[yQ] at hE;generalize Do y.U.length i x=r at*;generalize LI x.nm=a at*;generalize Hb y.U.length i x=p at*;refine Am func155 ntmps155 ?_;intro w e X hC;refine uA ?_;refine Bg (uI (AG hi) @e1) ?_;refine xx9 h1 ?_;cases a with
 |false=>refine xy3 ?_;rw[iP rfl] at hE;subst hE;exact uP|true=>
 rw[iN dM] at hE;refine uF ?_;refine xx9 ((QA x.kd 1 9)) ?_;cases d1:E6 x.kd 1 9 with
 |false=>
  have:x.kd<1\/9<x.kd:=by simp[E6] at d1;omega
  rw[iP this] at hE;subst hE;exact xz7
 |true=>
 rw[iN (by simp[E6] at d1;omega)] at hE;refine uF ?_;refine uA ?_;refine A5 ?_;refine CE (fun q:Nat=>⟨[(1,I i),(2, .p 102 1 0 0 0),(5, .p 105 8 0 0 0),(6,I (if AN x.kd=true then 1 else 0)),(7,I (OG x.kd))],(105,some (8, .box [S x.nm,I x.kd,I x.ln,I x.zn,IS x.ex]))::(102,some (1, .box [.sl (AA y.U) false, .sl (Ai y.D) false]))::[],q⟩) (fun _=>True) ?_ ?_
 .refine xx9 ((Kd x.kd)) ?_;unfold OG;cases AN x.kd with
  |true=>refine xy3 ?_;refine⟨_,trivial,Af⟩|false=>refine xq9 ?_;refine⟨_,trivial,Af⟩
 rintro ck1 -;refine A5 ?_;refine CE (fun q:Nat=>⟨[(1,I i),(2, .p 102 1 0 0 0),(5, .p 105 8 0 0 0),(6,I (QC x.kd)),(7,I (OG x.kd))],(105,some (8, .box [S x.nm,I x.kd,I x.ln,I x.zn,IS x.ex]))::(102,some (1, .box [.sl (AA y.U) false, .sl (Ai y.D) false]))::[],q⟩) (fun _=>True) ?_ ?_
 .unfold QC;by_cases c5:x.kd=5
  .have d5:=dT c5;simp only[iP c5];refine xy8 @d5 ?_;refine xy3 ?_;refine⟨_,trivial,Af⟩
  have d5:=dF c5;simp only[iN c5];refine xy8 @d5 ?_;refine xq9 ?_;refine⟨_,trivial,Af⟩
 rintro ck2 -;have D0:=QA x.ln (QC x.kd) (OG x.kd);have Dw:=QA x.zn 0 1;have hz:(x.zn=0\/x.zn=1)↔E6 x.zn 0 1=true:=by simp[E6];omega
 simp only[hz] at hE;generalize E6 x.ln (QC x.kd) (OG x.kd)=b1 at*;generalize E6 x.zn 0 1=b2 at*;have MB:=cQ x.kd;generalize CT x.kd=en at*;cases b1 with
 |false=>rw[iN sM] at hE;subst hE;refine uE ?_;refine xy2 D0 ?_;exact xz7|true=>
 cases b2 with
 |false=>rw[iN sM] at hE;subst hE;refine uE ?_;intro K hK;refine xy0 D0 ?_;refine xw6 Dw ?_;refine hK _ ?_;clear hK K;exact xz7|true=>
 by_cases c3:(x.ex.length:Int)=en
 .have d3:decide (¬(x.ex.length:Int)=en)=false:=dF oM;refine uE ?_;intro K hK;refine xy0 D0 ?_;refine xz0 Dw ?_;refine xz0 MB ?_;first|refine Ap @d3 ?_|exact Aq @d3
  refine uH ?_;refine hK _ ?_;clear hK K;refine uF ?_;replace JQ:=JQ c3;clear hex MB D0 Dw hz c3 d3;refine xy4 ?_;refine Aw (fun q:Nat×Nat=>⟨[(1,I i),(2, .p 102 1 0 0 0),(5, .p 105 8 0 0 0),(8,I q.2)],(105,some (8, .box [S x.nm,I x.kd,I x.ln,I x.zn,IS x.ex]))::(102,some (1, .box [.sl (AA y.U) false, .sl (Ai y.D) false]))::[],q.1⟩) (fun q=>q.2<=x.ex.length/\∀j,j<q.2->LF y.U.length i x j=true) (fun q=>x.ex.length - q.2) (_,0) ⟨zL _,fun j hj=>absurd hj (nZ _)⟩ (Af) ?_;rintro⟨ck3,k⟩ ⟨hk,hj⟩;simp only at hk hj;refine xy1 (fun h=>?_) (fun h=>?_)
  .have Aa:k<x.ex.length:=oM;have Bc:=MQ (p:=LF y.U.length i x) Aa;have Cz:LF y.U.length i x k=true->∀j,j<k+1->LF y.U.length i x j=true:=fun h j Ah=>by
    by_cases AF:j=k
    .subst AF;exact h
    exact hj j oM
   have hA:LF y.U.length i x k=_:=LF.eq_1 _ _ _ _;generalize LF y.U.length i x k=la at*;iterate 3 (first|refine BQ ?_|refine A5 ?_|refine B5 ?_)
   refine A5 ?_;refine CE (fun q:Nat=>⟨[(1,I i),(2, .p 102 1 0 0 0),(5, .p 105 8 0 0 0),(8,I k),(9,B (decide (x.kd=5)&&decide (k=0)))],(105,some (8, .box [S x.nm,I x.kd,I x.ln,I x.zn,IS x.ex]))::(102,some (1, .box [.sl (AA y.U) false, .sl (Ai y.D) false]))::[],q⟩) (fun _=>True) ?_ ?_
   .by_cases c5:x.kd=5
    .have d5:=dT c5;by_cases c0:k=0
     .have d0:=uDt ((k:Int)=0);refine Bg (uI @d5 @d0) ?_;refine⟨_,trivial, .of (lR _) Cb (AS (uI @d5 (uI @c0 @Bool.true_and)))⟩
     have d0:=uDf ((k:Int)=0);refine Bg (uI @d5 @d0) ?_;refine⟨_,trivial, .of (lR _) Cb (AS (uI @d5 (uI @c0 @Bool.true_and)))⟩
    have d5:=dF c5;refine Bg @d5 ?_;refine⟨_,trivial, .of (lR _) Cb (AS (uI @d5 @Bool.false_and))⟩
   rintro ck4 -;have A2:=QA (x.ex.getD k 0) 0 (y.U.length - 1);generalize E6 (x.ex.getD k 0) 0 (y.U.length - 1)=b3 at*;generalize (decide (x.kd=5)&&decide (k=0))=ow at*;cases b3 with
   |false=>rw[Bool.false_and] at hA;subst hA;rw[JQ,Bc rfl,iN sM] at hE;subst hE;refine Cv (Ao Aa) ?_;intro K hK;refine⟨oM,oM,?_⟩;refine xw6 A2 ?_;refine hK _ ?_;clear hK K;exact xz7|true=>
    rw[Bool.true_and] at hA;refine Cv (Ao Aa) ?_;intro K hK;refine⟨oM,oM,?_⟩;refine xz0 A2 ?_;first|refine Ap (uI (Ao Aa) @hA.symm) ?_|exact Aq (uI (Ao Aa) @hA.symm)
    refine uH ?_;refine hK _ ?_;clear hK K;cases la with
    |false=>rw[JQ,Bc rfl,iN sM] at hE;subst hE;exact xz7|true=>refine xy9 ?_;refine⟨(_,k+1),⟨uO,Cz rfl⟩,uO,Af⟩
  refine At ?_;obtain rfl:k=x.ex.length:=oM;rw[IN hj,Bool.true_and] at JQ;by_cases c2:x.ex.length=2
  .have d2:=uDt ((x.ex.length:Int)=2);rw[dT c2,Bool.true_and] at JQ;have DR:0<x.ex.length:=oM;have BH:1<x.ex.length:=oM;refine xq1 (uI @d2 (uI (Ao DR) (uI (Ao BH) (uI @Int.toNat_zero @Int.toNat_one)))) ?_;refine GF (fun c4=>?_) (fun c4=>?_)
   .rw[dT c4] at JQ;rw[JQ,iN sM] at hE;subst hE;exact xz5
   rw[dF c4] at JQ;rw[JQ,iP sM] at hE;subst hE;exact xz5
  have d2:=uDf ((x.ex.length:Int)=2);rw[dF c2,Bool.false_and] at JQ;rw[JQ,iP sM] at hE;subst hE;refine xq1 @d2 ?_;refine xy9 ?_;exact uP
 have d3:decide (¬(x.ex.length:Int)=en)=true:=dT c3;rw[iN (by rw[hex c3];simp)] at hE;subst hE;refine uE ?_;intro K hK;refine xy0 D0 ?_;refine xz0 Dw ?_;refine xz0 MB ?_;first|refine Ap @d3 ?_|exact Aq @d3
 refine uH ?_;refine hK _ ?_;clear hK K;exact xz7
def zf (x:Nd):Bool:=decide (x.kd=1)||(decide (x.kd=3)||decide (x.kd=6))
def zs (x:Nd):Bool:=decide (x.kd=7)||decide (x.kd=8)
theorem Qhi (x:Nd):HR x=!((zf x&&decide (¬x.zn=0))||(zs x&&decide (¬x.zn=1))):=by
 unfold HR zf zs;by_cases h1:x.kd=1\/x.kd=3\/x.kd=6
 .rw[iP h1];have h7:¬x.kd=7:=oM;have h8:¬x.kd=8:=oM;have:(decide (x.kd=1)||(decide (x.kd=3)||decide (x.kd=6)))=true:=vy9;rw[this,dF h7,dF h8];simp
 rw[iN h1];have:(decide (x.kd=1)||(decide (x.kd=3)||decide (x.kd=6)))=false:=vy9;rw[this];by_cases h2:x.kd=7\/x.kd=8
 .rw[iP h2];have:(decide (x.kd=7)||decide (x.kd=8))=true:=vz7;rw[this];simp
 rw[iN h2];have:(decide (x.kd=7)||decide (x.kd=8))=false:=vz7;rw[this];simp
theorem QeG (y:Ly) (hN:y.U.length<=1000) (hx:∀i,i<y.U.length->(y.U.getD i default).ex.length<=1000) (hr:∀i,i<y.U.length->∀k,k<(y.U.getD i default).ex.length->0<=(y.U.getD i default).ex.getD k 0/\(y.U.getD i default).ex.getD k 0<y.U.length):
  Ag prog Ad 157 [] [y.av] [] (B (K4 y.U)):=by
 refine Am func157 ntmps157 ?_;intro w e X hC;refine xy4 ?_;refine Aw (fun q:Nat×Nat=>⟨[(1, .p 101 1 0 0 0),(3,I q.2)],(101,some (1, .box [.sl (AA y.U) false, .sl (Ai y.D) false]))::[],q.1⟩) (fun q=>q.2<=y.U.length/\∀j,j<q.2->Dg y.U (y.U.getD j default)=true) (fun q=>y.U.length - q.2) (_,0) ⟨zL _,fun j hj=>absurd hj (nZ _)⟩ (Af) ?_;rintro⟨ck,i⟩ ⟨hi,hj⟩;simp only at hi hj;refine xy1 (fun h=>?_) (fun h=>?_)
 .have Aa:i<y.U.length:=oM;have Bc:=MQ (p:=fun i=>Dg y.U (y.U.getD i default)) Aa;have SG:K4 y.U=_:=K4.eq_1 y.U;try simp only at Bc
  rw[<-SG] at Bc;have Cz:Dg y.U (y.U.getD i default)=true->∀j,j<i+1->Dg y.U (y.U.getD j default)=true:=fun h j Ah=>by
   by_cases AF:j=i
   .subst AF;exact h
   exact hj j oM
  have YB:=hx i Aa;have OW:=hr i Aa;clear SG;generalize e1:y.U.getD i default=x at*;have hZ:Dg y.U x=_:=Dg.eq_1 _ _;rw[Qhi] at hZ;iterate 3 (first|refine BQ ?_|refine A5 ?_|refine B5 ?_)
  refine A5 ?_;refine xz2 (uI (AG Aa) @e1) ?_;refine L3 (s':=⟨[(1, .p 101 1 0 0 0),(3,I i),(4, .p 104 (ck+10) 0 0 0)],(104,some (ck+10, .box [S x.nm,I x.kd,I x.ln,I x.zn,IS x.ex]))::(101,some (1, .box [.sl (AA y.U) false, .sl (Ai y.D) false]))::[],_⟩) (Af) ?_;generalize I9:ck+10=g;clear I9;refine A5 ?_;refine CE (fun q:Nat=>⟨[(1, .p 101 1 0 0 0),(3,I i),(4, .p 104 g 0 0 0),(5,B (zf x))],(104,some (g, .box [S x.nm,I x.kd,I x.ln,I x.zn,IS x.ex]))::(101,some (1, .box [.sl (AA y.U) false, .sl (Ai y.D) false]))::[],q⟩) (fun _=>True) ?_ ?_
  .unfold zf;cases d1:decide (x.kd=1) with
   |true=>refine Bg @d1 ?_;refine⟨_,trivial,Af⟩|false=>
   cases d3:decide (x.kd=3) with
   |true=>refine Bg (uI @d1 @d3) ?_;refine⟨_,trivial,Af⟩|false=>refine Bg (uI @d1 @d3) ?_;refine⟨_,trivial,Af⟩
  rintro ck1 -;refine A5 ?_;refine CE (fun q:Nat=>⟨[(1, .p 101 1 0 0 0),(3,I i),(4, .p 104 g 0 0 0),(5,B (zf x)),(6,B (zs x))],(104,some (g, .box [S x.nm,I x.kd,I x.ln,I x.zn,IS x.ex]))::(101,some (1, .box [.sl (AA y.U) false, .sl (Ai y.D) false]))::[],q⟩) (fun _=>True) ?_ ?_
  .unfold zs;cases d1:decide (x.kd=7) with
   |true=>refine Bg @d1 ?_;refine⟨_,trivial,Af⟩|false=>refine Bg @d1 ?_;refine⟨_,trivial,Af⟩
  rintro ck2 -;generalize zf x=f at*;generalize zs x=sc at*;have Hs:∀u:Bool,Dg y.U x=(false&&u)->Dg y.U x=false:=fun u h=>by rw[h,Bool.false_and]
  refine A5 ?_;refine CE (fun q:Nat=>⟨[(1, .p 101 1 0 0 0),(3,I i),(4, .p 104 g 0 0 0)],(104,some (g, .box [S x.nm,I x.kd,I x.ln,I x.zn,IS x.ex]))::(101,some (1, .box [.sl (AA y.U) false, .sl (Ai y.D) false]))::[],q⟩) (fun _=>Dg y.U x=(List.range x.ex.length).all (HS y.U x)) ?_ ?_
  .cases f with
   |true=>
    cases z0:decide (¬x.zn=0) with
    |true=>rw[z0] at hZ;refine IB @z0 ?_;rw[Bc (Hs _ hZ)];exact uP|false=>
     rw[z0] at hZ;cases sc with
     |true=>
      cases z1:decide (¬x.zn=1) with
      |true=>rw[z1] at hZ;refine IB (uI @z0 @z1) ?_;rw[Bc (Hs _ hZ)];exact uP|false=>rw[z1] at hZ;refine xq5 (uI @z0 @z1) ?_;refine⟨_,hZ,Af⟩
     |false=>refine xq5 @z0 ?_;refine⟨_,hZ,Af⟩
   |false=>
    cases sc with
    |true=>
     cases z1:decide (¬x.zn=1) with
     |true=>rw[z1] at hZ;refine IB @z1 ?_;rw[Bc (Hs _ hZ)];exact uP|false=>rw[z1] at hZ;refine xq5 @z1 ?_;refine⟨_,hZ,Af⟩
    |false=>refine J8 ?_;refine uW ?_;refine⟨_,hZ,Af⟩
  rintro ck3 Xf;clear hZ Hs;refine xy4 ?_;refine Aw (fun q:Nat×Nat=>⟨[(1, .p 101 1 0 0 0),(3,I i),(4, .p 104 g 0 0 0),(7,I q.2)],(104,some (g, .box [S x.nm,I x.kd,I x.ln,I x.zn,IS x.ex]))::(101,some (1, .box [.sl (AA y.U) false, .sl (Ai y.D) false]))::[],q.1⟩) (fun q=>q.2<=x.ex.length/\∀j,j<q.2->HS y.U x j=true) (fun q=>x.ex.length - q.2) (_,0) ⟨zL _,fun j hj=>absurd hj (nZ _)⟩ (Af) ?_;rintro⟨ck,k⟩ ⟨hk,GX⟩;simp only at hk GX;refine xy1 (fun h2=>?_) (fun h2=>?_)
  .have Gv:k<x.ex.length:=oM;obtain⟨r0,r1⟩:=OW k Gv;have Xn:HS y.U x k=false->K4 y.U=false:=fun h=>Bc (by rw[Xf,MQ Gv h]);have ft:HS y.U x k=true->∀j,j<k+1->HS y.U x j=true:=fun h j Ah=>by
    by_cases AF:j=k
    .subst AF;exact h
    exact GX j oM
   obtain⟨zk,F5⟩:∃zk,zk=HS y.U x k:=⟨_,rfl⟩;rw[<-F5] at Xn ft;unfold HS at F5;obtain⟨m,hm⟩:∃m,m=(x.ex.getD k 0).toNat:=⟨_,rfl⟩;have DF:x.ex.getD k 0=(m:Int):=oM;rw[<-hm] at F5;have CW:m<y.U.length:=oM;generalize e3:y.U.getD m default=t at*;refine xq2 (uI (Ao Gv) (uI @DF (uI (AG CW) @e3))) ?_;refine L3 (s':=⟨[(1, .p 101 1 0 0 0),(3,I i),(4, .p 104 g 0 0 0),(7,I k),(8, .p 108 (ck+14) 0 0 0)],(108,some (ck+14, .box [S t.nm,I t.kd,I t.ln,I t.zn,IS t.ex]))::(104,some (g, .box [S x.nm,I x.kd,I x.ln,I x.zn,IS x.ex]))::(101,some (1, .box [.sl (AA y.U) false, .sl (Ai y.D) false]))::[],_⟩) (Af) ?_;generalize I9:ck+14=g2;clear I9;refine uA ?_;refine A5 ?_;refine CE (fun q:Nat=>⟨[(1, .p 101 1 0 0 0),(3,I i),(4, .p 104 g 0 0 0),(7,I k),(8, .p 108 g2 0 0 0),(9,I (Ev x k))],(108,some (g2, .box [S t.nm,I t.kd,I t.ln,I t.zn,IS t.ex]))::(104,some (g, .box [S x.nm,I x.kd,I x.ln,I x.zn,IS x.ex]))::(101,some (1, .box [.sl (AA y.U) false, .sl (Ai y.D) false]))::[],q⟩) (fun _=>True) ?_ ?_
   .by_cases c6:x.kd=6
    .have d6:=dT c6;by_cases ck1:k=1
     .have dk:=uDt ((k:Int)=1);have hw:Ev x k=1:=by rw[Ev,iP ⟨c6,ck1⟩]
      refine xq5 (uI @d6 @dk) ?_;refine⟨_,trivial, .of (lR _) (Ax @hw) (AS @hw)⟩
     have dk:=uDf ((k:Int)=1);have hw:Ev x k=x.zn:=by rw[Ev,iN (fun h=>ck1 h.2)]
     refine xq5 (uI @d6 @dk) ?_;refine⟨_,trivial, .of (lR _) (Ax @hw) (AS @hw)⟩
    have d6:=dF c6;have hw:Ev x k=x.zn:=by rw[Ev,iN (fun h=>c6 h.1)]
    refine xq5 @d6 ?_;refine⟨_,trivial, .of (lR _) (Ax @hw) (AS @hw)⟩
   rintro ck4 -;generalize Ev x k=wt at*;cases c1:decide (t.kd=1) with
   |true=>rw[c1,Bool.true_or] at F5;refine IB @c1 ?_;rw[Xn F5];exact uP|false=>
    cases c2:decide (¬t.zn=wt) with
    |true=>rw[c1,c2] at F5;refine IB (uI @c1 @c2) ?_;rw[Xn F5];exact uP|false=>rw[c1,c2] at F5;refine IB (uI @c1 @c2) ?_;refine⟨(_,k+1),⟨uO,ft F5⟩,uO,Af⟩
  refine At ?_;rw[IN fun j Ah=>GX j oM] at Xf;refine uZ ?_;refine⟨(_,i+1),⟨uO,Cz Xf⟩,uO,Af⟩
 refine At ?_;have:K4 y.U=true:=IN fun j Ah=>hj j oM;rw[this];exact xz5
theorem pD {xs:List Nd} {k:Nat} (h:k<xs.length):(xs.take (k+1)).countP (fun x=>decide (x.kd=1))=(xs.take k).countP (fun x=>decide (x.kd=1))+if(xs.getD k default).kd=1 then 1 else 0:=by
 rw[Jp (d:=default) h,List.countP_append];congr 1
 by_cases h1:(xs.getD k default).kd=1
 .rw[iP h1,List.countP_cons_of_pos (by exact dT h1)];rfl
 rw[iN h1,List.countP_cons_of_neg (by simpa only[decide_eq_true_eq] using h1)];rfl
theorem ql (xs:List Nd):Nb xs=decide (¬xs.countP (fun x=>decide (x.kd=1))=0):=by
 rw[Nb,Bool.eq_iff_iff,decide_eq_true_eq,List.countP_eq_zero,List.any_eq_true];constructor
 .rintro⟨x,hx,h1⟩ h2;exact h2 x hx h1
 intro h;refine Decidable.byContradiction fun h2=>h fun x hx h1=>h2 ⟨x,hx,h1⟩
theorem Zw (y:Ly) (hs:HW y):Ag prog Ad 101 [] [y.av] [] (I (Dp y)):=by
 obtain⟨hN,hD,hx,FN⟩:=hs;have Sh:=fun i hi=>QdE y i hi hN (hx i hi) (FN i hi);have O0:=Qgg y hN;have uM:=fun nm=>dc y nm hN;have O4:=QeG y hN hx;have Sn:=ja y hN hx;have hE:Dp y=_:=Dp.eq_1 y;rw[ql] at hE;generalize Dp y=r at*;refine Am func101 ntmps101 ?_;intro w e X hC;refine uZ ?_;cases d1:decide (24<(y.U.length:Int)) with
 |true=>have h1:=oT d1;rw[iP (.inl oM)] at hE;subst hE;refine IB @d1 ?_;exact uP|false=>
 have h1:=oF d1;cases d2:decide (24<(y.D.length:Int)) with
 |true=>have h2:=oT d2;rw[iP (.inr oM)] at hE;subst hE;refine IB (uI @d1 @d2) ?_;exact uP|false=>
 have h2:=oF d2;rw[iN oM] at hE;refine xy8 (uI @d1 @d2) ?_;refine uF ?_;refine xy4 ?_;refine Aw (fun q:Nat×Nat=>⟨[(1, .p 101 1 0 0 0),(3,I ((y.U.take q.2).countP (fun x=>decide (x.kd=1)):Nat)),(4,I q.2)],(101,some (1, .box [.sl (AA y.U) false, .sl (Ai y.D) false]))::[],q.1⟩) (fun q=>q.2<=y.U.length/\∀j,j<q.2->Do y.U.length j (y.U.getD j default)=0) (fun q=>y.U.length - q.2) (_,0) ⟨zL _,fun j hj=>absurd hj (nZ _)⟩ (Af) ?_;rintro⟨ck,k⟩ ⟨hk,hj⟩;simp only at hk hj;have QhO:(y.U.take k).countP (fun x=>decide (x.kd=1))<=k:=Nat.le_trans List.countP_le_length vv9;have Lo:k=y.U.length->(y.U.take k).countP (fun x=>decide (x.kd=1))=y.U.countP (fun x=>decide (x.kd=1)):=fun h=>by rw[h,List.take_length]
 have H6:=pD (xs:=y.U) (k:=k);generalize (y.U.take k).countP (fun x=>decide (x.kd=1))=ct at*;refine xy1 (fun h=>?_) (fun h=>?_)
 .have Aa:k<y.U.length:=oM;replace H6:=H6 Aa;have Bc:=Y9 Aa hj;have Bk:=Sh k Aa;have Cz:Do y.U.length k (y.U.getD k default)=0->∀j,j<k+1->Do y.U.length j (y.U.getD j default)=0:=fun h j Ah=>by
   by_cases AF:j=k
   .subst AF;exact h
   exact hj j oM
  generalize Do y.U.length k (y.U.getD k default)=e at*;generalize e2:y.U.getD k default=x at*;refine xx9 Bk ?_;refine xy1 (fun c1=>?_) (fun c1=>?_)
  .rw[iP (by rw[Bc c1];exact c1),Bc c1] at hE;subst hE;exact xz5
  have F3:=Cz (Decidable.byContradiction c1);by_cases c2:x.kd=1
  .have d3:=dT c2;rw[iP c2] at H6;refine IB (uI (AG Aa) (uI @e2 @d3)) ?_;refine⟨(_,k+1),⟨uO,F3⟩,uO, .of (lR _) Cb (AS @H6)⟩
  have d3:=dF c2;rw[iN c2] at H6;refine IB (uI (AG Aa) (uI @e2 @d3)) ?_;refine⟨(_,k+1),⟨uO,F3⟩,uO, .of (lR _) Cb (AS @H6)⟩
 refine At ?_;obtain rfl:k=y.U.length:=oM;rw[<-Lo rfl] at hE;rw[iN (by rw[Za hj];simp)] at hE;replace O0:=O0 fun i hi=>⟨(J6 (hj i hi)).1,by have:=(J6 (hj i hi)).2.1;omega⟩;replace O4:=O4 fun i hi k hk=>Y8 (hj i hi) k hk;have vK:∀i,i<y.U.length->0<=(y.U.getD i default).ln/\(y.U.getD i default).ln<=8:=fun i hi=>⟨(J6 (hj i hi)).1,(J6 (hj i hi)).2.1⟩;clear hj Sh H6 Lo;have fL:MI y.U=_:=MI.eq_1 y.U;generalize MV y.U=t at*;generalize MI y.U=nb at*;generalize K4 y.U=zb at*;generalize Dz y.U=o at*;refine xx9 O0 ?_;refine GF (fun c1=>?_) (fun c1=>?_)
 .rw[iP c1] at hE;subst hE;exact xz5
 rw[iN c1] at hE;refine xy4 ?_;refine Aw (fun q:Nat×Nat=>⟨[(1, .p 101 1 0 0 0),(3,I ct),(6,I q.2)],(101,some (1, .box [.sl (AA y.U) false, .sl (Ai y.D) false]))::[],q.1⟩) (fun q=>q.2<=y.U.length/\∀j,j<q.2->decide (Fi y.U (y.U.getD j default).nm=(j:Int))=true) (fun q=>y.U.length - q.2) (_,0) ⟨zL _,fun j hj=>absurd hj (nZ _)⟩ (Af) ?_;rintro⟨ck2,k⟩ ⟨hk,hj⟩;simp only at hk hj;refine xy1 (fun h3=>?_) (fun h3=>?_)
 .have Aa:k<y.U.length:=oM;have Bc:=MQ (p:=fun i=>decide (Fi y.U (y.U.getD i default).nm=(i:Int))) Aa;try simp only at Bc
  rw[<-fL] at Bc;have Bk:=uM (y.U.getD k default).nm;have Cz:decide (Fi y.U (y.U.getD k default).nm=(k:Int))=true->∀j,j<k+1->decide (Fi y.U (y.U.getD j default).nm=(j:Int))=true:=fun h j Ah=>by
   by_cases AF:j=k
   .subst AF;exact h
   exact hj j oM
  generalize e2:y.U.getD k default=x at*;generalize Fi y.U x.nm=f at*;refine Cv (uI (AG Aa) @e2) ?_;intro K hK;refine⟨oM,?_⟩;refine xw6 Bk ?_;refine hK _ ?_;clear hK K;refine GF (fun c2=>?_) (fun c2=>?_)
  .rw[iP (Bc (dF c2))] at hE;subst hE;exact xz5
  refine uZ ?_;refine⟨(_,k+1),⟨uO,Cz (dT (Decidable.byContradiction c2))⟩,uO,Af⟩
 refine At ?_;rw[iN (by rw[fL,IN fun j Ah=>hj j oM];decide)] at hE;clear hj;refine xx9 O4 ?_;cases zb with
 |false=>rw[iP rfl] at hE;subst hE;exact xz7|true=>
 rw[iN dM] at hE;refine uF ?_;refine uE ?_;refine xy5 Sn ?_;refine GF (fun c2=>?_) (fun c2=>?_)
 .rw[iP oM] at hE;subst hE;exact xz5
 rw[iN oM] at hE;refine xy4 ?_;refine Aw (fun q:Nat×Nat=>⟨[(1, .p 101 1 0 0 0),(3,I ct),(7,I q.2)],(101,some (1, .box [.sl (AA y.U) false, .sl (Ai y.D) false]))::[],q.1⟩) (fun q=>q.2<=y.D.length/\∀j,j<q.2->Ez y.U (y.D.getD j default)=0) (fun q=>y.D.length - q.2) (_,0) ⟨zL _,fun j hj=>absurd hj (nZ _)⟩ (Af) ?_;rintro⟨ck3,k⟩ ⟨hk,hj⟩;simp only at hk hj;refine xy1 (fun h4=>?_) (fun h4=>?_)
 .have Aa:k<y.D.length:=oM;have Bc:=Qig Aa hj;have Cz:Ez y.U (y.D.getD k default)=0->∀j,j<k+1->Ez y.U (y.D.getD j default)=0:=fun h j Ah=>by
   by_cases AF:j=k
   .subst AF;exact h
   exact hj j oM
  have hO:Ez y.U (y.D.getD k default)=_:=Ez.eq_1 _ _;generalize Ez y.U (y.D.getD k default)=dv at*;generalize e2:y.D.getD k default=d at*;iterate 3 (first|refine BQ ?_|refine A5 ?_|refine B5 ?_)
  refine A5 ?_;refine xz2 (uI (By Aa) @e2) ?_;refine L3 (s':=⟨[(1, .p 101 1 0 0 0),(3,I ct),(7,I k),(8, .p 108 (ck3+10) 0 0 0)],(108,some (ck3+10, .box [I d.a,I d.b,I d.c]))::(101,some (1, .box [.sl (AA y.U) false, .sl (Ai y.D) false]))::[],_⟩) (Af) ?_;generalize I9:ck3+10=g;clear I9;refine A5 ?_;refine CE (fun q:Nat=>⟨[(1, .p 101 1 0 0 0),(3,I ct),(7,I k),(8, .p 108 g 0 0 0)],(108,some (g, .box [I d.a,I d.b,I d.c]))::(101,some (1, .box [.sl (AA y.U) false, .sl (Ai y.D) false]))::[],q⟩) (fun _=>¬(¬d.a=1/\¬d.a=2)) ?_ ?_
  .cases q1:decide (¬d.a=1) with
   |true=>
    have g1:=oT q1;cases q2:decide (¬d.a=2) with
    |true=>have g2:=oT q2;rw[iP ⟨g1,g2⟩] at hO;rw[iP (by rw[Bc oM];omega),Bc oM,hO] at hE;subst hE;refine IB (uI @q1 @q2) ?_;exact uP|false=>have g2:=oF q2;refine xq5 (uI @q1 @q2) ?_;refine⟨_,fun h=>g2 h.2,Af⟩
   |false=>have g1:=oF q1;refine xq5 @q1 ?_;refine⟨_,fun h=>g1 h.1,Af⟩
  rintro ck4 tE;rw[iN tE] at hO;have D0:=QA d.b 0 (y.U.length - 1);cases b3:E6 d.b 0 (y.U.length - 1) with
  |false=>rw[b3] at D0;rw[iP (by simp[E6] at b3;omega)] at hO;rw[iP (by rw[Bc oM];omega),Bc oM,hO] at hE;subst hE;refine uE ?_;refine xy2 D0 ?_;exact xz7|true=>
   rw[b3] at D0;have BP:0<=d.b/\d.b<y.U.length:=by simp[E6] at b3;omega
   obtain⟨m,hm⟩:∃m,m=d.b.toNat:=⟨_,rfl⟩;have DF:d.b=(m:Int):=oM;rw[<-hm] at hO;have CW:m<y.U.length:=oM;have OK:=vK m CW;generalize e3:y.U.getD m default=x at*;have Dw:=QA d.c 0 (x.ln - 1);rw[DF] at D0;cases b4:E6 d.c 0 (x.ln - 1) with
   |false=>
    rw[b4] at Dw;rw[iP (by simp[E6] at b4;omega)] at hO;rw[iP (by rw[Bc oM];omega),Bc oM,hO] at hE;subst hE;refine Cv @DF ?_;intro K hK;refine xy0 D0 ?_;first|refine Ap (uI @DF (uI (AG CW) @e3)) ?_|exact Aq (uI @DF (uI (AG CW) @e3))
    refine xy0 Dw ?_;refine uH ?_;refine hK _ ?_;clear hK K;exact xz7
   |true=>
    rw[b4] at Dw;rw[iN (by simp[E6] at b4;omega)] at hO;refine Cv @DF ?_;intro K hK;refine xy0 D0 ?_;first|refine Ap (uI @DF (uI (AG CW) @e3)) ?_|exact Aq (uI @DF (uI (AG CW) @e3))
    refine xy0 Dw ?_;refine uH ?_;refine hK _ ?_;clear hK K;refine xy9 ?_;refine⟨(_,k+1),⟨uO,Cz hO⟩,uO,Af⟩
 refine At ?_;obtain rfl:k=y.D.length:=oM;rw[Wo hj] at hE;clear hj;refine xy4 ?_;refine Aw (fun q:Nat×Nat=>⟨[(1, .p 101 1 0 0 0),(3,I ct),(9,I q.2)],(101,some (1, .box [.sl (AA y.U) false, .sl (Ai y.D) false]))::[],q.1⟩) (fun q=>q.2<=y.D.length/\∀j,j<q.2->Gl y.D j=true) (fun q=>y.D.length - q.2) (_,0) ⟨zL _,fun j hj=>absurd hj (nZ _)⟩ (Af) ?_;rintro⟨ck4,k⟩ ⟨hk,hj⟩;simp only at hk hj;refine xy1 (fun h5=>?_) (fun h5=>?_)
 .have Aa:k<y.D.length:=oM;have Bc:Gl y.D k=false->(List.range y.D.length).all (Gl y.D)=false:=MQ Aa;have Cz:Gl y.D k=true->∀j,j<k+1->Gl y.D j=true:=fun h j Ah=>by
   by_cases AF:j=k
   .subst AF;exact h
   exact hj j oM
  refine xy4 ?_;refine Aw (fun q:Nat×Nat=>⟨[(1, .p 101 1 0 0 0),(3,I ct),(9,I k),(10,I q.2)],(101,some (1, .box [.sl (AA y.U) false, .sl (Ai y.D) false]))::[],q.1⟩) (fun q=>q.2<=k/\∀j,j<q.2->CD (y.D.getD k default) (y.D.getD j default)=false) (fun q=>k - q.2) (_,0) ⟨zL _,fun j hj=>absurd hj (nZ _)⟩ (Af) ?_;rintro⟨ck5,c⟩ ⟨hc,Ql⟩;simp only at hc Ql;refine xy1 (fun h6=>?_) (fun h6=>?_)
  .have FF:c<k:=oM;have Cy:c<y.D.length:=oM;have DZ:CD (y.D.getD k default) (y.D.getD c default)=true->Gl y.D k=false:=fun h=>by
    rw[Gl,Bool.not_eq_false',List.any_eq_true];refine⟨y.D.getD c default,?_,h⟩;have Nr:c<(y.D.take k).length:=vv9;have:(y.D.take k).getD c default=y.D.getD c default:=by simp only[gE,List.getElem?_take];rw[iP FF]
    rw[<-this];exact Fs Nr
   have F3:CD (y.D.getD k default) (y.D.getD c default)=false->∀j,j<c+1->CD (y.D.getD k default) (y.D.getD j default)=false:=fun h j Ah=>by
    by_cases AF:j=c
    .subst AF;exact h
    exact Ql j oM
   have hT:CD (y.D.getD k default) (y.D.getD c default)=_:=CD.eq_1 _ _;generalize CD (y.D.getD k default) (y.D.getD c default)=tt at*;generalize e2:y.D.getD k default=d at*;generalize e3:y.D.getD c default=d' at*;refine xq1 (uI (By Aa) (uI @e2 (uI (By Cy) (uI @e3 @hT.symm)))) ?_;cases tt with
   |true=>rw[Bc (DZ rfl)] at hE;simp only[Bool.false_eq_true,if_false,Int.reduceEq,not_false_eq_true,if_true] at hE;subst hE;exact xz7|false=>refine xy9 ?_;refine⟨(_,c+1),⟨uO,F3 rfl⟩,uO,Af⟩
  refine At ?_;obtain rfl:c=k:=oM;have Ue:Gl y.D c=true:=by
   rw[Gl,Bool.not_eq_true',List.any_eq_false];intro z hz;obtain⟨j,hj,rfl⟩:=List.getElem_of_mem hz;have Co:j<c:=by rw[List.length_take] at hj;omega
   have:=Ql j Co;rw[List.getElem_take];simpa[show j<y.D.length by omega] using this
  refine uZ ?_;refine⟨(_,c+1),⟨uO,Cz Ue⟩,uO,Af⟩
 refine At ?_;rw[iP (IN fun j Ah=>hj j oM),iN sM] at hE;refine xy1 (fun c6=>?_) (fun c6=>?_)
 .rw[dF (show ¬¬ct=0 from fun h=>h oM),iP rfl] at hE;subst hE;exact xz5
 rw[dT (show ¬ct=0 from oM),iN dM] at hE;subst hE;exact xz5
theorem Te {y:Ly} (h:Dp y=0):∀i,i<y.U.length->Do y.U.length i (y.U.getD i default)=0:=by
 rw[Dp] at h;split at h
 .cases h
 split at h
 .rename_i h2;exact absurd h h2
 rename_i h2;have h2:Pc y.U=0:=Decidable.byContradiction h2;intro i;induction i using Nat.strongRecOn with
 |_ i ih=>intro hi;refine Decidable.byContradiction fun hb=>?_;rw[Y9 hi (fun j hj=>ih j hj oM) hb] at h2;exact hb h2
theorem Qep (y:Ly) (hs:HW y) (hv:Dp y=0):Ag prog Ad 106 [] [y.av] [] (IS (Dz y.U)):=by have h1:=Zw y hs;rw[hv] at h1;have h2:=ja y hs.n hs.x;refine Am func106 ntmps106 ?_;intro w e X hC;refine uA ?_;refine xx9 h1 ?_;refine uF ?_;refine xz1 h2 ?_;exact uP
open Go.Plant
theorem z7:∀i,i<11->(bs (KV i)).length<=1000:=vv1
structure ER (A n:Nat) (y:Ly):Prop where
 g:Good A n y
 d:JD y.U y.D=0
 dl:y.D.length<=24
theorem r8 (l:List Int) (a:Nat):∃A n,ER A n (gL l a).1:=by
 obtain⟨A,n,h⟩:=r9 l a;refine⟨A,n,h,?_,?_⟩
 .have hx:∀i,i<(gL l a).1.U.length->0<=((gL l a).1.U.getD i default).ln:=fun i hi=>by have hs:=h.shp i (by rw[<-h.len];exact hi);have h1:=hs.ln;have h2:=hs.l0;omega
  exact pV hx
 exact Wq _
section
variable {A n:Nat} {y:Ly}
theorem ER.sml (h:ER A n y):HW y:=by
 have hl:=h.g.len;have hn:=h.g.n11;refine⟨oM,by have:=h.dl;omega,fun i hi=>?_,fun i hi=>?_⟩
 .have:=h.g.exl (m:=i) oM;rw[CT] at this;split at this
  .omega
  split at this<;>omega
 rw[h.g.nm i oM];exact z7 i oM
theorem ER.val (h:ER A n y):Dp y=0:=by
 have hl:=h.g.len;have hn:=h.g.n11;have hd:=h.dl;have ht:=h.g.tot;have h0:Nb y.U=true:=by rw[Nb,List.any_eq_true];refine⟨_,Fs (d:=default) (show 0<y.U.length by omega),?_⟩;rw[decide_eq_true_eq];exact(h.g.shp 0 oM).k1.2 rfl
 rw[Dp,iN oM,Za (fun j hj=>by rw[hl];exact h.g.node oM),iN sM,iN oM,zM h.g,iN dM,K4,IN (fun i hi=>h.g.zoned oM),iN dM,h.g.ord,M0,iN oM,h.d,iN sM,h0,iN dM]
theorem ER.sum (h:ER A n y):y.U.length<=11/\0<y.U.length/\(∀i,i<y.U.length->0<=(y.U.getD i default).ln/\(y.U.getD i default).ln<=1000):=by have hl:=h.g.len;have hn:=h.g.n11;refine⟨oM,oM,fun i hi=>?_⟩;have hs:=h.g.shp i oM;have h1:=hs.ln;have h2:=hs.l0;omega
end
open Go.Plant
theorem pL {l:List Int} (hr:∀x∈l,QZ x):GI (Od l):=⟨by rw[Od,List.length_take];omega,fun x hx=>hr x (List.mem_of_mem_take hx)⟩
open Go.Plant
section
variable {A n:Nat} {y:Ly} {p:Pl} {cs:List Int} {fs:List T3}
set_option maxHeartbeats 2000000 in
theorem qT (h:Sx A n y p cs fs) (hd:FY fs=false) (DG:∀t,t<n->∀b∈p.R.getD t [],b≠0) (G0:HW y) (hv:Dp y=0) (CG:fs.length<=1000) (hb:Hf y.U cs fs=0):
  Ag prog Ad 54 [] [y.av,p.av,IS cs, .sl (Ai fs) false] [] (.tup [.agg [IS (H0 y.U p (WN y p cs fs) (Ci y.U.length)).1,IS (H0 y.U p (WN y p cs fs) (Ci y.U.length)).2],I 0]):=by
 have KF:=h.good.len;have hn:=h.good.n11;have Cy:=h.cl;have h1:=QbK y cs fs oM oM CG h.fp.ex;rw[hb] at h1;have h2:=qq y p h.fp;have h3:=Qep y G0 hv;rw[h.good.ord,<-KF] at h3;have NI:=M0 y.U.length;have C2:As (El (0+1))=[.lit (.int .i64 (-1))]:=rfl;have AJ:=TO y.U p y.U.length;refine Am func54 ntmps54 ?_;intro w e X hC;refine uA ?_;refine xx9 h1 ?_;refine uA ?_;refine uF ?_;iterate 2 refine uA ?_
 refine CE (fun q:Nat×Nat×Nat=>⟨[(2,IS cs),(3, .sl (Ai fs) false),(4, .p 104 1 0 0 0),(5, .p 105 2 0 0 0),(8, .p 108 3 0 0 0),(11, .p 111 12 0 0 0)],(111,some (12, .box [.l 137 q.2.1 0 y.U.length, .l 141 q.2.2 0 y.U.length]))::(137,some (q.2.1, .own 3 1 (As (El y.U.length))))::(141,some (q.2.2, .own 3 1 (As (El y.U.length))))::(104,some (1, .box [.sl (AA y.U) false, .sl (Ai y.D) false]))::(105,some (2, .box [RS p.Q,RS p.R]))::(108,some (3, .box [.sl [] true, .sl [] true]))::[],q.1⟩) (fun _=>True) ?_ ?_
 .refine uW ?_;refine Aw (fun i:Nat×Nat×Nat×Nat=>⟨[(2,IS cs),(3, .sl (Ai fs) false),(4, .p 104 1 0 0 0),(5, .p 105 2 0 0 0),(8, .p 108 3 0 0 0),(11, .p 111 12 0 0 0),(12,I i.2.1)],(111,some (12, .box [F8 i.2.1 (.l 137 i.2.2.1 0 i.2.1),F8 i.2.1 (.l 141 i.2.2.2 0 i.2.1)]))::(137,F9 i.2.1 (i.2.2.1, .own 3 1 (As (El i.2.1))))::(141,F9 i.2.1 (i.2.2.2, .own 3 1 (As (El i.2.1))))::(104,some (1, .box [.sl (AA y.U) false, .sl (Ai y.D) false]))::(105,some (2, .box [RS p.Q,RS p.R]))::(108,some (3, .box [.sl [] true, .sl [] true]))::[],i.1⟩) (fun i=>i.2.1<=y.U.length) (fun i=>y.U.length - i.2.1) (_,0,0,0) (zL _) (.of (lR _) (Ax (uI @Ji @Jj)) A4) ?_;rintro⟨ck,i,g1,g2⟩ hi;simp only at hi;have Dc:=QG i;have e1:=iI i;generalize e9:El i=ng at*;refine xw9 (fun h0=>?_) (fun h0=>?_)
  .have Aa:i<y.U.length:=oM;by_cases CH:i=0
   .subst CH;simp only[Ji,Jj];refine uD ?_;refine xx8 ?_;refine uZ ?_;refine⟨(_,0+1,ck+8,ck+12),uO,uO, .of (lR _) (Ax (uI @C2 (uI @FQ @FR))) A4⟩
   simp only[Hd CH,He CH];refine xq2 @Dc ?_;refine uZ ?_;refine⟨(_,i+1,g1,g2),uO,uO, .of (lR _) (Ax (uI @e1 (uI @FQ @FR))) A4⟩
  refine At ?_;have Bx:i=y.U.length:=oM;rw[Bx] at e9 Dc;rw[Bx];simp only[Hd (show y.U.length≠0 by omega),He (show y.U.length≠0 by omega)];refine uZ ?_;refine⟨(_,g1,g2),trivial, .of (lR _) (Ax @e9) A4⟩
 rintro⟨ck1,ga,gb⟩ -;refine uR ?_;intro K hK;have z:=(uI @Bool.or_true @Bool.true_or);refine CL [] [(146,ck1+2,100,1)] false (h2) (Ke z) (Ke z) (AW z) (AW z) (AW z) (AW z) (AW z) (AW z) (AW z) (AW z) (AW z) (AW z) (AW z) (AW z) (AW z) (AW z) (AW z) ?_;refine QV z ?_;clear z;refine hK _ ?_;clear hK K;refine xz1 h3 ?_;refine Ac @NI ?_;obtain⟨gm,HC⟩:∃g,g=ck1+2:=⟨_,rfl⟩;rw[<-HC];have hW:=h.ups;have Nr:cs.length=y.U.length:=oM;have RZ:=fun(j:Nat) (hj:j<y.U.length)=>cI y.U p hj;have hz:C7 y.U p (WN y p cs fs) (Ci y.U.length) 0=(El y.U.length,El y.U.length):=rfl;have FP:(C7 y.U p (WN y p cs fs) (Ci y.U.length) 0).1=El y.U.length:=rfl;have HK:(C7 y.U p (WN y p cs fs) (Ci y.U.length) 0).2=El y.U.length:=rfl;have e0:(y.U.length:Int) - 1 - ((0:Nat):Int)=(y.U.length:Int) - 1:=oM;refine uW ?_;refine Aw (fun q:Nat×Nat×List Bool=>⟨[(2,IS cs),(3, .sl (Ai fs) false),(4, .p 104 1 0 0 0),(5, .p 105 2 0 0 0),(8, .p 108 3 0 0 0),(11, .p 111 12 0 0 0),(13, .l 146 gm 0 y.U.length),(14,IS (Ci y.U.length)),(15,I ((y.U.length:Int) - 1 - q.2.1))],(111,some (12, .box [.l 137 ga 0 y.U.length, .l 141 gb 0 y.U.length]))::(137,some (ga, .own 3 1 (As (C7 y.U p (WN y p cs fs) (Ci y.U.length) q.2.1).1)))::(141,some (gb, .own 3 1 (As (C7 y.U p (WN y p cs fs) (Ci y.U.length) q.2.1).2)))::(146,some (gm, .own 4 1 (Er q.2.2)))::(104,some (1, .box [.sl (AA y.U) false, .sl (Ai y.D) false]))::(105,some (2, .box [RS p.Q,RS p.R]))::(108,some (3, .box [.sl [] true, .sl [] true]))::[],q.1⟩)
  (fun q=>q.2.1<=y.U.length/\q.2.2.length=y.U.length/\∀j,j<y.U.length - q.2.1->q.2.2.getD j false=Dy (y.U.getD j default) (p.Q.getD j [])) (fun q=>y.U.length - q.2.1) (_,0,Ko y.U p y.U.length) ⟨zL _,AJ,fun j hj=>RZ j vx2⟩ (.of (lR _) (Ax (uI @FP @HK)) (AS @e0)) ?_
 rintro⟨ck,c,op⟩ ⟨hc,AR,HG⟩;simp only at hc AR HG;refine xw9 (fun h9=>?_) (fun h9=>?_)
 .have Aa:c<y.U.length:=oM;obtain⟨t,ht⟩:∃t:Nat,t=y.U.length - 1 - c:=⟨_,rfl⟩;have UK:(y.U.length:Int) - 1 - c=(t:Int):=oM;have DI:t<y.U.length:=oM;have wU:t<(Ci y.U.length).length:=oM;have wX:=Tc DI;have NB:=xW hW hc (p:=p);rw[show y.U.length - c=t+1 by omega] at NB;have Ib:=Qj3 hW DI NB;have fQ:=HG t oM;have Ux:∀j,j<y.U.length - (c+1)->op.getD j false=Dy (y.U.getD j default) (p.Q.getD j []):=fun j hj=>HG j oM;obtain⟨BH,FL⟩:=Rp (xs:=y.U) (p:=p) (W:=WN y p cs fs) (ord:=Ci y.U.length) c;have hF:C7 y.U p (WN y p cs fs) (Ci y.U.length) (c+1)=IZ y.U p (WN y p cs fs) t (C7 y.U p (WN y p cs fs) (Ci y.U.length) c):=by rw[C7,M0,<-ht,Tc DI,Int.toNat_natCast]
  generalize C7 y.U p (WN y p cs fs) (Ci y.U.length) c=F at*;obtain⟨lv,en⟩:=F;simp only at BH FL NB Ib;simp only[UK];clear HG hz FP HK e0 UK;refine BQ ?_;refine A5 ?_;refine CE (fun q:Nat×List Bool=>⟨[(2,IS cs),(3, .sl (Ai fs) false),(4, .p 104 1 0 0 0),(5, .p 105 2 0 0 0),(8, .p 108 3 0 0 0),(11, .p 111 12 0 0 0),(13, .l 146 gm 0 y.U.length),(14,IS (Ci y.U.length)),(15,I t)],(111,some (12, .box [.l 137 ga 0 y.U.length, .l 141 gb 0 y.U.length]))::(137,some (ga, .own 3 1 (As (C7 y.U p (WN y p cs fs) (Ci y.U.length) (c+1)).1)))::(141,some (gb, .own 3 1 (As (C7 y.U p (WN y p cs fs) (Ci y.U.length) (c+1)).2)))::(146,some (gm, .own 4 1 (Er q.2)))::(104,some (1, .box [.sl (AA y.U) false, .sl (Ai y.D) false]))::(105,some (2, .box [RS p.Q,RS p.R]))::(108,some (3, .box [.sl [] true, .sl [] true]))::[],q.1⟩) (fun q=>q.2.length=y.U.length/\∀j,j<y.U.length - (c+1)->q.2.getD j false=Dy (y.U.getD j default) (p.Q.getD j [])) ?_ ?_
  .generalize e2:y.U.getD t default=x at*;iterate 2 refine Ac (uI @NI (uI (Ao wU) (uI @wX (uI (AG DI) @e2)))) ?_
   obtain⟨gx,fu⟩:∃g,g=ck+12:=⟨_,rfl⟩;rw[<-fu];clear fu HC;have Qn:=im y p cs fs t h.fp h.ff DI Nr;have wS:t<n:=oM;have wQ:∀j,j<y.U.length - (c+1)->t≠j:=fun j hj=>oM;rw[e2] at Qn;have wF:=h.fp.row t DI;have AM:=h.fp.st t DI;have HH:=h.fp.sl;rw[e2] at wF AM;have Qv:t<p.Q.length:=oM;have eh:AN x.kd=true->0<(p.Q.getD t []).length:=fun h=>by have:=AM h;omega
   have Dd:t<lv.length:=oM;have Qm:=(il h hd DG wS).1;rw[e2] at Qm;generalize KQ x (p.Q.getD t []) (p.R.getD t []) (cs.getD t 0) fs t=r at*;generalize e3:p.Q.getD t []=sl at*;obtain⟨ar,JI⟩:∃b,b=Ey x sl ((WN y p cs fs).getD t 0) (lv.getD t 0):=⟨_,rfl⟩;obtain⟨lv1,IF⟩:∃l,l=if ar=true then lv.set t 0 else lv:=⟨_,rfl⟩
   have Eh:lv1.length=y.U.length:=by rw[IF];split<;>simp[BH]
   have JF:C7 y.U p (WN y p cs fs) (Ci y.U.length) (c+1)=if AN x.kd=false then(Il (WN y p cs fs) (CC y.U (WN y p cs fs) t (WN y p cs fs).length) (CC y.U (WN y p cs fs) t (WN y p cs fs).length) lv1,en) else if CC y.U (WN y p cs fs) t (WN y p cs fs).length≠0/\Dy x sl=true/\ar=false then(lv1.set (tz 11 (CC y.U (WN y p cs fs) t (WN y p cs fs).length)) ((WN y p cs fs).getD (tz 11 (CC y.U (WN y p cs fs) t (WN y p cs fs).length)) 0),en.set t (tz 11 (CC y.U (WN y p cs fs) t (WN y p cs fs).length))) else(lv1,en):=by rw[hF,IZ,e2,e3,IF,JI]
   clear hF;have ge:x.kd=5->AN x.kd=true:=fun h5=>by rw[h5];decide
   have MC:x.kd=5->(lv1.getD t 0=0↔ar=true):=fun h5=>by
    rw[IF];cases ar with
    |true=>rw[iP rfl,Ef,iP ⟨rfl,Dd⟩];simp|false=>rw[iN sM];exact⟨fun h0=>absurd h0 (Ib.2 h5),fun h0=>by cases h0⟩
   refine A5 ?_;refine CE (fun q:Nat=>⟨[(2,IS cs),(3, .sl (Ai fs) false),(4, .p 104 1 0 0 0),(5, .p 105 2 0 0 0),(8, .p 108 3 0 0 0),(11, .p 111 12 0 0 0),(13, .l 146 gm 0 y.U.length),(14,IS (Ci y.U.length)),(15,I t),(16,I t),(17, .p 117 gx 0 0 0)],(117,some (gx, .box [S x.nm,I x.kd,I x.ln,I x.zn,IS x.ex]))::(111,some (12, .box [.l 137 ga 0 y.U.length, .l 141 gb 0 y.U.length]))::(137,some (ga, .own 3 1 (As lv1)))::(141,some (gb, .own 3 1 (As en)))::(146,some (gm, .own 4 1 (Er op)))::(104,some (1, .box [.sl (AA y.U) false, .sl (Ai y.D) false]))::(105,some (2, .box [RS p.Q,RS p.R]))::(108,some (3, .box [.sl [] true, .sl [] true]))::[],q⟩) (fun _=>True) ?_ ?_
   .by_cases c5:x.kd=5
    .have d5:decide (x.kd=5)=true:=dT c5;have P9:0<sl.length:=eh (ge c5);by_cases cl:0<=(WN y p cs fs).getD t 0
     .have dr:decide (¬r=0)=true:=dT (Qm.2 cl);by_cases cv:lv.getD t 0=-1
      .have dv:decide (lv.getD t 0=-1)=true:=dT cv;by_cases cz:sl.getD 0 0=0
       .have dz:decide (sl.getD 0 0=0)=true:=dT cz;have ha:ar=true:=by rw[JI,Ey,d5,dz,dT cl,dT (show lv.getD t 0<0 by rw[cv];decide)];rfl
        rw[ha,iP rfl] at IF;refine Av (uI @d5 (uI @dr (uI @dv (uI @dz (uI (Ao Dd) (uI (Ao P9) (uI (BF Qv) (uI @e3 @BH)))))))) ?_;intro K hK;refine xz0 Qn ?_;first|refine Ap (uI @d5 (uI @dr (uI @dv (uI @dz (uI (Ao Dd) (uI (Ao P9) (uI (BF Qv) (uI @e3 (uI @BH @Int.toNat_zero))))))))) ?_|exact Aq (uI @d5 (uI @dr (uI @dv (uI @dz (uI (Ao Dd) (uI (Ao P9) (uI (BF Qv) (uI @e3 (uI @BH @Int.toNat_zero)))))))))
        refine uH ?_;refine hK _ ?_;clear hK K;refine uT ?_;refine Bg @BH ?_;refine⟨_,trivial, .of (lR _) (Ax @IF) A4⟩
       have dz:decide (sl.getD 0 0=0)=false:=dF cz;have ha:ar=false:=by rw[JI,Ey,dz];simp
       rw[ha,iN sM] at IF;refine Av (uI @d5 (uI @dr (uI @dv (uI @dz (uI (Ao Dd) (uI (Ao P9) (uI (BF Qv) (uI @e3 @BH)))))))) ?_;intro K hK;refine xz0 Qn ?_;first|refine Ap (uI @d5 (uI @dr (uI @dv (uI @dz (uI (Ao Dd) (uI (Ao P9) (uI (BF Qv) (uI @e3 (uI @BH @Int.toNat_zero))))))))) ?_|exact Aq (uI @d5 (uI @dr (uI @dv (uI @dz (uI (Ao Dd) (uI (Ao P9) (uI (BF Qv) (uI @e3 (uI @BH @Int.toNat_zero)))))))))
       refine uH ?_;refine hK _ ?_;clear hK K;refine xq9 ?_;refine⟨_,trivial, .of (lR _) (Ax @IF) A4⟩
      have dv:decide (lv.getD t 0=-1)=false:=dF cv;have ha:ar=false:=by rw[JI,Ey,dF (p:=lv.getD t 0<0) (fun Aa=>by rcases Ib.1 with h1|h1;exact cv h1;exact absurd Aa (Int.not_lt.2 h1))];simp
      rw[ha,iN sM] at IF;refine Av (uI @d5 (uI @dr (uI @dv (uI (Ao Dd) @BH)))) ?_;intro K hK;refine xz0 Qn ?_;first|refine Ap (uI @d5 (uI @dr (uI @dv (uI (Ao Dd) @BH)))) ?_|exact Aq (uI @d5 (uI @dr (uI @dv (uI (Ao Dd) @BH))))
      refine uH ?_;refine hK _ ?_;clear hK K;refine xq9 ?_;refine⟨_,trivial, .of (lR _) (Ax @IF) A4⟩
     have dr:decide (¬r=0)=false:=dF (fun h=>cl (Qm.1 h));have ha:ar=false:=by rw[JI,Ey,dF cl];simp
     rw[ha,iN sM] at IF;refine Av (uI @d5 @dr) ?_;intro K hK;refine xz0 Qn ?_;first|refine Ap (uI @d5 @dr) ?_|exact Aq (uI @d5 @dr)
     refine uH ?_;refine hK _ ?_;clear hK K;refine xq9 ?_;refine⟨_,trivial, .of (lR _) (Ax @IF) A4⟩
    have d5:decide (x.kd=5)=false:=dF c5;have ha:ar=false:=by rw[JI,Ey,d5];rfl
    rw[ha,iN sM] at IF;refine xy8 @d5 ?_;refine xq9 ?_;refine⟨_,trivial, .of (lR _) (Ax @IF) A4⟩
   rintro ck2 -;clear Qn IF Ib Qm eh;obtain⟨op1,LA⟩:∃l,l=if ar=true then op.set t false else op:=⟨_,rfl⟩
   have KJ:op1.length=y.U.length:=by rw[LA];split<;>simp[AR]
   have JZ:t<op.length:=by rw[AR];exact DI
   have Qo:op1.getD t false=(!ar&&Dy x sl):=by
    rw[LA];cases ar with
    |true=>rw[iP rfl,Ef,iP ⟨rfl,JZ⟩];rfl|false=>rw[iN sM];rw[fQ];rfl
   have OP:∀j,j<y.U.length - (c+1)->op1.getD j false=Dy (y.U.getD j default) (p.Q.getD j []):=fun j hj=>by
    rw[<-Ux j hj,LA];split
    .rw[Ef,iN (fun h=>wQ j hj h.1)]
    rfl
   have gp:t<lv1.length:=by rw[Eh];exact DI
   refine A5 ?_;refine CE (fun q:Nat=>⟨[(2,IS cs),(3, .sl (Ai fs) false),(4, .p 104 1 0 0 0),(5, .p 105 2 0 0 0),(8, .p 108 3 0 0 0),(11, .p 111 12 0 0 0),(13, .l 146 gm 0 y.U.length),(14,IS (Ci y.U.length)),(15,I t),(16,I t),(17, .p 117 gx 0 0 0)],(117,some (gx, .box [S x.nm,I x.kd,I x.ln,I x.zn,IS x.ex]))::(111,some (12, .box [.l 137 ga 0 y.U.length, .l 141 gb 0 y.U.length]))::(137,some (ga, .own 3 1 (As lv1)))::(141,some (gb, .own 3 1 (As en)))::(146,some (gm, .own 4 1 (Er op1)))::(104,some (1, .box [.sl (AA y.U) false, .sl (Ai y.D) false]))::(105,some (2, .box [RS p.Q,RS p.R]))::(108,some (3, .box [.sl [] true, .sl [] true]))::[],q⟩) (fun _=>True) ?_ ?_
   .by_cases c5:x.kd=5
    .have d5:decide (x.kd=5)=true:=dT c5;have MC:=MC c5;by_cases ca:ar=true
     .have dz:decide (lv1.getD t 0=0)=true:=dT (MC.2 ca);rw[ca,iP rfl] at LA;refine xz2 (uI @d5 (uI @dz (uI (Ao gp) @Eh))) ?_;refine uT ?_;refine Bg @AR ?_;refine⟨_,trivial, .of (lR _) (Ax @LA) A4⟩
     have dz:decide (lv1.getD t 0=0)=false:=dF (fun h=>ca (MC.1 h));rw[iN ca] at LA;refine xz2 (uI @d5 (uI @dz (uI (Ao gp) @Eh))) ?_;refine xq9 ?_;refine⟨_,trivial, .of (lR _) (Ax @LA) A4⟩
    have d5:decide (x.kd=5)=false:=dF c5;have ca:¬ar=true:=by rw[JI,Ey,d5];simp
    rw[iN ca] at LA;refine xy8 @d5 ?_;refine xq9 ?_;refine⟨_,trivial, .of (lR _) (Ax @LA) A4⟩
   rintro ck3 -;clear MC fQ Ux LA;have vL:=fun(k:Nat) (hk:k<y.U.length)=>im y p cs fs k h.fp h.ff hk Nr;have vI:=fun(k:Nat) (hk:k<n)=>il h hd DG hk;have xn:=fun(k:Nat) (hk:k<y.U.length)=>QgW y cs k hk oM oM oM;have xo:=fun(k:Nat) (hk:k<n) (h0:0<=(WN y p cs fs).getD k 0)=>(Py h hk h0).1;have LD:=hW.wl;have C9:=hW.n11;have JK:=h.fp.ex;have wY:=QgS (t:=t) C9 LD Eh;have gq:t<op1.length:=by rw[KJ];exact DI
   have XV:en.length=y.U.length:=FL;have Qie:t<en.length:=by rw[FL];exact DI
   have Dm:AN x.kd=false->op1.getD t false=true:=fun hs=>by rw[Qo,Dy,iN (by rw[hs];simp),JI,Ey,dF (fun h5=>by rw[ge h5] at hs;cases hs)];rfl
   have Uv:AN x.kd=true->op1.getD t false=false->¬(CC y.U (WN y p cs fs) t (WN y p cs fs).length≠0/\Dy x sl=true/\ar=false):=fun _ hb hc=>by rw[Qo,hc.2.1,hc.2.2] at hb;cases hb
   have wh:op1.getD t false=true->Dy x sl=true/\ar=false:=fun hb=>by
    rw[Qo] at hb;cases ar<;>simp at hb
    exact⟨hb,rfl⟩
   clear Qo JI;generalize Dl:op1.getD t false=ob at*;refine uA ?_;refine uW ?_;refine Aw (fun q:Nat×Nat×List Int=>⟨[(2,IS cs),(3, .sl (Ai fs) false),(4, .p 104 1 0 0 0),(5, .p 105 2 0 0 0),(8, .p 108 3 0 0 0),(11, .p 111 12 0 0 0),(13, .l 146 gm 0 y.U.length),(14,IS (Ci y.U.length)),(15,I t),(16,I t),(17, .p 117 gx 0 0 0),(18,I q.2.1)],(117,some (gx, .box [S x.nm,I x.kd,I x.ln,I x.zn,IS x.ex]))::(111,some (12, .box [.l 137 ga 0 y.U.length, .l 141 gb 0 y.U.length]))::(137,some (ga, .own 3 1 (As q.2.2)))::(141,some (gb, .own 3 1 (As en)))::(146,some (gm, .own 4 1 (Er op1)))::(104,some (1, .box [.sl (AA y.U) false, .sl (Ai y.D) false]))::(105,some (2, .box [RS p.Q,RS p.R]))::(108,some (3, .box [.sl [] true, .sl [] true]))::[],q.1⟩)
    (fun q=>q.2.1<=y.U.length/\q.2.2.length=y.U.length/\(AN x.kd=true->q.2.2=lv1/\∀j,j<q.2.1->Cw y.U (WN y p cs fs) t j=false)/\(AN x.kd=false->q.2.2=Js y.U (WN y p cs fs) t lv1 q.2.1)) (fun q=>y.U.length - q.2.1) (_,0,lv1) ⟨zL _,Eh,fun _=>⟨rfl,fun j hj=>absurd hj (nZ _)⟩,fun _=>rfl⟩ (Af) ?_
   rintro⟨ck4,k,lk⟩ ⟨hk,Mq,Bi,Ch⟩;simp only at hk Mq Bi Ch;by_cases FK:k<y.U.length
   .have dk:=uDt ((k:Int)<y.U.length);cases ob with
    |false=>
     refine xz2 (uI @dk (uI (Q9 gq) (uI @KJ @Dl))) ?_;refine xk0 ?_;have hs:AN x.kd=true:=by
      cases hs:AN x.kd with
      |true=>rfl|false=>have:=Dm hs;cases this
     obtain⟨rfl,_⟩:=Bi hs;rw[iN (by rw[hs];simp),iN (Uv hs rfl)] at JF;have C1:=congrArg Prod.fst JF;have I7:=congrArg Prod.snd JF;simp only at C1 I7;refine⟨(_,op1),⟨KJ,OP⟩, .of (lR _) (Ax (uI @C1 @I7)) A4⟩
    |true=>
     obtain⟨BP,BX⟩:=wh rfl;refine xz2 (uI @dk (uI (Q9 gq) (uI @KJ @Dl))) ?_;refine uT ?_;have Yj:Cw y.U (WN y p cs fs) t k=false->(AN x.kd=true->lk=lv1/\∀j,j<k+1->Cw y.U (WN y p cs fs) t j=false)/\(AN x.kd=false->lk=Js y.U (WN y p cs fs) t lv1 (k+1)):=fun hc=>by
      refine⟨fun hs=>⟨(Bi hs).1,fun j hj=>?_⟩,fun hs=>?_⟩
      .by_cases Db:j=k
       .subst Db;exact hc
       exact(Bi hs).2 j (Nat.lt_of_le_of_ne (Nat.le_of_lt_succ hj) Db)
      rw[Js,iN (by rw[hc];simp)];exact Ch hs
     by_cases Eg:k=t
     .have hc:Cw y.U (WN y p cs fs) t k=false:=by rw[Cw,dF (fun h=>h Eg)];rfl
      have d1:decide ((k:Int)=t)=true:=dT (by rw[Eg]);refine Cv @d1 ?_;intro K hK;refine hK _ ?_;clear hK K;refine xk2 ?_;refine⟨(_,k+1,lk),⟨FK,Mq,Yj hc⟩,Nat.sub_lt_sub_left FK (Nat.lt_succ_self k),Af⟩
     have d1:decide ((k:Int)=t)=false:=dF (fun h=>Eg (Int.ofNat.inj h));have fD:k<n:=KF ▸ FK;have Fm:=vL k FK;have NL:=xn k FK;obtain⟨XI,xg⟩:=vI k fD;have My:=xo k fD;have MA:=JK k FK;have Gt:Cw y.U (WN y p cs fs) t k=(decide (0<=(WN y p cs fs).getD k 0)&&decide ((y.U.getD k default).ex.getD ((WN y p cs fs).getD k 0).toNat 0=t)):=by rw[Cw,dT (show k≠t from Eg),Bool.true_and]
     generalize e8:y.U.getD k default=z at*;generalize KQ z (p.Q.getD k []) (p.R.getD k []) (cs.getD k 0) fs k=r2 at*;by_cases BE:r2=0
     .have hc:Cw y.U (WN y p cs fs) t k=false:=by rw[Gt,dF (fun h0=>(XI.2 h0) BE)];rfl
      have d2:decide (r2=0)=true:=dT BE;refine Cv @d1 ?_;intro K hK;refine xz0 Fm ?_;first|refine Ap @d2 ?_|exact Aq @d2
      refine hK _ ?_;clear hK K;refine xk2 ?_;refine⟨(_,k+1,lk),⟨FK,Mq,Yj hc⟩,Nat.sub_lt_sub_left FK (Nat.lt_succ_self k),Af⟩
     have WS:=XI.1 BE;have d2:decide (r2=0)=false:=dF BE;rw[<-xg WS] at NL;have My:=My WS;obtain⟨w0,SD⟩:∃w:Nat,(WN y p cs fs).getD k 0=w:=⟨((WN y p cs fs).getD k 0).toNat,(Int.toNat_of_nonneg WS).symm⟩;rw[SD] at NL My Gt;rw[dT (Int.natCast_nonneg w0),Bool.true_and,Int.toNat_natCast] at Gt;have My:w0<z.ex.length:=Int.ofNat_lt.1 My;by_cases UL:z.ex.getD w0 0=t
     .rw[dT UL] at Gt;have d3:decide (¬z.ex.getD w0 0=(t:Int))=false:=dF (fun h=>h UL);refine Cv (uI @d1 (uI (AG FK) @e8)) ?_;intro K hK;refine xz0 Fm ?_;first|refine Ap (uI @d2 (uI (AG FK) @e8)) ?_|exact Aq (uI @d2 (uI (AG FK) @e8))
      refine xy0 NL ?_;first|refine Ap (uI (Ao My) @d3) ?_|exact Aq (uI (Ao My) @d3)
      refine uH ?_;refine hK _ ?_;clear hK K;refine uF ?_;have hc:Cw y.U (WN y p cs fs) t k=true:=Gt;have A3:k<lk.length:=by rw[Mq];exact FK
      refine CK @Mq ?_;intro K hK;refine xy0 NL ?_;first|refine Ap @Mq ?_|exact Aq @Mq
      refine uH ?_;refine hK _ ?_;clear hK K;cases hs:AN x.kd with
      |true=>
       obtain⟨rfl,XA⟩:=Bi hs;obtain⟨q1,q2⟩:=pE C9 LD FK hc XA;rw[iN (by rw[hs];simp),iP ⟨q1,BP,BX⟩,q2,SD] at JF;have C1:=congrArg Prod.fst JF;have I7:=congrArg Prod.snd JF;simp only at C1 I7;refine uR ?_;intro K hK;refine xz0 ((Kd x.kd)) ?_;first|refine Ap @hs ?_|exact Aq @hs
       refine hK _ ?_;clear hK K;refine uT ?_;refine Ac @XV ?_;refine At ?_;refine⟨(_,op1),⟨KJ,OP⟩, .of (lR _) (Ax (uI @C1 @I7)) A4⟩
      |false=>
       have Um:=Ch hs;have Dn:Js y.U (WN y p cs fs) t lv1 (k+1)=lk.set k w0:=by rw[Js,iP hc,SD,<-Um]
       refine uR ?_;intro K hK;refine xz0 ((Kd x.kd)) ?_;first|refine Ap @hs ?_|exact Aq @hs
       refine hK _ ?_;clear hK K;refine xy9 ?_;refine⟨(_,k+1,lk.set k w0),⟨FK,by rw[List.length_set];exact Mq,fun h=>vx0,fun _=>Dn.symm⟩,Nat.sub_lt_sub_left FK (Nat.lt_succ_self k),Af⟩
     rw[dF UL] at Gt;have d3:decide (¬z.ex.getD w0 0=(t:Int))=true:=dT UL;refine Cv (uI @d1 (uI (AG FK) @e8)) ?_;intro K hK;refine xz0 Fm ?_;first|refine Ap (uI @d2 (uI (AG FK) @e8)) ?_|exact Aq (uI @d2 (uI (AG FK) @e8))
     refine xy0 NL ?_;first|refine Ap (uI (Ao My) @d3) ?_|exact Aq (uI (Ao My) @d3)
     refine uH ?_;refine hK _ ?_;clear hK K;refine xk2 ?_;refine⟨(_,k+1,lk),⟨FK,Mq,Yj Gt⟩,Nat.sub_lt_sub_left FK (Nat.lt_succ_self k),Af⟩
   have dk:=uDf ((k:Int)<y.U.length);have BC:k=y.U.length:=oM;refine xy8 @dk ?_;refine xk0 ?_;cases hs:AN x.kd with
   |true=>obtain⟨rfl,XA⟩:=Bi hs;have t8:=pF (t:=t) LD (fun j hj=>XA j (BC ▸ hj));rw[iN (by rw[hs];simp),iN (fun h=>h.1 t8)] at JF;have C1:=congrArg Prod.fst JF;have I7:=congrArg Prod.snd JF;simp only at C1 I7;refine⟨(_,op1),⟨KJ,OP⟩, .of (lR _) (Ax (uI @C1 @I7)) A4⟩
   |false=>have Um:=Ch hs;rw[BC,wY] at Um;rw[iP hs,<-Um] at JF;have C1:=congrArg Prod.fst JF;have I7:=congrArg Prod.snd JF;simp only at C1 I7;refine⟨(_,op1),⟨KJ,OP⟩, .of (lR _) (Ax (uI @C1 @I7)) A4⟩
  rintro⟨ck2,op1⟩ ⟨KJ,OP⟩;simp only at KJ OP;have we:(y.U.length:Int) - 1 - ((c+1:Nat):Int)=(t:Int) - 1:=oM;refine uZ ?_;refine⟨(_,c+1,op1),⟨uO,KJ,OP⟩,uO, .of (lR _) Cb (AS @we)⟩
 refine At ?_;have tY:c=y.U.length:=oM;subst tY;have hf:H0 y.U p (WN y p cs fs) (Ci y.U.length)=C7 y.U p (WN y p cs fs) (Ci y.U.length) y.U.length:=by rw[H0,M0]
 rw[hf];obtain⟨BH,FL⟩:=Rp (xs:=y.U) (p:=p) (W:=WN y p cs fs) (ord:=Ci y.U.length) y.U.length;generalize C7 y.U p (WN y p cs fs) (Ci y.U.length) y.U.length=F at*;refine xz4 ?_;rw[show f54.results.toList=[.cell 8 97, .tmp 9] from rfl];exact MY (uI @BH @FL)
end
open Go.Plant
theorem Qcd (l:List Int) (x:Int):Ae l x=l.filter fun z=>!decide (z=x):=by rw[Ae];refine List.filter_congr fun z _=>?_;by_cases h:z=x<;>simp[h]
section
variable {A n:Nat} {y:Ly} {p:Pl} {cs:List Int} {fs:List T3} {L:List Int}
set_option maxHeartbeats 2000000 in
theorem Qeu (h:Sx A n y p cs fs) (hi:Bh y p L) (hL:FU L) (hd:FY fs=false) (G0:HW y) (hv:Dp y=0) (CG:fs.length<=1000) (hb:Hf y.U cs fs=0):
  Ag prog Ad 18 [] [y.av,p.av,IS cs, .sl (Ai fs) false] [] (.tup [(Cg y p cs fs).1.av, .sl (Ai (Cg y p cs fs).2) false,I 0]):=by
 have KF:=h.good.len;have hn:=h.good.n11;have Cy:=h.cl;have DG:∀t,t<n->∀b∈p.R.getD t [],b≠0:=fun t ht=>hi.binpos hL oM;have h1:=qT h hd DG G0 hv CG hb;have HH:=h.fp.sl;have Ic:=h.fp.bl;have BJ:∀i,i<p.Q.length->(p.Q.getD i []).length<=1000:=fun i hi=>by have:=h.fp.row i oM;have:=h.fp.ln i oM;omega
 have BE:∀i,i<p.R.length->(p.R.getD i []).length<=1000:=fun i hi=>by have:=h.fp.bin i oM;omega
 have h2:=bX p oM oM BJ BE;have Qd:(Bd y p cs fs).length=y.U.length:=h.eq.len;have vN:=WR h;have hgc:=fun(m:Nat) (hm:m<n) (h0:0<=(Bd y p cs fs).getD m 0)=>Lk h hm h0;have Ua:∀m,m<n->0<=(Bd y p cs fs).getD m 0->D9 y.U p cs fs (Bd y p cs fs) m≠0:=fun m hm h0=>We h DG hm h0;have CP:=fun(m:Nat) (h0:(Bd y p cs fs).getD m 0<0)=>bi (y:=y) (p:=p) (fs:=fs) (LV:=Bd y p cs fs) (m:=m) h0;show Ag prog Ad 18 [] [y.av,p.av,IS cs, .sl (Ai fs) false] [] (.tup [(EQ y.U p cs fs (Bd y p cs fs)).1.av, .sl (Ai (EQ y.U p cs fs (Bd y p cs fs)).2) false,I 0]);have fj:H0 y.U p (WN y p cs fs) (Ci y.U.length)=(Bd y p cs fs,(H0 y.U p (WN y p cs fs) (Ci y.U.length)).2):=rfl;rw[fj] at h1;simp only at h1;generalize (H0 y.U p (WN y p cs fs) (Ci y.U.length)).2=EN at*;clear fj;generalize Bd y p cs fs=LV at*;refine Am func18 ntmps18 ?_;intro w e X hC;refine uA ?_;refine xz1 h1 ?_;refine uA ?_;refine uF ?_;refine uR ?_;intro K hK;have z:=@Bool.or_true;refine CL [] [(132,20,100,1),(402,20,101,1)] false (h2) (Ke z) (Ke z) (AW z) (AW z) (AW z) (AW z) (AW z) (AW z) (AW z) (AW z) (AW z) (AW z) (AW z) (AW z) (AW z) (AW z) (AW z) ?_;refine QV z ?_;clear z;refine hK _ ?_;clear hK K;iterate 2 refine uA ?_
 have Yd:=fun i=>Vk (xs:=y.U) (p:=p) (cs:=cs) (fs:=fs) (LV:=LV) i;have Yg:=fun i=>Vl (xs:=y.U) (p:=p) (cs:=cs) (fs:=fs) (LV:=LV) i;have FP:(AD y.U p cs fs LV 0).1=p.Q:=rfl;have HK:(AD y.U p cs fs LV 0).2.1=p.R:=rfl;refine CE (fun q:Nat×List Int=>⟨[(2,IS cs),(3, .sl (Ai fs) false),(4, .p 104 1 0 0 0),(5, .p 105 2 0 0 0),(8, .p 108 3 0 0 0),(10,I 0),(11, .p 111 14 0 0 0),(13, .p 113 21 0 0 0),(14, .l 136 26 0 y.U.length)],(132,some (20, .own 22 1 (BI 3 (AD y.U p cs fs LV y.U.length).1)))::(402,some (20, .own 22 1 (BI 3 (AD y.U p cs fs LV y.U.length).2.1)))::(136,some (26, .own 3 1 (As q.2)))::(113,some (21, .box [.l 132 20 0 p.Q.length, .l 402 20 0 p.R.length]))::(111,some (14, .box [IS LV,IS EN]))::(104,some (1, .box [.sl (AA y.U) false, .sl (Ai y.D) false]))::(105,some (2, .box [RS p.Q,RS p.R]))::(108,some (3, .box [.sl [] true, .sl [] true]))::[],q.1⟩)
  (fun q=>q.2.length=y.U.length/\∀j,j<y.U.length->q.2.getD j 0=if 0<=LV.getD j 0 then D9 y.U p cs fs LV j else 0) ?_ ?_
 .refine uW ?_;refine Aw (fun q:Nat×Nat×List Int=>⟨[(2,IS cs),(3, .sl (Ai fs) false),(4, .p 104 1 0 0 0),(5, .p 105 2 0 0 0),(8, .p 108 3 0 0 0),(10,I 0),(11, .p 111 14 0 0 0),(13, .p 113 21 0 0 0),(14, .l 136 26 0 y.U.length),(15,I q.2.1)],(132,some (20, .own 22 1 (BI 3 (AD y.U p cs fs LV q.2.1).1)))::(402,some (20, .own 22 1 (BI 3 (AD y.U p cs fs LV q.2.1).2.1)))::(136,some (26, .own 3 1 (As q.2.2)))::(113,some (21, .box [.l 132 20 0 p.Q.length, .l 402 20 0 p.R.length]))::(111,some (14, .box [IS LV,IS EN]))::(104,some (1, .box [.sl (AA y.U) false, .sl (Ai y.D) false]))::(105,some (2, .box [RS p.Q,RS p.R]))::(108,some (3, .box [.sl [] true, .sl [] true]))::[],q.1⟩)
   (fun q=>q.2.1<=y.U.length/\q.2.2.length=y.U.length/\(∀j,j<q.2.1->q.2.2.getD j 0=if 0<=LV.getD j 0 then D9 y.U p cs fs LV j else 0)/\∀j,q.2.1<=j->q.2.2.getD j 0=0) (fun q=>y.U.length - q.2.1) (_,0,List.replicate y.U.length 0) ⟨zL _,sM,fun j hj=>absurd hj (nZ _),fun j _=>by simp only[gE,List.getElem?_replicate];split<;>rfl⟩ (.of (lR _) (Ax (uI @FP @HK)) A4) ?_
  rintro⟨ck,i,lf⟩ ⟨Dw,Eh,Uq,XG⟩;simp only at Dw Eh Uq XG;have Kx:=Yd i;have Lm:=Yg i;have FI:AD y.U p cs fs LV (i+1)=_:=AD.eq_2 y.U p cs fs LV i;have wL:=fun(A2:i<p.Q.length)=>ZH (xs:=y.U) (p:=p) (cs:=cs) (fs:=fs) (LV:=LV) A2 i;generalize Su:AD y.U p cs fs LV i=s at*;obtain⟨s1,s2,s3⟩:=s;simp only at Kx Lm FI wL;refine xw9 (fun h0=>?_) (fun h0=>?_)
  .have Aa:i<y.U.length:=oM;have A2:i<n:=oM;have Uk:i<cs.length:=oM;have Lq:i<LV.length:=oM;have XL:i<p.Q.length:=oM;have NB:i<p.R.length:=oM;have QhY:i<s1.length:=oM;have vf:i<s2.length:=oM;have DQ:i<lf.length:=oM;have NG:=h.fp.row i Aa;have AK:=h.fp.ln i Aa;have Al:=BE i NB;have CP:=CP i;have Yf:=ZF (xs:=y.U) (p:=p) (cs:=cs) (fs:=fs) (LV:=LV) NB i;rw[Su,iN (fun h=>absurd h.1 (Nat.lt_irrefl i))] at Yf;simp only at Yf;rw[IV] at CP;have Mk:=aT y fs i Aa oM CG ⟨oM,oM⟩ (fun j hj hb=>h.ff.ok j hj i Aa hb);have T4:=nf (p.Q.getD i []) (DW fs i (y.U.getD i default).ln.toNat) (decide (0<=LV.getD i 0)) (by rw[aR];omega) oM;rw[m9] at T4;have DH:∀v,v=(if 0<=LV.getD i 0 then D9 y.U p cs fs LV i else 0)->(∀j,j<i+1->(lf.set i v).getD j 0=if 0<=LV.getD j 0 then D9 y.U p cs fs LV j else 0)/\∀j,i+1<=j->(lf.set i v).getD j 0=0:=fun v hv=>by
    refine⟨fun j hj=>?_,fun j hj=>?_⟩
    .rw[Ef];split
     .rename_i Da;rw[<-Da.1];exact hv
     rename_i Da;exact Uq j oM
    rw[Ef,iN oM];exact XG j oM
   have FD:D9 y.U p cs fs LV i=if AN (y.U.getD i default).kd=true then(BO (p.Q.getD i []) (DW fs i (y.U.getD i default).ln.toNat) (decide (0<=LV.getD i 0))).2 else cs.getD i 0:=rfl
   have Mi:(BO (p.Q.getD i []) (DW fs i (y.U.getD i default).ln.toNat) (decide (0<=LV.getD i 0))).1.length=(p.Q.getD i []).length:=Tp _ _ _;generalize e2:y.U.getD i default=x at*;generalize D9 y.U p cs fs LV i=bg at*;generalize BO (p.Q.getD i []) (DW fs i x.ln.toNat) (decide (0<=LV.getD i 0))=A at*;generalize DW fs i x.ln.toNat=at1 at*;generalize e3:p.Q.getD i []=sl at*;refine Av (uI (AG Aa) @e2) ?_;refine xy2 ((Kd x.kd)) ?_;cases c1:AN x.kd with
   |true=>
    rw[c1] at FI FD;simp only[if_true] at FI FD;refine uT ?_;have hv:A.2=if 0<=LV.getD i 0 then bg else 0:=by
     by_cases c:0<=LV.getD i 0
     .rw[iP c,FD]
     rw[iN c];exact CP oM
    obtain⟨JX,Qu⟩:=DH _ hv;refine CK (uI (BF XL) (uI @e3 (uI (Ao Lq) (uI @Kx (uI @Lm @Eh))))) ?_;intro K hK;refine xw1 Mk ?_;first|refine Ap (uI (BF XL) (uI @e3 (uI (Ao Lq) (uI @Kx (uI @Lm @Eh))))) ?_|exact Aq (uI (BF XL) (uI @e3 (uI (Ao Lq) (uI @Kx (uI @Lm @Eh)))))
    refine uH ?_;refine CL [] [(172,ck+32,100,1)] false (T4) Bz Bz Ab Ab Ab Ab Ab Ab Ab Ab Ab Ab Ab Ab Ab Ab Ab ?_;refine xq7 ?_;refine hK _ ?_;clear hK K;refine uZ ?_;refine⟨(_,i+1,lf.set i A.2),⟨uO,by rw[List.length_set];exact Eh,JX,Qu⟩,uO, .of (lR _) (Ax @FI) A4⟩
   |false=>
    rw[c1] at FI FD;simp only[Bool.false_eq_true,if_false] at FI FD;refine uF ?_;by_cases c2:0<=LV.getD i 0
    .have d2:decide (0<=LV.getD i 0)=true:=dT c2;obtain⟨JX,Qu⟩:=DH bg (by rw[iP c2]);rw[iP c2] at FI;refine IB (uI (Ao Lq) (uI @d2 (uI (Ao Uk) @Eh))) ?_;have Ye:(s2.getD i []).length<=1000:=by rw[Yf];exact Al
     have Nv:=p8 (s2.getD i []) (cs.getD i 0) Ye;rw[Qcd] at Nv;refine CK (uI (O7 (t:=3) vf) (uI @Lm (uI @Ic (Ao Uk)))) ?_;intro K hK;refine uH ?_;refine CL [] [(202,ck+38,100,1)] true (Nv) Bz Bz Ab Ab Ab Ab Ab Ab Ab Ab Ab Ab Ab Ab Ab Ab Ab ?_;refine xq7 ?_;refine hK _ ?_;clear hK K;refine uZ ?_;refine⟨(_,i+1,lf.set i bg),⟨uO,by rw[List.length_set];exact Eh,JX,Qu⟩,uO, .of (lR _) (Ax (uI @FI (uI @Ic (uI @List.set_set.{0} @FD)))) (AS @FD)⟩
    have d2:decide (0<=LV.getD i 0)=false:=dF c2;obtain⟨JX,Qu⟩:=DH 0 (by rw[iN c2]);rw[iN c2] at FI;have Uo:lf.set i 0=lf:=by
     have:=XG i (lR _);refine List.ext_getElem sM fun j h1 h2=>?_;rw[List.getElem_set];split
     .rename_i hj;subst hj;rw[gE,gG h2] at this;exact this.symm
     rfl
    rw[Uo] at JX Qu;refine IB (uI (Ao Lq) @d2) ?_;refine⟨(_,i+1,lf),⟨uO,Eh,JX,Qu⟩,uO, .of (lR _) (Ax @FI) A4⟩
  refine At ?_;have Bx:i=y.U.length:=oM;rw[Bx] at Su Uq;rw[Su];refine uZ ?_;refine⟨(_,lf),⟨Eh,Uq⟩,Af⟩
 rintro⟨ck1,lf⟩ ⟨Eh,Uo⟩;simp only at Eh Uo;iterate 2 refine uA ?_
 have fP:=Vn (cs:=cs) (fs:=fs) (LV:=LV) h.fp hi.srt y.U.length (lR _);have XT:=fun i=>j4 (xs:=y.U) (p:=p) (cs:=cs) (fs:=fs) (LV:=LV) i;have Jd:=fun i=>Vo (ms:=(AD y.U p cs fs LV y.U.length).2.2) fP i;have Dn:=fun(i:Nat) (h0:0<=LV.getD i 0) (hi:i<y.U.length) {q}=>Qe4 (xs:=y.U) (p:=p) (cs:=cs) (fs:=fs) h0 hi (s:=((AD y.U p cs fs LV y.U.length).1,(AD y.U p cs fs LV y.U.length).2.1)) (q:=q);have Fq:EQ y.U p cs fs LV=(⟨(Cs y.U (AD y.U p cs fs LV y.U.length).2.2 ((AD y.U p cs fs LV y.U.length).1,(AD y.U p cs fs LV y.U.length).2.1) (AD y.U p cs fs LV y.U.length).2.2.length).1,(Cs y.U (AD y.U p cs fs LV y.U.length).2.2 ((AD y.U p cs fs LV y.U.length).1,(AD y.U p cs fs LV y.U.length).2.1) (AD y.U p cs fs LV y.U.length).2.2.length).2⟩,(AD y.U p cs fs LV y.U.length).2.2.filter fun m=>!decide (m.b=m.c)):=rfl;rw[Fq];have Qq:Cs y.U (AD y.U p cs fs LV y.U.length).2.2 ((AD y.U p cs fs LV y.U.length).1,(AD y.U p cs fs LV y.U.length).2.1) 0=((AD y.U p cs fs LV y.U.length).1,(AD y.U p cs fs LV y.U.length).2.1):=rfl;clear Fq;have HD:(AD y.U p cs fs LV 0).2.2=[]:=rfl;generalize (AD y.U p cs fs LV y.U.length).1=sa at*;generalize (AD y.U p cs fs LV y.U.length).2.1=sb at*;obtain⟨ms,FM⟩:∃m,m=(AD y.U p cs fs LV y.U.length).2.2:=⟨_,rfl⟩;rw[<-FM];rw[<-FM] at Jd Dn Qq;have gH:(Cs y.U ms (sa,sb) (AD y.U p cs fs LV 0).2.2.length).1=sa:=by rw[HD];exact congrArg Prod.fst Qq
 have gI:(Cs y.U ms (sa,sb) (AD y.U p cs fs LV 0).2.2.length).2=sb:=by rw[HD];exact congrArg Prod.snd Qq
 have MC:((AD y.U p cs fs LV 0).2.2.filter fun m=>!decide (m.b=m.c))=[]:=by rw[HD];rfl
 have gJ:Ai ([]:List T3)=[]:=rfl;refine uW ?_;refine Aw (fun q:Nat×Nat=>⟨[(2,IS cs),(3, .sl (Ai fs) false),(4, .p 104 1 0 0 0),(5, .p 105 2 0 0 0),(8, .p 108 3 0 0 0),(10,I 0),(11, .p 111 14 0 0 0),(13, .p 113 21 0 0 0),(14, .l 136 26 0 y.U.length),(16, .l 116 ck1 0 ((AD y.U p cs fs LV q.2).2.2.filter fun m=>!decide (m.b=m.c)).length),(17,I q.2)],(116,some (ck1, .own 107 3 (Ai ((AD y.U p cs fs LV q.2).2.2.filter fun m=>!decide (m.b=m.c)))))::(132,some (20, .own 22 1 (BI 3 (Cs y.U ms (sa,sb) (AD y.U p cs fs LV q.2).2.2.length).1)))::(402,some (20, .own 22 1 (BI 3 (Cs y.U ms (sa,sb) (AD y.U p cs fs LV q.2).2.2.length).2)))::(136,some (26, .own 3 1 (As lf)))::(113,some (21, .box [.l 132 20 0 p.Q.length, .l 402 20 0 p.R.length]))::(111,some (14, .box [IS LV,IS EN]))::(104,some (1, .box [.sl (AA y.U) false, .sl (Ai y.D) false]))::(105,some (2, .box [RS p.Q,RS p.R]))::(108,some (3, .box [.sl [] true, .sl [] true]))::[],q.1⟩)
  (fun q=>q.2<=y.U.length) (fun q=>y.U.length - q.2) (_,0) (zL _) (.of (lR _) (Ax (uI @gH (uI @gI (uI @MC @gJ)))) (AS @MC)) ?_
 rintro⟨ck,i⟩ Dw;simp only at Dw;clear gH gI MC gJ HD Qq;have Sl:=Jd (AD y.U p cs fs LV i).2.2.length;have vH:=XT i;refine xw9 (fun h0=>?_) (fun h0=>?_)
 .have Aa:i<y.U.length:=oM;have A2:i<n:=oM;have DQ:i<lf.length:=oM;have Lq:i<LV.length:=oM;have NC:=Uo i Aa;by_cases c0:0<=LV.getD i 0
  .rw[iP c0] at NC;have tQ:=Ua i A2 c0;have UM:=vN i Aa c0;obtain⟨_,H8,EJ,_⟩:=hgc i A2 c0;obtain⟨k,hk⟩:∃k:Nat,DY y.U LV i=k:=⟨(DY y.U LV i).toNat,(Int.toNat_of_nonneg H8).symm⟩;obtain⟨w0,hw⟩:∃w:Nat,LV.getD i 0=w:=⟨(LV.getD i 0).toNat,(Int.toNat_of_nonneg c0).symm⟩;have hO:=Vm (xs:=y.U) (p:=p) (cs:=cs) (fs:=fs) c0;have Cp:k<y.U.length:=by rw[hk] at EJ;rw[KF];exact Int.ofNat_lt.1 EJ
   have MA:(y.U.getD i default).ex.getD w0 0=(k:Int):=by rw[<-hk,DY,hw,Int.toNat_natCast]
   rw[hw] at UM;have UM:w0<(y.U.getD i default).ex.length:=Int.ofNat_lt.1 UM;have hN:=fun {q}=>Dn i c0 Aa (q:=q);generalize X8:Cs y.U ms (sa,sb) (AD y.U p cs fs LV i).2.2.length=q at*;have hN:=hN rfl;obtain⟨q1,q2⟩:=q;obtain⟨II,Ie,KM,OR⟩:=Sl;simp only at II Ie KM OR hN;rw[hk,Int.toNat_natCast] at hN;have fK:Pa y.U p cs fs LV i=⟨D9 y.U p cs fs LV i,i,k⟩:=by rw[Pa,hk]
   rw[fK] at hO;have hF:((AD y.U p cs fs LV (i+1)).2.2.filter fun m=>!decide (m.b=m.c))=((AD y.U p cs fs LV i).2.2.filter fun m=>!decide (m.b=m.c))++(if(i:Int)=k then[] else[⟨D9 y.U p cs fs LV i,i,k⟩]):=by
    rw[hO,List.filter_append];congr 1
    by_cases c:(i:Int)=k
    .rw[iP c,List.filter_cons_of_neg (by simp[c])];rfl
    rw[iN c,List.filter_cons_of_pos (by simp[c])];rfl
   have RF:((AD y.U p cs fs LV i).2.2.filter fun m=>!decide (m.b=m.c)).length<=i:=Nat.le_trans (List.length_filter_le _ _) vH;have BJ:=KM k Cp;have BE:=(OR k Cp).2;have Sv:=h.fp.st k Cp;clear hO fK KM OR Dn Jd XT fP hgc Ua CP X8;generalize ((AD y.U p cs fs LV i).2.2.filter fun m=>!decide (m.b=m.c))=O at*;generalize D9 y.U p cs fs LV i=bg at*;have OJ:k<q1.length:=by rw[II];exact Cp
   have XR:k<q2.length:=by rw[Ie];exact Cp
   generalize e2:y.U.getD i default=x at*;have d0:decide (bg=0)=false:=dF tQ;refine Ac (uI (Ao DQ) (uI @NC (uI @d0 @Eh))) ?_;refine uF ?_;refine DD (uI (AG Aa) (uI @e2 (uI (Ao Lq) (uI @hw (uI (Ao UM) @MA))))) ?_;obtain⟨R,hR⟩:∃R,R=(if AN (y.U.getD k default).kd=true then(q1.set k ((q1.getD k []).set 0 bg),q2) else(q1,q2.set k (DA (q2.getD k []) bg))):=⟨_,rfl⟩;rw[<-hR] at hN;generalize e4:y.U.getD k default=z at*;refine Av (uI (AG Cp) @e4) ?_;refine xy2 ((Kd z.kd)) ?_;cases c1:AN z.kd with
   |true=>
    rw[c1,iP rfl] at hR;have RH:R.1=q1.set k ((q1.getD k []).set 0 bg):=by rw[hR]
    have RI:R.2=q2:=by rw[hR]
    have FP:=Sv c1;have Mu:0<(q1.getD k []).length:=by rw[BJ];clear hR hN;omega
    clear hR;refine uT ?_;refine xq2 (uI (O7 (t:=3) OJ) (uI @II (uI @HH (uI (Ao DQ) (uI @NC @Eh))))) ?_;have wI:∀v,((BI 3 q1).set k v).getD k .bad=v:=fun v=>by rw[Ef,iP ⟨rfl,by rw[O8];exact OJ⟩]
    have Fm:((q1.getD k []).set 0 bg).length=(q1.getD k []).length:=List.length_set;refine V4 (id:=132) (gi:=20) (t:=22) (k:=1) (i:=k) (rid:=240) (rg:=ck+35) (n:=(q1.getD k []).length) rfl (by rw[List.length_set,O8];exact OJ) (wI _) dM ?_ ?_
    .simp only[go_sem,seval,attP,Fm]
    simp only[go_sem,seval,att,List.set_set];by_cases cik:(i:Int)=k
    .have d9:decide (¬(k:Int)=i)=false:=dF (fun h=>h cik.symm);rw[iP cik,List.append_nil] at hF;refine IB @d9 ?_;refine⟨(_,i+1),Aa,Nat.sub_lt_sub_left Aa (Nat.lt_succ_self i), .of (lR _) (Ax (uI @hF (uI @hN (uI @RH (uI @RI (uI @HH @Ic)))))) (AS @hF)⟩
    have d9:decide (¬(k:Int)=i)=true:=dT (fun h=>cik h.symm);rw[iN cik] at hF;refine IB (uI @d9 (uI (Ao DQ) (uI @NC (uI @Eh @QS)))) ?_;refine⟨(_,i+1),Aa,Nat.sub_lt_sub_left Aa (Nat.lt_succ_self i), .of (lR _) (Ax (uI @hF (uI @hN (uI @RH (uI @RI (uI @HH @Ic)))))) (AS @hF)⟩
   |false=>
    rw[c1,iN sM] at hR;have RH:R.1=q1:=by rw[hR]
    have RI:R.2=q2.set k (DA (q2.getD k []) bg):=by rw[hR]
    have Sq:=QbX (q2.getD k []) bg (by clear hR hN hF;omega);clear hR;refine uF ?_;refine CK (uI (O7 (t:=3) XR) (uI @Ie (uI @Ic (uI (Ao DQ) (uI @NC @Eh))))) ?_;intro K hK;refine uH ?_;refine CL [] [(258,ck+43,100,1)] true (Sq) Bz Bz Ab Ab Ab Ab Ab Ab Ab Ab Ab Ab Ab Ab Ab Ab Ab ?_;refine xq7 ?_;refine hK _ ?_;clear hK K;by_cases cik:(i:Int)=k
    .have d9:decide (¬(k:Int)=i)=false:=dF (fun h=>h cik.symm);rw[iP cik,List.append_nil] at hF;refine IB @d9 ?_;refine⟨(_,i+1),Aa,Nat.sub_lt_sub_left Aa (Nat.lt_succ_self i), .of (lR _) (Ax (uI @hF (uI @hN (uI @RH (uI @RI (uI @HH (uI @Ic @List.set_set.{0}))))))) (AS @hF)⟩
    have d9:decide (¬(k:Int)=i)=true:=dT (fun h=>cik h.symm);rw[iN cik] at hF;refine IB (uI @d9 (uI (Ao DQ) (uI @NC (uI @Eh @QS)))) ?_;refine⟨(_,i+1),Aa,Nat.sub_lt_sub_left Aa (Nat.lt_succ_self i), .of (lR _) (Ax (uI @hF (uI @hN (uI @RH (uI @RI (uI @HH (uI @Ic @List.set_set.{0}))))))) (AS @hF)⟩
  rw[iN c0] at NC;have go:=j5 (xs:=y.U) (p:=p) (cs:=cs) (fs:=fs) c0;have d0:decide (lf.getD i 0=0)=true:=dT NC;refine Ac (uI (Ao DQ) (uI @d0 @Eh)) ?_;refine xk2 ?_;refine⟨(_,i+1),uO,uO, .of (lR _) (Ax @go) (AS @go)⟩
 refine At ?_;have Bx:i=y.U.length:=oM;rw[Bx,<-FM] at Sl;obtain⟨II,Ie,KM,OR⟩:=Sl;rw[Bx,<-FM];have RF:(ms.filter fun m=>!decide (m.b=m.c)).length<=1000:=Nat.le_trans (List.length_filter_le _ _) (by rw[FM];exact Nat.le_trans (XT _) oM);generalize (ms.filter fun m=>!decide (m.b=m.c))=O at*;generalize Cs y.U ms (sa,sb) ms.length=q at*;refine xz4 ?_;rw[show f18.results.toList=[.cell 8 36, .tmp 9, .tmp 10] from rfl];exact MY (uI @II (uI @Ie (uI @HH @Ic)))
end
open Go.Plant
theorem cM {α:Type} {a b:List α} {d:α} (h:a.length=b.length) (h':∀j,j<a.length->a.getD j d=b.getD j d):a=b:=by refine List.ext_getElem h fun j h1 h2=>?_;have:=h' j h1;simpa[h1,h2] using this
theorem qx (a b:List Int) (ha:a.length<=9223372036854775807) (hb:b.length<=9223372036854775807):Ag prog Ad 103 [] [IS a,IS b] [] (B (decide (a=b))):=by
 have CP:¬a=b->B (decide (a=b))=B false:=fun h=>by rw[dF h]
 refine Am func103 ntmps103 ?_;intro w e X hC;refine uA ?_;refine xw9 (fun c1=>?_) (fun c1=>?_)
 .refine xz3 ?_;try rfl
  exact(CP fun h=>c1 xv5).symm
 have c1:a.length=b.length:=oM;refine uA ?_;refine uW ?_;refine Aw (fun i:Nat×Nat=>⟨[(0,IS a),(1,IS b),(12,I a.length),(13,I i.2)],[],i.1⟩) (fun i=>i.2<=a.length/\∀j,j<i.2->a.getD j 0=b.getD j 0) (fun i=>a.length - i.2) (_,0) ⟨zL _,fun j hj=>absurd hj (nZ _)⟩ (Af) ?_;rintro⟨ck,i⟩ ⟨hi,hj⟩;simp only at hi hj;refine xw9 (fun h=>?_) (fun h=>?_)
 .have Aa:i<a.length:=oM;have Gv:i<b.length:=oM;refine uA ?_;refine DD (uI (Ao Aa) (Ao Gv)) ?_;refine GF (fun c3=>?_) (fun c3=>?_)
  .refine xz3 ?_;try rfl
   exact(CP fun h=>c3 xv5).symm
  refine uZ ?_;refine⟨(_,i+1),⟨uO,fun j Ah=>?_⟩,uO,Af⟩;by_cases AF:j=i
  .subst AF;exact Decidable.byContradiction fun hc=>c3 hc
  exact hj j vv6
 refine At ?_;have hs:a=b:=cM c1 fun j h=>hj j oM;refine xz3 ?_;try rfl
 rw[dT hs];rfl
theorem QeM (a b:List Int) (ha:a.length<=9223372036854775807) (hb:b.length<=9223372036854775807):Ag prog Ad 102 [] [IS a,IS b] [] (B (decide (a=b))):=by refine Am func102 ntmps102 ?_;intro w e X hC;refine uA ?_;refine xx9 ((qx a b ha hb)) ?_;exact uP
theorem cN (a b:List (List Int)) (ha:a.length<=9223372036854775807) (hb:b.length<=9223372036854775807) (GT:∀i,i<a.length->(a.getD i []).length<=9223372036854775807) (BX:∀i,i<b.length->(b.getD i []).length<=9223372036854775807):
  Ag prog Ad 104 [] [RS a,RS b, .fn 102 []] [] (B (decide (a=b))):=by
 have CP:¬a=b->B (decide (a=b))=B false:=fun h=>by rw[dF h]
 refine Am func104 ntmps104 ?_;intro w e X hC;refine uA ?_;refine xw9 (fun c1=>?_) (fun c1=>?_)
 .refine xz3 ?_;try rfl
  exact(CP fun h=>c1 xv5).symm
 have c1:a.length=b.length:=oM;refine uA ?_;refine uW ?_;refine Aw (fun i:Nat×Nat=>⟨[(1,RS b),(2, .fn 102 []),(15,RS a),(16,I a.length),(17,I i.2)],[],i.1⟩) (fun i=>i.2<=a.length/\∀j,j<i.2->a.getD j []=b.getD j []) (fun i=>a.length - i.2) (_,0) ⟨zL _,fun j hj=>absurd hj (nZ _)⟩ (Af) ?_;rintro⟨ck,i⟩ ⟨hi,hj⟩;simp only at hi hj;refine xw9 (fun h=>?_) (fun h=>?_)
 .have Aa:i<a.length:=oM;have Gv:i<b.length:=oM;have G0:=QeM (a.getD i []) (b.getD i []) (GT i Aa) (BX i Gv);by_cases c3:a.getD i []=b.getD i []
  .rw[dT c3] at G0;iterate 2 refine Ac (uI (BF Aa) (BF Gv)) ?_
   refine xx9 G0 ?_;refine xy9 ?_;refine⟨(_,i+1),⟨uO,fun j Ah=>?_⟩,uO,Af⟩;by_cases AF:j=i
   .subst AF;exact c3
   exact hj j vv6
  rw[dF c3] at G0;iterate 2 refine Ac (uI (BF Aa) (BF Gv)) ?_
  refine xx9 G0 ?_;refine xq4 ?_;try rfl
  exact(CP fun h=>c3 xv5).symm
 refine At ?_;have hs:a=b:=cM c1 fun j h=>hj j oM;refine xz3 ?_;try rfl
 rw[dT hs];rfl
theorem QbN (p q:Pl) (h1:p.Q.length<=1000) (h2:p.R.length<=1000) (h3:q.Q.length<=1000) (h4:q.R.length<=1000)
  (h5:∀i,i<p.Q.length->(p.Q.getD i []).length<=1000) (h6:∀i,i<p.R.length->(p.R.getD i []).length<=1000) (h7:∀i,i<q.Q.length->(q.Q.getD i []).length<=1000) (h8:∀i,i<q.R.length->(q.R.getD i []).length<=1000):
  Ag prog Ad 52 [] [p.av,q.av] [] (B (decide (p.Q=q.Q/\p.R=q.R))):=by
 have g1:=cN p.Q q.Q oM oM (fun i hi=>by have:=h5 i hi;omega) (fun i hi=>by have:=h7 i hi;omega);have g2:=cN p.R q.R oM oM (fun i hi=>by have:=h6 i hi;omega) (fun i hi=>by have:=h8 i hi;omega);refine Am func52 ntmps52 ?_;intro w e X hC;refine uA ?_;refine uA ?_;by_cases c1:p.Q=q.Q
 .rw[dT c1] at g1;refine uR ?_;intro K hK;refine xz0 g1 ?_;refine xz0 g2 ?_;refine hK _ ?_;clear hK K;refine uJ ?_;try rfl
  by_cases c2:p.R=q.R
  .rw[dT c2,dT (show p.Q=q.Q/\p.R=q.R from⟨c1,c2⟩)];rfl
  rw[dF c2,dF (show ¬(p.Q=q.Q/\p.R=q.R) from fun h=>c2 h.2)];rfl
 rw[dF c1] at g1;refine xx9 g1 ?_;refine uJ ?_;try rfl
 rw[dF (show ¬(p.Q=q.Q/\p.R=q.R) from fun h=>c1 h.1)];rfl
theorem WG (p:Pl) (h:Jw p):Ag prog Ad 130 [] [p.av] [] (IS (AZ p)):=by
 obtain⟨h1,h2,h3,h4⟩:=h;rw[YQ];refine Am func130 ntmps130 ?_;intro w e X hC;refine xy4 ?_;refine Aw (fun i:Nat×Nat=>⟨[(1, .p 101 1 0 0 0),(3, .l 103 3 0 ((p.Q.take i.2).flatten).length),(9,RS p.Q),(10,I p.Q.length),(11,I i.2)],(103,some (3, .own 3 1 (As (p.Q.take i.2).flatten)))::(101,some (1, .box [RS p.Q,RS p.R]))::[],i.1⟩) (fun i=>i.2<=p.Q.length) (fun i=>p.Q.length - i.2) (_,0) (zL _) (Af) ?_;rintro⟨ck,i⟩ hi;simp only at hi;have Dv:=WF (l:=p.Q.take i) fun r hr=>h3 r (List.mem_of_mem_take hr);rw[List.length_take,Nat.min_eq_left hi] at Dv;refine xw9 (fun c=>?_) (fun c=>?_)
 .have Aa:i<p.Q.length:=oM;have hg:=BF Aa;have hr:=h3 _ (GQ Aa []);have hs:=qS Aa;generalize p.Q.getD i []=r at*;have C3:((p.Q.take (i+1)).flatten).length=((p.Q.take i).flatten).length+r.length:=by rw[hs,aL]
  refine Bg (uI @hg @gX) ?_;refine⟨(_,i+1),uO,uO, .of (lR _) (Ax @hs) (AS @C3)⟩
 refine At ?_;have Bx:i=p.Q.length:=oM;subst Bx;rw[List.take_length] at Dv ⊢;generalize p.Q.flatten=A at*;refine xy4 ?_;refine Aw (fun i:Nat×Nat=>⟨[(1, .p 101 1 0 0 0),(3, .l 103 3 0 (A++GC (p.R.take i.2)).length),(20,RS p.R),(21,I p.R.length),(22,I i.2)],(103,some (3, .own 3 1 (As (A++GC (p.R.take i.2)))))::(101,some (1, .box [RS p.Q,RS p.R]))::[],i.1⟩) (fun i=>i.2<=p.R.length) (fun i=>p.R.length - i.2) (_,0) (zL _) (.of (lR _) (Ax @jw) (AS @jw)) ?_;rintro⟨ck2,k⟩ hk;simp only at hk;have Al:=Zo (l:=p.R.take k) fun r hr=>h4 r (List.mem_of_mem_take hr);rw[List.length_take,Nat.min_eq_left hk] at Al;have Mi:(A++GC (p.R.take k)).length=A.length+(GC (p.R.take k)).length:=aL;refine xw9 (fun c=>?_) (fun c=>?_)
 .have Aa:k<p.R.length:=oM;have hg:=BF Aa;have hr:=h4 _ (GQ Aa []);have hs:A++GC (p.R.take (k+1))=A++GC (p.R.take k)++[((p.R.getD k []).length:Int)]++p.R.getD k []:=by rw[Qeq Aa];simp only[List.append_assoc]
  generalize p.R.getD k []=r at*;generalize A++GC (p.R.take k)=M at*;have C3:(A++GC (p.R.take (k+1))).length=A.length+(GC (p.R.take k)).length+1+r.length:=by rw[hs,aL,aL,Mi];rfl
  refine Bg (uI @hg (uI @gX @Mi)) ?_;refine⟨(_,k+1),uO,uO, .of (lR _) (Ax @hs) (AS @C3)⟩
 refine At ?_;have Bx:k=p.R.length:=oM;subst Bx;rw[List.take_length];refine xz3 ?_;try rfl
 exact uX
def Mg (cm:List Int) (n:Nat) (s:List Int) (k:Nat):List T3:=
 if s.getD k 0=0 then[]
 else if k+1=s.length then(if cm.getD n 0<0 then[] else[⟨1,n,k⟩])
 else if s.getD (k+1) 0≠0 then[]
 else⟨1,n,k⟩::(if k+2<s.length then(if s.getD (k+2) 0=0 then[⟨2,n,k⟩] else[]) else[])
def CU (cm:List Int) (n:Nat) (s:List Int):Nat->List T3
 |0=>[]|k+1=>CU cm n s k++Mg cm n s k
theorem qW {cm:List Int} {n:Nat} {s:List Int}:CU cm n s 0=[]:=rfl
def I0 (cm:List Int) (ss:List (List Int)):Nat->List T3
 |0=>[]|n+1=>I0 cm ss n++CU cm n (ss.getD n []) (ss.getD n []).length
def CN (cm:List Int) (p:Pl):List T3:=I0 cm p.Q p.Q.length
theorem dy (cm:List Int) (n:Nat) (s:List Int) (k:Nat):(Mg cm n s k).length<=2:=by
 unfold Mg
 repeat' split
 all_goals simp
theorem WH (cm:List Int) (n:Nat) (s:List Int):∀k,(CU cm n s k).length<=2*k
 |0=>lR _|k+1=>by have:=WH cm n s k;have:=dy cm n s k;rw[CU,aL];omega
theorem dp (cm:List Int) (ss:List (List Int)) (hs:∀r∈ss,r.length<=1000):∀n,n<=ss.length->(I0 cm ss n).length<=2000*n
 |0,_=>lR _|n+1,h=>by have:=dp cm ss hs n oM;have h2:=WH cm n (ss.getD n []) (ss.getD n []).length;have h3:=hs _ (GQ (show n<ss.length by omega) []);rw[I0,aL];omega
theorem cS (y:Ly) (ord:List Int) (p:Pl) (cm:List Int) (h:Jw p) (hc:p.Q.length<=cm.length) (FG:cm.length<=1000):
  Ag prog Ad 120 [] [.P (Df y ord),p.av,IS cm] [] (.sl (Ai (CN cm p)) false):=by
 obtain⟨h1,-,h3,-⟩:=h;unfold CN;refine Am func120 ntmps120 ?_;intro w e X hC;refine xy4 ?_;refine Aw (fun i:Nat×Nat=>⟨[(2,IS cm),(4, .p 104 1 0 0 0),(7, .l 107 3 0 (I0 cm p.Q i.2).length),(14,RS p.Q),(15,I p.Q.length),(16,I i.2)],(107,some (3, .own 95 3 (Ai (I0 cm p.Q i.2))))::(104,some (1, .box [RS p.Q,RS p.R]))::[],i.1⟩) (fun i=>i.2<=p.Q.length) (fun i=>p.Q.length - i.2) (_,0) (zL _) (Af) ?_;rintro⟨ck,n⟩ hn;simp only at hn;have Dc:=dp cm p.Q h3 n hn;refine xw9 (fun c=>?_) (fun c=>?_)
 .have Aa:n<p.Q.length:=oM;have hg:=BF Aa;have hr:=h3 _ (GQ Aa []);have hgc:=Ao (show n<cm.length by omega);have Dm:I0 cm p.Q (n+1)=I0 cm p.Q n++CU cm n (p.Q.getD n []) (p.Q.getD n []).length:=rfl;generalize I0 cm p.Q n=F at*;generalize p.Q.getD n []=s at*;have Qz:F++CU cm n s 0=F:=by rw[qW,List.append_nil]
  refine Bg @hg ?_;refine uW ?_;refine Aw (fun i:Nat×Nat=>⟨[(2,IS cm),(4, .p 104 1 0 0 0),(7, .l 107 3 0 (F++CU cm n s i.2).length),(14,RS p.Q),(15,I p.Q.length),(16,I n),(8,I n),(9,IS s),(21,IS s),(22,I s.length),(23,I i.2)],(107,some (3, .own 95 3 (Ai (F++CU cm n s i.2))))::(104,some (1, .box [RS p.Q,RS p.R]))::[],i.1⟩) (fun i=>i.2<=s.length) (fun i=>s.length - i.2) (_,0) (zL _) (.of (lR _) (Ax @Qz) (AS @Qz)) ?_;rintro⟨ck2,k⟩ hk;simp only at hk;have C3:=WH cm n s k;have CG:F++CU cm n s (k+1)=(F++CU cm n s k)++Mg cm n s k:=by rw[CU,List.append_assoc]
  have AR:(F++CU cm n s k).length=F.length+(CU cm n s k).length:=aL;refine xw9 (fun c2=>?_) (fun c2=>?_)
  .have A3:k<s.length:=oM;have I9:=Ao A3;generalize F++CU cm n s k=o at*;rw[Mg] at CG;by_cases c0:s.getD k 0=0
   .rw[iP c0,List.append_nil] at CG;have d0:decide (s.getD k 0=0)=true:=dT c0;have Dv:(F++CU cm n s (k+1)).length=F.length+(CU cm n s k).length:=by rw[CG];exact AR
    refine IB (uI @I9 @d0) ?_;refine xq6 ?_;refine⟨(_,k+1),uO,uO, .of (lR _) (Ax @CG) (AS @Dv)⟩
   have d0:decide (s.getD k 0=0)=false:=dF c0;rw[iN c0] at CG;by_cases cl:k+1=s.length
   .have dl:=uDt ((k:Int)=(s.length:Int) - 1);rw[iP cl] at CG;by_cases cn:cm.getD n 0<0
    .have dn:decide (cm.getD n 0<0)=true:=dT cn;rw[iP cn,List.append_nil] at CG;have Dv:(F++CU cm n s (k+1)).length=F.length+(CU cm n s k).length:=by rw[CG];exact AR
     refine IB (uI @I9 (uI @d0 (uI @dl (uI @hgc @dn)))) ?_;refine xq6 ?_;refine⟨(_,k+1),uO,uO, .of (lR _) (Ax @CG) (AS @Dv)⟩
    have dn:decide (cm.getD n 0<0)=false:=dF cn;have d2:=uDf ((k:Int)+2<(s.length:Int));rw[iN cn] at CG;have Dv:(F++CU cm n s (k+1)).length=F.length+(CU cm n s k).length+1:=by rw[CG];simp[AR]
    refine IB (uI @I9 (uI @d0 (uI @dl (uI @hgc (uI @dn @d2))))) ?_;refine⟨(_,k+1),uO,uO, .of (lR _) (Ax @CG) (AS @Dv)⟩
   have dl:=uDf ((k:Int)=(s.length:Int) - 1);rw[iN cl] at CG;have EJ:=Ao (show k+1<s.length by omega);have e1:((k:Int)+1).toNat=k+1:=oM;by_cases c1:s.getD (k+1) 0=0
   .have d1:decide (s.getD (k+1) 0≠0)=false:=dF (fun h=>h c1);rw[iN (fun h=>h c1)] at CG;by_cases c3:k+2<s.length
    .have d3:=uDt ((k:Int)+2<(s.length:Int));have F3:=Ao c3;have e2:((k:Int)+2).toNat=k+2:=oM;rw[iP c3] at CG;by_cases c4:s.getD (k+2) 0=0
     .have d4:decide (s.getD (k+2) 0=0)=true:=dT c4;rw[iP c4] at CG;have CG:F++CU cm n s (k+1)=o++[⟨1,n,k⟩]++[⟨2,n,k⟩]:=by rw[CG];simp
      have Dv:(F++CU cm n s (k+1)).length=F.length+(CU cm n s k).length+2:=by rw[CG];simp[AR]
      refine IB (uI @I9 (uI @d0 (uI @dl (uI @EJ (uI @e1 (uI @d1 (uI @d3 (uI @F3 (uI @e2 @d4))))))))) ?_;refine⟨(_,k+1),uO,uO, .of (lR _) (Ax @CG) (AS @Dv)⟩
     have d4:decide (s.getD (k+2) 0=0)=false:=dF c4;rw[iN c4] at CG;have Dv:(F++CU cm n s (k+1)).length=F.length+(CU cm n s k).length+1:=by rw[CG];simp[AR]
     refine IB (uI @I9 (uI @d0 (uI @dl (uI @EJ (uI @e1 (uI @d1 (uI @d3 (uI @F3 (uI @e2 @d4))))))))) ?_;refine⟨(_,k+1),uO,uO, .of (lR _) (Ax @CG) (AS @Dv)⟩
    have d3:=uDf ((k:Int)+2<(s.length:Int));rw[iN c3] at CG;have Dv:(F++CU cm n s (k+1)).length=F.length+(CU cm n s k).length+1:=by rw[CG];simp[AR]
    refine IB (uI @I9 (uI @d0 (uI @dl (uI @EJ (uI @e1 (uI @d1 @d3)))))) ?_;refine⟨(_,k+1),uO,uO, .of (lR _) (Ax @CG) (AS @Dv)⟩
   have d1:decide (s.getD (k+1) 0≠0)=true:=dT c1;rw[iP c1,List.append_nil] at CG;have Dv:(F++CU cm n s (k+1)).length=F.length+(CU cm n s k).length:=by rw[CG];exact AR
   refine IB (uI @I9 (uI @d0 (uI @dl (uI @EJ (uI @e1 @d1))))) ?_;refine xq6 ?_;refine⟨(_,k+1),uO,uO, .of (lR _) (Ax @CG) (AS @Dv)⟩
  refine At ?_;have Bx:k=s.length:=oM;subst Bx;have FL:(I0 cm p.Q (n+1)).length=F.length+(CU cm n s s.length).length:=by rw[Dm,aL]
  rw[<-Dm];refine uZ ?_;refine⟨(_,n+1),uO,uO, .of (lR _) Cb (AS @FL)⟩
 refine At ?_;have Bx:n=p.Q.length:=oM;subst Bx;refine xz3 ?_;try rfl
 exact uX
end Go.Proofs.YtfcgkbinohibcaaGreatDoor
