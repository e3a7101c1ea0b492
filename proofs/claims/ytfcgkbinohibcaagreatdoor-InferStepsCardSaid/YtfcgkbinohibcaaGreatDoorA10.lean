/- Lemmas towards inferSteps_card: no conditions of their own. -/
import Derived.Test.YtfcgkbinohibcaaGreatDoorA9
import Derived.ProofKit
import Derived.Deep.Matrix
import Derived.Deep.Strs
import Derived.LaidMore
import Derived.OpenShut
import Derived.Stop.Joined
set_option linter.all false
namespace Go.Proofs.YtfcgkbinohibcaaGreatDoor
open Go Go.Sym Go.Proofs.Tryz
open Go.Plant Go.Inf
def ac9(y:Ly)(b:UZ)(node bag:Int)(hn:y.U.length<=1000)(h:node<0\/(y.U.length:Int)<=node\/bag<1\/40<bag):UB prog J9 33 [] [y.av,b.av,I node,I bag] [] (.F1 [ZM,I 1]):=by
 obtain⟨bd,bl⟩:=b;by_cases c0:node<0
 .have d0:=dT c0;refine MD func33 ntmps33 ?_;intro w e X hC;refine N5 @d0 ?_;rw[show f33.results.toList=[.cell 8 33,.tmp 9] from rfl];first|refine jW ?_|exact W5
  rfl
 have d0:=dF c0;by_cases c1:(y.U.length:Int)<=node
 .have d1:=dT c1;refine MD func33 ntmps33 ?_;intro w e X hC;refine N5 (uI @d0 @d1) ?_;rw[show f33.results.toList=[.cell 8 33,.tmp 9] from rfl];first|refine jW ?_|exact W5
  rfl
 have d1:=dF c1;by_cases c2:bag<1
 .have d2:=dT c2;refine MD func33 ntmps33 ?_;intro w e X hC;refine N5 (uI @d0 (uI @d1 @d2)) ?_;rw[show f33.results.toList=[.cell 8 33,.tmp 9] from rfl];first|refine jW ?_|exact W5
  rfl
 have d2:=dF c2;have d3:=oN (40<bag);refine MD func33 ntmps33 ?_;intro w e X hC;refine N5 (uI @d0 (uI @d1 (uI @d2 @d3))) ?_;rw[show f33.results.toList=[.cell 8 33,.tmp 9] from rfl];first|refine jW ?_|exact W5
 rfl
def aa1(y:Ly)(b:UZ)(node bag:Int)(hn:y.U.length<=1000)(h:node<0\/(y.U.length:Int)<=node\/bag<1\/40<bag):UB prog J9 32 [] [y.av,b.av,I node,I bag] [] (.F1 [ZM,I 1]):=by
 obtain⟨bd,bl⟩:=b;by_cases c0:node<0
 .have d0:=dT c0;refine MD func32 ntmps32 ?_;intro w e X hC;refine N5 @d0 ?_;rw[show f32.results.toList=[.cell 8 33,.tmp 9] from rfl];first|refine jW ?_|exact W5
  rfl
 have d0:=dF c0;by_cases c1:(y.U.length:Int)<=node
 .have d1:=dT c1;refine MD func32 ntmps32 ?_;intro w e X hC;refine N5 (uI @d0 @d1) ?_;rw[show f32.results.toList=[.cell 8 33,.tmp 9] from rfl];first|refine jW ?_|exact W5
  rfl
 have d1:=dF c1;by_cases c2:bag<1
 .have d2:=dT c2;refine MD func32 ntmps32 ?_;intro w e X hC;refine N5 (uI @d0 (uI @d1 @d2)) ?_;rw[show f32.results.toList=[.cell 8 33,.tmp 9] from rfl];first|refine jW ?_|exact W5
  rfl
 have d2:=dF c2;have d3:=oN (40<bag);refine MD func32 ntmps32 ?_;intro w e X hC;refine N5 (uI @d0 (uI @d1 (uI @d2 @d3))) ?_;rw[show f32.results.toList=[.cell 8 33,.tmp 9] from rfl];first|refine jW ?_|exact W5
 rfl
def ajU(y:Ly)(b:UZ)(node bag:Int)(hn:y.U.length<=1000)(h:node<0\/(y.U.length:Int)<=node\/bag<1\/40<bag):UB prog J9 35 [] [y.av,b.av,I node,I bag] [] (.F1 [ZM,I 1]):=by
 obtain⟨bd,bl⟩:=b;by_cases c0:node<0
 .have d0:=dT c0;refine MD func35 ntmps35 ?_;intro w e X hC;refine N5 @d0 ?_;rw[show Tryz.f35.results.toList=[.cell 8 33,.tmp 9] from rfl];first|refine jW ?_|exact W5
  rfl
 have d0:=dF c0;by_cases c1:(y.U.length:Int)<=node
 .have d1:=dT c1;refine MD func35 ntmps35 ?_;intro w e X hC;refine N5 (uI @d0 @d1) ?_;rw[show Tryz.f35.results.toList=[.cell 8 33,.tmp 9] from rfl];first|refine jW ?_|exact W5
  rfl
 have d1:=dF c1;by_cases c2:bag<1
 .have d2:=dT c2;refine MD func35 ntmps35 ?_;intro w e X hC;refine N5 (uI @d0 (uI @d1 @d2)) ?_;rw[show Tryz.f35.results.toList=[.cell 8 33,.tmp 9] from rfl];first|refine jW ?_|exact W5
  rfl
 have d2:=dF c2;have d3:=oN (40<bag);refine MD func35 ntmps35 ?_;intro w e X hC;refine N5 (uI @d0 (uI @d1 (uI @d2 @d3))) ?_;rw[show Tryz.f35.results.toList=[.cell 8 33,.tmp 9] from rfl];first|refine jW ?_|exact W5
 rfl
def abS(y:Ly)(b:UZ)(node bag:Int)(hn:y.U.length<=1000)(h:node<0\/(y.U.length:Int)<=node\/bag<1\/40<bag):UB prog J9 34 [] [y.av,b.av,I node,I bag] [] (.F1 [ZM,I 1]):=by
 obtain⟨bd,bl⟩:=b;by_cases c0:node<0
 .have d0:=dT c0;refine MD func34 ntmps34 ?_;intro w e X hC;refine N5 @d0 ?_;rw[show f34.results.toList=[.cell 8 33,.tmp 9] from rfl];first|refine jW ?_|exact W5
  rfl
 have d0:=dF c0;by_cases c1:(y.U.length:Int)<=node
 .have d1:=dT c1;refine MD func34 ntmps34 ?_;intro w e X hC;refine N5 (uI @d0 @d1) ?_;rw[show f34.results.toList=[.cell 8 33,.tmp 9] from rfl];first|refine jW ?_|exact W5
  rfl
 have d1:=dF c1;by_cases c2:bag<1
 .have d2:=dT c2;refine MD func34 ntmps34 ?_;intro w e X hC;refine N5 (uI @d0 (uI @d1 @d2)) ?_;rw[show f34.results.toList=[.cell 8 33,.tmp 9] from rfl];first|refine jW ?_|exact W5
  rfl
 have d2:=dF c2;have d3:=oN (40<bag);refine MD func34 ntmps34 ?_;intro w e X hC;refine N5 (uI @d0 (uI @d1 (uI @d2 @d3))) ?_;rw[show f34.results.toList=[.cell 8 33,.tmp 9] from rfl];first|refine jW ?_|exact W5
 rfl
open Go.Plant Go.Inf
def abM{y:Ly}{node bag:Int}{hs:List iM}{i:Nat}(h:i<hs.length):Vg y node bag (hs.take (i+1))=Vg y node bag (hs.take i)++(if(pn y node bag (hs.getD i hZ).2).2=true then[((hs.getD i hZ).1,(pn y node bag (hs.getD i hZ).2).1)] else[]):=by
 unfold Vg;rw[Pq h hZ,xj];congr 1
 rw[Bf,List.filterMap_nil];split<;>rename_i he<;>split at he<;>rename_i hc
 .cases he
 .rw[iN hc]
 .rw[iP hc];cases he;rfl
 cases he
def an1(y:Ly)(b:UZ)(n:Nat)(bag:Int)(hny:y.U.length<=1000)(hn:n<y.U.length)(hb:1<=bag/\bag<=40)(VB:(y.U.getD n default).kd≠1):UB prog J9 33 [] [y.av,b.av,I n,I bag] [] (.F1 [ZM,I 4]):=by
 obtain⟨bd,bl⟩:=b;have hg:=bp hn;have d0:=Vj ((n:Int)<0);have d1:=Vj ((y.U.length:Int)<=(n:Int));have d2:=Vj (bag<1);have d3:=Vj (40<bag);have d4:decide (¬(y.U.getD n default).kd=1)=true:=dT VB;generalize y.U.getD n default=x at*;refine MD func33 ntmps33 ?_;intro w e X hC;refine NL (uI @d0 (uI @d1 (uI @d2 @d3))) ?_;refine N5 (uI @hg @d4) ?_;rw[show f33.results.toList=[.cell 8 33,.tmp 9] from rfl];first|refine jW ?_|exact W5
 rfl
def apf(y:Ly)(b:UZ)(n:Nat)(bag:Int)(hny:y.U.length<=1000)(hn:n<y.U.length)(hb:1<=bag/\bag<=40)(VB:(y.U.getD n default).kd≠1):UB prog J9 32 [] [y.av,b.av,I n,I bag] [] (.F1 [ZM,I 4]):=by
 obtain⟨bd,bl⟩:=b;have hg:=bp hn;have d0:=Vj ((n:Int)<0);have d1:=Vj ((y.U.length:Int)<=(n:Int));have d2:=Vj (bag<1);have d3:=Vj (40<bag);have d4:decide (¬(y.U.getD n default).kd=1)=true:=dT VB;generalize y.U.getD n default=x at*;refine MD func32 ntmps32 ?_;intro w e X hC;refine NL (uI @d0 (uI @d1 (uI @d2 @d3))) ?_;refine N5 (uI @hg @d4) ?_;rw[show f32.results.toList=[.cell 8 33,.tmp 9] from rfl];first|refine jW ?_|exact W5
 rfl
def ajt(y:Ly)(Na:Int)(hs:List iM)(n:Nat)(bag:Int){L:List Int}(hny:y.U.length<=11)(hn:n<y.U.length)(hb:1<=bag/\bag<=40)(VB:(y.U.getD n default).kd=1)(jJ:hs.length<=900)(NH:∀h∈hs,Zc y.U h.2)(Fs:∀h∈hs,(pn y n bag h.2).2=true->Y9 y (pn y n bag h.2).1 L):
  UB prog J9 33 [] [y.av,(UZ.mk Na (hs.map Z')).av,I n,I bag] [] (.F1 [(iA Na ((Vg y n bag hs).foldl (pe qN) [])).1.av,I (iA Na ((Vg y n bag hs).foldl (pe qN) [])).2]):=by
 have hg:=bp hn;have d0:=Vj ((n:Int)<0);have d1:=Vj ((y.U.length:Int)<=(n:Int));have d2:=Vj (bag<1);have d3:=Vj (40<bag);have d4:decide (¬(y.U.getD n default).kd=1)=false:=by simpa using VB
 have hXg:∀l:List iM,(∀h∈l,h∈hs)->∀x∈Vg y n bag l,Y9 y x.2 L:=fun l hl x hx=>by
  obtain⟨g,wO,hx⟩:=Zz.1 hx;split at hx
  .rename_i c;cases hx
   exact Fs g (hl g wO) c
  cases hx
 have pE:∀l:List iM,(Vg y n bag l).length<=l.length:=fun l=>mo _ _;generalize y.U.getD n default=x at*;refine MD func33 ntmps33 ?_;intro w e X hC;refine NL (uI @d0 (uI @d1 (uI @d2 @d3))) ?_;refine NL (uI @hg @d4) ?_;refine EP ?_;refine AJ hs.length (fun q:Az=>⟨[(2,I n),(3,I bag),(4,.p 104 1 0 0 0),(5,.p 105 2 0 0 0),(8,.p 108 3 0 0 0),(10,.p 110 32 0 0 0),(11,I q.2)],(110,some (32,.box [I Na,.sl (wF (((Vg y n bag (hs.take q.2)).foldl (pe qN) []).map Z')) false]))::(108,some (3,.box [I 0,.sl [] true]))::(105,some (2,.box [I Na,.sl (wF (hs.map Z')) false]))::(104,some (1,.box (r8 y)))::[],q.1⟩) (ch) ?_;intro ck i hi;have hRl:=HM (Vg y n bag (hs.take i)) [];have hXi:=pE (hs.take i);rw[Hh]at hXi;rw[N9]at hRl;have rI:=mw (Gd:=fun q=>Y9 y q L) (l:=[]) (fun x hx=>ZY) (hXg (hs.take i) fun h hh=>Cz hh);refine C0 ?_ ?_<;>intro c
 .have PP:i<hs.length:=oM;have g1:=LA PP;have NE:=abM (y:=y) (node:=n) (bag:=bag) PP;have hm:=Ug PP hZ;have oB:=Fs _ hm;have we:=jT y _ n bag (NH _ hm);have he1:(pL y (hs.getD i hZ).2 n bag).2=0↔(pn y n bag (hs.getD i hZ).2).2=true:=by unfold pn;simp
  have MW:(pL y (hs.getD i hZ).2 n bag).1=(pn y n bag (hs.getD i hZ).2).1:=rfl;unfold hZ at*;generalize hs.getD i (0,⟨[],[]⟩)=h at*;obtain⟨hu,JW⟩:=h;simp only[Z']at g1 we oB NE he1 MW;rw[MW]at we;generalize pn y n bag JW=qo at*;generalize (pL y JW n bag).2=e at*;obtain⟨q,ok⟩:=qo;simp only at oB we NE he1 MW;refine Dp @g1 ?_;refine Yi we ?_;by_cases c2:e=0
  .have c3:=he1.1 c2;rw[iP c3]at NE;have Ac:(Vg y n bag (hs.take (i+1))).foldl (pe qN) []=pe qN ((Vg y n bag (hs.take i)).foldl (pe qN) []) (hu,q):=by rw[NE,WS];rfl
   have wa:=Lh _ (hu,q) oM rI (oB c3) hny;have XK:=Vm ((Vg y n bag (hs.take i)).foldl (pe qN) []) (hu,q);rw[<-Ac]at wa;simp only[Z']at wa;have d5:decide (e=0)=true:=dT c2;refine K6 @d5 ?_;refine Dp @g1 ?_;refine Yi wa ?_;refine uZ ?_;exact nX (_,i+1) ch
  have c3:¬ok=true:=fun h=>c2 (he1.2 h);rw[iN c3,MP]at NE;have d5:decide (e=0)=false:=dF c2;refine zF @d5 ?_;exact nX (_,i+1) (wK @NE @NE)
 refine El ?_;have Wd:i=hs.length:=oM;subst Wd;rw[Sy]at hRl hXi ⊢;have wd:=BU Na ((Vg y n bag hs).foldl (pe qN) []) oM;generalize (Vg y n bag hs).foldl (pe qN) []=R at*;generalize iA Na R=z at*;obtain⟨⟨zb,zl⟩,ze⟩:=z;refine uZ ?_;refine VT wd ?_;refine A_ ?_;rw[show f33.results.toList=[.cell 8 33,.tmp 9] from rfl];exact W5
open Go.Plant Go.Inf
def kK(n:Nat)(bag:Int)(p:Pl):Bool:=decide (bag∈p.R.getD n [])
def x6(n:Nat)(bag:Int)(hs:List iM):List iM:=hs.filter fun h=>kK n bag h.2
def akE{n:Nat}{bag:Int}{hs:List iM}{i:Nat}(h:i<hs.length):x6 n bag (hs.take (i+1))=x6 n bag (hs.take i)++(if kK n bag (hs.getD i hZ).2=true then[hs.getD i hZ] else[]):=by
 unfold x6;rw[Pq h hZ,aT];congr 1
 rw[XL,zV]
def ajM(y:Ly)(b:UZ)(n:Nat)(bag:Int)(hny:y.U.length<=1000)(hn:n<y.U.length)(hb:1<=bag/\bag<=40)(VB:c9 (y.U.getD n default).kd=true):UB prog J9 35 [] [y.av,b.av,I n,I bag] [] (.F1 [ZM,I 4]):=by
 obtain⟨bd,bl⟩:=b;have hg:=bp hn;have d0:=Vj ((n:Int)<0);have d1:=Vj ((y.U.length:Int)<=(n:Int));have d2:=Vj (bag<1);have d3:=Vj (40<bag);have ws:=R5 (y.U.getD n default).kd;rw[VB]at ws;generalize y.U.getD n default=x at*;refine MD func35 ntmps35 ?_;intro w e X hC;refine NL (uI @d0 (uI @d1 (uI @d2 @d3))) ?_;refine WT @hg ws ?_;refine TD ?_;rw[show Tryz.f35.results.toList=[.cell 8 33,.tmp 9] from rfl];first|refine jW ?_|exact W5
 rfl
def afT(y:Ly)(Na:Int)(hs:List iM)(n:Nat)(bag:Int)(hny:y.U.length<=11)(hn:n<y.U.length)(hb:1<=bag/\bag<=40)(VB:c9 (y.U.getD n default).kd=false)(jJ:hs.length<=900)(NH:∀h∈hs,Zc y.U h.2):
  UB prog J9 35 [] [y.av,(UZ.mk Na (hs.map Z')).av,I n,I bag] [] (.F1 [(iA Na (x6 n bag hs)).1.av,I (iA Na (x6 n bag hs)).2]):=by
 have hg:=bp hn;have d0:=Vj ((n:Int)<0);have d1:=Vj ((y.U.length:Int)<=(n:Int));have d2:=Vj (bag<1);have d3:=Vj (40<bag);have ws:=R5 (y.U.getD n default).kd;rw[VB]at ws;have pE:∀l:List iM,(x6 n bag l).length<=l.length:=fun l=>aU _ _;generalize y.U.getD n default=x at*;refine MD func35 ntmps35 ?_;intro w e X hC;refine NL (uI @d0 (uI @d1 (uI @d2 @d3))) ?_;refine WT @hg ws ?_;refine UN ?_;refine wG 301 110 32 63 3 1 dM rfl rfl rfl ?_;refine uW ?_;refine AJ hs.length (fun q:Az=>⟨[(2,I n),(3,I bag),(4,.p 104 1 0 0 0),(5,.p 105 2 0 0 0),(8,.p 108 3 0 0 0),(10,.p 110 32 0 0 0),(11,I q.2)],(110,some (32,.box [I Na,.l 301 35 0 (x6 n bag (hs.take q.2)).length]))::(301,some (35,.own 63 3 (wF ((x6 n bag (hs.take q.2)).map Z'))))::(108,some (3,.box [I 0,.sl [] true]))::(105,some (2,.box [I Na,.sl (wF (hs.map Z')) false]))::(104,some (1,.box (r8 y)))::[],q.1⟩) (ch) ?_;intro ck i hi;have hXi:=pE (hs.take i);rw[Hh]at hXi;refine C0 ?_ ?_<;>intro c
 .have PP:i<hs.length:=oM;have g1:=LA PP;have NE:=akE (n:=n) (bag:=bag) PP;have hm:=Ug PP hZ;have hf:=NH _ hm;have OT:=hf.bl;have Ap:=hf.bin n hn;have g2:=au (l:=(hs.getD i hZ).2.R) (n:=n) oM;have wi:=kQ ((hs.getD i hZ).2.R.getD n []) bag oM;have he1:kK n bag (hs.getD i hZ).2=decide (bag∈(hs.getD i hZ).2.R.getD n []):=rfl;rw[he1]at NE;clear he1 hf;unfold hZ at*;generalize hs.getD i (0,⟨[],[]⟩)=h at*;obtain⟨hu,agB,AE⟩:=h;simp only[Z']at g1 g2 wi NE OT Ap;generalize AE.getD n []=row at*;refine WT (uI @g1 @g2) wi ?_;refine Wc ?_ ?_<;>intro c2
  .rw[iP (dT c2)]at NE;have eF:(x6 n bag (hs.take (i+1))).map Z'=(x6 n bag (hs.take i)).map Z'++[⟨hu,agB,AE⟩]:=by rw[NE,Mx];rfl
   have Ac:(x6 n bag (hs.take (i+1))).length=(x6 n bag (hs.take i)).length+1:=by rw[NE,aL];rfl
   generalize x6 n bag (hs.take i)=R at*;refine Va @g1 ?_;exact nX (_,i+1) (wK (uI @eF @Ac) (uI @eF @Ac))
  rw[iN (by simpa using c2),MP]at NE;refine uZ ?_;exact nX (_,i+1) (wK @NE @NE)
 refine El ?_;have Wd:i=hs.length:=oM;subst Wd;rw[Sy]at hXi ⊢;have wd:=BU Na (x6 n bag hs) oM;generalize x6 n bag hs=R at*;generalize iA Na R=z at*;obtain⟨⟨zb,zl⟩,ze⟩:=z;refine uZ ?_;refine AR (s':=⟨[(8,.p 108 3 0 0 0),(10,.p 110 32 0 0 0)],(110,some (32,.box [I Na,.sl (wF (R.map Z')) false]))::(108,some (3,.box [I 0,.sl [] true]))::[],_⟩) (ch) ?_;refine VT wd ?_;refine A_ ?_;rw[show Tryz.f35.results.toList=[.cell 8 33,.tmp 9] from rfl];exact W5
open Go.Plant Go.Inf
def adN{y:Ly}{p:Pl}{L:List Int}(h:Y9 y p L)(n:Nat)(bag:Int)(hn:n<y.U.length):UB prog J9 86 [] [p.av,.P [I n],.P [I bag]] [] (.F1 [p.av,B (kK n bag p)]):=by
 have w1:=kW h;have hx:=h.fp.xl;have OT:=h.fp.bl;have Ap:=h.fp.bin n hn;have g2:=au (l:=p.R) (n:=n) oM;have wi:=M6 (p.R.getD n []) bag oM;have he1:(p.R.getD n []).any (fun y=>decide (bag=y))=kK n bag p:=by
  unfold kK;rw[VY,X4,Vd];constructor
  .rintro⟨x,hx,he⟩;rw[oT he];exact hx
  intro hm;exact⟨bag,hm,dT rfl⟩
 rw[he1]at wi;have d0:=oN ((n:Int)<(p.R.length:Int));generalize kK n bag p=sb at*;obtain⟨q1,q2⟩:=p;simp only at g2 wi OT d0;generalize q2.getD n []=row at*;refine MD func86 ntmps86 ?_;intro w e X hC;refine uZ ?_;refine Dp (uI @d0 @g2) ?_;intro K hK;refine uH ?_;refine cP w1 ?_;refine uS ?_;first|refine Z6 (uI @d0 @g2) ?_|exact an (uI @d0 @g2)
 refine Dx wi ?_;refine uH ?_;refine hK _ ?_;clear hK K;refine A_ ?_;rw[show f86.results.toList=[.cell 4 36,.tmp 5] from rfl];exact W5
def aql(y:Ly)(b:UZ)(n:Nat)(bag:Int)(Nx:UQ y)(hv:NP y=0)(hny:y.U.length<=1000)(hn:n<y.U.length)(hb:1<=bag/\bag<=40)(VB:c9 (y.U.getD n default).kd=true):UB prog J9 34 [] [y.av,b.av,I n,I bag] [] (.F1 [ZM,I 4]):=by
 obtain⟨bd,bl⟩:=b;have hg:=bp hn;have d0:=Vj ((n:Int)<0);have d1:=Vj ((y.U.length:Int)<=(n:Int));have d2:=Vj (bag<1);have d3:=Vj (40<bag);have ws:=WO (y.U.getD n default).kd;have wv:=SS y Nx;rw[hv]at wv;rw[VB]at ws;generalize y.U.getD n default=x at*;refine MD func34 ntmps34 ?_;intro w e X hC;refine NL (uI @d0 (uI @d1 (uI @d2 @d3))) ?_;refine nF @hg ?_;intro K hK;refine Dx wv ?_;first|refine Z6 @hg ?_|exact an @hg
 refine Dx ws ?_;refine uH ?_;refine hK _ ?_;clear hK K;refine TD ?_;rw[show f34.results.toList=[.cell 8 33,.tmp 9] from rfl];first|refine jW ?_|exact W5
 rfl
def O9(n:Nat)(bag:Int)(p:Pl):Pl×Bool:=(p,kK n bag p)
def aq9(y:Ly)(Na:Int)(hs:List iM)(n:Nat)(bag:Int){L:List Int}(Nx:UQ y)(hv:NP y=0)(hny:y.U.length<=11)(hn:n<y.U.length)(hb:1<=bag/\bag<=40)(VB:c9 (y.U.getD n default).kd=false)(jJ:hs.length<=900)(Fs:∀h∈hs,Y9 y h.2 L)(hL:mK L)(r:UZ)(e:Int)(hr:(wL (O9 n bag) hs=[]/\r=⟨0,[]⟩/\e=11)\/
   (wL (O9 n bag) hs≠[]/\∃L:List iM,L.Perm (wL (O9 n bag) hs)/\(L.Pairwise fun a b=>W9 (qN a.2) (qN b.2)=true)/\r=⟨Na,L.map Z'⟩/\e=0)):
  UB prog J9 34 [] [y.av,(UZ.mk Na (hs.map Z')).av,I n,I bag] [] (.F1 [r.av,I e]):=by
 have h1:=du (Na:=Na) (kf:=86) (cp:=[[I n],[I bag]]) (of:=O9 n bag) (Gd:=fun q=>Y9 y q L) hs jJ (fun h hh=>adN (Fs h hh) n bag hn) (fun h hh _=>Fs h hh) (fun q h=>h.dV hny hL) (fun a b ha hb=>ha.inj hny hL hb) (.F1 [r.av,I e]) (by
  rcases hr with ⟨h1,h2,h3⟩|⟨h1,L,h2,h3,h4,h5⟩
  ·exact .inl ⟨h1,by rw[h2,h3]⟩
  exact .inr ⟨h1,L,h2,h3,by rw[h4,h5]⟩)
 have hg:=bp hn;have d0:=Vj ((n:Int)<0);have d1:=Vj ((y.U.length:Int)<=(n:Int));have d2:=Vj (bag<1);have d3:=Vj (40<bag);have ws:=WO (y.U.getD n default).kd;have wv:=SS y Nx;rw[hv]at wv;rw[VB]at ws;obtain⟨rb,rl⟩:=r;generalize y.U.getD n default=x at*;refine MD func34 ntmps34 ?_;intro w e X hC;refine NL (uI @d0 (uI @d1 (uI @d2 @d3))) ?_;refine nF @hg ?_;intro K hK;refine Dx wv ?_;first|refine Z6 @hg ?_|exact an @hg
 refine Dx ws ?_;refine uH ?_;refine hK _ ?_;clear hK K;refine uF ?_;refine uR ?_;refine Yi h1 ?_;refine WE ?_;rw[show f34.results.toList=[.cell 8 33,.tmp 9] from rfl];exact W5
open Go.Plant Go.Inf
theorem QA{L:List Int}{A n:Nat}{y:Ly}(hg:Gj A n y)(hL:mK L):∀{Y X l:List iM},ip qN X l->(∀x∈X,Y9 y x.2 L)->(∀x∈Y,Y9 y x.2 L)->ip qN (X++Y) (Y.foldl (pe qN) l)
 |[],X,l,h,_,_=>by rw[MP];exact h|a::Y,X,l,h,hX,hY=>by
  have ha:=hY a mS;have:=QA hg hL (Y:=Y) (ip.pe qN (h:=a) h fun x hx e=>Ys hg hL (hX x (h.mem x hx)) ha e) (fun x hx=>by
   rcases ym.1 hx with hx|hx
   ·exact hX x hx
   rw[iT.1 hx];exact ha) fun x hx=>hY x (mC _ hx)
  rwa[Z5,tc]at this
theorem Y9.acn{y:Ly}{p:Pl}{L:List Int}(h:Y9 y p L)(hL:mK L){b:Int}(hb:b∈L):(AU p b).2.2=true:=by
 have h0:b≠0:=by have:=hL.pos b hb;omega
 cases e:(AU p b).2.2 with
 |true=>rfl|false=>obtain⟨t,ht,hm⟩:=th.1 (h.mem.2 hb);exact absurd hm (abl h.fp.sl h.fp.bl h0 e ht)
def anx{y:Ly}{p:Pl}{L:List Int}{node bag:Int}(h:Y9 y p L)(hL:mK L)(he:(pL y p node bag).2=0):bag∉L:=fun hb=>by have hw:=h.acn hL hb;have hp:=hL.pos _ hb;obtain⟨m,h1,h2,h3,h4,h5,h6⟩:=mZ he;unfold pL at he;rw[iN oM,iN (by subst h1;simpa using h4),iP hw]at he;cases he
def BS{Na:Int}{X Y G l:List iM}(hG:vM 40 X G)(hl:ip qN Y l)(h1:Fi X Y)(h2:Fi Y X)(inj:∀a∈G,∀b∈G,qN a.2=qN b.2->a.2=b.2):
  (G=[]/\(iA Na l).1=⟨0,[]⟩/\(iA Na l).2=11)\/(40<G.length/\(iA Na l).1=⟨0,[]⟩/\(iA Na l).2=2)\/(G≠[]/\G.length<=40/\Ss G=l/\(iA Na l).1=⟨Na,(Ss G).map Z'⟩/\(iA Na l).2=0):=by
 have ho:=hG.over qN hl h1 h2;by_cases c:40<G.length
 .refine .inr (.inl ⟨c,?_⟩);have:=ho.1 c;unfold iA;rw[iN oM,iP this];exact⟨rfl,rfl⟩
 have hI:y9 X G:=by
  rcases hG.2 with ⟨_,h⟩|⟨h,_⟩
  .exact h
  omega
 have hs:Ss G=l:=(hI.sorted qN (xD G) (Q0 G) inj).unique qN hl h1 h2;have jJ:=(xD G).length_eq;have hle:¬40<l.length:=fun h=>c (ho.2 h);by_cases c0:G.length=0
 .refine .inl ⟨Ha c0,?_⟩;unfold iA;rw[iP (by rw[<-hs];omega)];exact⟨rfl,rfl⟩
 refine .inr (.inr ⟨fun e=>c0 (by rw[e];rfl),oM,hs,?_⟩);unfold iA;rw[iN (by rw[<-hs];omega),iN hle,hs];exact⟨rfl,rfl⟩
def C7{Na:Int}{X l:List iM}(pE:X.length<=40)(hl:ip qN X l)(inj:∀a∈X,∀b∈X,qN a.2=qN b.2->a.2=b.2):
  (X.foldl Inf.Bb []=[]/\(iA Na l).1=⟨0,[]⟩/\(iA Na l).2=11)\/
   (X.foldl Inf.Bb []≠[]/\∃L:List iM,L.Perm (X.foldl Inf.Bb [])/\(L.Pairwise fun a b=>W9 (qN a.2) (qN b.2)=true)/\(iA Na l).1=⟨Na,L.map Z'⟩/\(iA Na l).2=0):=by
 have hI:=rt X;have yK:=Yk X [];rw[N9,cy]at yK;generalize X.foldl Inf.Bb []=G at*;have sU:∀a∈G,∀b∈G,qN a.2=qN b.2->a.2=b.2:=fun a ha b hb=>inj a (hI.mem a ha) b (hI.mem b hb);rcases BS (Na:=Na) (G:=G) ⟨oM,.inl ⟨oM,hI⟩⟩ hl (Fi.refl X) (Fi.refl X) sU with h|⟨h,_⟩|⟨h1,h2,h3,h4,h5⟩
 .exact .inl h
 .omega
 exact .inr ⟨h1,Ss G,xD G,zP hI.one sU,h4,h5⟩
def jd(Na:Int)(l:List iM):∃(bd:Int)(S:List iM),(iA Na l).1=⟨bd,S.map Z'⟩/\(∀x∈S,x∈l)/\S.length<=40/\((iA Na l).2=0->bd=Na/\S=l/\l≠[]):=by
 unfold iA;split
 .exact⟨0,[],rfl,(fun x hx=>ZY),zL _,fun h=>C3⟩
 split
 .exact⟨0,[],rfl,(fun x hx=>ZY),zL _,fun h=>C3⟩
 rename_i h0 h;exact⟨Na,l,rfl,fun x hx=>hx,oM,fun _=>⟨rfl,rfl,fun e=>h0 (by rw[e];rfl)⟩⟩
open Go.Plant Go.Inf
section
variable{A n:Nat}{y:Ly}{L:List Int}{Na:Int}{hs:List iM}
def al4(hg:Gj A n y)(hL:mK L)(Y7:L.length<=39)(AS:∀h∈hs,Y9 y h.2 L)(jJ:hs.length<=40)(node bag:Int):
  ∃(S:List iM)(bd e:Int)(L':List Int),UB prog J9 32 [] [y.av,(UZ.mk Na (hs.map Z')).av,I node,I bag] [] (.F1 [(UZ.mk bd (S.map Z')).av,I e])/\
   UB prog J9 33 [] [y.av,(UZ.mk Na (hs.map Z')).av,I node,I bag] [] (.F1 [(UZ.mk bd (S.map Z')).av,I e])/\(∀x∈S,Y9 y x.2 L')/\S.length<=40:=by
 have hn:=hg.g.n11;have dW:=hg.g.len;by_cases Ak:node<0\/(y.U.length:Int)<=node\/bag<1\/40<bag
 .exact⟨[],0,1,L,aa1 y _ node bag oM Ak,ac9 y _ node bag oM Ak,(fun x hx=>ZY),zL _⟩
 obtain⟨k,rfl⟩:∃k:Nat,node=k:=⟨node.toNat,oM⟩;by_cases VB:(y.U.getD k default).kd=1
 .have hX:∃L',mK L'/\∀x∈Vg y k bag hs,Y9 y x.2 L':=by
   have hm:∀x∈Vg y k bag hs,Y9 y x.2 (bag::L)/\bag∉L:=fun x hx=>by
    obtain⟨g,wO,hx⟩:=Zz.1 hx;split at hx
    .rename_i c;cases hx
     have c:(pL y g.2 k bag).2=0:=oT c;exact⟨(AS g wO).enter c,anx (AS g wO) hL c⟩
    cases hx
   by_cases hb:bag∈L
   .exact⟨L,hL,fun x hx=>absurd hb (hm x hx).2⟩
   refine⟨bag::L,⟨TV.2 ⟨hb,hL.nd⟩,fun b h=>?_,by simp only[dO];omega⟩,fun x hx=>(hm x hx).1⟩;rcases rX.1 h with rfl|h
   .omega
   exact hL.pos b h
  obtain⟨L',hL',hX⟩:=hX;have Fs:∀h∈hs,(pn y k bag h.2).2=true->Y9 y (pn y k bag h.2).1 L':=fun h hh c=>hX (h.1,(pn y k bag h.2).1) (Zz.2 ⟨h,hh,iP c⟩);have pE:(Vg y k bag hs).length<=40:=Jz (mo _ _) jJ;have hC:=QA hg hL' (Y:=Vg y k bag hs) (ip.nil qN) (fun x hx=>ZY) hX;rw[fj]at hC;have hr:=C7 (Na:=Na) pE hC fun a ha b hb e=>Ys hg hL' (hX a ha) (hX b hb) e;have hkg:wL (pn y k bag) hs=(Vg y k bag hs).foldl Inf.Bb []:=pY y k bag hs [];rw[<-hkg]at hr;have w1:=SJ y Na hs k bag (Gd:=fun q=>Y9 y q L') oM oM oM VB oM (fun h hh=>(AS h hh).fp) Fs (fun q h=>h.dV oM hL') (fun a b ha hb=>ha.inj oM hL' hb) _ _ hr;have w2:=ajt y Na hs k bag (L:=L') oM oM oM VB oM (fun h hh=>(AS h hh).fp) Fs;obtain⟨bd,S,hS1,hS2,hS3,-⟩:=jd Na ((Vg y k bag hs).foldl (pe qN) []);rw[hS1]at w1 w2;exact⟨S,bd,_,L',w1,w2,fun x hx=>hX x (hC.mem x (hS2 x hx)),hS3⟩
 exact⟨[],0,4,L,apf y _ k bag oM oM oM VB,an1 y _ k bag oM oM oM VB,(fun x hx=>ZY),zL _⟩
theorem ac(n:Nat)(bag:Int):∀(hs G:List iM),hs.foldl (MV (O9 n bag)) G=(x6 n bag hs).foldl Inf.Bb G
 |[],_=>rfl|h::t,G=>by
  unfold x6;rw[Xi,ac n bag t,XL];unfold MV x6 O9;by_cases c:kK n bag h.2=true
  .rw[iP c,iP c];rfl
  rw[iN c,iN c]
theorem alS(hg:Gj A n y)(hL:mK L)(AS:∀h∈hs,Y9 y h.2 L)(jJ:hs.length<=40)(zu:Pk qN hs)(node bag:Int):
  ∃(S:List iM)(bd e:Int),UB prog J9 34 [] [y.av,(UZ.mk Na (hs.map Z')).av,I node,I bag] [] (.F1 [(UZ.mk bd (S.map Z')).av,I e])/\
   UB prog J9 35 [] [y.av,(UZ.mk Na (hs.map Z')).av,I node,I bag] [] (.F1 [(UZ.mk bd (S.map Z')).av,I e])/\(∀x∈S,Y9 y x.2 L)/\S.length<=40:=by
 have hn:=hg.g.n11;have dW:=hg.g.len;by_cases Ak:node<0\/(y.U.length:Int)<=node\/bag<1\/40<bag
 .exact⟨[],0,1,abS y _ node bag oM Ak,ajU y _ node bag oM Ak,(fun x hx=>ZY),zL _⟩
 obtain⟨k,rfl⟩:∃k:Nat,node=k:=⟨node.toNat,oM⟩;cases VB:c9 (y.U.getD k default).kd with
 |false=>have vg:∀x∈x6 k bag hs,x∈hs:=fun x hx=>(Yu.1 hx).1;have pE:(x6 k bag hs).length<=40:=Jz (aU _ _) jJ;have hC:ip qN (x6 k bag hs) (x6 k bag hs):=ip.self qN (List.Pairwise.filter _ zu);have hr:=C7 (Na:=Na) pE hC fun a ha b hb e=>Ys hg hL (AS a (vg a ha)) (AS b (vg b hb)) e;have hkg:wL (O9 k bag) hs=(x6 k bag hs).foldl Inf.Bb []:=ac k bag hs [];rw[<-hkg]at hr;have w1:=aq9 y Na hs k bag hg.oq hg.val oM oM oM VB oM AS hL _ _ hr;have w2:=afT y Na hs k bag oM oM oM VB oM fun h hh=>(AS h hh).fp;obtain⟨bd,S,hS1,hS2,hS3,-⟩:=jd Na (x6 k bag hs);rw[hS1]at w1 w2;exact⟨S,bd,_,w1,w2,fun x hx=>AS x (vg x (hS2 x hx)),hS3⟩
 |true=>exact⟨[],0,4,aql y _ k bag hg.oq hg.val oM oM oM VB,ajM y _ k bag oM oM oM VB,(fun x hx=>ZY),zL _⟩
end
open Go.Plant Go.Inf
def Pi(d:Nat)(k w:Int):T3:=⟨k,d,w⟩
def QD(y:Ly)(q:Pl)(pl:List T3)(d:Nat)(r:Uq)(k w:Int):Bool:=SK (Pi d k w)&&(Zb y q (Pi d k w)&&decide (SL (ME y q pl d) (Pi d k w)=r))
def CZ(y:Ly)(q:Pl)(pl:List T3)(d:Nat)(r:Uq):Bool:=(List.range 7).any fun k=>decide (3<=k)&&(List.range 10).any fun w=>QD y q pl d r k w
def Ad{y:Ly}{q:Pl}{pl:List T3}{d:Nat}{r:Uq}:CZ y q pl d r=true↔∃k w:Nat,3<=k/\k<7/\w<10/\QD y q pl d r k w=true:=by
 unfold CZ;rw[X4];constructor
 .rintro⟨k,hk,h⟩;rw[TF,Vd,X4]at h;obtain⟨h3,w,hw,h⟩:=h;exact⟨k,w,h3,BD.1 hk,BD.1 hw,h⟩
 rintro⟨k,w,h1,h2,h3,h4⟩;refine⟨k,BD.2 h2,?_⟩;rw[TF,Vd,X4];exact⟨h1,w,BD.2 h3,h4⟩
def Qn(y:Ly)(q:Pl)(pl:List T3)(d:Nat)(r:Uq):Int×Bool:=if ME y q pl d=r then(0,true) else if CZ y q pl d r=true then(1,true) else(0,false)
def aqo(y:Ly)(q:Pl)(pl:List T3)(r:Uq)(d:Nat)(h:Sj y q)(hd:d<y.D.length)(hr:r.dv=d)(JW:pl.length<=1000)(hb:0<=Od y q d/\Od y q d<=pl.length)(aK:Od y q d≠0->(YR pl (Od y q d)).length=10):
  UB prog J9 177 [] [y.av,q.av,.sl (YA pl) false,r.av] [] (.F1 [I (Qn y q pl d r).1,B (Qn y q pl d r).2]):=by
 have w3:=zZ y q pl d h hd JW hb;have hn:=h.n;have adb:=fun k w=>ij (Pi d k w);have sQ:=fun k w=>QF y q (Pi d k w) d rfl h hd;have MC:(ME y q pl d).rd.length<=1000:=by
  unfold ME;simp only;split
  .rename_i hc;rw[aK hc.1];decide
  exact zL _
 have NY:=fun k w (h1:SK (Pi d k w)=true) (h2:Zb y q (Pi d k w)=true)=>aat (ME y q pl d) (Pi d k w) (fun c3 c4=>by
  unfold Zb at h2;unfold SK at h1;have e:(Pi d k w).b.toNat=d:=Mv d;rw[iN c3,iN c4,e,TF,Vd,Vd]at h2;have hl:(ME y q pl d).rd.length=10:=by unfold ME;simp only;rw[iP h2];exact aK h2.1
  split at h1
  ·rw[TF,Vd,Vd]at h1;omega
  have:=oT h1;omega) MC
 unfold Qn;have htr:∀k w,QD y q pl d r k w=(SK (Pi d k w)&&(Zb y q (Pi d k w)&&decide (SL (ME y q pl d) (Pi d k w)=r))):=fun k w=>rfl;generalize ME y q pl d=g at*;obtain⟨rdv,rsn,rrd⟩:=r;simp only at hr;subst hr;have d0:=Vj ((d:Int)<0);have d1:=Vj ((y.D.length:Int)<=(d:Int));have hq:=bV g ⟨d,rsn,rrd⟩;simp only at hq;refine MD func177 ntmps177 ?_;intro w e X hC;refine zF (uI @d0 @d1) ?_;refine uR ?_;refine R6 w3 ?_;refine Fm @hq ?_ ?_<;>intro c
 .rw[iP c];refine WE ?_;rw[show f177.results.toList=[.tmp 8,.tmp 9] from rfl];exact W5
 rw[iN c];refine EP ?_;refine PV (fun u:Az=>⟨[(4,.p 104 1 0 0 0),(5,.p 105 2 0 0 0),(7,.p 107 3 0 0 0),(10,.p 110 23 0 0 0),(11,I u.2)],(110,some (23,.box [I g.dv,B g.sn,S (strOf g.rd)]))::(107,some (3,.box [I d,B rsn,S (strOf rrd)]))::(105,some (2,.box (GE q)))::(104,some (1,.box (r8 y)))::[],u.1⟩) (fun u=>3<=u.2/\u.2<=7/\∀k w:Nat,3<=k->k<u.2->w<10->QD y q pl d ⟨d,rsn,rrd⟩ k w=false) (fun u=>7-u.2) (_,3) ⟨uO,uO,fun k w h1 h2=>absurd h2 oM⟩ (ch) ?_;rintro⟨ck,k⟩ ⟨N1,hk7,Ov⟩;simp only at N1 hk7 Ov;refine C0 ?_ ?_<;>intro c1
 .refine EP ?_;refine R7 10 (fun u:Az=>⟨[(4,.p 104 1 0 0 0),(5,.p 105 2 0 0 0),(7,.p 107 3 0 0 0),(10,.p 110 23 0 0 0),(11,I k),(12,I u.2)],(110,some (23,.box [I g.dv,B g.sn,S (strOf g.rd)]))::(107,some (3,.box [I d,B rsn,S (strOf rrd)]))::(105,some (2,.box (GE q)))::(104,some (1,.box (r8 y)))::[],u.1⟩) (fun u=>∀w:Nat,w<u.2->QD y q pl d ⟨d,rsn,rrd⟩ k w=false) (fun w h=>absurd h (nZ _)) (ch) ?_;intro ck2 m hm y8;simp only at y8;refine C0 ?_ ?_<;>intro c2
  .have ww:=adb k m;have wp:=sQ k m;have wf:=NY k m;have ht:=htr k m;have CK:=bV (SL g (Pi d k m)) ⟨d,rsn,rrd⟩;unfold Pi at*;simp only at CK;cases e1:SK ⟨k,d,m⟩with
   |false=>
    rw[e1]at ww ht;rw[aS]at ht;refine uZ ?_;refine uE ?_;refine I6 ww ?_;refine UN ?_;refine⟨(_,m+1),⟨uO,fun w hw=>?_⟩,uO,ch⟩;by_cases e:w=m
    .subst e;exact ht
    exact y8 w (by simp only at hw;omega)
   |true=>
    rw[e1]at ww ht;rw[Q2]at ht;cases e2:Zb y q ⟨k,d,m⟩with
    |false=>
     rw[e2]at wp ht;rw[aS]at ht;refine uZ ?_;refine uE ?_;intro K hK;refine Dx ww ?_;refine Dx wp ?_;refine hK _ ?_;clear hK K;refine UN ?_;refine⟨(_,m+1),⟨uO,fun w hw=>?_⟩,uO,ch⟩;by_cases e:w=m
     .subst e;exact ht
     exact y8 w (by simp only at hw;omega)
    |true=>
     have wf:=wf e1 e2;rw[e2]at wp ht;rw[Q2]at ht;generalize SL g ⟨k,d,m⟩=z at*;refine uZ ?_;refine uE ?_;intro K hK;refine Dx ww ?_;refine Dx wp ?_;refine Dx wf ?_;first|refine Z6 @CK ?_|exact an @CK
     refine uH ?_;refine hK _ ?_;clear hK K;refine Wc ?_ ?_<;>intro c3
     .have hta:CZ y q pl d ⟨d,rsn,rrd⟩=true:=Ad.2 ⟨k,m,N1,oM,oM,by rw[ht];exact dT c3⟩;rw[iP hta];refine WE ?_;rw[show f177.results.toList=[.tmp 8,.tmp 9] from rfl];exact W5
     rw[dF c3]at ht;refine uZ ?_;refine⟨(_,m+1),⟨uO,fun w hw=>?_⟩,uO,ch⟩;by_cases e:w=m
     .subst e;exact ht
     exact y8 w (by simp only at hw;omega)
  refine jq ?_;refine⟨(_,k+1),⟨uO,uO,fun k' w h1 h2 h3=>?_⟩,uO,ch⟩;by_cases e:k'=k
  .subst e;exact y8 w oM
  exact Ov k' w h1 (by simp only at h2;omega) h3
 refine El ?_;have hta:¬CZ y q pl d ⟨d,rsn,rrd⟩=true:=fun h=>by obtain⟨k',w',h1,h2,h3,h4⟩:=Ad.1 h;rw[Ov k' w' h1 oM h3]at h4;cases h4
 rw[iN hta];refine WE ?_;rw[show f177.results.toList=[.tmp 8,.tmp 9] from rfl];exact W5
open Go.Plant Go.Inf
theorem RD{v:Vw}{r:Uq}:∀{j:Nat},r∈dI v j->∃k m:Nat,3<=k/\k<3+j/\m<CI v k/\r=yd v k m
 |0,h=>C3|j+1,h=>by
  rw[dI]at h;rcases ym.1 h with h|h
  .obtain⟨k,m,h1,h2,h3⟩:=RD h;exact⟨k,m,h1,oM,h3⟩
  obtain⟨m,hm,rfl⟩:=A2.1 h;refine⟨3+j,m,oM,oM,?_,?_⟩
  .rw[show((3+j:Nat):Int)=3+(j:Int) by omega];exact BD.1 hm
  rw[show((3+j:Nat):Int)=3+(j:Int) by omega]
section
variable{y:Ly}{q:Pl}{pl:List T3}{d:Nat}{r:Uq}
def arB(qn:qt y d=1\/qt y d=2){k m:Nat}(hk:3<=k/\k<7)(hm:m<CI (zY y q pl d) k)(hr:r=yd (zY y q pl d) k m):QD y q pl d r k m=true:=by
 have hl:=ot y q pl d;unfold CI at hm;by_cases YV:Sw (zY y q pl d) k=true
 .rw[iP YV]at hm;unfold Sw at YV;unfold Ez at hm;unfold QD Pi SK Zb SL;simp only[Mv];unfold yd at hr;rw[hl]at hr;rw[hr];have ev:(zY y q pl d).dv=(ME y q pl d).dv:=rfl;by_cases c3:k=3
  .subst c3;rw[iN oM]at hm;have SI:m=0:=by simpa using hm
   subst SI;rw[iP vz]at YV;rw[iN oM,iP vz,iP vz,iP vz];rw[TF,TF];exact⟨dT rfl,YV,dT rfl⟩
  have c3':¬(k:Int)=3:=oM;rw[iN c3']at YV;rw[iN c3',iN c3',iN c3'];by_cases c4:k=4
  .subst c4;rw[iN oM]at hm;have SI:m=0:=by simpa using hm
   subst SI;rw[iP vz]at YV;rw[iN oM,iP vz,iP vz,iP vz];unfold zY at YV;rw[TF,Vd,Vd]at YV;rw[TF,TF,TF];refine⟨dT rfl,⟨?_,?_⟩,dT rfl⟩
   .have:=YV.2;simp only at this;simp[this]
   have:=YV.1;simp only at this;simp[this]
  have c4':¬(k:Int)=4:=oM;rw[iN c4']at YV;rw[iN c4',iN c4',iN c4'];have h56:(k:Int)=5\/(k:Int)=6:=oM;rw[iP h56]at hm;rw[iP h56];unfold zY at YV;simp only at YV;rw[TF,TF,Vd,Vd]at YV;rw[TF,TF,TF,TF,Vd,Vd,Vd,Vd];have h9:(9:Int).toNat=9:=rfl;rw[h9]at hm;have MC:(ME y q pl d).rd=(zY y q pl d).tx:=by unfold ME zY;simp only;rw[iP ⟨YV.1.2,YV.1.1⟩]
  refine⟨⟨oM,oM⟩,⟨YV.1.2,YV.1.1⟩,dT ?_⟩;rw[MC];rfl
 rw[iN YV]at hm;omega
def afb(qn:qt y d=1\/qt y d=2)(hd:d<y.D.length)(aK:Od y q d≠0->(YR pl (Od y q d)).length=10):Qn y q pl d r=zc (zY y q pl d) r:=by
 unfold Qn zc;rw[ot];by_cases c:ME y q pl d=r
 .rw[iP c,iP c.symm]
 rw[iN c,iN (show ¬r=ME y q pl d from fun e=>c e.symm)];have:CZ y q pl d r=true↔r∈dI (zY y q pl d) 4:=by
  rw[Ad];constructor
  .rintro⟨k,w,h1,h2,h3,h4⟩;unfold QD at h4;rw[TF,TF,Vd]at h4;have hg:LQ y q [Pi d k w]:=⟨sM,fun f hf=>by
    rw[iT.1 hf];refine⟨?_,?_,h4.1,h4.2.1⟩<;>unfold Pi<;>simp only <;>omega,zx _ _⟩
   have:=ai4 hg qn (pl:=pl) (iT.2 rfl) rfl aK;rw[h4.2.2]at this;unfold zc at this;rw[ot,iN fun e=>c e.symm]at this;split at this
   .assumption
   cases this
  intro h;obtain⟨k,m,h1,h2,h3,h4⟩:=RD h;have hm:m<10:=by
   unfold CI Ez at h3;split at h3
   .split at h3<;>omega
   omega
  exact⟨k,m,h1,oM,hm,arB qn ⟨h1,oM⟩ h3 h4⟩
 by_cases c2:CZ y q pl d r=true
 .rw[iP c2,iP (this.1 c2)]
 rw[iN c2,iN fun h=>c2 (this.2 h)]
end
def M1(y:Ly)(p:Pl)(pl:List T3):Nat->List Uq->Int->Int×Bool
 |_,[],t=>(t,true)|i,r::l,t=>if(zc (zY y p pl i) r).2=false then(0,false) else M1 y p pl (i+1) l (t+(zc (zY y p pl i) r).1)
def atx{y:Ly}{p:Pl}{pl:List T3}{rs:List Uq}{i:Nat}(h:i<rs.length)(t:Int):M1 y p pl i (rs.drop i) t=
  if(zc (zY y p pl i) (rs.getD i default)).2=false then(0,false) else M1 y p pl (i+1) (rs.drop (i+1)) (t+(zc (zY y p pl i) (rs.getD i default)).1):=by
 rw[Pv h,M1,gE,gG h];rfl
theorem zw{y:Ly}{p:Pl}{pl:List T3}:∀(l:List Uq)(i:Nat)(t:Int),0<=t->(M1 y p pl i l t).2=true->t<=(M1 y p pl i l t).1/\(M1 y p pl i l t).1<=t+l.length
 |[],i,t,h0,h=>⟨MB _,by show t<=_;simp⟩|r::l,i,t,h0,h=>by
  rw[M1]at h ⊢;have hb:=Zn (zY y p pl i) r;by_cases c:(zc (zY y p pl i) r).2=false
  .rw[iP c]at h;cases h
  rw[iN c]at h ⊢;have:=zw l _ _ oM h;rw[dO];omega
theorem IH{y:Ly}{p:Pl}{pl:List T3}{Na:Int}:∀(l:List Uq)(i:Nat)(t:Int),0<=t->t<=Na->Hz y p pl Na i l t=if(M1 y p pl i l t).2=true/\(M1 y p pl i l t).1<=Na then M1 y p pl i l t else(0,false)
 |[],i,t,h0,h=>by rw[Hz,M1,iP ⟨rfl,h⟩]|r::l,i,t,h0,h=>by
  have hb:=Zn (zY y p pl i) r;have hT:=zw (y:=y) (p:=p) (pl:=pl) l (i+1) (t+(zc (zY y p pl i) r).1) oM;rw[Hz,M1];by_cases c:(zc (zY y p pl i) r).2=false
  .rw[iP (.inl c),iP c,iN (fun h=>by cases h.1)]
  rw[iN c];by_cases c2:Na<t+(zc (zY y p pl i) r).1
  .rw[iP (.inr c2),iN fun h=>by have:=hT h.1;omega]
  rw[iN (fun h=>h.elim c c2),IH l _ _ oM oM]
theorem abb{y:Ly}{pl:List T3}{Na us:Int}{rs:List Uq}{stp:List T3->Pl}(hb:0<=Na)(hu:0<=us)(S:List (List T3)):
  GU stp (k_ fun r=>Gf y r pl Na rs) us Na S=GU stp (k_ fun r=>M1 y r pl 0 rs 0) us Na S:=by
 unfold GU;refine rD (fun f=>S.filterMap f) (funext fun X=>?_);unfold k_ Gf;simp only;rw[IH rs 0 0 (MB _) hb];generalize M1 y (stp X) pl 0 rs 0=z;obtain⟨c,ok⟩:=z;cases ok with
 |false=>rfl|true=>
  by_cases h:c<=Na
  .simp[h]
  have h2:¬us+X.length+c<=Na:=oM;simp[h,h2]
open Go.Plant Go.Inf
def amO(y:Ly)(q:Pl)(pl:List T3)(rs:List Uq)(h:Sj y q)(hl:rs.length=y.D.length)(hd:∀i,i<rs.length->(rs.getD i default).dv=(i:Int))(JW:pl.length<=1000)(hb:∀d,d<y.D.length->0<=Od y q d/\Od y q d<=pl.length)(qn:∀d,d<y.D.length->qt y d=1\/qt y d=2)(aK:∀d,d<y.D.length->Od y q d≠0->(YR pl (Od y q d)).length=10):
  UB prog J9 129 [] [y.av,q.av,.sl (YA pl) false,.sl (b7 rs) false] [] (.F1 [I (M1 y q pl 0 rs 0).1,B (M1 y q pl 0 rs 0).2]):=by
 have hn:=h.n;refine MD func129 ntmps129 ?_;intro w e X hC;refine EP ?_;refine PV (fun u:Nat×Nat×Int=>⟨[(2,.sl (YA pl) false),(3,.sl (b7 rs) false),(4,.p 104 1 0 0 0),(5,.p 105 2 0 0 0),(10,I u.2.2),(11,I u.2.1)],(105,some (2,.box (GE q)))::(104,some (1,.box (r8 y)))::[],u.1⟩) (fun u=>u.2.1<=rs.length/\0<=u.2.2/\u.2.2<=u.2.1/\M1 y q pl 0 rs 0=M1 y q pl u.2.1 (rs.drop u.2.1) u.2.2) (fun u=>rs.length-u.2.1) (_,0,0) ⟨zL _,MB _,MB _,rfl⟩ (ch) ?_;rintro⟨ck,i,t⟩ ⟨hi,WP,nh,LF⟩;simp only at hi WP nh LF;refine C0 ?_ ?_<;>intro c
 .have PP:i<rs.length:=oM;have hg:=YN PP;have VV:=atx (y:=y) (p:=q) (pl:=pl) PP t;have wc:=aqo y q pl (rs.getD i default) i h oM (hd i PP) JW (hb i oM) (aK i oM);rw[afb (qn i oM) oM (aK i oM)]at wc;have O5:=Zn (zY y q pl i) (rs.getD i default);generalize zc (zY y q pl i) (rs.getD i default)=cv at*;generalize rs.getD i default=r at*;rw[<-LF]at VV;obtain⟨cn,co⟩:=cv;simp only at*;refine zj @hg ?_;refine R6 wc ?_;cases co with
  |false=>rw[iP rfl]at VV;rw[VV];refine uZ ?_;refine TD ?_;rw[show Tryz.f129.results.toList=[.tmp 8,.tmp 9] from rfl];exact W5|true=>rw[iN sM]at VV;refine uZ ?_;refine UN ?_;refine⟨(_,i+1,t+cn),⟨uO,uO,uO,VV⟩,uO,ch⟩
 refine El ?_;rw[LF,To oM,M1];refine WE ?_;rw[show Tryz.f129.results.toList=[.tmp 8,.tmp 9] from rfl];exact W5
open Go.Plant Go.Inf
def A9(i:Nat):Nat->List Int->List (Int×Int)
 |_,[]=>[]|j,x::t=>if x=0 then A9 i (j+1) t else((i:Int),(j:Int))::A9 i (j+1) t
def Oo:Nat->List (List Int)->List (Int×Int)
 |_,[]=>[]|i,r::t=>A9 i 0 r++Oo (i+1) t
def xr(sl:List (List Int))(i j:Nat):List (Int×Int):=A9 i j ((sl.getD i []).drop j)++Oo (i+1) (sl.drop (i+1))
def c_{sl:List (List Int)}{i j:Nat}(h:j<(sl.getD i []).length):xr sl i j=if(sl.getD i []).getD j 0=0 then xr sl i (j+1) else((i:Int),(j:Int))::xr sl i (j+1):=by
 unfold xr;have e:(sl.getD i []).drop j=(sl.getD i []).getD j 0::(sl.getD i []).drop (j+1):=by rw[Pv h,gE (l:=sl.getD i []),gG h];rfl
 rw[e,A9];split<;>rfl
def aex{sl:List (List Int)}{i j:Nat}(hi:i<sl.length)(h:(sl.getD i []).length<=j):xr sl i j=xr sl (i+1) 0:=by
 unfold xr;rw[To h,A9,fj];by_cases c:i+1<sl.length
 .rw[Pv c,Oo,RH,gE (i:=i+1),gG c];rfl
 have e1:sl.drop (i+1)=[]:=To oM;have e2:sl.drop (i+1+1)=[]:=To oM;have e3:sl.getD (i+1) []=[]:=by rw[gE,Zo oM];rfl
 rw[e1,e2,e3];rfl
def ar8{sl:List (List Int)}{i:Nat}(hi:sl.length<=i)(j:Nat):xr sl i j=[]:=by
 unfold xr;have e1:sl.drop (i+1)=[]:=To oM;have e3:sl.getD i []=[]:=by rw[gE,Zo hi];rfl
 rw[e1,e3,List.drop_nil];rfl
def jmp(i a j k:Nat):Nat:=if i=a then max j k else j
def aqT{sl:List (List Int)}{i a j k:Nat}(hj:j<(sl.getD i []).length)(h:(sl.getD i []).getD j 0=0\/(i=a/\j<k)):xr sl i (jmp i a j k)=xr sl i (jmp i a (j+1) k):=by
 unfold jmp;by_cases c:i=a/\j<k
 .rw[iP c.1,iP c.1,Nat.max_eq_right oM,Nat.max_eq_right oM]
 have h0:(sl.getD i []).getD j 0=0:=h.elim id fun h=>absurd h c;have e1:(if i=a then max j k else j)=j:=by
  split
  .rw[T5 oM]
  rfl
 have e2:(if i=a then max (j+1) k else j+1)=j+1:=by
  split
  .rw[T5 oM]
  rfl
 rw[e1,e2,c_ hj,iP h0]
def ah6{i a j k:Nat}(h:¬(i=a/\j<k)):jmp i a j k=j/\jmp i a (j+1) k=j+1:=by
 unfold jmp;constructor
 .split
  .rw[T5 oM]
  rfl
 split
 .rw[T5 oM]
 rfl
def ao0{sl:List (List Int)}{i a j k:Nat}(ha:a<=i)(hi:i<sl.length)(h:(sl.getD i []).length<=j):xr sl i (jmp i a j k)=xr sl (i+1) (jmp (i+1) a 0 k):=by rw[aex hi (by unfold jmp;split<;>omega)];unfold jmp;rw[iN oM]
def nA(k:Nat)(w:Int×Int):T3:=⟨k,w.1,w.2⟩
theorem VQ{S:List (Int×Int)->List (List T3)}{M:Nat}:∀{ws:List (Int×Int)},(∀r:List (Int×Int),r.length<=ws.length->(S r).length<=M)->(MT nA S ws).length<=2*ws.length*M
 |[],_=>zL _|w::r,h=>by
  have h1:=h r sM;have h2:=VQ (ws:=r) fun t ht=>h t (by rw[dO];omega);rw[MT,aL,aL,E3,E3,dO];have:2*(r.length+1)*M=2*r.length*M+2*M:=by rw[Nat.mul_add,Dl]
  omega
def EZ{n:Nat}{ws:List (Int×Int)}(hn:n<=2)(h:ws.length<=6000):(F9 nA n ws).length<=200000000:=by
 have h0:∀ws:List (Int×Int),(F9 nA 0 ws).length<=1:=fun ws=>lR _;have h1:∀ws:List (Int×Int),ws.length<=6000->(F9 nA 1 ws).length<=12001:=fun ws hw=>by have:=VQ (S:=F9 nA 0) (M:=1) (ws:=ws) fun r _=>h0 r;rw[F9,dO];omega
 rcases(by omega:n=0\/n=1\/n=2)with rfl|rfl|rfl
 .have:=h0 ws;omega
 .have:=h1 ws h;omega
 have:=VQ (S:=F9 nA 1) (M:=12001) (ws:=ws) fun r hr=>h1 r oM;rw[F9,dO];omega
def apw{n:Nat}{ws:List (Int×Int)}(hn:n<=2):∀X∈F9 nA n ws,X.length<=2:=fun X hX=>by obtain⟨l,rfl,h1,h2,h3⟩:=(HF (mk:=nA)).1 hX;rw[E3];omega
theorem V5(i:Nat):∀(j:Nat)(l:List Int),(A9 i j l).length<=l.length
 |_,[]=>lR _|j,x::t=>by have:=V5 i (j+1) t;rw[A9];split<;>simp only[dO]<;>omega
theorem fM{M:Nat}:∀(i:Nat)(sl:List (List Int)),(∀r∈sl,r.length<=M)->(Oo i sl).length<=sl.length*M
 |_,[],_=>zL _|i,r::t,h=>by have h1:=V5 i 0 r;have h2:=fM (i+1) t fun x hx=>h x (mC _ hx);have h3:=h r mS;rw[Oo,aL,dO,Dl];omega
def uq{sl:List (List Int)}(h1:sl.length<=11)(h2:∀r∈sl,r.length<=500)(i j:Nat):(xr sl i j).length<=6000:=by
 have h3:=V5 i j ((sl.getD i []).drop j);have h4:=fM (i+1) (sl.drop (i+1)) fun r hr=>h2 r (DS hr);have h5:(sl.getD i []).length<=500:=by
  by_cases c:i<sl.length
  .exact h2 _ (Ug c [])
  rw[gE,Zo oM];exact zL _
 unfold xr;rw[DT]at h3 h4;rw[aL];omega
def Ve(l:List (List T3)):List AV:=l.map fun r=>if r=[] then .sl [] true else .Rc 95 3 (YA r)
def TZ(l:List (List T3)):List AV:=l.map fun r=>.sl (YA r) false
theorem ap7{l:List (List T3)}:(Ve l).length=l.length:=by simp[Ve]
theorem amq{l:List (List T3)}:(TZ l).length=l.length:=by simp[TZ]
def zv{l:List (List T3)}{i:Nat}(h:i<l.length):(TZ l).getD i .bad=.sl (YA (l.getD i [])) false:=by simp[TZ,h]
def ajX{l:List (List T3)}{f:T3}{r:List T3}:Ve l++[.Rc 95 3 (YA (f::r))]=Ve (l++[f::r]):=by simp[Ve]
theorem BH:[AV.sl [] true]=Ve [[]]:=rfl
def auA(l:List (List T3)):PE (TZ l)=True:=by refine Ie fun e he c hc=>?_;simp only[TZ,A2]at he;obtain⟨x,_,rfl⟩:=he;simp only[AV.cells,iT]at hc;subst hc;rfl
def adG{l:List (List T3)}{f:AV->AV}{g:List T3->AV}(h0:f (.sl [] true)=g [])(h:∀r,r≠[]->f (.Rc 95 3 (YA r))=g r):(Ve l).map (cK f)=l.map g:=by
 simp only[Ve,R8];refine zT fun x _=>?_;show cK f (if x=[] then _ else _)=g x;split
 .rename_i e;rw[e];exact h0
 rename_i e;exact h x e
def amM{l:List (List T3)}{f:AV->Prop}(h0:f (.sl [] true))(h:∀r,f (.Rc 95 3 (YA r))):(∀e∈Ve l,∀c∈e.cells,f c)=True:=by
 refine Ie fun e he c hc=>?_;obtain⟨x,_,rfl⟩:=A2.1 he;split at hc
 .simp only[AV.cells,iT]at hc;subst hc;exact h0
 simp only[AV.cells,iT]at hc;subst hc;exact h x
section
variable{l:List (List T3)}
theorem agK(n:Nat)(hp:Hp):(Ve l).map (cK (fz n hp))=TZ l:=adG fV fun r _=>fV
theorem am0(n:Nat)(hp:Hp):(∀e∈Ve l,∀c∈e.cells,Xa n hp c)=True:=amM (by cases n<;>trivial) fun r=>by cases n<;>trivial
end
attribute [go_sem] ap7 amq agK am0
open Go.Plant Go.Inf
theorem U6{α:Type}{lt:α->α->Prop}(yi:∀a,¬lt a a)(htr:∀a b c,lt a b->lt b c->lt a c):∀{l m:List α},l.Pairwise lt->m.Pairwise lt->(∀a∈l,a∈m)->l.Sublist m
 |[],m,_,_,_=>VX m|a::l,[],_,_,h=>absurd (h a mS) sM|a::l,b::m,h1,h2,h=>by
  obtain⟨p1,p2⟩:=xL.1 h1;obtain⟨q1,q2⟩:=xL.1 h2;rcases rX.1 (h a mS)with rfl|ha
  .refine(U6 yi htr p2 q2 fun x hx=>?_).cons_cons a;rcases rX.1 (h x (mC _ hx))with rfl|hx2
   .exact absurd (p1 _ hx) (yi _)
   exact hx2
  refine(U6 yi htr h1 q2 fun x hx=>?_).cons b;rcases rX.1 (h x hx)with rfl|hx2
  .have h3:=q1 a ha;rcases rX.1 hx with rfl|hx
   .exact absurd h3 (yi _)
   exact absurd (htr _ _ _ h3 (p1 _ hx)) (yi _)
  exact hx2
def XY(a b:Int×Int):Prop:=a.1<b.1\/(a.1=b.1/\a.2<b.2)
def n9(a b:Int×Int):Prop:=a.1<b.1\/(a.1=b.1/\a.2<=b.2)
def aiF(a:Int×Int):¬XY a a:=by unfold XY;omega
def ap2(a b c:Int×Int):XY a b->XY b c->XY a c:=by unfold XY;omega
theorem HI{i:Nat}{w:Int×Int}:∀{j:Nat}{l:List Int},w∈A9 i j l↔∃k:Nat,k<l.length/\l.getD k 0≠0/\w=((i:Int),((j+k:Nat):Int))
 |j,[]=>⟨fun h=>C3,fun⟨k,h,_⟩=>absurd h (nZ _)⟩|j,x::t=>by
  have ih:=HI (i:=i) (w:=w) (j:=j+1) (l:=t);have e:w∈A9 i j (x::t)↔(x≠0/\w=((i:Int),(j:Int)))\/w∈A9 i (j+1) t:=by
   rw[A9];split
   .rename_i h;exact⟨.inr,fun h1=>h1.elim (fun h2=>absurd h h2.1) id⟩
   rename_i h;rw[rX];exact⟨fun h1=>h1.elim (fun h2=>.inl ⟨h,h2⟩) .inr,fun h1=>h1.elim (fun h2=>.inl h2.2) .inr⟩
  rw[e,ih];constructor
  .rintro(⟨h1,h2⟩|⟨k,h1,h2,h3⟩)
   .exact⟨0,sM,h1,h2⟩
   exact⟨k+1,Cd,h2,by rw[h3,show j+(k+1)=j+1+k by omega]⟩
  rintro⟨k,h1,h2,h3⟩;cases k with
  |zero=>exact .inl ⟨h2,h3⟩|succ k=>exact .inr ⟨k,Cd,h2,by rw[h3,show j+(k+1)=j+1+k by omega]⟩
theorem WQ(i:Nat):∀(j:Nat)(l:List Int),(A9 i j l).Pairwise XY
 |_,[]=>.nil|j,x::t=>by
  have ih:=WQ i (j+1) t;rw[A9];split
  .exact ih
  refine xL.2 ⟨fun w hw=>?_,ih⟩;obtain⟨k,_,_,rfl⟩:=HI.1 hw;exact .inr ⟨rfl,by show(j:Int)<((j+1+k:Nat):Int);omega⟩
theorem mU{w:Int×Int}:∀{i:Nat}{sl:List (List Int)},w∈Oo i sl↔∃m k:Nat,m<sl.length/\k<(sl.getD m []).length/\(sl.getD m []).getD k 0≠0/\w=(((i+m:Nat):Int),(k:Int))
 |i,[]=>⟨fun h=>C3,fun⟨m,k,h,_⟩=>absurd h (nZ _)⟩|i,r::t=>by
  rw[Oo,ym,HI,mU (i:=i+1)];constructor
  .rintro(⟨k,h1,h2,h3⟩|⟨m,k,h1,h2,h3,h4⟩)
   .exact⟨0,k,sM,h1,h2,by rw[h3];simp⟩
   exact⟨m+1,k,Cd,h2,h3,by rw[h4,show i+(m+1)=i+1+m by omega]⟩
  rintro⟨m,k,h1,h2,h3,h4⟩;cases m with
  |zero=>exact .inl ⟨k,h2,h3,by rw[h4];simp⟩|succ m=>exact .inr ⟨m,k,Cd,h2,h3,by rw[h4,show i+(m+1)=i+1+m by omega]⟩
theorem PS:∀(i:Nat)(sl:List (List Int)),(Oo i sl).Pairwise XY
 |_,[]=>.nil|i,r::t=>by rw[Oo,iL];refine⟨WQ i 0 r,PS (i+1) t,fun a ha b hb=>.inl ?_⟩;obtain⟨_,_,_,rfl⟩:=HI.1 ha;obtain⟨m,_,_,_,_,rfl⟩:=mU.1 hb;show(i:Int)<((i+1+m:Nat):Int);omega
theorem Sv(sl:List (List Int)):xr sl 0 0=Oo 0 sl:=by
 cases sl with
 |nil=>rfl|cons r t=>unfold xr;rw[Oo];rfl
def aoJ{cs:List Int}{m:Nat}{s:List Int}{k:Nat}(hk:k<s.length):(Js cs m s k).Pairwise fun f g=>n9 (KY f) (KY g):=
 (bO cs m s k).imp_of_mem fun {f g} hf hg _=>by obtain⟨_,h1,h2,_⟩:=Yo hk hf;obtain⟨_,h3,h4,_⟩:=Yo hk hg;unfold n9 KY;simp only;omega
theorem QZ{cs:List Int}{m:Nat}{s:List Int}:∀{K:Nat},K<=s.length->(Hf cs m s K).Pairwise fun f g=>n9 (KY f) (KY g)
 |0,_=>.nil|K+1,hK=>by rw[Hf,iL];refine⟨QZ oM,aoJ oM,fun f hf g hg=>?_⟩;obtain⟨k,h1,h2,h3⟩:=(nT oM).1 hf;obtain⟨_,h4,_,_⟩:=Yo oM h3;obtain⟨_,h5,h6,_⟩:=Yo oM hg;unfold n9 KY;simp only;omega
theorem Y1(cs:List Int)(ss:List (List Int)):∀N,(YT cs ss N).Pairwise fun f g=>n9 (KY f) (KY g)
 |0=>.nil|N+1=>by rw[YT,iL];refine⟨Y1 cs ss N,QZ (lR _),fun f hf g hg=>?_⟩;obtain⟨m,k,h1,_,h2,h3,_⟩:=oc.1 hf;obtain⟨k',h4,h5,h6⟩:=(nT (lR _)).1 hg;obtain⟨_,h7,_,_⟩:=Yo h4 h6;unfold n9 KY;simp only;omega
def atj{cs:List Int}{p:Pl}{Y:List T3}(hY:Y.Sublist (eC cs p))(hp:Y.Pairwise fun a b=>KY a≠KY b):(Y.map KY).Sublist (xr p.Q 0 0):=by
 rw[Sv];refine U6 aiF ap2 ?_ (PS 0 _) fun w hw=>?_
 .rw[yp];refine(((Y1 cs p.Q p.Q.length).sublist hY).and hp).imp fun {a b} h=>?_;obtain⟨h1,h2⟩:=h;rcases h1 with h1|⟨h1,h3⟩
  .exact .inl h1
  refine .inr ⟨h1,?_⟩;have:(KY a).2≠(KY b).2:=fun e=>h2 (Prod.ext h1 e);omega
 obtain⟨f,hf,rfl⟩:=A2.1 hw;obtain⟨m,k,h1,h2,h3,h4,h5⟩:=oc.1 (hY.subset hf);obtain⟨_,_,_,h6⟩:=Yo h2 h5;exact mU.2 ⟨m,k,h1,h2,h6,by unfold KY;rw[h3,h4,cy]⟩
def fN{y:Ly}{p:Pl}(hf:Zc y.U p){n:Nat}{X:List T3}(hX:X∈F9 nA n (xr p.Q 0 0)):cO y.U X/\X.length<=n:=by
 obtain⟨l,rfl,h1,h2,h3⟩:=(HF (mk:=nA)).1 hX;rw[Sv]at h1;have hs:=hf.sl;refine⟨⟨fun f hfm=>?_,?_⟩,H0⟩
 .obtain⟨x,hx,rfl⟩:=A2.1 hfm;obtain⟨m,k,q1,q2,q3,q4⟩:=mU.1 (h1.subset (A2.2 ⟨x,hx,rfl⟩));have h4:=h3 x hx;have hr:=hf.row m oM;obtain⟨xk,xw⟩:=x;simp only at q4 h4;subst q4;unfold nA;simp only[cy,Mv];omega
 rw[yp];refine(yp.1 ((PS 0 p.Q).sublist h1)).imp fun {a b} h e=>?_;unfold nA at e;simp only at e;unfold XY at h;omega
section
variable{A n:Nat}{y:Ly}{L:List Int}{p:Pl}{cs:List Int}{Na us:Int}
def g9(hg:Gj A n y)(hi:Y9 y p L)(hc:cs.length=n)(hk:∀i,i<n->jo (y.U.getD i default) (cs.getD i 0)=true){N:Nat}(hN:N<=2)(cost:Pl->Option Int):
  Fi (GU (fun X=>(ja y p cs X).1) cost us Na (F9 nA N (xr p.Q 0 0))) (GU (fun X=>(ja y p cs X).1) cost us Na ([]::ext KY N (eC cs p) []))/\
   Fi (GU (fun X=>(ja y p cs X).1) cost us Na ([]::ext KY N (eC cs p) [])) (GU (fun X=>(ja y p cs X).1) cost us Na (F9 nA N (xr p.Q 0 0))):=by
 have ju:=fun X=>DU (MK:=KY) (k:=N) (others:=eC cs p) (X:=X);unfold il at ju;constructor
 .refine aaI fun X hX=>?_;obtain⟨h1,h2⟩:=fN hi.fp hX;have TB:=hg.g.sx hi hc hk h1 oM;have kF:=Mn (cs:=cs) (p:=p) (X:=X);have jG:=WI (cs:=cs) (p:=p) h1 oM;exact⟨rB cs p X,(ju _).2 ⟨pw,oM,jG.2.1⟩,by rw[wU TB hi h1],kF⟩
 refine aaI fun Y hY=>?_;obtain⟨h1,h2,h3⟩:=(ju _).1 hY;have ha:∀f∈Y,f.a=1\/f.a=2:=fun f hf=>by obtain⟨m,k,_,q2,_,_,q5⟩:=oc.1 (h1.subset hf);exact(Yo q2 q5).1
 refine⟨Y,(HF (mk:=nA)).2 ⟨Y.map fun f=>(f.a.toNat,KY f),?_,?_,H0,fun x hx=>?_⟩,rfl,lR _⟩
 .rw[R8];have:Y.map ((fun x:Nat×(Int×Int)=>nA x.1 x.2)∘fun f=>(f.a.toNat,KY f))=Y.map id:=zT fun f hf=>by have:=ha f hf;obtain⟨fa,fb,fc⟩:=f;simp only at this;show(⟨(fa.toNat:Int),fb,fc⟩:T3)=⟨fa,fb,fc⟩;rw[ua oM]
  rw[this,List.map_id]
 .rw[R8];exact atj h1 h3
 obtain⟨f,hf,rfl⟩:=A2.1 hx;have:=ha f hf;simp only;omega
end
open Go.Plant Go.Inf
def Ii(stp:Pl->List T3->Pl)(cst:Pl->Int×Bool)(Na:Int)(hs:List iM):List iM:=hs.flatMap fun h=>GU (stp h.2) (k_ cst) h.1 Na (F9 nA (Na-h.1).toNat (xr h.2.Q 0 0))
def aaW{stp:List T3->Pl}{cost:Pl->Option Int}{us Na:Int}{S:List (List T3)}{k:Nat}(h:k<S.length):GU stp cost us Na (S.take (k+1))=GU stp cost us Na (S.take k)++GU stp cost us Na [S.getD k []]:=by unfold GU;rw[Pq h [],xj]
def ai0{stp:List T3->Pl}{cst:Pl->Int×Bool}{us Na:Int}{X:List T3}:GU stp (k_ cst) us Na [X]=if(cst (stp X)).2=true/\us+X.length+(cst (stp X)).1<=Na then[(us+X.length+(cst (stp X)).1,stp X)] else[]:=by
 unfold GU k_;rw[Bf,List.filterMap_nil];by_cases c:(cst (stp X)).2=true
 .by_cases d:us+X.length+(cst (stp X)).1<=Na
  .simp[c,d]
  simp[c,d]
 simp[c]
def aav{stp:List T3->Pl}{cost:Pl->Option Int}{us Na:Int}(S:List (List T3)):(GU stp cost us Na S).length<=S.length:=mo _ _
def aok{stp:Pl->List T3->Pl}{cst:Pl->Int×Bool}{Na:Int}{hs:List iM}{i:Nat}(h:i<hs.length):Ii stp cst Na (hs.take (i+1))=Ii stp cst Na (hs.take i)++GU (stp (hs.getD i hZ).2) (k_ cst) (hs.getD i hZ).1 Na (F9 nA (Na-(hs.getD i hZ).1).toNat (xr (hs.getD i hZ).2.Q 0 0)):=by unfold Ii;rw[Pq h hZ,List.flatMap_append,kA,List.flatMap_nil,MP]
theorem Md{stp:Pl->List T3->Pl}{cst:Pl->Int×Bool}{Na:Int}{M:Nat}:∀{hs:List iM},(∀h∈hs,(F9 nA (Na-h.1).toNat (xr h.2.Q 0 0)).length<=M)->(Ii stp cst Na hs).length<=hs.length*M
 |[],_=>zL _|h::t,hM=>by have h1:=hM h mS;have h2:=Md (stp:=stp) (cst:=cst) (hs:=t) fun x hx=>hM x (mC _ hx);have h3:=aav (stp:=stp h.2) (cost:=k_ cst) (us:=h.1) (Na:=Na) (F9 nA (Na-h.1).toNat (xr h.2.Q 0 0));unfold Ii at h2 ⊢;rw[kA,aL,dO,Dl];omega
structure SB(Na:Int)(y:Ly)(L:List Int)(hs:List iM):Prop where
 all:∀h∈hs,Y9 y h.2 L
 us:∀h∈hs,0<=h.1/\h.1<=Na
 Wh:Pk qN hs
 len:hs.length<=40
 ne:hs≠[]
def CB.sb{Na:Int}{y:Ly}{L:List Int}{hs:List iM}{p:Pl}{u:Int}(h:CB Na y L hs p u):SB Na y L hs:=
 ⟨h.all,h.us,h.Wh,h.len,fun e=>by
  obtain⟨v,_,hm⟩:=h.mem;rw[e]at hm;cases hm⟩
section
variable{A n:Nat}{y:Ly}{L:List Int}{Na:Int}{hs:List iM}{cs:List Int}{cst:Pl->Int×Bool}
def xX(hg:Gj A n y)(hL:mK L)(hb:Na<=2)(h:SB Na y L hs)(hc:cs.length=n)(hk:∀i,i<n->jo (y.U.getD i default) (cs.getD i 0)=true)(Kc:∀q,0<=(cst q).1):
  ∀x∈Ii (fun r X=>(ja y r cs X).1) cst Na hs,Y9 y x.2 L/\0<=x.1/\x.1<=Na:=fun x hx=>by
 obtain⟨g,wO,hx⟩:=CJ.1 hx;obtain⟨X,hX,c,h1,h2,rfl⟩:=CD.1 hx;have hu:=h.us g wO;have ZH:=h.all g wO;obtain⟨h3,h4⟩:=fN ZH.fp hX;have hq:=Kc (ja y g.2 cs X).1;unfold k_ at h1;split at h1
 .cases h1
  exact⟨Rg (hg.g.sx ZH hc hk h3 oM) ZH hL,uO,h2⟩
 cases h1
def atz(hg:Gj A n y)(hb:Na<=2)(h:SB Na y L hs)(hc:cs.length=n)(hk:∀i,i<n->jo (y.U.getD i default) (cs.getD i 0)=true):
  Fi (CN (fun r X=>(ja y r cs X).1) cst Na cs hs) (Ii (fun r X=>(ja y r cs X).1) cst Na hs)/\Fi (Ii (fun r X=>(ja y r cs X).1) cst Na hs) (CN (fun r X=>(ja y r cs X).1) cst Na cs hs):=
 ⟨Fi.flatMap fun g wO=>(g9 hg (h.all g wO) hc hk (by have:=h.us g wO;omega) _).2,Fi.flatMap fun g wO=>(g9 hg (h.all g wO) hc hk (by have:=h.us g wO;omega) _).1⟩
def B5(hg:Gj A n y)(hL:mK L)(hb:Na<=2)(h:SB Na y L hs)(hc:cs.length=n)(hk:∀i,i<n->jo (y.U.getD i default) (cs.getD i 0)=true)(Kc:∀q,0<=(cst q).1):
  ip qN (Ii (fun r X=>(ja y r cs X).1) cst Na hs) ((Ii (fun r X=>(ja y r cs X).1) cst Na hs).foldl (pe qN) []):=by
 have:=QA hg hL (Y:=Ii (fun r X=>(ja y r cs X).1) cst Na hs) (ip.nil qN) (fun x hx=>ZY) fun x hx=>(xX hg hL hb h hc hk Kc x hx).1
 rwa[fj]at this
def step_end(hg:Gj A n y)(hL:mK L)(hb:Na<=2)(h:SB Na y L hs)(hc:cs.length=n)(hk:∀i,i<n->jo (y.U.getD i default) (cs.getD i 0)=true)(Kc:∀q,0<=(cst q).1)(l:List iM)(hl:(Ii (fun r X=>(ja y r cs X).1) cst Na hs).foldl (pe qN) []=l)(G:List iM)(hG:zz (fun r X=>(ja y r cs X).1) cst Na cs hs=G):
  (G=[]/\(iA Na l).1=⟨0,[]⟩/\(iA Na l).2=11)\/(40<G.length/\(iA Na l).1=⟨0,[]⟩/\(iA Na l).2=2)\/(G≠[]/\G.length<=40/\Ss G=l/\(iA Na l).1=⟨Na,(Ss G).map Z'⟩/\(iA Na l).2=0):=by
 have hC:=B5 hg hL hb h hc hk Kc;obtain⟨h1,h2⟩:=atz (cst:=cst) hg hb h hc hk;rw[hl]at hC;have dD:=vM.foldl (Y:=CN (fun r X=>(ja y r cs X).1) cst Na cs hs) (vM.nil (P:=Pl) 40);rw[fj,<-Hs,hG]at dD;have Fs:∀x∈G,Y9 y x.2 L:=fun x hx=>by
  have hm:∃z∈CN (fun r X=>(ja y r cs X).1) cst Na cs hs,z.2=x.2:=by
   rcases dD.2 with ⟨_,h1⟩|⟨_,_,h1⟩
   .exact⟨x,h1.mem x hx,rfl⟩
   exact h1 x hx
  obtain⟨z,hz,Pg⟩:=hm;obtain⟨r,hr,KV,_⟩:=h1 z hz;rw[<-Pg,<-KV];exact(xX hg hL hb h hc hk Kc r hr).1
 exact BS dD hC h1 h2 fun a ha b hb e=>Ys hg hL (Fs a ha) (Fs b hb) e
def pR(hg:Gj A n y)(hL:mK L)(hb:Na<=2)(h:SB Na y L hs)(hc:cs.length=n)(hk:∀i,i<n->jo (y.U.getD i default) (cs.getD i 0)=true)(Kc:∀q,0<=(cst q).1)(l:List iM)(hl:(Ii (fun r X=>(ja y r cs X).1) cst Na hs).foldl (pe qN) []=l):
  ∃(S:List iM)(bd:Int),(iA Na l).1=⟨bd,S.map Z'⟩/\(∀x∈S,Y9 y x.2 L)/\S.length<=40/\((iA Na l).2=0->bd=Na/\SB Na y L S):=by
 have hC:=B5 hg hL hb h hc hk Kc;rw[hl]at hC;have hm:=fun x hx=>xX hg hL hb h hc hk Kc x (hC.mem x hx);obtain⟨bd,S,h1,h2,h3,h4⟩:=jd Na l;refine⟨S,bd,h1,fun x hx=>(hm x (h2 x hx)).1,h3,fun h0=>?_⟩;obtain⟨rfl,rfl,h5⟩:=h4 h0;exact⟨rfl,fun x hx=>(hm x hx).1,fun x hx=>(hm x hx).2,hC.Wh,h3,h5⟩
end
def akv{y:Ly}{pl:List T3}{Na:Int}{rs:List Uq}{hs:List iM}{stp:Pl->List T3->Pl}(hb:0<=Na)(hu:∀h∈hs,0<=h.1):
  Ii stp (fun r=>Gf y r pl Na rs) Na hs=Ii stp (fun r=>M1 y r pl 0 rs 0) Na hs:=by
 unfold Ii;rw[List.flatMap_def,List.flatMap_def];refine rD List.flatten (zT fun h hh=>?_);exact abb hb (hu h hh) _
open Go.Plant Go.Inf
theorem V9(y:Ly)(p:Pl)(hf:Zc y.U p)(hny:y.U.length<=11):∀n:Nat,n<=2->∀a k:Nat,a<=y.U.length->k<=1000->UB prog J9 128 [] [y.av,p.av,I n,I a,I k] [] (.sl (TZ (F9 nA n (xr p.Q a k))) false)
 |0,_,a,k,ha,hk=>by have d0:decide (((0:Nat):Int)<=0)=true:=rfl;refine MD func128 ntmps128 ?_;intro w e X hC;refine aH @d0 ?_;exact Ed|n+1,hn,a,k,ha,hk=>by
  have ih:=V9 y p hf hny n oM;have jJ:=hf.sl;have gk:∀i,i<y.U.length->(p.Q.getD i []).length=(y.U.getD i default).ln.toNat:=hf.row;have fo:=hf.ln;have hM:∀r∈p.Q,r.length<=500:=fun r hr=>by obtain⟨i,hi,rfl⟩:=uV (d:=[]) hr;have h1:=gk i oM;have h2:=fo i oM;omega
  have hR:∀i j,(F9 nA n (xr p.Q i j)).length<=200000000:=fun i j=>EZ oM (uq oM hM i j);have hE:∀i j,∀X∈F9 nA n (xr p.Q i j),X.length<=2:=fun i j=>apw oM;have Ny:=EZ (n:=n+1) hn (uq oM hM a k);have hTe:F9 nA (n+1) (xr p.Q a k)=[]::MT nA (F9 nA n) (xr p.Q a k):=by rw[F9]
  generalize F9 nA (n+1) (xr p.Q a k)=T at*;have d0:=Vj (((n+1:Nat):Int)<=0);have Qa:xr p.Q a k=xr p.Q a (jmp a a 0 k):=by unfold jmp;rw[iP rfl,Nat.zero_max]
  rw[Qa]at hTe;refine MD func128 ntmps128 ?_;intro w e X hC;refine NL @d0 ?_;refine EP ?_;refine PV (fun q:Nat×Nat×List (List T3)=>⟨[(2,I (n+1:Nat)),(3,I a),(4,I k),(5,.p 105 1 0 0 0),(6,.p 106 2 0 0 0),(11,.l 117 4 0 q.2.2.length),(12,I q.2.1)],(117,some (4,.own 46 1 (Ve q.2.2)))::(106,some (2,.box (GE p)))::(105,some (1,.box (r8 y)))::[],q.1⟩)
   (fun q=>a<=q.2.1/\q.2.1<=y.U.length/\T=q.2.2++MT nA (F9 nA n) (xr p.Q q.2.1 (jmp q.2.1 a 0 k))) (fun q=>y.U.length-q.2.1) (_,a,[[]]) ⟨lR _,ha,hTe⟩ (wK @BH @BH) ?_
  rintro⟨ck,i,O⟩ ⟨Co,hi,hT⟩;simp only at Co hi hT;refine C0 ?_ ?_<;>intro c
  .have PP:i<y.U.length:=oM;have Hk:=gk i PP;have NI:=fo i PP;have g1:=bp PP;have g2:=au (show i<p.Q.length by omega);have JL:=fun j=>ao0 (sl:=p.Q) (a:=a) (i:=i) (j:=j) (k:=k) Co oM;have Ze:=fun j=>aqT (sl:=p.Q) (a:=a) (i:=i) (j:=j) (k:=k);have UY:=fun j=>c_ (sl:=p.Q) (i:=i) (j:=j);generalize y.U.getD i default=x at*;generalize p.Q.getD i []=row at*;refine EP ?_;refine PV (fun q:Nat×Nat×List (List T3)=>⟨[(2,I (n+1:Nat)),(3,I a),(4,I k),(5,.p 105 1 0 0 0),(6,.p 106 2 0 0 0),(11,.l 117 4 0 q.2.2.length),(12,I i),(13,I q.2.1)],(117,some (4,.own 46 1 (Ve q.2.2)))::(106,some (2,.box (GE p)))::(105,some (1,.box (r8 y)))::[],q.1⟩)
    (fun q=>q.2.1<=row.length/\T=q.2.2++MT nA (F9 nA n) (xr p.Q i (jmp i a q.2.1 k))) (fun q=>row.length-q.2.1) (_,0,O) ⟨zL _,hT⟩ (ch) ?_
   clear hT;rintro⟨ck,j,O⟩ ⟨hj,hT⟩;simp only at hj hT;refine Fm @g1 ?_ ?_<;>intro c2
   .have Se:j<row.length:=oM;have g3:=ma Se;have Ze:=Ze j Se;have UY:=UY j Se;generalize row.getD j 0=v at*;obtain⟨bs,Mp⟩:∃bs:Bool,bs=true↔(v=0\/(i=a/\j<k)):=⟨decide (v=0\/(i=a/\j<k)),t7⟩;refine md ?_;refine GA ?_;refine lK ?_;refine GA ?_;refine GA ?_;refine JP (fun q:Nat=>⟨[(2,I (n+1:Nat)),(3,I a),(4,I k),(5,.p 105 1 0 0 0),(6,.p 106 2 0 0 0),(11,.l 117 4 0 O.length),(12,I i),(13,I j),(57,B bs)],(117,some (4,.own 46 1 (Ve O)))::(106,some (2,.box (GE p)))::(105,some (1,.box (r8 y)))::[],q⟩) (fun _=>True) ?_ ?_
    .by_cases c3:v=0
     .have d3:decide (v=0)=true:=dT c3;rw[Mp.2 (.inl c3)];refine LY (uI @g2 (uI @g3 @d3)) ?_;exact⟨_,trivial,ch⟩
     have d3:decide (v=0)=false:=dF c3;by_cases c4:i=a
     .have d4:=oN ((i:Int)=a);obtain rfl:bs=decide ((j:Int)<k):=by rw[VY,Mp,t7];omega
      refine LY (uI @g2 (uI @g3 (uI @d3 @d4))) ?_;exact⟨_,trivial,ch⟩
     have d4:=Vj ((i:Int)=a);obtain rfl:bs=false:=by rw[Bool.eq_false_iff];intro h;have:=Mp.1 h;omega
     refine LY (uI @g2 (uI @g3 (uI @d3 @d4))) ?_;exact⟨_,trivial,ch⟩
    rintro ck -;cases bs with
    |true=>rw[Ze (Mp.1 rfl)]at hT;refine uT ?_;refine jq ?_;refine⟨(_,j+1,O),⟨uO,hT⟩,uO,ch⟩|false=>
     have h3:¬v=0/\¬(i=a/\j<k):=⟨fun h=>(by have:=Mp.2 (.inl h);cases this),fun h=>(by have:=Mp.2 (.inr h);cases this)⟩;obtain⟨j1,j2⟩:=ah6 h3.2;have Bw:T=O++((F9 nA n (xr p.Q i (j+1))).map (fun t=>nA 1 ((i:Int),(j:Int))::t)++(F9 nA n (xr p.Q i (j+1))).map (fun t=>nA 2 ((i:Int),(j:Int))::t)++MT nA (F9 nA n) (xr p.Q i (jmp i a (j+1) k))):=by rw[hT,j1,UY,iN h3.1,MT,j2]
     clear hT Ze UY JL j1 j2;have hw:=ih i (j+1) hi oM;have hRl:=hR i (j+1);have hRe:=hE i (j+1);generalize F9 nA n (xr p.Q i (j+1))=R at*;generalize hZ:MT nA (F9 nA n) (xr p.Q i (jmp i a (j+1) k))=Z at*;have e1:((n+1:Nat):Int)-1=n:=oM;obtain⟨tl,Ll,tM⟩:∃tl:Nat->List (List T3),T=O++tl 1/\(∀q:Nat,1<=q->q<=2->tl q=R.map (fun t=>nA q ((i:Int),(j:Int))::t)++tl (q+1))/\tl 3=Z:=
      ⟨fun q=>if q=1 then R.map (fun t=>nA 1 ((i:Int),(j:Int))::t)++(R.map (fun t=>nA 2 ((i:Int),(j:Int))::t)++Z) else if q=2 then R.map (fun t=>nA 2 ((i:Int),(j:Int))::t)++Z else Z,
       by rw[Bw,Z5];rfl,fun q h1 h2=>by rcases(by omega:q=1\/q=2)with rfl|rfl<;>rfl,rfl⟩
     obtain⟨tM,UU⟩:=tM;clear Bw;refine uF ?_;refine nF @e1 ?_;refine Yi hw ?_;refine EP ?_;refine PV (fun q:Nat×Nat×List (List T3)=>⟨[(2,I (n+1:Nat)),(3,I a),(4,I k),(5,.p 105 1 0 0 0),(6,.p 106 2 0 0 0),(11,.l 117 4 0 q.2.2.length),(12,I i),(13,I j),(14,.sl (TZ R) false),(15,I q.2.1)],(117,some (4,.own 46 1 (Ve q.2.2)))::(106,some (2,.box (GE p)))::(105,some (1,.box (r8 y)))::[],q.1⟩)
      (fun q=>1<=q.2.1/\q.2.1<=3/\T=q.2.2++tl q.2.1) (fun q=>3-q.2.1) (_,1,O) ⟨lR _,uO,Ll⟩ (ch) ?_
     clear Ll;rintro⟨ck,kd,O⟩ ⟨P',N1,hT⟩;simp only at P' N1 hT;refine C0 ?_ ?_<;>intro c5
     .have tM:=tM kd P' oM;rw[tM]at hT;refine EP ?_;refine PV (fun q:Nat×Nat×List (List T3)=>⟨[(2,I (n+1:Nat)),(3,I a),(4,I k),(5,.p 105 1 0 0 0),(6,.p 106 2 0 0 0),(11,.l 117 4 0 q.2.2.length),(12,I i),(13,I j),(14,.sl (TZ R) false),(15,I kd),(16,I q.2.1)],(117,some (4,.own 46 1 (Ve q.2.2)))::(106,some (2,.box (GE p)))::(105,some (1,.box (r8 y)))::[],q.1⟩)
       (fun q=>q.2.1<=R.length/\T=q.2.2++((R.drop q.2.1).map (fun t=>nA kd ((i:Int),(j:Int))::t)++tl (kd+1))) (fun q=>R.length-q.2.1) (_,0,O) ⟨zL _,hT⟩ (ch) ?_
      clear hT;rintro⟨ck,t,O⟩ ⟨ht,hT⟩;simp only at ht hT;refine C0 ?_ ?_<;>intro c6
      .have lC:t<R.length:=oM;have g4:=zv lC;have pE:=hRe _ (Ug lC []);rw[Pv lC,<-M9 lC (d:=[]),b_,Mb,List.append_cons]at hT;generalize R.getD t []=X at*;have ce:O.length<200000000:=by have:=rD List.length hT;simp only[aL,WC]at this;omega
       refine aH @g4 ?_;have fw:Ve O++[.Rc 95 3 (.agg [I kd,I i,I j]::YA X)]=Ve (O++[nA kd ((i:Int),(j:Int))::X]):=ajX (l:=O) (f:=nA kd ((i:Int),(j:Int))) (r:=X);have F':(O++[nA kd ((i:Int),(j:Int))::X]).length=O.length+1:=aL;refine⟨(_,t+1,O++[nA kd ((i:Int),(j:Int))::X]),⟨uO,hT⟩,uO,wK @fw @F'⟩
      refine El ?_;rw[To oM,FV,fj]at hT;refine uZ ?_;refine⟨(_,kd+1,O),⟨uO,uO,hT⟩,uO,ch⟩
     refine El ?_;obtain rfl:kd=3:=oM;rw[UU,<-hZ]at hT;refine uZ ?_;refine⟨(_,j+1,O),⟨uO,hT⟩,uO,ch⟩
   refine El ?_;have jF:j=row.length:=oM;rw[JL j oM]at hT;refine uZ ?_;refine⟨(_,i+1,O),⟨uO,uO,hT⟩,uO,ch⟩
  refine El ?_;have Wd:i=y.U.length:=oM;rw[ar8 oM,MT,MP]at hT;subst hT;refine OD ?_;try rfl
  exact uX
open Go.Plant Go.Inf
section
variable{A n:Nat}{y:Ly}{L:List Int}{Na:Int}{hs:List iM}{cs:List Int}{cst:Pl->Int×Bool}
def V2(hg:Gj A n y)(hL:mK L)(hb:Na<=2)(h:SB Na y L hs)(hc:cs.length=n)(hk:∀i,i<n->jo (y.U.getD i default) (cs.getD i 0)=true)(pl:List T3)(rs:List Uq)(JW:pl.length<=1000)(s6:rs.length<=1000)(Kc:∀q,0<=(cst q).1/\(cst q).1<=1000)(hco:∀q,Y9 y q L->UB prog J9 129 [] [y.av,q.av,.sl (YA pl) false,.sl (b7 rs) false] [] (.F1 [I (cst q).1,B (cst q).2]))(l:List iM)(hl:(Ii (fun r X=>(ja y r cs X).1) cst Na hs).foldl (pe qN) []=l):
  UB prog J9 74 [] [y.av,(UZ.mk Na (hs.map Z')).av,IS cs,.sl (YA pl) false,.sl (b7 rs) false] [] (.F1 [(iA Na l).1.av,I (iA Na l).2]):=by
 obtain⟨stp,As⟩:∃stp:Pl->List T3->Pl,stp=fun r X=>(ja y r cs X).1:=⟨_,rfl⟩;have hn:=hg.g.n11;have dW:=hg.g.len;have iS:cs.length<=1000:=oM;have hny:y.U.length<=11:=oM;have hMl:∀(x:iM),x∈hs->∀M:Nat,M<=2->(F9 nA M (xr x.2.Q 0 0)).length<=200000000:=fun x hx M hM=>by have hp:=(h.all x hx).fp;refine EZ hM (uq (by rw[hp.sl];omega) (fun r hr=>?_) 0 0);obtain⟨i,hi,rfl⟩:=uV (d:=[]) hr;have h1:=hp.row i (by rw[<-hp.sl];exact hi);have h2:=hp.ln i (by rw[<-hp.sl];exact hi);omega
 have vg:=xX (cst:=cst) hg hL hb h hc hk fun q=>(Kc q).1;have hXt:∀i,∀x∈Ii (fun r X=>(ja y r cs X).1) cst Na (hs.take i),x∈Ii (fun r X=>(ja y r cs X).1) cst Na hs:=fun i x hx=>by obtain⟨g,wO,hx⟩:=CJ.1 hx;exact CJ.2 ⟨g,Cz wO,hx⟩
 have pE:∀i,(Ii (fun r X=>(ja y r cs X).1) cst Na (hs.take i)).length<=40*200000000:=fun i=>by have h1:=Md (stp:=fun r X=>(ja y r cs X).1) (cst:=cst) (Na:=Na) (M:=200000000) (hs:=hs.take i) fun x hx=>hMl x (Cz hx) _ (by have:=h.us x (Cz hx);omega);have h2:=h.len;rw[Hh]at h1;exact Jz h1 (RW _ oM)
 have jJ:=h.len;rw[<-As]at hl vg hXt pE;refine MD func74 ntmps74 ?_;intro w e X hC;refine EP ?_;refine AJ hs.length (fun q:Az=>⟨[(2,IS cs),(3,.sl (YA pl) false),(4,.sl (b7 rs) false),(5,.p 105 1 0 0 0),(6,.p 106 2 0 0 0),(10,.p 110 3 0 0 0),(11,I 0),(12,.p 112 8 0 0 0),(13,I q.2)],(112,some (8,.box [I Na,.sl (wF (((Ii stp cst Na (hs.take q.2)).foldl (pe qN) []).map Z')) false]))::(110,some (3,.box [I 0,.sl [] true]))::(106,some (2,.box [I Na,.sl (wF (hs.map Z')) false]))::(105,some (1,.box (r8 y)))::[],q.1⟩) (ch) ?_;intro ck i hi;refine C0 ?_ ?_<;>intro c
 .have PP:i<hs.length:=oM;have g1:=LA PP;have fw:=aok (stp:=stp) (cst:=cst) (Na:=Na) PP;have hm:=Ug PP hZ;have hpi:=h.all _ hm;have hu:=h.us _ hm;have hM:=hMl _ hm;have hRl:=HM (Ii stp cst Na (hs.take i)) [];have S_:=pE i;rw[N9]at hRl;have rI:=mw (Gd:=fun q=>Y9 y q L) (l:=[]) (fun x hx=>ZY) fun x hx=>(vg x (hXt i x hx)).1;have Nj:((Ii stp cst Na (hs.take (i+1))).foldl (pe qN) [])=(GU (stp (hs.getD i hZ).2) (k_ cst) (hs.getD i hZ).1 Na (F9 nA (Na-(hs.getD i hZ).1).toNat (xr (hs.getD i hZ).2.Q 0 0))).foldl (pe qN) ((Ii stp cst Na (hs.take i)).foldl (pe qN) []):=by rw[fw,WS]
  clear fw;unfold hZ at*;generalize hs.getD i (0,⟨[],[]⟩)=x at*;obtain⟨xu,xp⟩:=x;simp only[Z']at g1 hpi hu hM Nj;obtain⟨N,hN⟩:∃N:Nat,Na-xu=N:=⟨(Na-xu).toNat,oM⟩;have T_:N<=2:=oM;have ws:=V9 y xp hpi.fp hny N T_ 0 0 (zL _) (zL _);rw[hN,Mv]at Nj;have hSf:=fun X=>fN hpi.fp (n:=N) (X:=X);have hSl:=hM N T_;clear hM;generalize F9 nA N (xr xp.Q 0 0)=S at*;generalize (Ii stp cst Na (hs.take i)).foldl (pe qN) []=R0 at*;refine aH @g1 ?_;refine nF @hN ?_;refine Yi ws ?_;refine EP ?_;refine AJ S.length (fun q:Az=>⟨[(2,IS cs),(3,.sl (YA pl) false),(4,.sl (b7 rs) false),(5,.p 105 1 0 0 0),(6,.p 106 2 0 0 0),(10,.p 110 3 0 0 0),(11,I 0),(12,.p 112 8 0 0 0),(13,I i),(14,.p 114 (ck+10) 0 0 0),(15,.sl (TZ S) false),(16,I q.2)],(114,some (ck+10,.box [I xu,RS xp.Q,RS xp.R]))::(112,some (8,.box [I Na,.sl (wF (((GU (stp xp) (k_ cst) xu Na (S.take q.2)).foldl (pe qN) R0).map Z')) false]))::(110,some (3,.box [I 0,.sl [] true]))::(106,some (2,.box [I Na,.sl (wF (hs.map Z')) false]))::(105,some (1,.box (r8 y)))::[],q.1⟩) (ch) ?_;intro cj k BF;have EB:=HM (GU (stp xp) (k_ cst) xu Na (S.take k)) R0;have anT:=aav (stp:=stp xp) (cost:=k_ cst) (us:=xu) (Na:=Na) (S.take k);rw[Hh]at anT;have hAg:=mw (Gd:=fun q=>Y9 y q L) (l:=R0) (X:=GU (stp xp) (k_ cst) xu Na (S.take k)) rI fun x hx=>(show Y9 y x.2 L from by
   obtain⟨X,hX,c,_,_,rfl⟩:=CD.1 hx;obtain⟨h3,h4⟩:=hSf X (Cz hX);show Y9 y (stp xp X) L;rw[As];exact Rg (hg.g.sx hpi hc hk h3 oM) hpi hL)
  refine C0 ?_ ?_<;>intro c2
  .have XR:k<S.length:=oM;have g2:=zv XR;have hX:=hSf _ (Ug XR []);have ha:=aaW (stp:=stp xp) (cost:=k_ cst) (us:=xu) (Na:=Na) XR;rw[ai0]at ha;generalize S.getD k []=X at*;obtain⟨hX,auZ⟩:=hX;have TB:=hg.g.sx hpi hc hk hX oM;have GD:=Ke TB hpi hL hX.dup hg.oq hg.val oM (FO hg.g hc hk hX oM);have Hl:=Rg TB hpi hL;have yl:stp xp X=(ja y xp cs X).1:=by rw[As]
   rw[yl]at ha;clear TB;generalize ja y xp cs X=sy at*;obtain⟨q,mv⟩:=sy;simp only at GD Hl ha;have wc:=hco q Hl;have O5:=Kc q;generalize cst q=cq at*;obtain⟨cn,co⟩:=cq;simp only at wc O5 ha;generalize hA1:(GU (stp xp) (k_ cst) xu Na (S.take k)).foldl (pe qN) R0=A1 at*;have qh:(GU (stp xp) (k_ cst) xu Na (S.take (k+1))).foldl (pe qN) R0=if co=true/\xu+(X.length:Int)+cn<=Na then pe qN A1 (xu+(X.length:Int)+cn,q) else A1:=by rw[ha,WS,hA1];split<;>rfl
   clear ha;refine Dp @g2 ?_;refine Yi GD ?_;refine uR ?_;refine R6 wc ?_;refine mb @g2 ?_;cases co with
   |false=>rw[iN sM]at qh;refine uZ ?_;refine UN ?_;exact nX (_,k+1) (wK @qh @qh)|true=>
    by_cases c3:xu+(X.length:Int)+cn<=Na
    .have d3:=dT c3;rw[iP ⟨rfl,c3⟩]at qh;have wa:=Lh A1 (xu+(X.length:Int)+cn,q) oM hAg Hl hny;simp only[Z']at wa;refine K6 @d3 ?_;refine uR ?_;refine Yi wa ?_;refine uZ ?_;exact nX (_,k+1) (wK @qh @qh)
    have d3:=dF c3;rw[iN fun h=>c3 h.2]at qh;refine zF @d3 ?_;exact nX (_,k+1) (wK @qh @qh)
  refine El ?_;have hke:k=S.length:=oM;subst hke;rw[Sy,<-Nj];refine uZ ?_;exact nX (_,i+1) ch
 refine El ?_;have Wd:i=hs.length:=oM;have hRl:=HM (Ii stp cst Na (hs.take i)) [];have S_:=pE i;subst Wd;rw[N9]at hRl;rw[Sy,hl]at hRl ⊢;rw[Sy]at S_;have wd:=BU Na l oM;generalize iA Na l=z at*;obtain⟨⟨zb,zl⟩,ze⟩:=z;refine VT wd ?_;refine A_ ?_;rw[show f74.results.toList=[.cell 10 33,.tmp 11] from rfl];exact W5
end
open Go.Plant Go.Inf
section
variable{A n:Nat}{y:Ly}{Na:Int}
def asJ(y:Ly)(q:Pl)(pl:List T3):(Ai y q pl).length=y.D.length/\∀i,i<(Ai y q pl).length->((Ai y q pl).getD i default).dv=(i:Int):=by
 have h1:(Ai y q pl).length=y.D.length:=by rw[Ai,lY]
 refine⟨h1,fun i hi=>?_⟩;unfold Ai lq;rw[gE];simp[show i<y.D.length by omega,ME]
def am6(l:List Int)(a:Nat)(hf:M2 l)(hg:Gj A n y)(hb:0<=Na/\Na<=2)(m:Nat)(hm:m<=3)(z:St×Bool)(hz:pV l y Na (oL l a) (a+41) m=z):
  UB prog J9 11 (di l a) [.p 0 0 0 0 0,y.av,I m,I Na] (di l z.1.a) (.F1 [(UZ.mk Na (z.1.hs.map Z')).av,z.1.p.av,B true]):=by
 have dW:=hg.g.len;have hn:=hg.g.n11;have QB:=HP y Na hg.oq hg.val oM oM;have E':=GG y hg.oq (fun _=>oM);rw[hg.val]at E';have jh:=Uw l a hf;have JW:=YK l a;generalize oL l a=pl at*;have L4:=SZ.new hg hb.1 (a+41);have LD:wF [⟨0,(MH y).Q,(MH y).R⟩]=wF ((s0 y (a+41)).hs.map Z'):=rfl;obtain⟨⟨za,zh,zp,zl⟩,zb⟩:=z;simp only;refine MD func11 ntmps11 ?_;intro w e X hC;refine uZ ?_;refine VT QB ?_;refine VT E' ?_;refine uZ ?_;refine uF ?_;refine uR ?_;intro K hK;refine ZI rfl (jh) iO iO iO iO iO ?_;refine Qd ?_;refine hK _ ?_;clear hK K;refine EP ?_;refine PV (fun q:Nat×Nat×St=>⟨[(0,.p 0 0 0 0 0),(2,I m),(5,.p 105 1 0 0 0),(8,.p 108 2 0 0 0),(9,.p 109 3 0 0 0),(11,.p 111 11 0 0 0),(13,.p 113 19 0 0 0),(15,.sl (YA pl) false),(16,I (q.2.1+1:Nat))],(113,some (19,.box (GE q.2.2.p)))::(111,some (11,.box [I Na,.sl (wF (q.2.2.hs.map Z')) false]))::(109,some (3,.box [.sl [] true,.sl [] true]))::(108,some (2,.box [I 0,.sl [] true]))::(105,some (1,.box (r8 y)))::di l q.2.2.a,q.1⟩) (fun q=>q.2.1<=m/\pV l y Na pl (a+41) q.2.1=(q.2.2,false)/\SZ y Na q.2.1 q.2.2) (fun q=>m-q.2.1) (_,0,s0 y (a+41)) ⟨zL _,rfl,L4⟩ (ch) ?_;rintro⟨ck,i,s⟩ ⟨hi,yl,NE⟩;simp only at hi yl NE;refine C0 ?_ ?_<;>intro c
 .have aX:i+1<=m:=oM;have v_:=om l s.a 0 2 hf dM dM dM;have hK:=QU (l:=l) (a:=s.a) (lo:=0) (hi:=2) oM;obtain⟨k,hk⟩:∃k,(gR l s.a 0 2).toNat=k:=⟨_,rfl⟩;rw[show gR l s.a 0 2=(k:Int) by omega]at v_;refine uR ?_;intro K hK;refine ZI rfl (v_) iO iO iO iO iO ?_;refine Qd ?_;refine hK _ ?_;clear hK K;refine EP ?_;refine PV (fun q:Nat×Nat×St=>⟨[(0,.p 0 0 0 0 0),(2,I m),(5,.p 105 1 0 0 0),(8,.p 108 2 0 0 0),(9,.p 109 3 0 0 0),(11,.p 111 11 0 0 0),(13,.p 113 19 0 0 0),(15,.sl (YA pl) false),(16,I (i+1:Nat)),(17,I ((k:Int)-q.2.1))],(113,some (19,.box (GE q.2.2.p)))::(111,some (11,.box [I Na,.sl (wF (q.2.2.hs.map Z')) false]))::(109,some (3,.box [.sl [] true,.sl [] true]))::(108,some (2,.box [I 0,.sl [] true]))::(105,some (1,.box (r8 y)))::di l q.2.2.a,q.1⟩) (fun q=>q.2.1<=k/\ny l y Na pl (⟨s.a+1,s.hs,s.p,s.L⟩,false) q.2.1=(q.2.2,false)/\SZ y Na i q.2.2) (fun q=>k-q.2.1) (_,0,⟨s.a+1,s.hs,s.p,s.L⟩) ⟨zL _,rfl,⟨NE.sf,NE.len,NE.lt,NE.cb⟩⟩ (wH (uI @dL @Int.sub_zero)) ?_;rintro⟨cj,j,t⟩ ⟨hj,sk,nh⟩;simp only at hj sk nh;refine C0 ?_ ?_<;>intro c2
  .have DE:j<k:=oM;have oh:=Xz l t.a y hf oM;obtain⟨iS,tB⟩:=x_ hg.g l t.a;have Bg:=SZ.tick (l:=l) (pl:=pl) hg hb nh;have hinv:=nh.cb.pi;have mf:cO y.U []:=⟨sM,sM⟩;have TB:=hg.g.sx hinv iS tB mf (zL _);have GD:=Ke TB hinv nh.sf rfl hg.oq hg.val (zL _) (FO hg.g iS tB mf (zL _));have Hl:=Rg TB hinv nh.sf;have C4:=hg.W4 Hl;have Ev:=alP y (ja y t.p (gC l t.a y.U).1 []).1 pl C4 oM (fun d hd=>by rw[JW];exact Hl.vf nh.sf C4 hd);have X2:=asJ y (ja y t.p (gC l t.a y.U).1 []).1 pl;have alq:t.hs.length<=1000:=by have:=nh.cb.len;omega
   have Xj:=Iq hg nh.sf hb nh.cb.all nh.cb.us alq iS tB pl (Ai y (ja y t.p (gC l t.a y.U).1 []).1 pl) JW X2.1 X2.2 _ rfl;have WB:ny l y Na pl (⟨s.a+1,s.hs,s.p,s.L⟩,false) (j+1)=KG l y Na pl (t,false):=by rw[ny,sk]
   rw[KG,iN sM]at WB;simp only at WB;unfold tP at WB Bg;unfold Iv DI at WB Bg;generalize zz (fun r X=>(ja y r (gC l t.a y.U).1 X).1) (fun r=>Gf y r pl Na (Ai y (ja y t.p (gC l t.a y.U).1 []).1 pl)) Na (gC l t.a y.U).1 t.hs=G at*;have jj:=hg.dl;have s6:=X2.1;generalize Ai y (ja y t.p (gC l t.a y.U).1 []).1 pl=rs at*;generalize ja y t.p (gC l t.a y.U).1 []=sy at*;obtain⟨q,mv⟩:=sy;simp only at GD Hl C4 Ev WB Bg;generalize gC l t.a y.U=gc at*;obtain⟨cs,a2⟩:=gc;simp only at oh iS tB TB GD Xj WB Bg;refine uR ?_;intro K hK;refine ZI rfl (oh) iO iO iO iO iO ?_;refine Qd ?_;refine hK _ ?_;clear hK K;refine VT GD ?_;refine VT Ev ?_;by_cases lim:G.length<=40
   .rw[iP lim]at WB;obtain⟨g1,Bg⟩:=Bg lim;have Xj:=Xj _ _ (.inr (.inr ⟨g1,lim,rfl,rfl⟩));refine VT Xj ?_;refine uZ ?_;refine UN ?_;refine UN ?_;refine uD ?_;refine SU ?_;refine uZ ?_;refine⟨(_,j+1,⟨a2,Ss G,q,t.L⟩),⟨uO,WB,Bg⟩,uO,wK (uI @Int.sub_sub @gd) (uI @Int.sub_sub @gd)⟩
   rw[iN lim]at WB;have FK:=ars yl hk WB DE aX;rw[hz]at FK;cases FK
   have Xj:=Xj _ _ (.inr (.inl ⟨oM,rfl,rfl⟩));refine VT Xj ?_;refine uZ ?_;refine uT ?_;refine uD ?_;refine SU ?_;refine A_ ?_;rw[show f11.results.toList=[.cell 8 33,.cell 9 36,.tmp 10] from rfl];(refine(AK Px rfl ?_ ?_ ?_ ?_);(iterate 2 (focus (first|exact trivial|(simp only[go_sem,e_,FT]<;>trivial))));all_goals (try simp only[go_sem,e_,FT]))
  refine El ?_;have DE:j=k:=oM;rw[DE]at sk;have RK:=amV yl hk sk;have M8:=nh.cb.all;have nE:∀h∈t.hs,Zc y.U h.2:=fun h hh=>(M8 h hh).fp;have Fy:=jT y t.p 0 (i+1:Nat) nh.cb.pi.fp;refine VT Fy ?_;have Em:=fun h0:(pL y t.p 0 (i+1:Nat)).2=0=>nh.enter hg oM h0;have zJ:=nh.Nt hg (show i<=3 by omega);obtain⟨qe,Xd⟩:∃qe,qe=pL y t.p 0 (i+1:Nat):=⟨_,rfl⟩;unfold EM at RK zJ;rw[<-Xd]at Em RK Fy zJ ⊢;refine C0 ?_ ?_<;>intro c3
  .rw[iN c3]at RK zJ;refine uZ ?_;refine jq ?_;refine⟨(_,i+1,t),⟨uO,RK,zJ⟩,uO,ch⟩
  have c3':qe.2=0:=P5.1 c3;rw[iP c3']at RK zJ;obtain⟨g1,g2,g3⟩:=Em c3';obtain⟨m0,m1,m2,m3,m4,-,-⟩:=mZ (Xd ▸ c3':(pL y t.p 0 (i+1:Nat)).2=0);have e0:m0=0:=oM;subst e0;have auM:=g3.pi;have asY:t.hs.length<=900:=by have:=nh.cb.len;omega
  have Wd:=SJ y Na t.hs 0 (i+1:Nat) (Gd:=fun q=>Y9 y q ((i+1:Nat)::t.L)) oM m2 m3 m4 asY nE (fun h hh he=>(M8 h hh).enter (oT he)) (fun q hq=>hq.dV oM g2) (fun a b ha hb=>ha.inj oM g2 hb) ⟨Na,(Ss (wL (pn y 0 (i+1:Nat)) t.hs)).map Z'⟩ 0 (.inr ⟨g1,_,xD _,g3.Wh,rfl,rfl⟩);rw[show((0:Nat):Int)=0 from rfl]at Wd;generalize Ss (wL (pn y 0 (i+1:Nat)) t.hs)=G at*;refine VT Wd ?_;refine uZ ?_;refine uF ?_;refine uD ?_;refine SU ?_;refine uZ ?_;refine⟨(_,i+1,⟨t.a,G,qe.1,(i+1:Nat)::t.L⟩),⟨uO,RK,zJ⟩,uO,ch⟩
 refine El ?_;have pU:i=m:=oM;rw[pU,hz]at yl;cases yl
 refine uD ?_;refine SU ?_;refine A_ ?_;rw[show f11.results.toList=[.cell 8 33,.cell 9 36,.tmp 10] from rfl];(refine(AK Px rfl ?_ ?_ ?_ ?_);(iterate 2 (focus (first|exact trivial|(simp only[go_sem,e_,FT]<;>trivial))));all_goals (try simp only[go_sem,e_,FT]))
end
open Go.Plant Go.Inf
def aji(r:Uq)(f:T3):(SL r f).dv=r.dv:=by
 unfold SL;split
 .rfl
 split<;>rfl
theorem Jk(y:Ly)(p:Pl)(pl:List T3)(d:Nat):∀(fs:List T3)(r:Uq),(fs.foldl (LP d) r).dv=r.dv
 |[],_=>rfl|f::fs,r=>by
  rw[Xi,Jk y p pl d fs,LP];split
  .exact aji r f
  rfl
def aqJ(y:Ly)(p:Pl)(pl fs:List T3):(KX y p pl fs).length=y.D.length/\∀i,i<(KX y p pl fs).length->((KX y p pl fs).getD i default).dv=(i:Int):=by
 have h1:(KX y p pl fs).length=y.D.length:=by rw[KX,Yz]
 refine⟨h1,fun i hi=>?_⟩;have h2:(KX y p pl fs).getD i default=oX y p pl fs i:=by unfold KX r7;rw[gE];simp[show i<y.D.length by omega]
 rw[h2,oX,Jk y p pl];rfl
open Go.Plant Go.Inf
def xY(xs:List Nd)(cs:List Int):(Zk xs cs []=1)\/(Zk xs cs []=0/\cs.length=xs.length/\∀i,i<cs.length->jo (xs.getD i default) (cs.getD i 0)=true):=by
 unfold Zk;by_cases c1:cs.length≠xs.length
 .rw[iP c1];exact .inl rfl
 rw[iN c1];by_cases c2:BR xs cs=false
 .rw[iP c2];exact .inl rfl
 rw[iN c2];refine .inr ⟨rfl,P5.1 c1,fun i hi=>?_⟩;unfold BR at c2;rw[Bool.not_eq_false,FR]at c2;exact c2 i (BD.2 hi)
def aqc(y:Ly)(Na:Int)(hs:List iM)(cs:List Int)(Nx:UQ y)(iS:cs.length<=1000)(hex:∀n,n<y.U.length->(y.U.getD n default).ex.length<=500)(r:UZ)(er:Int)(ha:(Zk y.U cs []=1/\r=⟨0,[]⟩/\er=1)\/(Zk y.U cs []=0/\UB prog J9 74 [] [y.av,(UZ.mk Na (hs.map Z')).av,IS cs,.sl (YA []) false,.sl (b7 []) false] [] (.F1 [r.av,I er]))):
  UB prog J9 29 [] [y.av,(UZ.mk Na (hs.map Z')).av,IS cs] [] (.F1 [r.av,I er]):=by
 have h1:UB prog J9 73 [] [y.av,IS cs,.sl [] false] [] (I (Zk y.U cs [])):=EC y cs [] Nx.n iS (zL _) hex;obtain⟨rb,rl⟩:=r;generalize Zk y.U cs []=z at*;refine MD func29 ntmps29 ?_;intro w e X hC;refine BL ?_;refine R6 h1 ?_;rcases ha with ⟨rfl,h3,rfl⟩|⟨rfl,h3⟩
 .cases h3
  refine uZ ?_;refine TD ?_;rw[show Tryz.f29.results.toList=[.cell 6 33,.tmp 7] from rfl];first|refine jW ?_|exact W5
  rfl
 refine uZ ?_;refine uF ?_;refine uR ?_;refine Yi h3 ?_;refine A_ ?_;rw[show Tryz.f29.results.toList=[.cell 6 33,.tmp 7] from rfl];exact W5
def asZ(y:Ly)(Na:Int)(hs:List iM)(cs:List Int)(pl:List T3)(rs:List Uq)(Nx:UQ y)(iS:cs.length<=1000)(hex:∀n,n<y.U.length->(y.U.getD n default).ex.length<=500)(hl:rs.length=y.D.length)(s6:rs.length<=1000)(r:UZ)(er:Int)(ha:(Zk y.U cs []=1/\r=⟨0,[]⟩/\er=1)\/(Zk y.U cs []=0/\(((∃i,i<rs.length/\(rs.getD i default).dv≠(i:Int))/\r=⟨0,[]⟩/\er=1)\/
   ((∀i,i<rs.length->(rs.getD i default).dv=(i:Int))/\UB prog J9 74 [] [y.av,(UZ.mk Na (hs.map Z')).av,IS cs,.sl (YA pl) false,.sl (b7 rs) false] [] (.F1 [r.av,I er]))))):
  UB prog J9 27 [] [y.av,(UZ.mk Na (hs.map Z')).av,IS cs,.sl (YA pl) false,.sl (b7 rs) false] [] (.F1 [r.av,I er]):=by
 have h1:UB prog J9 73 [] [y.av,IS cs,.sl [] false] [] (I (Zk y.U cs [])):=EC y cs [] Nx.n iS (zL _) hex;have d0:decide (¬(rs.length:Int)=(y.D.length:Int))=false:=dF oM;obtain⟨rb,rl⟩:=r;generalize Zk y.U cs []=z at*;refine MD func27 ntmps27 ?_;intro w e X hC;refine uZ ?_;rcases ha with ⟨rfl,h3,rfl⟩|⟨rfl,ha⟩
 .cases h3
  refine uR ?_;refine R6 h1 ?_;refine TD ?_;rw[show Tryz.f27.results.toList=[.cell 10 33,.tmp 11] from rfl];first|refine jW ?_|exact W5
  rfl
 refine nF @d0 ?_;intro K hK;refine Dx h1 ?_;first|refine Z6 @d0 ?_|exact an @d0
 refine uH ?_;refine hK _ ?_;clear hK K;refine uF ?_;refine EP ?_;refine R7 rs.length (fun i:Az=>⟨[(2,IS cs),(3,.sl (YA pl) false),(4,.sl (b7 rs) false),(5,.p 105 1 0 0 0),(6,.p 106 2 0 0 0),(10,.p 110 3 0 0 0),(11,I 0),(12,I i.2)],(110,some (3,.box [I 0,.sl [] true]))::(106,some (2,.box [I Na,.sl (wF (hs.map Z')) false]))::(105,some (1,.box (r8 y)))::[],i.1⟩) (fun i=>∀j,j<i.2->(rs.getD j default).dv=(j:Int)) (fun j hj=>absurd hj (nZ _)) (ch) ?_;intro ck i hi hj;simp only at hj;refine C0 ?_ ?_<;>intro c
 .have PP:i<rs.length:=oM;have hg:=YN PP;have pO:(rs.getD i default).dv=i->∀j,j<i+1->(rs.getD j default).dv=(j:Int):=fun e j tw=>by
   by_cases ZJ:j=i
   .subst ZJ;exact e
   exact hj j oM
  have Ov:(rs.getD i default).dv≠i->UZ.mk rb rl=⟨0,[]⟩/\er=1:=fun h=>ha.elim (·.2) fun ha=>absurd (ha.1 i PP) h;generalize rs.getD i default=x at*;refine Fm @hg ?_ ?_<;>intro c1
  .obtain⟨h3,h4⟩:=Ov c1;cases h3
   subst h4;refine WE ?_;rw[show Tryz.f27.results.toList=[.cell 10 33,.tmp 11] from rfl];first|refine jW ?_|exact W5
   rfl
  refine uZ ?_;refine⟨(_,i+1),⟨uO,pO (P5.1 c1)⟩,uO,ch⟩
 refine El ?_;have AS:∀j,j<rs.length->(rs.getD j default).dv=(j:Int):=fun j h=>hj j oM;have ha:=(ha.resolve_left fun h=>by
  obtain⟨k,h3,h4⟩:=h.1;exact h4 (AS k h3)).2
 refine uR ?_;refine Yi ha ?_;refine A_ ?_;rw[show Tryz.f27.results.toList=[.cell 10 33,.tmp 11] from rfl];exact W5
def ane(y:Ly)(q:Pl):UB prog J9 129 [] [y.av,q.av,.sl (YA []) false,.sl (b7 []) false] [] (.F1 [I 0,B true]):=by refine MD func129 ntmps129 ?_;intro w e X hC;refine EP ?_;refine PV (fun u:Nat=>⟨[(10,I 0),(3,.sl (b7 []) false),(11,I 0)],[],u⟩) (fun _=>True) (fun _=>0) _ trivial (ch) ?_;rintro ck -;refine uZ ?_;refine uF ?_;refine El ?_;refine WE ?_;rw[show Tryz.f129.results.toList=[.tmp 8,.tmp 9] from rfl];exact W5
theorem ay{y:Ly}{p:Pl}{pl:List T3}:∀(l:List Uq)(i:Nat)(t:Int),(M1 y p pl i l t).2=false->(M1 y p pl i l t).1=0
 |[],_,_,h=>C3|r::l,i,t,h=>by
  rw[M1]at h ⊢;split
  .rfl
  rename_i c;rw[iN c]at h;exact ay l _ _ h
section
variable{A n:Nat}{y:Ly}{L:List Int}{Na:Int}{hs:List iM}
def atC(hg:Gj A n y)(hL:mK L)(hb:0<=Na/\Na<=2)(h:SB Na y L hs)(cs:List Int)(iS:cs.length<=1000):
  ∃(S:List iM)(bd e:Int),UB prog J9 28 [] [y.av,(UZ.mk Na (hs.map Z')).av,IS cs] [] (.F1 [(UZ.mk bd (S.map Z')).av,I e])/\UB prog J9 29 [] [y.av,(UZ.mk Na (hs.map Z')).av,IS cs] [] (.F1 [(UZ.mk bd (S.map Z')).av,I e])/\(∀x∈S,Y9 y x.2 L)/\S.length<=40:=by
 have hn:=hg.g.n11;have dW:=hg.g.len;have jJ:=h.len;have i1:=Lw y Na hs cs hg.oq hg.val hg.g.ex oM (fun g hh=>(h.all g hh).fp) iS hg.LR;have i2:=aqc y Na hs cs hg.oq iS hg.LR;rcases xY y.U cs with hp|⟨hp,hc,hk⟩
 .exact⟨[],0,1,i1 _ _ (.inl ⟨by rw[hp];decide,rfl,hp.symm⟩),i2 _ _ (.inl ⟨hp,rfl,rfl⟩),(fun x hx=>ZY),zL _⟩
 have BF:∀i,i<n->jo (y.U.getD i default) (cs.getD i 0)=true:=fun i hi=>hk i oM;have xq:cs.length=n:=oM;have he:=step_end (cst:=fun _=>(0,true)) hg hL hb.2 h xq BF (fun _=>MB _) _ rfl _ rfl;have hw:=V2 (cst:=fun _=>(0,true)) hg hL hb.2 h xq BF [] [] (zL _) (zL _) (fun q=>⟨MB _,dM⟩) (fun q _=>ane y q) _ rfl;obtain⟨S,bd,h1,h2,h3,-⟩:=pR (cst:=fun _=>(0,true)) hg hL hb.2 h xq BF (fun _=>MB _) _ rfl;have ht:=aeV hg hL hb h.all h.us oM xq BF _ rfl (iA Na ((Ii (fun r X=>(ja y r cs X).1) (fun _=>(0,true)) Na hs).foldl (pe qN) [])).1 (iA Na ((Ii (fun r X=>(ja y r cs X).1) (fun _=>(0,true)) Na hs).foldl (pe qN) [])).2 (he.imp id (Or.imp id fun⟨a,b,_,c⟩=>⟨a,b,c⟩));have hw2:=i2 _ _ (.inr ⟨hp,hw⟩);rw[h1]at ht hw2;exact⟨S,bd,_,ht,hw2,h2,h3⟩
def Zx(hg:Gj A n y)(hL:mK L)(hb:0<=Na/\Na<=2)(h:SB Na y L hs)(cs:List Int)(iS:cs.length<=1000)(pl:List T3)(rs:List Uq)(JW:pl.length=40)(hpo:∀x∈pl,dy x)(hl:rs.length=y.D.length):
  ∃(S:List iM)(bd e:Int),UB prog J9 21 [] [y.av,(UZ.mk Na (hs.map Z')).av,IS cs,.sl (YA pl) false,.sl (b7 rs) false] [] (.F1 [(UZ.mk bd (S.map Z')).av,I e])/\UB prog J9 27 [] [y.av,(UZ.mk Na (hs.map Z')).av,IS cs,.sl (YA pl) false,.sl (b7 rs) false] [] (.F1 [(UZ.mk bd (S.map Z')).av,I e])/\
   (∀x∈S,Y9 y x.2 L)/\S.length<=40/\(e=0->bd=Na/\SB Na y L S):=by
 have hn:=hg.g.n11;have dW:=hg.g.len;have jj:=hg.dl;have jJ:=h.len;have i1:=nB y Na hs cs pl rs hg.oq hg.val hg.g.ex oM (fun g hh=>(h.all g hh).fp) iS hg.LR hl oM;have i2:=asZ y Na hs cs pl rs hg.oq iS hg.LR hl oM;rcases xY y.U cs with hp|⟨hp,hc,hk⟩
 .exact⟨[],0,1,i1 _ _ (.inl ⟨by rw[hp];decide,rfl,hp.symm⟩),i2 _ _ (.inl ⟨hp,rfl,rfl⟩),(fun x hx=>ZY),zL _,fun h=>C3⟩
 by_cases C4:∃i,i<rs.length/\(rs.getD i default).dv≠(i:Int)
 .exact⟨[],0,1,i1 _ _ (.inr (.inl ⟨hp,C4,rfl,rfl⟩)),i2 _ _ (.inr ⟨hp,.inl ⟨C4,rfl,rfl⟩⟩),(fun x hx=>ZY),zL _,fun h=>C3⟩
 have hd:∀i,i<rs.length->(rs.getD i default).dv=(i:Int):=fun i hi=>BX fun e=>C4 ⟨i,hi,e⟩;have BF:∀i,i<n->jo (y.U.getD i default) (cs.getD i 0)=true:=fun i hi=>hk i oM;have xq:cs.length=n:=oM;have hcA:∀q,0<=(Gf y q pl Na rs).1:=fun q=>(ag y q pl Na hb.1 rs).1;have hX:=akv (y:=y) (pl:=pl) (rs:=rs) (stp:=fun r X=>(ja y r cs X).1) hb.1 fun g hh=>(h.us g hh).1;have he:=step_end (cst:=fun r=>Gf y r pl Na rs) hg hL hb.2 h xq BF hcA _ rfl _ rfl;obtain⟨S,bd,h1,h2,h3,h4⟩:=pR (cst:=fun r=>Gf y r pl Na rs) hg hL hb.2 h xq BF hcA _ rfl;have qn:∀d,d<y.D.length->qt y d=1\/qt y d=2:=fun d hd=>Qj hg.d hd;have hw:=V2 (cst:=fun r=>M1 y r pl 0 rs 0) hg hL hb.2 h xq BF pl rs oM oM (fun q=>by
  have:=zw (y:=y) (p:=q) (pl:=pl) rs 0 0 (MB _);cases hq:(M1 y q pl 0 rs 0).2 with
  |true=>have:=this hq;omega
  |false=>rw[ay _ _ _ hq];decide) (fun q hq=>by
  have hdq:=hg.W4 hq;have yl:∀d,d<y.D.length->0<=Od y q d/\Od y q d<=pl.length:=fun d hd=>by rw[JW];exact hq.vf hL hdq hd
  exact amO y q pl rs hdq hl hd oM yl qn fun d hd h0=>T4 hpo ⟨by have:=(yl d hd).1;omega,(yl d hd).2⟩) _ rfl
 rw[<-hX]at hw;have ht:=Iq hg hL hb h.all h.us oM xq BF pl rs JW hl hd _ rfl _ _ (he.imp id (Or.imp id fun⟨a,b,_,c⟩=>⟨a,b,c⟩));have hw2:=i2 _ _ (.inr ⟨hp,.inr ⟨hd,hw⟩⟩);rw[h1]at ht hw2;exact⟨S,bd,_,ht,hw2,h2,h3,h4⟩
end
open Go.Plant Go.Inf
def aeL(y:Ly)(bd:Int)(hs:UQ y)(hv:NP y=0)(hn:0<y.U.length)(hb:bd<0\/2<bd):UB prog J9 24 [] [y.av,I bd] [] (.F1 [ZM,I 1]):=by
 have h1:=nN y hs fun _=>hn;rw[hv]at h1;generalize MH y=q at*;refine MD func24 ntmps24 ?_;intro w e X hC;refine BL ?_;refine Yi h1 ?_;refine uZ ?_;refine uF ?_;by_cases c:bd<0
 .have d0:=dT c;refine N5 @d0 ?_;rw[show Tryz.f24.results.toList=[.cell 4 33,.tmp 5] from rfl];first|refine jW ?_|exact W5
  rfl
 have d0:=dF c;have d2:=oN (2<bd);refine N5 (uI @d0 @d2) ?_;rw[show Tryz.f24.results.toList=[.cell 4 33,.tmp 5] from rfl];first|refine jW ?_|exact W5
 rfl
def aug(y:Ly)(bd:Int)(hs:UQ y)(hv:NP y=0)(hn:0<y.U.length)(hb:bd<0\/2<bd):UB prog J9 25 [] [y.av,I bd] [] (.F1 [ZM,I 1]):=by
 have h1:=GG y hs fun _=>hn;rw[hv]at h1;generalize MH y=q at*;refine MD func25 ntmps25 ?_;intro w e X hC;refine BL ?_;refine Yi h1 ?_;refine uZ ?_;refine uF ?_;by_cases c:bd<0
 .have d0:=dT c;refine N5 @d0 ?_;rw[show Tryz.f25.results.toList=[.cell 4 33,.tmp 5] from rfl];first|refine jW ?_|exact W5
  rfl
 have d0:=dF c;have d2:=oN (2<bd);refine N5 (uI @d0 @d2) ?_;rw[show Tryz.f25.results.toList=[.cell 4 33,.tmp 5] from rfl];first|refine jW ?_|exact W5
 rfl
def ac1(y:Ly)(bd:Int)(hs:UQ y)(hv:NP y=0)(hn:0<y.U.length)(hb:0<=bd/\bd<=2):
  UB prog J9 25 [] [y.av,I bd] [] (.F1 [(UZ.mk bd [⟨0,(MH y).Q,(MH y).R⟩]).av,I 0]):=by
 have h1:=GG y hs fun _=>hn;rw[hv]at h1;generalize MH y=q at*;have d0:=Vj (bd<0);have d2:=Vj (2<bd);refine MD func25 ntmps25 ?_;intro w e X hC;refine BL ?_;refine Yi h1 ?_;refine uZ ?_;refine uF ?_;refine zF (uI @d0 @d2) ?_;refine A_ ?_;rw[show Tryz.f25.results.toList=[.cell 4 33,.tmp 5] from rfl];first|refine jW ?_|exact W5
 rfl
def ab9(b1 b2:Int)(h1 h2:List iM)(h:b1≠b2):UB prog J9 30 [] [(UZ.mk b1 (h1.map Z')).av,(UZ.mk b2 (h2.map Z')).av] [] (.F1 [ZM,I 7]):=by
 have d0:decide (¬b1=b2)=true:=A6;refine MD func30 ntmps30 ?_;intro w e X hC;refine N5 @d0 ?_;rw[show f30.results.toList=[.cell 4 33,.tmp 5] from rfl];first|refine jW ?_|exact W5
 rfl
section
variable{A n:Nat}{y:Ly}{L:List Int}{Na:Int}{hs:List iM}
def aue(hg:Gj A n y)(bd:Int):∃(S:List iM)(b e:Int),UB prog J9 24 [] [y.av,I bd] [] (.F1 [(UZ.mk b (S.map Z')).av,I e])/\UB prog J9 25 [] [y.av,I bd] [] (.F1 [(UZ.mk b (S.map Z')).av,I e])/\(∀x∈S,Y9 y x.2 [])/\S.length<=40:=by
 have hN0:=hg.sum.2.1;by_cases h:bd<0\/2<bd
 .exact⟨[],0,1,aeL y bd hg.oq hg.val hN0 h,aug y bd hg.oq hg.val hN0 h,(fun x hx=>ZY),zL _⟩
 refine⟨[(0,MH y)],bd,0,HP y bd hg.oq hg.val hN0 oM,ac1 y bd hg.oq hg.val hN0 oM,fun x hx=>?_,by simp only[WC];omega⟩;rw[iT.1 hx];exact LG hg
def ary(hg:Gj A n y)(hL:mK L)(h:SB Na y L hs)(T:List iM)(bd:Int)(hT:∀x∈T,Y9 y x.2 L)(Ny:T.length<=40):
  ∃(S:List iM)(b e:Int),UB prog J9 30 [] [(UZ.mk Na (hs.map Z')).av,(UZ.mk bd (T.map Z')).av] [] (.F1 [(UZ.mk b (S.map Z')).av,I e])/\UB prog J9 31 [] [(UZ.mk Na (hs.map Z')).av,(UZ.mk bd (T.map Z')).av] [] (.F1 [(UZ.mk b (S.map Z')).av,I e])/\(∀x∈S,Y9 y x.2 L)/\S.length<=40:=by
 by_cases hb:Na=bd
 .subst hb;have hn:=hg.g.n11;have dW:=hg.g.len;have jJ:=h.len;have AS:∀x∈hs++T,Y9 y x.2 L:=fun x hx=>(ym.1 hx).elim (h.all x) (hT x);have w1:=afU Na hs T (y:=y) (LL:=L) oM oM AS (fun q h=>h.dV oM hL) (fun a b ha hb=>ha.inj oM hL hb);have w2:=aio Na hs T hg.sum.1 oM oM h.all hT;have hC:=QA hg hL (Y:=hs++T) (ip.nil qN) (fun x hx=>ZY) AS;rw[fj]at hC;have hI:=rt (hs++T);have ZL:(hs++T).foldl Inf.Bb []≠[]:=fun e=>by
   cases hs with
   |nil=>exact h.ne rfl|cons a t=>obtain⟨w,hw,_⟩:=hI.all a (XI _ mS);rw[e]at hw;cases hw
  generalize (hs++T).foldl Inf.Bb []=G at*;generalize (hs++T).foldl (pe qN) []=l at*;have EK:Ss G=l:=(hI.sorted qN (xD G) (Q0 G) fun a ha b hb e=>Ys hg hL (AS a (hI.mem a ha)) (AS b (hI.mem b hb)) e).unique qN hC (Fi.refl _) (Fi.refl _);have hlen:=(xD G).length_eq;have hpm:=xD G;rw[EK]at hlen hpm;unfold KL at w2;by_cases h4:40<G.length
  .rw[iP oM]at w2;exact⟨[],0,2,w1 _ _ (.inl ⟨h4,rfl,rfl⟩),w2,(fun x hx=>ZY),zL _⟩
  rw[iN oM]at w2;exact⟨l,Na,0,w1 _ _ (.inr ⟨ZL,oM,l,hpm,hC.Wh,rfl,rfl⟩),w2,fun x hx=>AS x (hC.mem x hx),oM⟩
 exact⟨[],0,7,ab9 _ _ _ _ hb,asx _ _ _ _ hb,(fun x hx=>ZY),zL _⟩
end
open Go.Plant Go.Inf
def agC{l:List Uq}{i:Nat}{x:Uq}:(b7 l).set i x.av=b7 (l.set i x):=by simp[b7,Hv]
theorem apJ(l raw:List Int)(rp:Uq)(nn:Int)(hl:l.length<=9223372036854775807)(hr:∀x∈l,GI x)(wN:raw.length<=9223372036854775807)(gX:rp.rd.length<=9223372036854775807):UB prog J9 5 [] [IS l,IS raw,rp.av,I nn] [] (B true):=by
 have tq:=ao6 l hl;have hf:=ach hr;have lW:=afc;generalize vF l=l' at*;obtain⟨rdv,rsn,rrd⟩:=rp;simp only at gX;refine MD func5 ntmps5 ?_;intro w e X hC;refine uZ ?_;by_cases c0:40<raw.length
 .have d0:=oN ((40:Int)<raw.length);refine K6 @d0 ?_;refine yX lW ?_;exact uP
 have d0:=Vj ((40:Int)<raw.length);by_cases c1:40<rrd.length
 .have d1:=oN ((40:Int)<rrd.length);refine K6 (uI @d0 @d1) ?_;refine yX lW ?_;exact uP
 have d1:=Vj ((40:Int)<rrd.length);refine NL (uI @d0 @d1) ?_;have xR:=alQ l' 0 hf;obtain⟨A,n,hg⟩:=aa9 l' 0;generalize gL l' 0=gl at*;obtain⟨y,a0⟩:=gl;simp only at hg xR;obtain⟨hN,hN0,fo⟩:=hg.sum;have hbu:=G0 (l:=l') (a:=a0) (n:=3) dM;have Rt:=Ih l' a0 3 hf dM;generalize gN l' a0 3=Na at*;have hm:=G0 (l:=l') (a:=a0+1) (n:=4) dM;have CQ:=Ih l' (a0+1) 4 hf dM;obtain⟨m,qf⟩:∃m:Nat,gN l' (a0+1) 4=m:=⟨_,(ua hm.1).symm⟩;rw[qf]at hm CQ;have Kf:=SZ.run (l:=l') (pl:=oL l' (a0+1+1)) hg (Na:=Na) oM (a0+1+1+41) m oM;have VV:=am6 l' (a0+1+1) hf hg (Na:=Na) oM m oM _ rfl;generalize pV l' y Na (oL l' (a0+1+1)) (a0+1+1+41) m=z at*;obtain⟨⟨a1,hs,p,L⟩,zb⟩:=z;simp only at VV Kf;obtain⟨hL,Y7,-,O5⟩:=Kf;simp only at hL O5 Y7;have hsb:=O5.sb;have hpi:=O5.pi;clear O5;have jh:=Uw l' a1 hf;have JW:=YK l' a1;have Ow:=aiK l' a1;generalize oL l' a1=pl at*;refine uR ?_;intro K hK;refine PZ [] [(164,13,100,1)] false (tq) iw iw p6 p6 p6 p6 p6 p6 p6 p6 p6 p6 p6 p6 p6 p6 p6 ?_;refine M3 ?_;refine hK _ ?_;clear hK K;refine AR (s':=⟨[(1,IS raw),(3,I nn),(6,.p 106 1 0 0 0),(9,.p 164 13 0 0 0)],(164,some (13,.box [IS l',I (min 0 l'.length:Nat)]))::(106,some (1,.box [I rdv,B rsn,S (strOf rrd)]))::[],_⟩) (wH (uI @Nat.zero_min @dL)) ?_;refine uR ?_;intro K hK;refine ZI rfl (xR) iO iO iO iO iO ?_;refine Qd ?_;refine hK _ ?_;clear hK K;refine uR ?_;intro K hK;refine ZI rfl (Rt) iO iO iO iO iO ?_;refine Qd ?_;refine hK _ ?_;clear hK K;refine EP ?_;refine AJ 2 (fun q:Az=>⟨[(1,IS raw),(3,I nn),(6,.p 106 1 0 0 0),(9,.p 164 13 0 0 0),(10,.p 110 17 0 0 0),(11,I Na),(71,.sl (tk [nn,Na]) false),(72,I (2:Nat)),(73,I q.2)],(110,some (17,.box (r8 y)))::(106,some (1,.box [I rdv,B rsn,S (strOf rrd)]))::(164,some (13,.box [IS l',I (min (a0+1) l'.length:Nat)]))::[],q.1⟩) (ch) ?_;intro ck j hj;generalize Jd:([nn,Na]:List Int)=ks;have DN:ks.length=2:=by rw[<-Jd];rfl
 refine C0 ?_ ?_<;>intro c2
 .have PP:j<ks.length:=oM;have g1:=ma PP;generalize ks.getD j 0=kk at*;obtain⟨S,bd,er,w1,w2,hSa,hSl⟩:=aue hg kk;have ws:=Uf bd S oM hSa;have e1:decide (¬er=er)=false:=sM;refine aH @g1 ?_;refine VT w1 ?_;refine VT w2 ?_;refine WT @e1 ws ?_;refine UN ?_;exact nX (_,j+1) ch
 refine El ?_;clear Jd DN;refine uD ?_;intro K hK;refine uH ?_;refine ZI rfl (CQ) iO iO iO iO iO ?_;refine Qd ?_;refine ZI rfl (VV) iO iO iO iO iO ?_;refine Qd ?_;refine hK _ ?_;clear hK K;refine uZ ?_;refine uF ?_;refine uR ?_;intro K hK;refine ZI rfl (jh) iO iO iO iO iO ?_;refine Qd ?_;refine hK _ ?_;clear hK K;refine EP ?_;refine PV (fun q:Nat×Nat×Nat×List iM×Pl=>⟨[(1,IS raw),(3,I nn),(6,.p 106 1 0 0 0),(9,.p 164 13 0 0 0),(10,.p 110 17 0 0 0),(18,.p 118 (ck+11) 0 0 0),(19,.p 119 (ck+12) 0 0 0),(21,.sl (YA pl) false),(22,I q.2.1)],(119,some (ck+12,.box (GE q.2.2.2.2)))::(118,some (ck+11,.box [I Na,.sl (wF (q.2.2.2.1.map Z')) false]))::(110,some (17,.box (r8 y)))::(106,some (1,.box [I rdv,B rsn,S (strOf rrd)]))::(164,some (13,.box [IS l',I (min q.2.2.1 l'.length:Nat)]))::[],q.1⟩) (fun q=>q.2.1<=3/\SB Na y L q.2.2.2.1/\Y9 y q.2.2.2.2 L) (fun q=>3-q.2.1) (_,0,a1+41,hs,p) ⟨zL _,hsb,hpi⟩ (ch) ?_;clear VV jh CQ Rt xR tq hsb hpi hj;clear hs p a1;rintro⟨ck2,i,a,hs,p⟩ ⟨hi,hsb,hpi⟩;simp only at hi hsb hpi;generalize ck+11=g3;generalize ck+12=g4;clear ck;refine C0 ?_ ?_<;>intro c3
 .have oh:=Xz l' a y hf oM;obtain⟨iS,tB⟩:=x_ hg.g l' a;generalize gC l' a y.U=gc at*;obtain⟨cs,a2⟩:=gc;simp only at oh iS tB;have Vc:=Ih l' a2 2 hf dM;have I5:=G0 (l:=l') (a:=a2) (n:=2) dM;obtain⟨k,hk⟩:∃k:Nat,gN l' a2 2=k:=⟨_,(ua I5.1).symm⟩;rw[hk]at Vc I5;have nR:=al3 l' (a2+1) k y hf oM hN0 oM fo;have I':=Lo hg.g l' (a2+1) k;have cQ:=OO l' y.U (a2+1) k;generalize Vx l' y.U (a2+1) k=gm at*;obtain⟨fs,a3⟩:=gm;simp only at nR I' cQ;have TB:=hg.g.sx hpi iS tB I' oM;have GD:=Ke TB hpi hL I'.dup hg.oq hg.val oM (FO hg.g iS tB I' oM);have Hl:=Rg TB hpi hL;have C4:=hg.W4 Hl;have yU:=Ih l' a3 2 hf dM;have hl4:=G0 (l:=l') (a:=a3) (n:=2) dM;obtain⟨k4,hk4⟩:∃k:Nat,gN l' a3 2=k:=⟨_,(ua hl4.1).symm⟩;rw[hk4]at yU hl4;have BI:=aso l' (a3+1) k4 y (ja y p cs fs).1 hf C4 oM;have hgo:=WK (l:=l') (y:=y) (p:=(ja y p cs fs).1) (fun d hd=>Qj hg.d hd) (a3+1) k4 oM;generalize tb l' y (ja y p cs fs).1 (a3+1) k4=gg at*;obtain⟨gs,a5⟩:=gg;simp only at BI hgo;have yl:∀d,d<y.D.length->0<=Od y (ja y p cs fs).1 d/\Od y (ja y p cs fs).1 d<=pl.length:=fun d hd=>by rw[JW];exact Hl.vf hL C4 hd
  have Ev:=aiR y (ja y p cs fs).1 pl gs C4 oM yl hgo fun d hd h0=>T4 Ow ⟨by have:=(yl d hd).1;omega,(yl d hd).2⟩;have s6:=(aqJ y (ja y p cs fs).1 pl gs).1;have jj:=hg.dl;clear yl hgo;generalize KX y (ja y p cs fs).1 pl gs=rs at*;clear C4 TB;generalize ja y p cs fs=sy at*;obtain⟨q,mv⟩:=sy;simp only at GD Ev BI Hl;refine uD ?_;intro K hK;refine uH ?_;refine ZI rfl (oh) iO iO iO iO iO ?_;refine Qd ?_;refine ZI rfl (Vc) iO iO iO iO iO ?_;refine Qd ?_;refine ZI rfl (nR) iO iO iO iO iO ?_;refine Qd ?_;refine hK _ ?_;clear hK K;refine VT GD ?_;refine uD ?_;intro K hK;refine uH ?_;refine ZI rfl (yU) iO iO iO iO iO ?_;refine Qd ?_;refine ZI rfl (BI) iO iO iO iO iO ?_;refine Qd ?_;refine cP Ev ?_;refine Qd ?_;refine hK _ ?_;clear hK K;refine GA ?_;refine JP (fun v:Nat×Nat×List Uq=>⟨[(1,IS raw),(3,I nn),(6,.p 106 1 0 0 0),(9,.p 164 13 0 0 0),(10,.p 110 17 0 0 0),(18,.p 118 g3 0 0 0),(19,.p 119 g4 0 0 0),(21,.sl (YA pl) false),(22,I i),(23,IS cs),(25,.p 125 (ck2+21) 0 0 0),(28,.sl (b7 v.2.2) false)],(125,some (ck2+21,.box (GE q)))::(119,some (g4,.box (GE p)))::(118,some (g3,.box [I Na,.sl (wF (hs.map Z')) false]))::(110,some (17,.box (r8 y)))::(106,some (1,.box [I rdv,B rsn,S (strOf rrd)]))::(164,some (13,.box [IS l',I (min v.2.1 l'.length:Nat)]))::[],v.1⟩) (fun v=>v.2.2.length=y.D.length) ?_ ?_
  .by_cases i2:i=2
   .have d1:=oN ((i:Int)=2);by_cases r0:0<rs.length
    .have d2:=oN ((0:Int)<rs.length);have hn5:=Ih l' a5 rs.length hf oM;have hl5:=G0 (l:=l') (a:=a5) (n:=rs.length) oM;obtain⟨kx,G9⟩:∃k:Nat,gN l' a5 rs.length=k:=⟨_,(ua hl5.1).symm⟩;rw[G9]at hn5 hl5;have Vb:(b7 rs).set kx (.agg [I rdv,B rsn,S (strOf rrd)])=b7 (rs.set kx ⟨rdv,rsn,rrd⟩):=agC (l:=rs) (i:=kx) (x:=⟨rdv,rsn,rrd⟩);refine aH (uI @d1 @d2) ?_;refine WM ?_;refine uD ?_;intro K hK;refine uH ?_;refine ZI rfl (hn5) iO iO iO iO iO ?_;refine Qd ?_;refine hK _ ?_;clear hK K;refine uW ?_;refine⟨(_,a5+1,rs.set kx ⟨rdv,rsn,rrd⟩),by simp only[su];exact s6,wK @Vb @Vb⟩
    have d2:=Vj ((0:Int)<rs.length);refine NL (uI @d1 @d2) ?_;refine uW ?_;refine⟨(_,a5,rs),s6,ch⟩
   have d1:=Vj ((i:Int)=2);refine NL @d1 ?_;refine uW ?_;refine⟨(_,a5,rs),s6,ch⟩
  clear Ev BI yU GD nR Vc oh s6;have auI:cs.length<=1000:=by have:=hg.g.n11;omega
  rintro⟨ck3,a6,rs2⟩ w6;simp only at w6;generalize ck2+21=g5;refine GA ?_;refine JP (fun v:Nat×Nat×List Int=>⟨[(1,IS raw),(3,I nn),(6,.p 106 1 0 0 0),(9,.p 164 13 0 0 0),(10,.p 110 17 0 0 0),(18,.p 118 g3 0 0 0),(19,.p 119 g4 0 0 0),(21,.sl (YA pl) false),(22,I i),(23,IS v.2.2),(25,.p 125 g5 0 0 0),(28,.sl (b7 rs2) false)],(125,some (g5,.box (GE q)))::(119,some (g4,.box (GE p)))::(118,some (g3,.box [I Na,.sl (wF (hs.map Z')) false]))::(110,some (17,.box (r8 y)))::(106,some (1,.box [I rdv,B rsn,S (strOf rrd)]))::(164,some (13,.box [IS l',I (min v.2.1 l'.length:Nat)]))::[],v.1⟩) (fun v=>v.2.2.length<=1000) ?_ ?_
  .by_cases i2:i=2
   .have d1:=oN ((i:Int)=2);have hn5:=Ih l' a6 3 hf dM;generalize gN l' a6 3=z3 at*;refine nF @d1 ?_;intro K hK;refine uH ?_;refine ZI rfl (hn5) iO iO iO iO iO ?_;refine Qd ?_;refine hK _ ?_;clear hK K;refine Wc ?_ ?_<;>intro cz
    .refine uZ ?_;refine⟨(_,a6+1,raw),uO,ch⟩
    refine uW ?_;refine⟨(_,a6+1,cs),uO,ch⟩
   have d1:=Vj ((i:Int)=2);refine QT @d1 ?_;refine uW ?_;refine⟨(_,a6,cs),uO,ch⟩
  rintro⟨ck4,a7,cs2⟩ Oe;simp only at Oe;obtain⟨U,ub,ue,u1,u2,hUa,hUl,aem⟩:=Zx hg hL oM hsb cs2 Oe pl rs2 JW Ow w6;obtain⟨Y,yb,ye,y1,y2,hYa,hYl⟩:=atC hg hL oM hsb cs2 Oe;obtain⟨D,db,de,x1,x2,hDa,hDl⟩:=ary hg hL hsb Y yb hYa hYl;have ws1:=Uf ub U oM hUa;have ws2:=Uf yb Y oM hYa;have ws3:=Uf db D oM hDa;have e1:decide (¬ue=ue)=false:=sM;have e2:decide (¬ye=ye)=false:=sM;have e3:decide (¬de=de)=false:=sM;refine VT u1 ?_;refine VT u2 ?_;refine VT y1 ?_;refine VT y2 ?_;refine nF (uI @e1 @e2) ?_;intro K hK;refine Dx ws1 ?_;refine Dx ws2 ?_;refine uH ?_;refine hK _ ?_;clear hK K;refine uF ?_;refine VT x1 ?_;refine VT x2 ?_;refine WT @e3 ws3 ?_;refine uF ?_;refine EP ?_;refine PV (fun v:Nat×Az=>⟨[(1,IS raw),(3,I nn),(6,.p 106 1 0 0 0),(9,.p 164 13 0 0 0),(10,.p 110 17 0 0 0),(18,.p 118 g3 0 0 0),(19,.p 119 g4 0 0 0),(21,.sl (YA pl) false),(22,I i),(25,.p 125 g5 0 0 0),(32,.p 132 (ck4+21) 0 0 0),(33,I ue),(42,I v.2.1)],(132,some (ck4+21,.box [I ub,.sl (wF (U.map Z')) false]))::(125,some (g5,.box (GE q)))::(119,some (g4,.box (GE p)))::(118,some (g3,.box [I Na,.sl (wF (hs.map Z')) false]))::(110,some (17,.box (r8 y)))::(106,some (1,.box [I rdv,B rsn,S (strOf rrd)]))::(164,some (13,.box [IS l',I (min v.2.2 l'.length:Nat)]))::[],v.1⟩) (fun v=>v.2.1<=3) (fun v=>3-v.2.1) (_,0,a7) (zL _) (ch) ?_;clear u1 u2 y1 y2 x1 x2 ws1 ws2 ws3 hDa hDl hYa hYl;rintro⟨ck5,mm,a8⟩ Al;simp only at Al;generalize ck4+21=g6;refine C0 ?_ ?_<;>intro c4
  .have IA:=om l' a8 (-1) y.U.length hf dM oM oM;have w6:=om l' (a8+1) 0 5 hf dM dM dM;generalize gR l' a8 (-1) y.U.length=nd at*;generalize gR l' (a8+1) 0 5=bg at*;refine uR ?_;intro K hK;refine uH ?_;refine ZI rfl (IA) iO iO iO iO iO ?_;refine Qd ?_;refine ZI rfl (w6) iO iO iO iO iO ?_;refine Qd ?_;refine hK _ ?_;clear hK K;refine GA ?_;refine JP (fun v:Nat×Int×Int=>⟨[(1,IS raw),(3,I nn),(6,.p 106 1 0 0 0),(9,.p 164 13 0 0 0),(10,.p 110 17 0 0 0),(18,.p 118 g3 0 0 0),(19,.p 119 g4 0 0 0),(21,.sl (YA pl) false),(22,I i),(25,.p 125 g5 0 0 0),(32,.p 132 g6 0 0 0),(33,I ue),(42,I mm),(43,I v.2.1),(44,I v.2.2)],(132,some (g6,.box [I ub,.sl (wF (U.map Z')) false]))::(125,some (g5,.box (GE q)))::(119,some (g4,.box (GE p)))::(118,some (g3,.box [I Na,.sl (wF (hs.map Z')) false]))::(110,some (17,.box (r8 y)))::(106,some (1,.box [I rdv,B rsn,S (strOf rrd)]))::(164,some (13,.box [IS l',I (min (a8+2) l'.length:Nat)]))::[],v.1⟩) (fun _=>True) ?_ ?_
   .by_cases m2:mm=2
    .have d1:=oN ((mm:Int)=2);refine aH @d1 ?_;refine WM ?_;exact⟨(_,0,nn),trivial,ch⟩
    have d1:=Vj ((mm:Int)=2);refine NL @d1 ?_;refine uW ?_;exact⟨(_,nd,bg),trivial,ch⟩
   clear IA w6;rintro⟨ck6,nd,bg⟩ -;obtain⟨E,eb,ee,L2,u1,u2,hEa,hEl⟩:=al4 hg hL oM hsb.all hsb.len (Na:=Na) nd bg;obtain⟨V,vb,ve,v1,v2,hVa,hVl⟩:=alS hg hL hsb.all hsb.len hsb.Wh (Na:=Na) nd bg;have ws1:=Uf eb E oM hEa;have ws2:=Uf vb V oM hVa;have e1:decide (¬ee=ee)=false:=sM;have e2:decide (¬ve=ve)=false:=sM;simp only;refine VT u1 ?_;refine VT u2 ?_;refine VT v1 ?_;refine VT v2 ?_;refine nF (uI @e1 @e2) ?_;intro K hK;refine Dx ws1 ?_;refine Dx ws2 ?_;refine uH ?_;refine hK _ ?_;clear hK K;refine UN ?_;exact nX (_,mm+1,a8+2) ch
  refine El ?_;by_cases u0:ue=0
  .have d1:=dT u0;obtain⟨rfl,hsU⟩:=aem u0;refine K6 @d1 ?_;refine uD ?_;refine SU ?_;refine uZ ?_;refine⟨(_,i+1,a8,U,q),⟨uO,hsU,Hl⟩,uO,ch⟩
  have d1:=dF u0;refine zF @d1 ?_;refine⟨(_,i+1,a8,hs,p),⟨uO,hsb,hpi⟩,uO,ch⟩
 refine El ?_;refine yX lW ?_;exact uP
end Go.Proofs.YtfcgkbinohibcaaGreatDoor
namespace Go.Sym
open Go Go.Deep Go.ChangeShapes Go.WideShapes Go.ChangeAt Go.RowKit
section
variable{H:Type}{enc:TypeId×Value->H}{P:Program}{W W':World}
theorem XN(hl:laidOutB P=true)(hb:Below W.heap.size W W'):∀{ts:List TypeId}{vs:List Value}{ds:List (DataW H)}{ps:List MemPlace},(∀t∈ts,P.readableRec t=true/\t<P.types.size)->
  DataW.TrodAll enc P W 0 (fun _=>true) true ts vs ds ps->(∀x∈ps,x.block<W.heap.size)->DataW.TrodAll enc P W' 0 (fun b=>decide (b<W.heap.size)) true ts vs ds ps
 |[],vs,ds,ps,_,h,_=>by obtain⟨rfl,rfl,rfl⟩:=trodAll_nil h;exact trodAll_mk0
 |t::ts,vs,ds,ps,ht,h,PP=>by obtain⟨v,qD,d,ds',p,q,rfl,rfl,rfl,h1,h2⟩:=trodAll_cons h;have:=ht t sM;exact⟨p,q,Below.trod hl this.1 this.2 h1 hb fun x hx=>PP x (by simp[hx]),XN hl hb (fun t' h'=>ht t' (by simp[h'])) h2 fun x hx=>PP x (by simp[hx]),rfl⟩
def pJ{a:Int}(h:(Lit.int .i64 a).wf=true):-9223372036854775808<=a/\a<=9223372036854775807:=by have h1:(decide (IntKind.min .i64<=a)&&decide (a<=IntKind.max .i64))=true:=h;have e1:IntKind.min .i64=-9223372036854775808:=dM;have e2:IntKind.max .i64=9223372036854775807:=dM;rw[e1,e2]at h1;simpa using h1
variable{U:Nat->Prop}{t e q:TypeId}{v:Value}{d:DataW H}{ps:List MemPlace}
def alJ(ht:P.underlying t=some (.int .i64))(pA:Value.okWide P W .any 0 t v)(hd:DataW.Trod enc P W 0 (fun _=>true) true t v d ps):∃n:Int,(-9223372036854775808<=n/\n<=9223372036854775807)/\VD W U (I n) v:=by obtain⟨n,rfl,_,_,hw⟩:=open_int ht pA hd;exact⟨n,pJ hw,.lit _ rfl⟩
def FG{w:World}{a:Addr}{x:Value}(h:w.cell? a=some x):a=⟨a.block,a.off,none⟩/\a.block<w.heap.size:=by
 unfold World.cell? at h;split at h
 .rename_i c _ _ hb;split at h
  .cases h
  rename_i hs;refine⟨?_,(DH.1 hb).1⟩;cases a with
  |mk b o s=>cases s<;>simp_all
 cases h
def VD.ara(hU:∀b,U b){a:Addr}{len cap:Nat}{zs:List Int}(hl:len<=cap)(hm:cap<=maxLen)(hz:zs.length=cap)(hc:∀i,i<cap->W.cell? (a.add i)=some (.int .i64 (zs.getD i 0))):
  VD W U (IS (zs.take len)) (.slice (some a) len cap):=by
 by_cases h0:cap=0
 .obtain rfl:len=0:=oM;subst h0;rw[Td];exact .nil _ _
 have h1:=FG (hc 0 oM);have e:a=⟨a.block,a.off,none⟩:=h1.1;have hlen:(zs.take len).length=len:=xF;have:=VD.sl (w:=W) (U:=U) (tk (zs.take len)) false a.block a.off cap 1 (fun i=>.int .i64 (zs.getD i 0)) (hU _) h1.2 (by rw[nP,hlen];exact hl) hm sM oM
  (by intro i hi;simp[tk,AV.cells,I]) (by
   intro j hj;rw[nP,hlen,B3]at hj;have h2:=hc j oM;rw[e,add_plain]at h2;exact h2) (by
   intro i hi j hj;simp only[tk,nw,I,AV.cells]at hj ⊢;simp at hj;subst hj;rfl) (by
   intro i hi j hj;rw[nP,hlen]at hi;simp only[tk,nw,I,AV.cells,DA]at hj ⊢;simp at hj;subst hj;simp only[E6,B3,dq];have:zs.getD i 0=zs[i]'oM:=by simp[show i<zs.length by omega]
   rw[this];exact .lit _ rfl)
 rw[nP,hlen]at this;rw[<-e]at this;exact this
def HS(hU:∀b,U b)(ht:P.underlying t=some (.slice e))(he:P.underlying e=some (.int .i64))(hc:P.cellsOf e=1)(pA:Value.okWide P W .any 0 t v)(hd:DataW.Trod enc P W 0 (fun _=>true) true t v d ps):∃zs:List Int,zs.length<=9223372036854775807/\(∀x∈zs,-9223372036854775808<=x/\x<=9223372036854775807)/\VD W U (IS zs) v:=by
 obtain⟨a,len,cap,rfl⟩:=okWide_slice ht pA;obtain⟨fuel,hf⟩:=hd;rcases open_ints ht he hc hf with ⟨h1,_⟩|⟨a',auu,Og,zs,h1,_,hl,hm,hz,_,VJ,hw⟩
 .simp[Value.cells]at h1;obtain⟨rfl,rfl,rfl⟩:=h1;exact⟨[],sM,sM,.nil _ _⟩
 simp[Value.cells]at h1;obtain⟨rfl,rfl,rfl⟩:=h1;simp only[ql]at hz;have Qo:cap<=9223372036854775807:=by unfold maxLen at hm;omega
 exact⟨zs.take len,xF,fun x hx=>pJ (hw x (Cz hx)),VD.ara hU hl hm hz fun i hi=>VJ i oM⟩
def lB:bQ:=⟨fun _=>none,fun _=>False,fun _=>none⟩
def YI(b:Nat):¬TT lB b:=by rintro(⟨id,ee,c,h,_⟩|⟨B,c,h,_⟩)<;>cases h
def jM(b:Nat):UE lB b:=⟨fun h=>h,YI b⟩
def agO(w:World):cH w lB (rM 1) [] where
 dead:=fun _ _=>rfl
 live:=fun id g ob h=>by simp[Hp.get]at h
 inj:=fun id qJ ee SV b c c' h=>C3
 lt:=fun id ee b c h=>C3
 nz:=fun id ee b c h=>C3
 kl:=fun b B c h=>C3
 ko:=fun b h=>rfl
 kk:=fun b B c h=>C3
theorem aoQ{T:vp}{f:FuncId}{as1:List AV}{pk:Array Value}(h:UB P T f [] as1 [] (B true))(hg:XO T W (UE lB))(xB:as1.length=pk.size)(hv:∀i (hi:i<as1.length),VD W (UE lB) as1[i] (pk.getD i undef)):
  Calls P f pk W fun e W'=>e=.returned (.bool true)/\Below W.heap.size W W':=by
 have h:=h.2 W lB pk (agO W) (fun b hb=>hb.elim) hg xB (fun i hi=>.rC _ _ (hv i hi));refine h.mono ?_;rintro e W' ⟨v,e',rfl,_,hv,_,_,_,hf⟩;cases hv with
 |rC _ _ hv=>
  cases hv with
  |lit _ _=>exact⟨rfl,hf.os,hf.tape,hf.output,hf.size,fun k hk=>hf.same k hk (YI k)⟩
def FM{g fuel n:Nat}{nm:String}{zs:List Int}{cs:Array Value}{p:List MemPlace}{enc:TypeId×Value->Unit}{spare:Nat->Bool}{held:Bool}(hg:P.globalNamed nm=some g)(hU:∀b,U b)(ht:P.underlying t=some (.array n e))(he:P.underlying e=some (.int .u8))(hc:P.cellsOf e=1)(hv:W.var? P nm=some cs)(hd:DataW.trod enc P W 0 spare held fuel t cs.toList=some (.agg (zs.map fun z=>.lit (.int .u8 z)),p))(hn:zs.length=n)(h0:0<n):VD W U (.P (zs.map fun z=>.lit (.int .u8 z))) (.pointer (some ⟨g,0,none⟩)):=by
 obtain⟨xs,m,_,ex,_,hl,qp⟩:=DataW.trod_array ht hd;have cell:∀r,r<n->W.cell? ⟨g,r,none⟩=some (.int .u8 (zs.getD r 0)):=by
  intro r hr;have hE:=qp r hr;rw[hc,B3,gG oM]at hE;obtain⟨z,e1,e2,_⟩:=sP he hE;have e3:(xs.map (·.1))=zs.map fun n=>.lit (.int .u8 n):=(DataW.agg.inj (Prod.mk.inj ex).1).symm;have e4:(xs.map (·.1))[r]?=(zs.map fun n=>(DataW.lit (.int .u8 n):DataW Unit))[r]?:=by rw[e3]
  rw[YO,YO,gG (by omega:r<xs.length),gG (by omega:r<zs.length),e2]at e4;have hz:z=zs.getD r 0:=by simp only[rL,Kh,AG,Lit.int.injEq,ul]at e4;rw[e4,List.getD,gG (by omega:r<zs.length)];rfl
  rw[World.var?_cell hg hv r,<-hz];have:cs.toList[r]?=some (.int .u8 z):=by
   have h0:((cs.toList.drop r).take 1)[0]?=some (.int .u8 z):=by rw[e1];rfl
   simpa using h0
  simpa using this
 refine .P _ g 0 (fun i=>.int .u8 (zs.getD i 0)) (hU _) (FG (cell 0 h0)).2 ?_ ?_ ?_
 .intro j hj;rw[cy];exact cell j (by simpa[hn] using hj)
 .intro j hj;simp[AV.one]
 intro j hj;rw[E3]at hj;simp only[nw];have:zs.getD j 0=zs[j]'oM:=by simp[show j<zs.length by omega]
 rw[this];exact .lit _ rfl
def acg{g fuel:Nat}{nm:String}{ss:List ByteArray}{cs:Array Value}{p:List MemPlace}{enc:TypeId×Value->Unit}{spare:Nat->Bool}{held:Bool}(hg:P.globalNamed nm=some g)(hU:∀b,U b)(ht:P.underlying t=some (.slice e))(he:P.underlying e=some .string)(hc:P.cellsOf e=1)(hv:W.var? P nm=some cs)(hd:DataW.trod enc P W 0 spare held fuel t cs.toList=some (.slice (ss.map fun z=>.lit (.string z.data.toList)) [],p))(h0:0<ss.length):VD W U (.P [.sl (ss.map S) false]) (.pointer (some ⟨g,0,none⟩)):=by
 rcases open_strs ht he hc hd with ⟨_,hx⟩|⟨a,len,cap,m,Sx,LF,_,XJ,hm,Al,hx,VJ⟩
 .simp at hx
 simp only[jH,DataW.slice.injEq]at hx;obtain⟨⟨hx,NM⟩,_⟩:=hx;have hlen:ss.length=len:=by simpa using congrArg List.length hx
 have tf:len<=m:=by rw[Al];split<;>omega
 have hS:∀i (hi:i<ss.length),Sx i=ss[i]:=by
  intro i hi;have h1:(ss.map fun z=>(DataW.lit (.string z.data.toList):DataW Unit))[i]?=((List.range len).map fun i=>(DataW.lit (.string (Sx i).data.toList):DataW Unit))[i]?:=by rw[hx]
  rw[YO,YO,gG hi,gG (by simpa[hlen] using hi)]at h1;simp only[rL,Kh,AG,Lit.string.injEq,Pj]at h1;have h2:=We.1 h1;cases h3:ss[i]with|mk d1=>cases h4:Sx i with|mk d2=>rw[h3,h4]at h2;simp only at h2;rw[h2]
 have IU:=World.var?_cell hg hv 0;rw[Array.eq_one_of_toList LF]at IU;have IU:W.cell? ⟨g,0,none⟩=some (.slice (some a) len cap):=by simpa using IU
 have ha:=FG (VJ 0 oM).1;have ea:a=⟨a.block,a.off,none⟩:=ha.1;refine .P _ g 0 (fun _=>.slice (some a) len cap) (hU _) (FG IU).2 ?_ (by intro j hj;simp at hj;subst hj;rfl) ?_
 .intro j hj;simp at hj;subst hj;exact IU
 intro j hj;simp at hj;subst hj;have:=VD.sl (w:=W) (U:=U) (ss.map S) false a.block a.off cap 1 (fun i=>.string (Sx i)) (hU _) ha.2 (by simp[hlen,XJ]) hm sM oM
  (by intro i hi;simp[AV.cells,S]) (by
   intro j hj;rw[E3,hlen,B3]at hj;have h2:=(VJ j oM).1;rw[ea,add_plain]at h2;exact h2) (by
   intro i hi j hj;simp only[nw,S,AV.cells]at hj ⊢;simp at hj;subst hj;rfl) (by
   intro i hi j hj;simp only[nw,S,AV.cells]at hj ⊢;simp at hj;subst hj;simp only[E6,B3,dq];rw[hS i Ks];exact .lit _ rfl)
 rw[E3,hlen]at this;rw[<-ea]at this;exact this
end
end Go.Sym
