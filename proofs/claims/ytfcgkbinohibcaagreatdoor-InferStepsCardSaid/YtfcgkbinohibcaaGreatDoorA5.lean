/- Lemmas towards inferSteps_card: no conditions of their own. -/
import Derived.Test.YtfcgkbinohibcaaGreatDoorA4
import Derived.Lib.SplitLaws
import Derived.Lib.Replace
import Derived.Lib.AtoiAll
import Derived.Lib.ItoaNum
import Derived.Lib.Join
import Derived.Lib.Repeat
import Derived.RangeFuncSeq
import Derived.RangeFuncIn
import Derived.RangeFuncCalls
set_option linter.all false
namespace Go.Scr
open Go Go.Lib
abbrev Bs:=List UInt8
def NO(c:UInt8):Bs->List Bs
 |[]=>[[]]|x::r=>if x=c then[]::NO c r else
   match NO c r with
   |[]=>[[x]]|w::ws=>(x::w)::ws
def sd(c:UInt8):Bool:=decide (48<=c.toNat/\c.toNat<=57)
def NA(acc:Nat)(s:Bs):Nat:=s.foldl (fun n c=>10*n+(c.toNat-48)) acc
def afm(acc:Nat)(a:Bs)(c:UInt8):NA acc (a++[c])=10*NA acc a+(c.toNat-48):=by simp[NA]
def nu{n:Nat}(h:n<10):(UInt8.ofNat (48+n)).toNat=48+n:=by simp;omega
theorem LC:∀(s:Bs)(a:Nat),(∀c∈s,sd c=true)->NA a s<(a+1)*10^s.length
 |[],a,_=>by simp[NA]|c::s,a,h=>by have hc:48<=c.toNat/\c.toNat<=57:=oT (h c sM);have h1:=LC s (10*a+(c.toNat-48)) (fun x hx=>h x (mC _ hx));show NA (10*a+(c.toNat-48)) s<_;rw[dO,KN,XZ (10^s.length),<-Nat.mul_assoc];refine tL h1 (RW _ oM)
def aqd{p:UInt8->Bool}{s:Bs}(h:s.all p=true)(i:Nat):(s.take i).all p=true:=by rw[FR]at h ⊢;exact fun x hx=>h x (Cz hx)
def lF{p:UInt8->Bool}{s:Bs}(h:s.all p=true){i:Nat}(hi:i<s.length):p (s.getD i 0)=true:=by rw[FR]at h;rw[gE,gG hi];exact h _ (gM hi)
def dZ{s:Bs}{i:Nat}(hi:i<s.length):s.take (i+1)=s.take i++[s.getD i 0]:=by rw[List.take_succ,gE,gG hi];rfl
def asF{s:Bs}{i:Nat}(h:s.all sd=true)(hi:i<=s.length):NA 0 (s.take i)<10^i:=by have:=LC (s.take i) 0 (FR.1 (aqd h i));rw[Hh,Q5 hi]at this;omega
def HH(n:Nat):Nat->Bs
 |0=>[]|k+1=>HH (n / 10) k++[UInt8.ofNat (48+n % 10)]
theorem l_:∀(k n:Nat),(HH n k).length=k
 |0,_=>rfl|k+1,n=>by simp[HH,l_ k]
theorem ZB:∀(j k n:Nat),HH n (k+j)=HH (n / 10^j) k++HH n j
 |0,k,n=>by simp[HH]|j+1,k,n=>by rw[<-lX,HH,ZB j k,HH,<-Z5,nk,KN,XZ 10]
open Go Go.Lib
structure Aq where
 l:Int
 a:Int
 s:Int
 deriving DecidableEq,Inhabited
structure lE where
 au4:Bs
 num:Int
 aus:Bs
 day:Int
 deriving DecidableEq,Inhabited
structure gQ where
 k:Int
 n:Int
 w:Int
 deriving DecidableEq,Inhabited
structure qi where
 k:Int
 auY:Int
 im:lE
 deriving DecidableEq,Inhabited
structure w7 where
 k:Int
 mv:List gQ
 gl:List gQ
 lost:Bool
 Wp:Aq
 node:Int
 oo:Int
 Bi:Bool
 Xb:Bs
 rev:qi
 dev:Int
 QX:Int
 im:lE
 deriving DecidableEq,Inhabited
def P0:Aq:=⟨0,0,0⟩
def F0:lE:=⟨[],0,[],0⟩
def W0:gQ:=⟨0,0,0⟩
def R0:qi:=⟨0,0,F0⟩
def A0(k:Int):w7:=⟨k,[],[],false,P0,0,0,false,[],R0,0,0,F0⟩
def Aq.ok(p:Aq):Bool:=decide (0<=p.l/\p.l<=9/\1<=p.a/\p.a<=999/\0<=p.s/\p.s<=999999)
def Aq.num(p:Aq):Int:=(p.l*1000+p.a)*1000000+p.s
def Aq.fmt(p:Aq):Bs:=if p.ok then HH p.num.toNat 10 else[]
def only(x:w7):w7:=
 if x.k=1 then {A0 x.k with mv:=x.mv,gl:=x.gl,lost:=x.lost}
 else if x.k=2\/x.k=10 then {A0 x.k with Wp:=x.Wp,node:=x.node}
 else if x.k=3 then {A0 x.k with Xb:=x.Xb}
 else if x.k=4 then {A0 x.k with oo:=x.oo,Bi:=x.Bi}
 else if x.k=5 then {A0 x.k with rev:=x.rev}
 else if x.k=6\/x.k=7 then {A0 x.k with node:=x.node}
 else if x.k=8 then {A0 x.k with dev:=x.dev,Wp:=x.Wp,node:=x.node,QX:=x.QX}
 else if x.k=9 then {A0 x.k with dev:=x.dev,Wp:=x.Wp,QX:=x.QX}
 else if x.k=11\/x.k=12 then {A0 x.k with dev:=x.dev}
 else if x.k=13 then {A0 x.k with im:=x.im}
 else A0 x.k
structure Rd where
 line:Bs
 ws:List Bs
 bad:Bool
def val(s:Bs):Option Int:=
 match atoiAll s with
 | .ok v=>if 0<=v/\v<=999999 then some v else none|_=>none
def gJ(s:Bs):Rd:=⟨s,NO 32 s,false⟩
end Go.Scr
namespace Go.Proofs.YtfcgkbinohibcaaGreatDoor
open Go Go.Sym Go.Proofs.Tryz
namespace Sc
open Go.Scr
theorem aua(l:List UInt8):PE (aN l)=True:=Ie (apH l)
def auS{l:List UInt8}:(∀e∈aN l,∀c∈e.cells,AT c)=True:=by refine Ie fun e he c hc=>?_;simp only[aN,A2]at he;obtain⟨x,_,rfl⟩:=he;simp only[Kk,AV.cells,iT]at hc;subst hc;trivial
def strs(l:List Bs):List AV:=l.map fun x=>S (strOf x)
theorem Q8(l:List Bs):(strs l).length=l.length:=by simp[strs]
def Un{l:List Bs}{i:Nat}(h:i<l.length):(strs l).getD i .bad=S (strOf (l.getD i [])):=by simp[strs,h]
theorem QO(l:List Bs):PE (strs l)=True:=by refine Ie fun e he c hc=>?_;simp only[strs,A2]at he;obtain⟨x,_,rfl⟩:=he;simp only[AV.cells,iT]at hc;subst hc;trivial
theorem Tp{l:List Bs}:(∀y∈strs l,y.cells.length=1)=True:=by refine Ie fun e he=>?_;simp only[strs,A2]at he;obtain⟨x,_,rfl⟩:=he;rfl
theorem S3{l:List Bs}{b:Bs}:strs l++[.lit (.string (strOf b))]=strs (l++[b]):=by simp[strs]
def HJ{l:List Bs}{i:Nat}:(strs l).take i=strs (l.take i):=by simp[strs]
attribute [go_sem] aua Q8 QO Tp S3
def ami{c:UInt8}(h:sd c=true):IntKind.i64.wrap (IntKind.u8.wrap ((c.toNat:Int)-48))=(c.toNat:Int)-48:=by have h:48<=c.toNat/\c.toNat<=57:=oT h;rw[tE,IntKind.wrap_i64];omega
abbrev Uc(c:UInt8):AV:=.lit (.int .u8 ((c.toNat:Nat):Int))
def yM{p:UInt8->Bool}{s:Bs}{i:Nat}(hi:i<s.length)(h:(s.take i).all p=true)(h1:p (s.getD i 0)=true):(s.take (i+1)).all p=true:=by rw[dZ hi,List.all_append,h,List.all_cons,h1];rfl
theorem Ka{p:UInt8->Bool}{s:Bs}{i:Nat}(hi:i<s.length)(h1:p (s.getD i 0)=false):s.all p=false:=by
 cases h:s.all p with
 |false=>rfl|true=>rw[lF h hi]at h1;cases h1
def Xn(s:Bs)(k:Nat)(p:UInt8->Bool)(hl:s.length<=1000000)(hk:∀c,UB prog J9 k [] [Uc c] [] (B (p c))):
  UB prog J9 235 [] [S (strOf s),.fn k []] [] (B (s.all p)):=by
 refine MD func235 ntmps235 ?_;intro w e X hC;refine EP ?_;refine R7 s.length (fun i:Az=>⟨[(0,S (strOf s)),(1,.fn k []),(7,I s.length),(8,I i.2)],[],i.1⟩) (fun i=>(s.take i.2).all p=true) rfl (ch) ?_;intro ck i hi hj;simp only at hj;refine C0 ?_ ?_<;>intro h
 .have PP:i<s.length:=oM;have An:=hk (s.getD i 0);refine uA ?_;cases c1:p (s.getD i 0)with
  |true=>rw[c1]at An;refine uR ?_;intro K hK;refine⟨oM,?_⟩;refine eh An ?_;refine hK _ ?_;clear hK K;refine UN ?_;refine⟨(_,i+1),⟨uO,yM PP hj c1⟩,uO,ch⟩|false=>
   rw[c1]at An;refine uR ?_;intro K hK;refine⟨oM,?_⟩;refine eh An ?_;refine hK _ ?_;clear hK K;refine eg ?_;try rfl
   rw[Ka PP c1];rfl
 refine El ?_;have:i=s.length:=oM;subst this;rw[Sy]at hj;refine OD ?_;try rfl
 rw[hj];rfl
end Sc
namespace Sc
open Go.Scr
abbrev Aq.av(p:Aq):AV:=.agg [I p.l,I p.a,I p.s]
def at5(p:Aq):UB prog J9 217 [] [Aq.av p] [] (B p.ok):=amW p.l p.a p.s
def anA(p:Aq):UB prog J9 161 [] [Aq.av p] [] (B p.ok):=aqU p.l p.a p.s
def N4{p:Aq}(h:p.ok=true):0<=p.l/\p.l<=9/\1<=p.a/\p.a<=999/\0<=p.s/\p.s<=999999:=oT h
def agx(n:Nat):IntKind.u8.wrap (48+IntKind.u8.wrap ((n:Int).tmod 10))=((UInt8.ofNat (48+n % 10)).toNat:Nat):=by
 have h1:(n:Int).tmod 10=((n % 10:Nat):Int):=by rw[DQ oM];rfl
 rw[h1,nu oM,tE,tE];omega
def MR(n:Nat)(j:Nat):HH n (j+1)=UInt8.ofNat (48+n / 10^j % 10)::HH n j:=by rw[TQ,ZB j 1];rfl
def aeg(N i:Nat)(h:i<10):(aN (List.replicate (10 - i) 0++HH N i)).take (9 - i)++[.lit (.int .u8 ((UInt8.ofNat (48+N / 10^i % 10)).toNat:Nat))]++(aN (List.replicate (10 - i) 0++HH N i)).drop (9 - i+1)=aN (List.replicate (10-(i+1)) 0++HH N (i+1)):=by
 rw[MR,show 10-(i+1)=9 - i by omega,show 10 - i=(9 - i)+1 by omega,Be];simp only[aN,Mx,Z5];generalize hA:List.map Kk (List.replicate (9 - i) 0)=A;have EB:A.length=9 - i:=by rw[<-hA];simp
 rw[lh oM,DZ oM];rw[show A++(List.map Kk [0]++List.map Kk (HH N i))=(A++List.map Kk [0])++List.map Kk (HH N i) by simp];rw[List.drop_append_of_le_length (by simp[EB]),To (by simp[EB])];rfl
theorem apS(p:Aq):UB prog J9 169 [] [Aq.av p] [] (S (strOf p.fmt)):=by
 have h0:=at5 p;refine MD func169 ntmps169 ?_;intro w e X hC;refine uZ ?_;cases c0:p.ok with
 |false=>
  have e:p.fmt=[]:=Ps;rw[c0]at h0;refine uR ?_;refine I6 h0 ?_;refine eg ?_;try rfl
  rw[e];rfl
 |true=>
  have hb:=N4 c0;have e:p.fmt=HH p.num.toNat 10:=Ps;have h1:=aaO p.l p.a p.s ⟨hb.1,hb.2.1⟩ oM oM;rw[c0]at h0;refine uR ?_;refine I6 h0 ?_;refine UN ?_;refine uR ?_;refine I6 h1 ?_;refine uZ ?_;rw[e];obtain⟨N,hN⟩:∃N:Nat,p.num=N:=⟨p.num.toNat,by unfold Aq.num;omega⟩;have T_:(p.l*1000+p.a)*1000000+p.s=N:=hN;have aj6:N<10000000000:=oM;rw[T_,hN,Mv];refine uW ?_;refine AJ 10 (fun i:Az=>⟨[(3,.p 103 6 0 0 0),(4,I (N / 10^i.2:Nat)),(11,I i.2)],[(103,some (6,.box (aN (List.replicate (10 - i.2) 0++HH N i.2))))],i.1⟩) (wT (uI @Nat.pow_zero @Nat.div_one)) ?_;intro ck i hi;refine C0 ?_ ?_<;>intro h
  .have hw:=agx (N / 10^i);have hx:(9-(i:Int)).toNat*1=9 - i:=oM;have hl:10 - i+(HH N i).length=10:=by rw[l_];omega
   have hs:=aeg N i oM;have hq:((N / 10^i:Nat):Int).tdiv 10=((N / 10^(i+1):Nat):Int):=by rw[zi (uc _),KN,<-nk];rfl
   have Wx:N / 10^i<=N:=se _ _;refine uA ?_;refine nF (uI @hw (uI @hx (uI @hl @hs))) ?_;intro K hK;refine⟨oM,oM,Nat.sub_le _ _,?_⟩;refine hK _ ?_;clear hK K;have CK:IntKind.i64.wrap ((N / 10^(i+1):Nat):Int)=((N / 10^(i+1):Nat):Int):=by have:N / 10^(i+1)<=N:=se _ _;generalize N / 10^(i+1)=q at*;rw[IntKind.wrap_i64];omega
   refine aH (uI @hq @CK) ?_;exact nX (_,i+1) ch
  refine El ?_;have:i=10:=oM;subst this;have e2:List.replicate (10-10) (0:UInt8)++HH N 10=HH N 10:=rfl;rw[e2];exact Et
end Sc
namespace Sc
open Go.Scr
def uU(s:Bs)(hs:s.length<=10)(hd:s.all sd=true):UB prog J9 220 [] [S (strOf s)] [] (I (NA 0 s:Nat)):=by
 refine MD func220 ntmps220 ?_;intro w e X hC;refine EP ?_;refine AJ s.length (fun i:Az=>⟨[(0,S (strOf s)),(3,I (NA 0 (s.take i.2):Nat)),(4,I i.2)],[],i.1⟩) (ch) ?_;intro ck i hi;have hn:=asF hd hi;have hn:NA 0 (s.take i)<10000000000:=tL hn (Il dM (by omega:i<=10));refine C0 ?_ ?_<;>intro h
 .have PP:i<s.length:=oM;have Z1:48<=(s.getD i 0).toNat/\(s.getD i 0).toNat<=57:=oT (lF hd PP);have e1:=dZ PP;have e2:=afm 0 (s.take i) (s.getD i 0);rw[<-e1]at e2;have hw:=ami (lF hd PP);have e3:((NA 0 (s.take (i+1)):Nat):Int)=(NA 0 (s.take i):Nat)*10+(((s.getD i 0).toNat:Int)-48):=oM;refine aH @hw ?_;exact nX (_,i+1) (wT @e3)
 refine El ?_;have:i=s.length:=oM;subst this;rw[Sy];exact Et
def v8(s:Bs)(hs:s.length<=1000000):UB prog J9 219 [] [S (strOf s)] [] (B (s.all sd)):=by
 refine MD func219 ntmps219 ?_;intro w e X hC;refine EP ?_;refine R7 s.length (fun i:Az=>⟨[(0,S (strOf s)),(3,I i.2)],[],i.1⟩) (fun i=>(s.take i.2).all sd=true) rfl (ch) ?_;intro ck i hi hj;simp only at hj;refine UV ?_ ?_<;>intro h
 .have PP:i<s.length:=oM;have Ov:sd (s.getD i 0)=false->B (s.all sd)=B false:=fun h=>by rw[Ka PP h]
  by_cases c0:(s.getD i 0).toNat<48
  .have e0:=oN ((((s.getD i 0).toNat:Nat):Int)<48);rw[Ov (dF oM)];refine aH @e0 ?_;exact Ed
  have e0:=Vj ((((s.getD i 0).toNat:Nat):Int)<48);by_cases c1:57<(s.getD i 0).toNat
  .have e1:=oN (57<(((s.getD i 0).toNat:Nat):Int));rw[Ov (dF oM)];refine aH (uI @e0 @e1) ?_;exact Ed
  have e1:=Vj (57<(((s.getD i 0).toNat:Nat):Int));refine zF (uI @e0 @e1) ?_;refine⟨(_,i+1),⟨uO,yM PP hj (dT ⟨oM,oM⟩)⟩,uO,ch⟩
 refine El ?_;have:i=s.length:=oM;subst this;rw[Sy]at hj;rw[hj];exact Et
def aoN(k n:Nat):aN (List.replicate k 0++HH n 0)=List.replicate k (.lit (.int .u8 0)):=by simp[HH,aN,Kk]
def apV(n:Nat):IntKind.u8.wrap (48+(n:Int).tmod 10)=((UInt8.ofNat (48+n % 10)).toNat:Nat):=by
 have h1:(n:Int).tmod 10=((n % 10:Nat):Int):=by rw[DQ oM];rfl
 rw[h1,nu oM,tE];omega
def aoj(N k i:Nat)(h:i<k):(aN (List.replicate (k - i) 0++HH N i)).set (k-1 - i) (.lit (.int .u8 ((UInt8.ofNat (48+N / 10^i % 10)).toNat:Nat)))=aN (List.replicate (k-(i+1)) 0++HH N (i+1)):=by
 rw[MR,show k-(i+1)=k-1 - i by omega,show k - i=(k-1 - i)+1 by omega,Be];simp only[aN,Mx,Z5];generalize hA:List.map Kk (List.replicate (k-1 - i) 0)=A;have EB:A.length=k-1 - i:=by rw[<-hA];simp
 rw[ap _ _ oM,EB,vW];rfl
def ag9(N k:Nat)(hN:N<10^12)(hk:k<=12)(zU:1<=k):UB prog J9 162 [] [I N,I k] [] (S (strOf (HH N k))):=by
 have hN:N<1000000000000:=hN;refine MD func162 ntmps162 ?_;intro w e X hC;refine EP ?_;refine AJ k (fun i:Az=>⟨[(0,I (N / 10^i.2:Nat)),(5,.l 108 3 0 k),(6,I ((k:Int)-1 - i.2))],[(108,some (3,.own 5 1 (aN (List.replicate (k - i.2) 0++HH N i.2))))],i.1⟩) (wK (uI @aoN @Oz) (uI @Nat.pow_zero (uI @Nat.div_one (uI @dL @Int.sub_zero)))) ?_;intro ck i hi;have hl:k - i+(HH N i).length=k:=by rw[l_];omega
 refine C0 ?_ ?_<;>intro h
 .have PP:i<k:=oM;have hw:=apV (N / 10^i);have hx:((k:Int)-1 - i).toNat=k-1 - i:=oM;have hs:=aoj N k i PP;have hq:((N / 10^i:Nat):Int).tdiv 10=((N / 10^(i+1):Nat):Int):=by rw[zi (uc _),KN,<-nk];rfl
  have Wx:N / 10^i<=N:=se _ _;have hmd:0<=((N / 10^i:Nat):Int).tmod 10/\((N / 10^i:Nat):Int).tmod 10<10:=by rw[DQ (uc _)];omega
  refine nF (uI @hw (uI @hx (uI @hl @hs))) ?_;intro K hK;refine⟨oM,oM,oM,?_⟩;refine hK _ ?_;clear hK K;have CK:IntKind.i64.wrap ((N / 10^(i+1):Nat):Int)=((N / 10^(i+1):Nat):Int):=by have:N / 10^(i+1)<=N:=se _ _;generalize N / 10^(i+1)=q at*;rw[IntKind.wrap_i64];omega
  have aX:(k:Int)-1 - i-1=(k:Int)-1-(i+1:Nat):=oM;refine aH (uI @hq (uI @CK @aX)) ?_;exact nX (_,i+1) ch
 refine El ?_;have:i=k:=oM;subst this;have e2:List.replicate (i - i) (0:UInt8)++HH N i=HH N i:=by rw[vW];rfl
 rw[e2];exact Et
def ata{p:Aq}(h:p.ok=true):∃N:Nat,p.num=N/\N<10000000000:=by have hb:=N4 h;exact⟨p.num.toNat,by unfold Aq.num;omega,by unfold Aq.num;omega⟩
theorem apZ(p:Aq):UB prog J9 112 [] [Aq.av p] [] (S (strOf p.fmt)):=by
 have h0:=anA p;refine MD func112 ntmps112 ?_;intro w e X hC;refine uZ ?_;cases c0:p.ok with
 |false=>have e:p.fmt=[]:=Ps;rw[c0]at h0;rw[e];refine uR ?_;refine I6 h0 ?_;exact Ed|true=>have hb:=N4 c0;have e:p.fmt=HH p.num.toNat 10:=Ps;have h1:=abR p.l p.a p.s ⟨hb.1,hb.2.1⟩ oM oM;obtain⟨N,hN,aj6⟩:=ata c0;have T_:(p.l*1000+p.a)*1000000+p.s=N:=hN;rw[T_]at h1;have h2:=ag9 N 10 oM dM dM;rw[c0]at h0;rw[e,hN,Mv];refine uR ?_;refine I6 h0 ?_;refine uF ?_;refine uR ?_;intro K hK;refine Dx h1 ?_;refine Dx h2 ?_;refine hK _ ?_;clear hK K;exact uP
end Sc
structure J' where
 us:Int
 sl:List (List Int)
 bn:List (List Int)
 deriving Inhabited
abbrev J'.av(x:J'):AV:=.agg [I x.us,RS x.sl,RS x.bn]
def wF(l:List J'):List AV:=l.map J'.av
theorem abn(l:List J'):(wF l).length=l.length:=by simp[wF]
def Pa{l:List J'}{i:Nat}(h:i<l.length):(wF l).getD i .bad=(l.getD i default).av:=by simp[wF,h]
theorem anN(l:List J'):PE (wF l)=True:=by refine Ie fun e he c hc=>?_;simp only[wF,A2]at he;obtain⟨x,_,rfl⟩:=he;simp only[AV.cells,rX,AY,xN]at hc;rcases hc with rfl|rfl|rfl<;>first|trivial|rfl
theorem ajZ{l:List J'}:(∀y∈wF l,y.cells.length=3)=True:=by refine Ie fun e he=>?_;simp only[wF,A2]at he;obtain⟨x,_,rfl⟩:=he;rfl
theorem aeP{l:List J'}{us:Int}{sl:List (List Int)}{bn:List (List Int)}:wF l++[.agg [.lit (.int .i64 us),.sl (Vu sl) false,.sl (Vu bn) false]]=wF (l++[⟨us,sl,bn⟩]):=by simp[wF]
theorem aq1{l:List J'}{i:Nat}{us:Int}{sl:List (List Int)}{bn:List (List Int)}:(wF l).set i (.agg [.lit (.int .i64 us),.sl (Vu sl) false,.sl (Vu bn) false])=wF (l.set i ⟨us,sl,bn⟩):=by simp[wF,Hv]
def aoV{l:List J'}{i:Nat}:(wF l).drop i=wF (l.drop i):=by simp[wF]
def aq4{l:List J'}{i:Nat}:(wF l).take i=wF (l.take i):=by simp[wF]
theorem o8:wF []=[]:=rfl
attribute [go_sem] abn anN ajZ aeP aq1
structure Uq where
 dv:Int
 sn:Bool
 rd:List UInt8
 deriving DecidableEq,Inhabited
abbrev Uq.av(x:Uq):AV:=.agg [I x.dv,B x.sn,S (strOf x.rd)]
def b7(l:List Uq):List AV:=l.map Uq.av
theorem OS(l:List Uq):(b7 l).length=l.length:=by simp[b7]
def YN{l:List Uq}{i:Nat}(h:i<l.length):(b7 l).getD i .bad=(l.getD i default).av:=by simp[b7,h]
theorem art(l:List Uq):PE (b7 l)=True:=by refine Ie fun e he c hc=>?_;simp only[b7,A2]at he;obtain⟨x,_,rfl⟩:=he;simp only[AV.cells,rX,AY,xN]at hc;rcases hc with rfl|rfl|rfl<;>first|trivial|rfl
theorem aeN{l:List Uq}:(∀y∈b7 l,y.cells.length=3)=True:=by refine Ie fun e he=>?_;simp only[b7,A2]at he;obtain⟨x,_,rfl⟩:=he;rfl
def o6{l:List Uq}{x:Uq}:b7 l++[x.av]=b7 (l++[x]):=by simp[b7]
attribute [go_sem] OS art aeN
structure UZ where
 Na:Int
 l:List J'
abbrev UZ.av(x:UZ):AV:=.agg [I x.Na,.sl (wF x.l) false]
def J'.pl(h:J'):Pl:=⟨h.sl,h.bn⟩
def qt(y:Ly)(d:Nat):Int:=(y.D.getD d default).a
def pM(y:Ly)(d:Nat):Nat:=(y.D.getD d default).b.toNat
def Wr(y:Ly)(d:Nat):Nat:=(y.D.getD d default).c.toNat
structure Sj(y:Ly)(p:Pl):Prop where
 n:y.D.length<=1000
 sl:p.Q.length<=1000
 at_:∀d,d<y.D.length->(y.D.getD d default).b=pM y d/\(y.D.getD d default).c=Wr y d/\pM y d<p.Q.length/\Wr y d<(p.Q.getD (pM y d) []).length
def Od(y:Ly)(p:Pl)(d:Nat):Int:=(p.Q.getD (pM y d) []).getD (Wr y d) 0
def CF(y:Ly)(p:Pl)(d:Nat)(h:Sj y p)(hd:d<y.D.length):UB prog J9 111 [] [y.av,p.av,I d] [] (I (Od y p d)):=by obtain⟨e1,e2,e3,e4⟩:=h.at_ d hd;have g1:=Hr hd;have g2:=au e3;have g3:=ma e4;have hn:=h.n;have hs:=h.sl;unfold Od;generalize pM y d=n at*;generalize Wr y d=k at*;generalize y.D.getD d default=x at*;generalize p.Q.getD n []=r at*;refine MD func111 ntmps111 ?_;intro w e X hC;refine uZ ?_;refine Ew (uI @g1 (uI @e1 (uI @e2 (uI @g2 @g3)))) ?_;exact uP
def SK(f:T3):Bool:=if f.a=5\/f.a=6 then decide (0<=f.c)&&decide (f.c<=9) else decide (f.c=0)
def ij(f:T3):UB prog J9 61 [] [f.av] [] (B (SK f)):=by
 unfold SK;by_cases c5:f.a=5
 .have d5:decide (f.a=5)=true:=dT c5;rw[iP (.inl c5)];cases d0:decide (0<=f.c)with
  |false=>refine MD func61 ntmps61 ?_;intro w e X hC;refine K6 @d5 ?_;exact jm @d0|true=>refine MD func61 ntmps61 ?_;intro w e X hC;refine K6 @d5 ?_;exact jm @d0
 have d5:decide (f.a=5)=false:=dF c5;by_cases c6:f.a=6
 .have d6:decide (f.a=6)=true:=dT c6;rw[iP (.inr c6)];cases d0:decide (0<=f.c)with
  |false=>refine MD func61 ntmps61 ?_;intro w e X hC;refine K6 (uI @d5 @d6) ?_;exact jm @d0|true=>refine MD func61 ntmps61 ?_;intro w e X hC;refine K6 (uI @d5 @d6) ?_;exact jm @d0
 have d6:decide (f.a=6)=false:=dF c6;rw[iN (fun h=>h.elim c5 c6)];refine MD func61 ntmps61 ?_;intro w e X hC;refine zF (uI @d5 @d6) ?_;exact uP
def Zb(y:Ly)(p:Pl)(f:T3):Bool:=
 if f.a=3 then decide (Od y p f.b.toNat≠0)
 else if f.a=4 then !decide (Od y p f.b.toNat≠0)&&!decide (qt y f.b.toNat=2)
 else decide (Od y p f.b.toNat≠0)&&decide (qt y f.b.toNat=2)
theorem QF(y:Ly)(p:Pl)(f:T3)(d:Nat)(hb:f.b=d)(h:Sj y p)(hd:d<y.D.length):UB prog J9 62 [] [y.av,p.av,f.av] [] (B (Zb y p f)):=by
 have gs:=CF y p d h hd;have g1:=Hr hd;have hn:=h.n;have e0:f.b.toNat=d:=oM;unfold Zb qt;rw[e0];generalize Od y p d=b at*;generalize y.D.getD d default=x at*;have n1:(decide ¬b=0)=!decide (b=0):=decide_not;rw[n1];by_cases c3:f.a=3
 .have d3:decide (f.a=3)=true:=dT c3;rw[iP c3];refine MD func62 ntmps62 ?_;intro w e X hC;refine uZ ?_;refine WT @hb gs ?_;refine aH (uI @hb (uI @g1 (uI @d3 @n1))) ?_;exact Ed
 have d3:decide (f.a=3)=false:=dF c3;rw[iN c3];by_cases c4:f.a=4
 .have d4:decide (f.a=4)=true:=dT c4;rw[iP c4];cases ov:decide (b=0)with
  |true=>rw[ov]at n1;refine MD func62 ntmps62 ?_;intro w e X hC;refine uZ ?_;refine WT @hb gs ?_;refine NL (uI @hb (uI @g1 (uI @d3 (uI @d4 (uI @ov @n1))))) ?_;refine K6 (uI @d4 @n1) ?_;exact jm @n1|false=>rw[ov]at n1;refine MD func62 ntmps62 ?_;intro w e X hC;refine uZ ?_;refine WT @hb gs ?_;refine NL (uI @hb (uI @g1 (uI @d3 (uI @d4 (uI @ov @n1))))) ?_;refine K6 (uI @d4 @n1) ?_;exact jm @n1
 have d4:decide (f.a=4)=false:=dF c4;rw[iN c4];cases ov:decide (b=0)with
 |true=>rw[ov]at n1;refine MD func62 ntmps62 ?_;intro w e X hC;refine uZ ?_;refine WT @hb gs ?_;refine NL (uI @hb (uI @g1 (uI @d3 (uI @d4 (uI @ov @n1))))) ?_;refine NL (uI @d4 @n1) ?_;exact jm @n1|false=>rw[ov]at n1;refine MD func62 ntmps62 ?_;intro w e X hC;refine uZ ?_;refine WT @hb gs ?_;refine NL (uI @hb (uI @g1 (uI @d3 (uI @d4 (uI @ov @n1))))) ?_;refine NL (uI @d4 @n1) ?_;exact jm @n1
end Go.Proofs.YtfcgkbinohibcaaGreatDoor
namespace Go.Inf
def W9:List Int->List Int->Bool
 |_,[]=>false|[],_::_=>true|a::r,b::t=>if a=b then W9 r t else decide (a<b)
def am(a:List Int):W9 a []=false:=by cases a<;>rfl
theorem Ax:∀a:List Int,W9 a a=false
 |[]=>rfl|a::r=>by rw[W9,iP rfl,Ax r]
theorem yZ:∀{a b c:List Int},W9 a b=true->W9 b c=true->W9 a c=true
 |_,[],_,h,_=>by rw[am]at h;cases h
 |_,_::_,[],_,h=>by rw[am]at h;cases h
 |[],_::_,_::_,_,_=>rfl|a::r,b::s,c::t,h1,h2=>by
  unfold W9 at h1 h2 ⊢;by_cases e1:a=b
  .subst e1;rw[iP rfl]at h1;by_cases e2:a=c
   .rw[iP e2]at h2 ⊢;exact yZ h1 h2
   rw[iN e2]at h2 ⊢;exact h2
  rw[iN e1]at h1;have h1:=oT h1;by_cases e2:b=c
  .subst e2;rw[iN e1];exact dT h1
  rw[iN e2]at h2;have h2:=oT h2;rw[iN oM];exact dT oM
theorem je{a b:List Int}(h:W9 a b=true):W9 b a=false:=by
 cases h2:W9 b a with
 |false=>rfl|true=>rw[<-Ax a,yZ h h2]
theorem Fu:∀{a b:List Int},W9 a b=false->W9 b a=false->a=b
 |[],[],_,_=>rfl|[],_::_,h,_=>C3|_::_,[],_,h=>C3|a::r,b::t,h1,h2=>by
  unfold W9 at h1 h2;by_cases e:a=b
  .subst e;rw[iP rfl]at h1 h2;rw[Fu h1 h2]
  rw[iN e]at h1;rw[iN fun h=>e h.symm]at h2;have h1:=oF h1;have h2:=oF h2;omega
section
variable{P:Type}(key:P->List Int)
abbrev Hy(P:Type):=Int×P
def Pk(l:List (Hy P)):Prop:=l.Pairwise fun a b=>W9 (key a.2) (key b.2)=true
structure ip(X l:List (Hy P)):Prop where
 Wh:Pk key l
 mem:∀h∈l,h∈X
 least:∀h∈l,∀x∈X,x.2=h.2->h.1<=x.1
 all:∀x∈X,∃h∈l,h.2=x.2
def Fi(X Y:List (Hy P)):Prop:=∀x∈X,∃y∈Y,y.2=x.2/\y.1<=x.1
def Fi.refl(X:List (Hy P)):Fi X X:=fun x hx=>⟨x,hx,rfl,MB _⟩
theorem ZF:∀{l l':List (Hy P)},Pk key l->Pk key l'->(∀h,h∈l↔h∈l')->l=l'
 |[],[],_,_,_=>rfl|[],b::t,_,_,h=>absurd ((h b).2 sM) sM|a::r,[],_,_,h=>absurd ((h a).1 sM) sM|a::r,b::t,h1,h2,h=>by
  obtain⟨p1,p2⟩:=xL.1 h1;obtain⟨q1,q2⟩:=xL.1 h2;have K7:a=b:=by
   rcases rX.1 ((h a).1 sM)with e|ha
   .exact e
   rcases rX.1 ((h b).2 sM)with e|hb
   .exact e.symm
   have:=je (p1 b hb);rw[q1 a ha]at this;cases this
  subst K7;have key2:∀x,x∈r↔x∈t:=fun x=>by
   constructor
   .intro hx;rcases rX.1 ((h x).1 (mC _ hx))with e|Jy
    .subst e;have:=p1 x hx;rw[Ax]at this;cases this
    exact Jy
   intro hx;rcases rX.1 ((h x).2 (mC _ hx))with e|Jy
   .subst e;have:=q1 x hx;rw[Ax]at this;cases this
   exact Jy
  rw[ZF p2 q2 key2]
theorem Pk.one{l:List (Hy P)}(h:Pk key l){a b:Hy P}(ha:a∈l)(hb:b∈l)(e:a.2=b.2):a=b:=by
 induction l with
 |nil=>cases ha
 |cons x l ih=>
  obtain⟨p1,p2⟩:=xL.1 h;rcases rX.1 ha with rfl|qh
  .rcases rX.1 hb with rfl|hb
   .rfl
   have:=p1 b hb;rw[e,Ax]at this;cases this
  rcases rX.1 hb with rfl|hb
  .have:=p1 a qh;rw[e,Ax]at this;cases this
  exact ih p2 qh hb
def ip.unique{X Y l l':List (Hy P)}(h:ip key X l)(h':ip key Y l')(h1:Fi X Y)(h2:Fi Y X):l=l':=by
 have half:∀{X Y l l':List (Hy P)},ip key X l->ip key Y l'->Fi X Y->Fi Y X->∀a∈l,a∈l':=by intro X Y l l' h h' h1 h2 a ha;obtain⟨y,hy,ey,ly⟩:=h1 a (h.mem a ha);obtain⟨b,hb,eb⟩:=h'.all y hy;have e:b.2=a.2:=eb.trans ey;have l1:b.1<=a.1:=O0 (h'.least b hb y hy eb.symm) ly;obtain⟨x,hx,ex,lx⟩:=h2 b (h'.mem b hb);have l2:a.1<=b.1:=O0 (h.least a ha x hx (ex.trans e)) lx;have:a=b:=Prod.ext (Int.le_antisymm l2 l1) e.symm;rw[this];exact hb
 exact ZF key h.Wh h'.Wh fun a=>⟨half h h' h1 h2 a,half h' h h2 h1 a⟩
def ip.self{l:List (Hy P)}(h:Pk key l):ip key l l:=
 ⟨h,fun _ h=>h,fun a ha x hx e=>by rw[h.one key ha hx e.symm];exact MB _,fun x hx=>⟨x,hx,rfl⟩⟩
def ip.nil:ip key ([]:List (Hy P)) []:=⟨.nil,sM,sM,sM⟩
variable[DecidableEq P]
def pe(l:List (Hy P))(h:Hy P):List (Hy P):=
 match l with
 |[]=>[h]|x::t=>if W9 (key x.2) (key h.2)=true then x::pe t h else if x.2=h.2 then(min h.1 x.1,h.2)::t else h::x::t
theorem ar7{l:List (Hy P)}{h a:Hy P}(ha:a∈pe key l h):a∈l\/a=h\/(a.2=h.2/\∃x∈l,x.2=h.2/\a.1=min h.1 x.1):=by
 induction l with
 |nil=>rw[pe]at ha;exact .inr (.inl (iT.1 ha))|cons x t ih=>
  rw[pe]at ha;split at ha
  .rcases rX.1 ha with rfl|qh
   .exact .inl sM
   rcases ih qh with h1|h1|⟨h1,y,hy,h2⟩
   .exact .inl (mC _ h1)
   .exact .inr (.inl h1)
   exact .inr (.inr ⟨h1,y,mC _ hy,h2⟩)
  split at ha
  .rename_i e;rcases rX.1 ha with rfl|qh
   .exact .inr (.inr ⟨rfl,x,sM,e,rfl⟩)
   exact .inl (mC _ qh)
  rcases rX.1 ha with rfl|qh
  .exact .inr (.inl rfl)
  exact .inl qh
def ib{l:List (Hy P)}{h a:Hy P}(ha:a∈pe key l h):a.2=h.2\/∃x∈l,x.2=a.2:=by
 rcases ar7 key ha with h1|rfl|⟨h1,_⟩
 .exact .inr ⟨a,h1,rfl⟩
 .exact .inl rfl
 exact .inl h1
def ip.pe{X l:List (Hy P)}{h:Hy P}(hC:ip key X l)(inj:∀x∈l,key x.2=key h.2->x.2=h.2):ip key (X++[h]) (pe key l h):=by
 have main:∀(l:List (Hy P)),Pk key l->(∀x∈l,key x.2=key h.2->x.2=h.2)->Pk key (Inf.pe key l h)/\Fi (l++[h]) (Inf.pe key l h)/\(∀a∈Inf.pe key l h,a∈l++[h])/\∀a∈Inf.pe key l h,∀x∈l++[h],x.2=a.2->a.1<=x.1:=by
  intro l;induction l with
  |nil=>intro _ _;refine⟨zx _ _,Fi.refl _,fun a ha=>ha,fun a ha x hx _=>?_⟩;rw[iT.1 ha,iT.1 hx];exact MB _|cons x t ih=>
   intro hs hi;obtain⟨p1,p2⟩:=xL.1 hs;rw[Inf.pe];by_cases c1:W9 (key x.2) (key h.2)=true
   .rw[iP c1];obtain⟨i1,i2,i3,i4⟩:=ih p2 fun y hy=>hi y (mC _ hy);have SO:x.2≠h.2:=fun e=>by rw[e,Ax]at c1;cases c1
    have low:∀a∈Inf.pe key t h,W9 (key x.2) (key a.2)=true:=fun a ha=>by
     rcases ib key ha with e|⟨y,hy,e⟩
     .rw[e];exact c1
     rw[<-e];exact p1 y hy
    refine⟨xL.2 ⟨low,i1⟩,fun y hy=>?_,fun a ha=>?_,fun a ha y hy e=>?_⟩
    .rcases rX.1 hy with rfl|hy
     .exact⟨y,sM,rfl,MB _⟩
     obtain⟨z,hz,h1⟩:=i2 y hy;exact⟨z,mC _ hz,h1⟩
    .rcases rX.1 ha with rfl|qh
     .simp
     exact mC _ (i3 a qh)
    rcases rX.1 ha with rfl|qh
    .rcases rX.1 hy with rfl|hy
     .exact MB _
     rcases ym.1 hy with hy|hy
     .have:=p1 y hy;rw[e,Ax]at this;cases this
     rw[iT.1 hy]at e;exact absurd e.symm SO
    rcases rX.1 hy with rfl|hy
    .have:=low a qh;rw[e,Ax]at this;cases this
    exact i4 a qh y hy e
   rw[iN c1];by_cases c2:x.2=h.2
   .rw[iP c2];have up:∀y∈t,W9 (key h.2) (key y.2)=true:=fun y hy=>by rw[<-c2];exact p1 y hy
    refine⟨xL.2 ⟨up,p2⟩,fun y hy=>?_,fun a ha=>?_,fun a ha y hy e=>?_⟩
    .rcases rX.1 hy with rfl|hy
     .exact⟨_,mS,c2.symm,TJ _ _⟩
     rcases ym.1 hy with hy|hy
     .exact⟨y,mC _ hy,rfl,MB _⟩
     rw[iT.1 hy];exact⟨_,mS,rfl,ae _ _⟩
    .rcases rX.1 ha with rfl|qh
     .rcases Int.le_total h.1 x.1 with hl|hl
      .rw[Int.min_eq_left hl];simp
      rw[Int.min_eq_right hl,<-c2];simp
     exact mC _ (XI _ qh)
    rcases rX.1 ha with rfl|qh
    .rcases rX.1 hy with rfl|hy
     .exact TJ _ _
     rcases ym.1 hy with hy|hy
     .have:=up y hy;rw[e,Ax]at this;cases this
     rw[iT.1 hy];exact ae _ _
    rcases rX.1 hy with rfl|hy
    .have:=p1 a qh;rw[e,Ax]at this;cases this
    rcases ym.1 hy with hy|hy
    .have:=Pk.one key p2 qh hy e.symm;rw[this];exact MB _
    rw[iT.1 hy]at e;have:=up a qh;rw[<-e,Ax]at this;cases this
   rw[iN c2];have c3:W9 (key h.2) (key x.2)=true:=by
    cases c:W9 (key h.2) (key x.2)with
    |true=>rfl|false=>exact absurd (hi x sM (Fu (by simpa using c1) c)) c2
   have up:∀y∈x::t,W9 (key h.2) (key y.2)=true:=fun y hy=>by
    rcases rX.1 hy with rfl|hy
    .exact c3
    exact yZ c3 (p1 y hy)
   refine⟨xL.2 ⟨up,hs⟩,fun y hy=>?_,fun a ha=>?_,fun a ha y hy e=>?_⟩
   .rcases ym.1 hy with hy|hy
    .exact⟨y,mC _ hy,rfl,MB _⟩
    rw[iT.1 hy];exact⟨h,sM,rfl,MB _⟩
   .rcases rX.1 ha with rfl|qh
    .simp
    exact XI _ qh
   rcases rX.1 ha with rfl|qh
   .rcases ym.1 hy with hy|hy
    .have:=up y hy;rw[e,Ax]at this;cases this
    rw[iT.1 hy];exact MB _
   rcases ym.1 hy with hy|hy
   .rw[Pk.one key hs qh hy e.symm];exact MB _
   rw[iT.1 hy]at e;have:=up a qh;rw[<-e,Ax]at this;cases this
 obtain⟨m1,m2,m3,m4⟩:=main l hC.Wh inj;refine⟨m1,fun a ha=>?_,fun a ha x hx e=>?_,fun x hx=>?_⟩
 .rcases ym.1 (m3 a ha)with h1|h1
  .exact XI _ (hC.mem a h1)
  exact mO _ h1
 .rcases ym.1 hx with hx|hx
  .obtain⟨b,hb,eb⟩:=hC.all x hx;exact O0 (m4 a ha b (XI _ hb) (eb.trans e)) (hC.least b hb x hx eb.symm)
  exact m4 a ha x (mO _ hx) e
 rcases ym.1 hx with hx|hx
 .obtain⟨b,hb,eb⟩:=hC.all x hx;obtain⟨z,hz,ez,_⟩:=m2 b (XI _ hb);exact⟨z,hz,ez.trans eb⟩
 obtain⟨z,hz,ez,_⟩:=m2 x (mO _ hx);exact⟨z,hz,ez⟩
structure y9(X l:List (Hy P)):Prop where
 one:l.Pairwise fun a b=>a.2≠b.2
 mem:∀h∈l,h∈X
 least:∀h∈l,∀x∈X,x.2=h.2->h.1<=x.1
 all:∀x∈X,∃h∈l,h.2=x.2
def Bb:List (Hy P)->Hy P->List (Hy P)
 |[],h=>[h]|x::t,h=>if x.2=h.2 then(min x.1 h.1,x.2)::t else x::Bb t h
def y9.nil:y9 ([]:List (Hy P)) []:=⟨.nil,sM,sM,sM⟩
def y9.sorted{X l l':List (Hy P)}(h:y9 X l)(hp:l'.Perm l)(hs:l'.Pairwise fun a b=>W9 (key b.2) (key a.2)=false)(inj:∀a∈l,∀b∈l,key a.2=key b.2->a.2=b.2):ip key X l':=by
 have wE:l'.Pairwise fun a b=>a.2≠b.2:=(hp.pairwise_iff (fun h=>FX h)).2 h.one;refine⟨?_,fun a ha=>h.mem a (hp.mem_iff.1 ha),fun a ha=>h.least a (hp.mem_iff.1 ha),fun x hx=>?_⟩
 .refine Cf ?_ (hs.and wE);intro a b ha hb K7;cases c:W9 (key a.2) (key b.2)with
  |true=>rfl|false=>exact absurd (inj a (hp.mem_iff.1 ha) b (hp.mem_iff.1 hb) (Fu c K7.1)) K7.2
 obtain⟨a,ha,e⟩:=h.all x hx;exact⟨a,hp.mem_iff.2 ha,e⟩
theorem pd:∀{l:List (Hy P)},(l.Pairwise fun a b=>a.2≠b.2)->∀{a b:Hy P},a∈l->b∈l->a.2=b.2->a=b
 |[],_,a,_,ha,_,_=>by cases ha
 |z::l,hl,a,b,ha,hb,e=>by
  obtain⟨r1,r2⟩:=xL.1 hl;rcases rX.1 ha with e1|h1
  .rcases rX.1 hb with e2|h2
   .rw[e1,e2]
   rw[e1]at e;exact absurd e (r1 b h2)
  rcases rX.1 hb with e2|h2
  .rw[e2]at e;exact absurd e.symm (r1 a h1)
  exact pd r2 h1 h2 e
theorem bu{l:List (Hy P)}{h a:Hy P}(ha:a∈Bb l h):a.2=h.2\/∃x∈l,x.2=a.2:=by
 induction l with
 |nil=>rw[Bb]at ha;rw[iT.1 ha];exact .inl rfl|cons x t ih=>
  rw[Bb]at ha;split at ha
  .rcases rX.1 ha with rfl|qh
   .exact .inr ⟨x,sM,rfl⟩
   exact .inr ⟨a,mC _ qh,rfl⟩
  rcases rX.1 ha with rfl|qh
  .exact .inr ⟨a,sM,rfl⟩
  rcases ih qh with e|⟨y,hy,e⟩
  .exact .inl e
  exact .inr ⟨y,mC _ hy,e⟩
def y9.Bb{X l:List (Hy P)}{h:Hy P}(hG:y9 X l):y9 (X++[h]) (Bb l h):=by
 have main:∀l:List (Hy P),(l.Pairwise fun a b=>a.2≠b.2)->((Inf.Bb l h).Pairwise fun a b=>a.2≠b.2)/\Fi (l++[h]) (Inf.Bb l h)/\(∀a∈Inf.Bb l h,a∈l++[h])/\∀a∈Inf.Bb l h,∀x∈l++[h],x.2=a.2->a.1<=x.1:=by
  intro l;induction l with
  |nil=>intro _;refine⟨zx _ _,Fi.refl _,fun a ha=>ha,fun a ha x hx _=>?_⟩;rw[iT.1 ha,iT.1 hx];exact MB _|cons x t ih=>
   intro hs;obtain⟨p1,p2⟩:=xL.1 hs;rw[Inf.Bb];by_cases c:x.2=h.2
   .rw[iP c];refine⟨xL.2 ⟨fun y hy=>p1 y hy,p2⟩,fun y hy=>?_,fun a ha=>?_,fun a ha y hy e=>?_⟩
    .rcases rX.1 hy with rfl|hy
     .exact⟨_,mS,rfl,ae _ _⟩
     rcases ym.1 hy with hy|hy
     .exact⟨y,mC _ hy,rfl,MB _⟩
     rw[iT.1 hy];exact⟨_,mS,c,TJ _ _⟩
    .rcases rX.1 ha with rfl|qh
     .rcases Int.le_total x.1 h.1 with hl|hl
      .rw[Int.min_eq_left hl];simp
      rw[Int.min_eq_right hl,c];simp
     exact mC _ (XI _ qh)
    rcases rX.1 ha with rfl|qh
    .rcases rX.1 hy with rfl|hy
     .exact ae _ _
     rcases ym.1 hy with hy|hy
     .exact absurd e.symm (p1 y hy)
     rw[iT.1 hy];exact TJ _ _
    rcases rX.1 hy with rfl|hy
    .exact absurd e (p1 a qh)
    rcases ym.1 hy with hy|hy
    .rw[pd p2 qh hy e.symm];exact MB _
    rw[iT.1 hy,<-c]at e;exact absurd e (p1 a qh)
   rw[iN c];obtain⟨i1,i2,i3,i4⟩:=ih p2;have far:∀a∈Inf.Bb t h,x.2≠a.2:=fun a ha=>by
    rcases bu ha with e|⟨y,hy,e⟩
    .rw[e];exact c
    rw[<-e];exact p1 y hy
   refine⟨xL.2 ⟨far,i1⟩,fun y hy=>?_,fun a ha=>?_,fun a ha y hy e=>?_⟩
   .rcases rX.1 hy with rfl|hy
    .exact⟨y,sM,rfl,MB _⟩
    obtain⟨z,hz,h1⟩:=i2 y hy;exact⟨z,mC _ hz,h1⟩
   .rcases rX.1 ha with rfl|qh
    .simp
    exact mC _ (i3 a qh)
   rcases rX.1 ha with rfl|qh
   .rcases rX.1 hy with rfl|hy
    .exact MB _
    rcases ym.1 hy with hy|hy
    .exact absurd e.symm (p1 y hy)
    rw[iT.1 hy]at e;exact absurd e.symm c
   rcases rX.1 hy with rfl|hy
   .exact absurd e (far a qh)
   exact i4 a qh y hy e
 obtain⟨m1,m2,m3,m4⟩:=main l hG.one;refine⟨m1,fun a ha=>?_,fun a ha x hx e=>?_,fun x hx=>?_⟩
 .rcases ym.1 (m3 a ha)with h1|h1
  .exact XI _ (hG.mem a h1)
  exact mO _ h1
 .rcases ym.1 hx with hx|hx
  .obtain⟨b,hb,eb⟩:=hG.all x hx;exact O0 (m4 a ha b (XI _ hb) (eb.trans e)) (hG.least b hb x hx eb.symm)
  exact m4 a ha x (mO _ hx) e
 rcases ym.1 hx with hx|hx
 .obtain⟨b,hb,eb⟩:=hG.all x hx;obtain⟨z,hz,ez,_⟩:=m2 b (XI _ hb);exact⟨z,hz,ez.trans eb⟩
 obtain⟨z,hz,ez,_⟩:=m2 x (mO _ hx);exact⟨z,hz,ez⟩
end
section
variable{F W:Type}[DecidableEq W](MK:F->W)
def ext:Nat->List F->List F->List (List F)
 |0,_,_=>[]|_+1,[],_=>[]|k+1,f::r,sm=>(if sm.any (fun g=>decide (MK f=MK g)) then[] else(sm++[f])::ext k r (sm++[f]))++ext (k+1) r sm
def aiZ(sm t:List F):Prop:=(t.Pairwise fun a b=>MK a≠MK b)/\∀f∈t,∀g∈sm,MK f≠MK g
def zg(o s:List F):ext MK 0 o s=[]:=by cases o<;>rfl
theorem w8:∀{others:List F}{k:Nat}{sm X:List F},X∈ext MK k others sm↔∃t,t≠[]/\t.Sublist others/\t.length<=k/\aiZ MK sm t/\X=sm++t
 |[],k,sm,X=>by
  have:ext MK k [] sm=[]:=by cases k<;>rfl
  rw[this];constructor
  .intro h;cases h
  rintro⟨t,h0,h1,-⟩;exact absurd (List.sublist_nil.1 h1) h0
 |f::r,0,sm,X=>by
  rw[zg];constructor
  .intro h;cases h
  rintro⟨t,h0,-,h2,-⟩;exact absurd (EH.1 (Nat.le_zero.1 h2)) h0
 |f::r,k+1,sm,X=>by
  rw[ext,ym,w8 (others:=r) (k:=k+1)];by_cases c:sm.any (fun g=>decide (MK f=MK g))=true
  .rw[iP c];obtain⟨g,hg,hw⟩:=X4.1 c;have hw:=oT hw;constructor
   .rintro(h|⟨t,h0,h1,h2⟩)
    .cases h
    exact⟨t,h0,h1.cons f,h2⟩
   rintro⟨t,h0,h1,h2,h3,h4⟩;refine .inr ⟨t,h0,?_,h2,h3,h4⟩;cases h1 with
   |cons _ h=>exact h|cons_cons _ h=>exact absurd hw (h3.2 f sM g hg)
  rw[iN c,rX,w8 (others:=r) (k:=k)];have Ov:∀g∈sm,MK f≠MK g:=fun g hg e=>c (X4.2 ⟨g,hg,dT e⟩);constructor
  .rintro((rfl|⟨t,h0,h1,h2,h3,rfl⟩)|⟨t,h0,h1,h2⟩)
   .refine⟨[f],sM,(VX r).cons_cons f,sM,⟨zx _ _,fun a ha g hg=>?_⟩,rfl⟩;rw[iT.1 ha];exact Ov g hg
   .refine⟨f::t,sM,h1.cons_cons f,H0,⟨xL.2 ⟨fun a ha e=>h3.2 a ha f sM e.symm,h3.1⟩,fun a ha g hg=>?_⟩,sM⟩;rcases rX.1 ha with rfl|ha
    .exact Ov g hg
    exact h3.2 a ha g (XI _ hg)
   exact⟨t,h0,h1.cons f,h2⟩
  rintro⟨t,h0,h1,h2,h3,h4⟩;cases h1 with
  |cons _ h=>exact .inr ⟨t,h0,h,h2,h3,h4⟩|cons_cons _ h=>
   rename_i t;obtain⟨p1,p2⟩:=xL.1 h3.1;refine .inl ?_;by_cases ht:t=[]
   .subst ht;exact .inl h4
   refine .inr ⟨t,ht,h,H0,⟨p2,fun a ha g hg=>?_⟩,by rw[h4];simp⟩;rcases ym.1 hg with hg|hg
   .exact h3.2 a (mC _ ha) g hg
   rw[iT.1 hg];exact fun e=>p1 a ha e.symm
def il(k:Nat)(others:List F):List (List F):=[]::ext MK k others []
def DU{k:Nat}{others X:List F}:X∈il MK k others↔X.Sublist others/\X.length<=k/\X.Pairwise fun a b=>MK a≠MK b:=by
 unfold il;rw[rX,w8];constructor
 .rintro(rfl|⟨t,-,h1,h2,h3,h4⟩)
  .exact⟨VX _,zL _,.nil⟩
  have e:X=t:=h4;subst e;exact⟨h1,h2,h3.1⟩
 rintro⟨h1,h2,h3⟩;by_cases h:X=[]
 .exact .inl h
 exact .inr ⟨X,h,h1,h2,⟨h3,fun _ _ g hg=>by cases hg⟩,sM⟩
variable(mk:Nat->W->F)
def MT(sets:List W->List (List F)):List W->List (List F)
 |[]=>[]|w::r=>((sets r).map fun t=>mk 1 w::t)++((sets r).map fun t=>mk 2 w::t)++MT sets r
def F9:Nat->List W->List (List F)
 |0,_=>[[]]|n+1,ws=>[]::MT mk (F9 n) ws
theorem lD{sets:List W->List (List F)}:∀{ws:List W}{X:List F},X∈MT mk sets ws↔∃a w r t k,ws=a++w::r/\t∈sets r/\(k=1\/k=2)/\X=mk k w::t
 |[],X=>by
  constructor
  .intro h;cases h
  rintro⟨a,w,r,t,k,h,-⟩;simp at h
 |w::r,X=>by
  rw[MT,ym,ym,lD (ws:=r)];simp only[A2];constructor
  .rintro((⟨t,ht,rfl⟩|⟨t,ht,rfl⟩)|⟨a,w',r',t,k,h,h2⟩)
   .exact⟨[],w,r,t,1,rfl,ht,.inl rfl,rfl⟩
   .exact⟨[],w,r,t,2,rfl,ht,.inr rfl,rfl⟩
   exact⟨w::a,w',r',t,k,by rw[h];rfl,h2⟩
  rintro⟨a,w',r',t,k,h,ht,hk,rfl⟩;cases a with
  |nil=>
   simp only[fj,bD]at h;obtain⟨rfl,rfl⟩:=h;rcases hk with rfl|rfl
   .exact .inl (.inl ⟨t,ht,rfl⟩)
   exact .inl (.inr ⟨t,ht,rfl⟩)
  |cons b a=>simp only[Mb,bD]at h;exact .inr ⟨a,w',r',t,k,h.2,ht,hk,rfl⟩
theorem HF:∀{n:Nat}{ws:List W}{X:List F},X∈F9 mk n ws↔∃l:List (Nat×W),X=l.map (fun x=>mk x.1 x.2)/\(l.map (·.2)).Sublist ws/\l.length<=n/\∀x∈l,x.1=1\/x.1=2
 |0,ws,X=>by
  rw[F9,iT];constructor
  .rintro rfl;exact⟨[],rfl,VX _,lR _,sM⟩
  rintro⟨l,rfl,-,h,-⟩;rw[EH.1 (Nat.le_zero.1 h)];rfl
 |n+1,ws,X=>by
  rw[F9,rX,lD];constructor
  .rintro(rfl|⟨a,w,r,t,k,rfl,ht,hk,rfl⟩)
   .exact⟨[],rfl,VX _,zL _,sM⟩
   obtain⟨l,rfl,h1,h2,h3⟩:=HF.1 ht;refine⟨(k,w)::l,rfl,?_,H0,fun x hx=>?_⟩
   .exact(h1.cons_cons w).trans (List.sublist_append_right a _)
   rcases rX.1 hx with rfl|hx
   .exact hk
   exact h3 x hx
  rintro⟨l,rfl,h1,h2,h3⟩;cases l with
  |nil=>exact .inl rfl|cons x l=>
   refine .inr ?_;rw[b_]at h1;have:∀{ws:List W},(x.2::l.map (·.2)).Sublist ws->∃a r,ws=a++x.2::r/\(l.map (·.2)).Sublist r:=by
    intro ws;induction ws with
    |nil=>intro h;cases h
    |cons b ws ih=>
     intro h;cases h with
     |cons _ h=>obtain⟨a,r,e,h⟩:=ih h;exact⟨b::a,r,by rw[e];rfl,h⟩
     |cons_cons _ h=>exact⟨[],ws,rfl,h⟩
   obtain⟨a,r,rfl,h4⟩:=this h1;exact⟨a,x.2,r,_,x.1,rfl,HF.2 ⟨l,rfl,h4,H0,fun y hy=>h3 y (mC _ hy)⟩,h3 x sM,rfl⟩
end
section
variable{F P:Type}
def GU(step:List F->P)(cost:P->Option Int)(used budget:Int)(S:List (List F)):List (Hy P):=
 S.filterMap fun X=>match cost (step X)with
  |none=>none|some c=>if used+X.length+c<=budget then some (used+X.length+c,step X) else none
def CD{step:List F->P}{cost:P->Option Int}{used budget:Int}{S:List (List F)}{h:Hy P}:
  h∈GU step cost used budget S↔∃X∈S,∃c,cost (step X)=some c/\used+X.length+c<=budget/\h=(used+X.length+c,step X):=by
 unfold GU;rw[Zz];constructor
 .rintro⟨X,hX,h1⟩;split at h1
  .cases h1
  rename_i c hc;split at h1
  .rename_i hl;exact⟨X,hX,c,hc,hl,(Qz h1).symm⟩
  cases h1
 rintro⟨X,hX,c,hc,hl,rfl⟩;refine⟨X,hX,?_⟩;rw[hc];simp only;rw[iP hl]
def aaI{step:List F->P}{cost:P->Option Int}{used budget:Int}{S S':List (List F)}(h:∀X∈S,∃Y∈S',step Y=step X/\Y.length<=X.length):
  Fi (GU step cost used budget S) (GU step cost used budget S'):=by
 intro x hx;obtain⟨X,hX,c,hc,hl,rfl⟩:=CD.1 hx;obtain⟨Y,hY,e,hle⟩:=h X hX;refine⟨(used+Y.length+c,step Y),CD.2 ⟨Y,hY,c,by rw[e];exact hc,?_,rfl⟩,e,?_⟩
 .omega
 show used+(Y.length:Int)+c<=used+(X.length:Int)+c;omega
def Fi.flatMap{α:Type}{l:List α}{f g:α->List (Hy P)}(h:∀a∈l,Fi (f a) (g a)):Fi (l.flatMap f) (l.flatMap g):=by intro x hx;obtain⟨a,ha,hx⟩:=CJ.1 hx;obtain⟨y,hy,e⟩:=h a ha x hx;exact⟨y,CJ.2 ⟨a,ha,hy⟩,e⟩
variable{W:Type}[DecidableEq W]
end
theorem kO{α:Type}[DecidableEq α]:∀{l m:List α},l.Nodup->(∀a∈l,a∈m)->l.length<=m.length
 |[],_,_,_=>zL _|a::l,m,h,hs=>by obtain⟨h1,h2⟩:=TV.1 h;have ha:a∈m:=hs a sM;have:=kO (l:=l) (m:=m.erase a) h2 fun b hb=>(List.mem_erase_of_ne (fun e=>h1 (by rw[<-e];exact hb))).2 (hs b (mC _ hb));rw[List.length_erase_of_mem ha]at this;have:=List.length_pos_of_mem ha;rw[dO];omega
section
variable{P:Type}[DecidableEq P](key:P->List Int)
def y9.Ue{X l:List (Hy P)}(h:y9 X l):(l.map (·.2)).Nodup:=yp.2 h.one
def ip.Ue{X l:List (Hy P)}(h:ip key X l):(l.map (·.2)).Nodup:=by refine yp.2 (h.Wh.imp fun {a b} K7 e=>?_);rw[e,Ax]at K7;cases K7
def Jm{X Y g l:List (Hy P)}(hg:(g.map (·.2)).Nodup)(hX:∀a∈g,∃x∈X,x.2=a.2)(hl:∀x∈X,∃a∈l,a.2=x.2):g.length<=l.length:=by
 have:=kO hg (m:=l.map (·.2)) fun p hp=>by obtain⟨a,ha,rfl⟩:=A2.1 hp;obtain⟨x,hx,e⟩:=hX a ha;obtain⟨b,hb,e2⟩:=hl x hx;exact A2.2 ⟨b,hb,e2.trans e⟩
 simpa using this
def L0(lim:Nat)(G:List (Hy P))(h:Hy P):List (Hy P):=if lim<G.length then G else Bb G h
def vM(lim:Nat)(X G:List (Hy P)):Prop:=(G.length<=lim+1)/\((G.length<=lim/\y9 X G)\/(lim<G.length/\(G.map (·.2)).Nodup/\∀a∈G,∃x∈X,x.2=a.2))
theorem wQ(G:List (Hy P))(h:Hy P):(Bb G h).length<=G.length+1:=by
 induction G with
 |nil=>exact lR _|cons x t ih=>
  rw[Bb];split
  .simp
  simp only[dO];omega
def vM.nil(lim:Nat):vM lim ([]:List (Hy P)) []:=⟨zL _,.inl ⟨zL _,.nil⟩⟩
def vM.step{lim:Nat}{X G:List (Hy P)}{h:Hy P}(hG:vM lim X G):vM lim (X++[h]) (L0 lim G h):=by
 obtain⟨h1,h2⟩:=hG;unfold L0;rcases h2 with ⟨h2,h3⟩|⟨h2,h3,h4⟩
 .rw[iN oM];have hg:=h3.Bb (h:=h);have hl:=wQ G h;refine⟨oM,?_⟩;by_cases c:(Bb G h).length<=lim
  .exact .inl ⟨c,hg⟩
  exact .inr ⟨oM,hg.Ue,fun a ha=>⟨a,hg.mem a ha,rfl⟩⟩
 rw[iP h2];refine⟨h1,.inr ⟨h2,h3,fun a ha=>?_⟩⟩;obtain⟨x,hx,e⟩:=h4 a ha;exact⟨x,XI _ hx,e⟩
theorem vM.foldl{lim:Nat}:∀{Y X G:List (Hy P)},vM lim X G->vM lim (X++Y) (Y.foldl (L0 lim) G)
 |[],X,G,h=>by rw[MP];exact h|y::Y,X,G,h=>by have:=vM.foldl (Y:=Y) (h.step (h:=y));rw[Z5]at this;exact this
def vM.over{lim:Nat}{X Y G l:List (Hy P)}(hG:vM lim X G)(hl:ip key Y l)(h1:Fi X Y)(h2:Fi Y X):lim<G.length↔lim<l.length:=by
 have hX:∀x∈X,∃a∈l,a.2=x.2:=fun x hx=>by obtain⟨y,hy,e,_⟩:=h1 x hx;obtain⟨a,ha,e2⟩:=hl.all y hy;exact⟨a,ha,e2.trans e⟩
 constructor
 .intro h;rcases hG.2 with ⟨h3,-⟩|⟨-,h3,h4⟩
  .omega
  have:=Jm (Y:=Y) h3 h4 hX;omega
 intro h;rcases hG.2 with ⟨-,h3⟩|⟨h3,-⟩
 .have:l.length<=G.length:=Jm (Y:=Y) (X:=X) hl.Ue (fun a ha=>by
   obtain⟨x,hx,e,_⟩:=h2 a (hl.mem a ha);exact⟨x,hx,e⟩) h3.all
  omega
 exact h3
end
def oa(s b:List (List Int)):List Int:=s.flatten++b.flatMap fun x=>(x.length:Int)::x
theorem jX:∀{s s':List (List Int)}{r r':List Int},s.map List.length=s'.map List.length->s.flatten++r=s'.flatten++r'->s=s'/\r=r'
 |[],[],_,_,_,h=>⟨rfl,A6⟩|[],_::_,_,_,h,_=>tC|_::_,[],_,_,h,_=>tC|x::s,y::s',r,r',hl,h=>by simp only[b_,bD]at hl;simp only[List.flatten_cons,Z5]at h;obtain⟨h1,h2⟩:=List.append_inj h hl.1;obtain⟨h3,h4⟩:=jX hl.2 h2;exact⟨by rw[h1,h3],h4⟩
theorem qM:∀{b b':List (List Int)},b.length=b'.length->(b.flatMap fun x=>(x.length:Int)::x)=(b'.flatMap fun x=>(x.length:Int)::x)->b=b'
 |[],[],_,_=>rfl|[],_::_,h,_=>tC|_::_,[],h,_=>tC|x::b,y::b',hl,h=>by simp only[kA,Mb,bD]at h;obtain⟨h0,h⟩:=h;obtain⟨h1,h2⟩:=List.append_inj h oM;rw[h1,qM w9 h2]
def afj{s s' b b':List (List Int)}(h1:s.map List.length=s'.map List.length)(h2:b.length=b'.length)(h:oa s b=oa s' b'):s=s'/\b=b':=by unfold oa at h;obtain⟨h3,h4⟩:=jX h1 h;exact⟨h3,qM h2 h4⟩
end Go.Inf
namespace Go.Proofs.YtfcgkbinohibcaaGreatDoor
open Go Go.Sym Go.Proofs.Tryz
def qN(p:Pl):List Int:=Inf.oa p.Q p.R
structure Gm(p:Pl):Prop where
 sl:p.Q.length<=1000
 bl:p.R.length<=1000
 sr:∀r∈p.Q,r.length<=1000
 br:∀r∈p.R,r.length<=1000
theorem CS:∀{l:List (List Int)},(∀r∈l,r.length<=1000)->l.flatten.length<=l.length*1000
 |[],_=>lR _|x::l,h=>by have h1:=h x sM;have h2:=CS (l:=l) fun r hr=>h r (mC _ hr);simp only[List.flatten_cons,aL,dO];omega
def gp(l:List (List Int)):List Int:=l.flatMap fun x=>(x.length:Int)::x
theorem LW:gp []=[]:=rfl
theorem aY:∀{l:List (List Int)},(∀r∈l,r.length<=1000)->(gp l).length<=l.length*1001
 |[],_=>lR _|x::l,h=>by have h1:=h x sM;have h2:=aY (l:=l) fun r hr=>h r (mC _ hr);have e:gp (x::l)=((x.length:Int)::x)++gp l:=rfl;rw[e];simp only[aL,dO];omega
def Pq{α:Type}{l:List α}{i:Nat}(h:i<l.length)(d:α):l.take (i+1)=l.take i++[l.getD i d]:=by rw[List.take_succ,gG h,gE,gG h];rfl
def qj{l:List (List Int)}{i:Nat}(h:i<l.length):(l.take (i+1)).flatten=(l.take i).flatten++l.getD i []:=by rw[Pq h []];simp
def zq{l:List (List Int)}{i:Nat}(h:i<l.length):gp (l.take (i+1))=gp (l.take i)++[((l.getD i []).length:Int)]++l.getD i []:=by rw[Pq h []];simp[gp]
def Tb(a b:List Int):tk a++tk b=tk (a++b):=by simp[tk]
def Ug{α:Type}{l:List α}{i:Nat}(h:i<l.length)(d:α):l.getD i d∈l:=by rw[gE,gG h];exact gM h
def Gs(p:Pl):qN p=p.Q.flatten++gp p.R:=by unfold qN Inf.oa gp;rfl
def u'(p:Pl)(h:Gm p):UB prog J9 182 [] [p.av] [] (IS (qN p)):=by
 obtain⟨h1,h2,h3,h4⟩:=h;rw[Gs];refine MD func182 ntmps182 ?_;intro w e X hC;refine EP ?_;refine AJ p.Q.length (fun i:Az=>⟨[(1,.p 101 1 0 0 0),(3,.l 103 3 0 ((p.Q.take i.2).flatten).length),(4,I i.2)],(103,some (3,.own 3 1 (tk (p.Q.take i.2).flatten)))::(101,some (1,.box (GE p)))::[],i.1⟩) (ch) ?_;intro ck i hi;have cQ:=CS (l:=p.Q.take i) fun r hr=>h3 r (Cz hr);rw[Hh,Q5 hi]at cQ;refine UV ?_ ?_<;>intro c
 .have PP:i<p.Q.length:=oM;have hg:=au PP;have hr:=h3 _ (Ug PP []);have hs:=qj PP;generalize p.Q.getD i []=r at*;have jJ:((p.Q.take (i+1)).flatten).length=((p.Q.take i).flatten).length+r.length:=by rw[hs,aL]
  refine aH (uI @hg @Tb) ?_;exact nX (_,i+1) (wK @hs @jJ)
 refine El ?_;have Wd:i=p.Q.length:=oM;subst Wd;rw[Sy]at cQ ⊢;generalize p.Q.flatten=A at*;refine EP ?_;refine AJ p.R.length (fun i:Az=>⟨[(1,.p 101 1 0 0 0),(3,.l 103 3 0 (A++gp (p.R.take i.2)).length),(5,I i.2)],(103,some (3,.own 3 1 (tk (A++gp (p.R.take i.2)))))::(101,some (1,.box (GE p)))::[],i.1⟩) (wK @LW @LW) ?_;intro ck2 k hk;have OT:=aY (l:=p.R.take k) fun r hr=>h4 r (Cz hr);rw[Hh,Q5 hk]at OT;have EB:(A++gp (p.R.take k)).length=A.length+(gp (p.R.take k)).length:=aL;refine UV ?_ ?_<;>intro c
 .have PP:k<p.R.length:=oM;have hg:=au PP;have hr:=h4 _ (Ug PP []);have hs:A++gp (p.R.take (k+1))=A++gp (p.R.take k)++[((p.R.getD k []).length:Int)]++p.R.getD k []:=by rw[zq PP];simp only[Z5]
  generalize p.R.getD k []=r at*;generalize A++gp (p.R.take k)=M at*;refine Ew (uI @hg (uI @Tb @EB)) ?_;have jJ:(A++gp (p.R.take (k+1))).length=A.length+(gp (p.R.take k)).length+1+r.length:=by rw[hs,aL,aL,EB];rfl
  refine uZ ?_;exact nX (_,k+1) (wK @hs @jJ)
 refine El ?_;have Wd:k=p.R.length:=oM;subst Wd;rw[Sy];refine OD ?_;try rfl
 exact uX
def mg(x:T3):Go.Scr.Aq:=⟨x.a,x.b,x.c⟩
def YR(pl:List T3)(b:Int):List UInt8:=if 1<=b/\b<=pl.length then(mg (pl.getD (b-1).toNat default)).fmt else[]
def ME(y:Ly)(p:Pl)(pl:List T3)(d:Nat):Uq:=⟨d,decide (Od y p d≠0),if Od y p d≠0/\qt y d=2 then YR pl (Od y p d) else[]⟩
def zZ(y:Ly)(p:Pl)(pl:List T3)(d:Nat)(h:Sj y p)(hd:d<y.D.length)(JW:pl.length<=1000)(hb:0<=Od y p d/\Od y p d<=pl.length):
  UB prog J9 63 [] [y.av,p.av,.sl (YA pl) false,I d] [] (ME y p pl d).av:=by
 have gs:=CF y p d h hd;have g1:=Hr hd;have hn:=h.n;unfold ME qt;generalize Od y p d=b at*;generalize y.D.getD d default=x at*;by_cases h0:b=0
 .subst h0;refine MD func63 ntmps63 ?_;intro w e X hC;refine BL ?_;refine R6 gs ?_;refine uZ ?_;refine UN ?_;refine A_ ?_;rw[show f63.results.toList=[.cell 8 65] from rfl];first|refine jW ?_|exact W5
  rw[iN (fun h=>h.1.elim)];rfl
 have d0:decide (b≠0)=true:=dT h0;have PP:(b-1).toNat<pl.length:=oM;have g2:=Hr PP;have gf:=Sc.apZ (mg (pl.getD (b-1).toNat default));by_cases h2:x.a=2
 .have d2:decide (x.a=2)=true:=dT h2;rw[d0,iP ⟨h0,h2⟩,YR,iP oM];generalize pl.getD (b-1).toNat default=z at*;refine MD func63 ntmps63 ?_;intro w e X hC;refine BL ?_;refine R6 gs ?_;refine K6 @d0 ?_;refine K6 (uI @g1 @d2) ?_;refine WT @g2 gf ?_;refine WE ?_;rw[show f63.results.toList=[.cell 8 65] from rfl];exact W5
 have d2:decide (x.a=2)=false:=dF h2;rw[d0,iN (fun h=>h2 h.2)];refine MD func63 ntmps63 ?_;intro w e X hC;refine BL ?_;refine R6 gs ?_;refine K6 @d0 ?_;refine zF (uI @g1 @d2) ?_;refine A_ ?_;rw[show f63.results.toList=[.cell 8 65] from rfl];first|refine jW ?_|exact W5
 rfl
def lq(y:Ly)(p:Pl)(pl:List T3)(i:Nat):List Uq:=(List.range i).map (ME y p pl)
def Ai(y:Ly)(p:Pl)(pl:List T3):List Uq:=lq y p pl y.D.length
def arA(y:Ly)(p:Pl)(pl:List T3)(i:Nat):lq y p pl (i+1)=lq y p pl i++[ME y p pl i]:=by simp[lq,RM]
def lY(y:Ly)(p:Pl)(pl:List T3)(i:Nat):(lq y p pl i).length=i:=by simp[lq]
def alP(y:Ly)(p:Pl)(pl:List T3)(h:Sj y p)(JW:pl.length<=1000)(hb:∀d,d<y.D.length->0<=Od y p d/\Od y p d<=pl.length):
  UB prog J9 20 [] [y.av,p.av,.sl (YA pl) false,.sl [] false] [] (.F1 [.sl (b7 (Ai y p pl)) false,I 0]):=by
 have hn:=h.n;have gr (d:Nat) (hd:d<y.D.length):=zZ y p pl d h hd JW (hb d hd);refine MD func20 ntmps20 ?_;intro w e X hC;refine uZ ?_;refine uF ?_;refine EP ?_;refine PV (fun q:Az=>⟨[(2,.sl (YA pl) false),(3,.sl [] false),(4,.p 104 1 0 0 0),(5,.p 105 2 0 0 0),(10,I 0)],(105,some (2,.box (GE p)))::(104,some (1,.box (r8 y)))::[],q.1⟩) (fun _=>True) (fun _=>0) (_,0) trivial (ch) ?_;rintro⟨ck,u⟩ -;refine uA ?_;refine uF ?_;refine El ?_;refine EP ?_;refine PV (fun q:Az=>⟨[(2,.sl (YA pl) false),(3,.sl [] false),(4,.p 104 1 0 0 0),(5,.p 105 2 0 0 0),(12,I 0)],(105,some (2,.box (GE p)))::(104,some (1,.box (r8 y)))::[],q.1⟩) (fun _=>True) (fun _=>0) (_,0) trivial (ch) ?_;rintro⟨ck,v⟩ -;refine uA ?_;refine uF ?_;refine El ?_;refine EP ?_;refine PV (fun q:Nat×Az=>⟨[(2,.sl (YA pl) false),(3,.sl [] false),(4,.p 104 1 0 0 0),(5,.p 105 2 0 0 0),(14,.l 114 q.2.2 0 q.2.1),(15,I q.2.1)],(114,some (q.2.2,.own 65 3 (b7 (lq y p pl q.2.1))))::(105,some (2,.box (GE p)))::(104,some (1,.box (r8 y)))::[],q.1⟩) (fun q=>q.2.1<=y.D.length) (fun q=>y.D.length-q.2.1) (_,0,_) (zL _) (ch) ?_;rintro⟨ck,i,g⟩ hi;simp only at hi;have S0:=lY y p pl i;have Mo:=arA y p pl i;generalize X2:lq y p pl i=o at*;refine UV ?_ ?_<;>intro c
 .have PP:i<y.D.length:=oM;have gri:=gr i PP;generalize ME y p pl i=r at*;refine uR ?_;refine R6 gri ?_;refine EP ?_;refine PV (fun q:Nat×Az=>⟨[(2,.sl (YA pl) false),(3,.sl [] false),(4,.p 104 1 0 0 0),(5,.p 105 2 0 0 0),(14,.l 114 g 0 i),(15,I i),(16,.p 116 q.2.2 0 0 0),(17,I 0)],(116,some (q.2.2,.box [I r.dv,B r.sn,S (strOf r.rd)]))::(114,some (g,.own 65 3 (b7 o)))::(105,some (2,.box (GE p)))::(104,some (1,.box (r8 y)))::[],q.1⟩) (fun _=>True) (fun _=>0) (_,0,_) trivial (ch) ?_;rintro⟨ck,v,g2⟩ -;refine uA ?_;refine uF ?_;refine El ?_;refine aH (uI @S0 @o6) ?_;rw[<-Mo];exact nX (_,i+1,g) ch
 refine El ?_;have Wd:i=y.D.length:=oM;have ho:Ai y p pl=o:=by rw[<-X2,Wd];rfl
 rw[ho];refine WE ?_;rw[show Tryz.f20.results.toList=[.tmp 8,.tmp 9] from rfl];exact kv @S0
structure Vw where
 dv:Int
 kd:Int
 bg:Int
 tx:List UInt8
 deriving DecidableEq,Inhabited
abbrev Vw.av(v:Vw):AV:=.agg [I v.dv,I v.kd,I v.bg,S (strOf v.tx)]
def zY(y:Ly)(p:Pl)(pl:List T3)(d:Nat):Vw:=⟨d,qt y d,Od y p d,YR pl (Od y p d)⟩
def asO(y:Ly)(p:Pl)(pl:List T3)(d:Nat)(h:Sj y p)(hd:d<y.D.length)(JW:pl.length<=1000):
  UB prog J9 121 [] [y.av,p.av,.sl (YA pl) false,I d] [] (zY y p pl d).av:=by
 obtain⟨e1,e2,e3,e4⟩:=h.at_ d hd;have g1:=Hr hd;have g2:=au e3;have g3:=ma e4;have hn:=h.n;have hs:=h.sl;unfold zY Od qt;generalize pM y d=n at*;generalize Wr y d=k at*;generalize y.D.getD d default=x at*;generalize p.Q.getD n []=r at*;generalize r.getD k 0=b at*;by_cases h1:1<=b
 .have d1:decide (1<=b)=true:=dT h1;by_cases h2:b<=pl.length
  .have d2:decide (b<=(pl.length:Int))=true:=dT h2;have PP:(b-1).toNat<pl.length:=oM;have g4:=Hr PP;have gf:=Sc.apS (mg (pl.getD (b-1).toNat default));rw[YR,iP ⟨h1,h2⟩];generalize pl.getD (b-1).toNat default=z at*;refine MD func121 ntmps121 ?_;intro w e X hC;refine aH @g1 ?_;refine Ew (uI @g1 (uI @e1 (uI @e2 (uI @g2 @g3)))) ?_;refine K6 (uI @d1 @d2) ?_;refine WT @g4 gf ?_;refine WE ?_;rw[show f121.results.toList=[.cell 8 167] from rfl];exact W5
  have d2:decide (b<=(pl.length:Int))=false:=dF h2;rw[YR,iN (fun h=>h2 h.2)];refine MD func121 ntmps121 ?_;intro w e X hC;refine aH @g1 ?_;refine Ew (uI @g1 (uI @e1 (uI @e2 (uI @g2 @g3)))) ?_;refine zF (uI @d1 @d2) ?_;refine A_ ?_;rw[show f121.results.toList=[.cell 8 167] from rfl];first|refine jW ?_|exact W5
  rfl
 have d1:decide (1<=b)=false:=dF h1;rw[YR,iN (fun h=>h1 h.1)];refine MD func121 ntmps121 ?_;intro w e X hC;refine aH @g1 ?_;refine Ew (uI @g1 (uI @e1 (uI @e2 (uI @g2 @g3)))) ?_;refine zF @d1 ?_;refine A_ ?_;rw[show f121.results.toList=[.cell 8 167] from rfl];first|refine jW ?_|exact W5
 rfl
def kP(v:Vw):Uq:=⟨v.dv,decide (v.bg≠0),if v.kd=2/\v.bg≠0 then v.tx else[]⟩
def cM(v:Vw):UB prog J9 122 [] [v.av] [] (kP v).av:=by
 unfold kP;obtain⟨dv,kd,b,tx⟩:=v;simp only;by_cases h2:kd=2
 .have d2:decide (kd=2)=true:=dT h2;by_cases h0:b=0
  .subst h0;rw[iN (fun h=>h.2 rfl)];refine MD func122 ntmps122 ?_;intro w e X hC;refine zF @d2 ?_;refine A_ ?_;rw[show f122.results.toList=[.cell 2 65] from rfl];first|refine jW ?_|exact W5
   rfl
  have d0:decide (b≠0)=true:=dT h0;rw[iP ⟨h2,h0⟩,d0];refine MD func122 ntmps122 ?_;intro w e X hC;refine N5 (uI @d2 @d0) ?_;rw[show f122.results.toList=[.cell 2 65] from rfl];exact W5
 have d2:decide (kd=2)=false:=dF h2;rw[iN (fun h=>h2 h.1)];refine MD func122 ntmps122 ?_;intro w e X hC;refine zF @d2 ?_;refine A_ ?_;rw[show f122.results.toList=[.cell 2 65] from rfl];first|refine jW ?_|exact W5
 rfl
def Ez(k:Int):Int:=if k=5\/k=6 then 9 else 0
def IE(k:Int):UB prog J9 171 [] [I k] [] (I (Ez k)):=by
 unfold Ez;by_cases c5:k=5
 .have d5:decide (k=5)=true:=dT c5;rw[iP (.inl c5)];refine MD func171 ntmps171 ?_;intro w e X hC;refine aH @d5 ?_;exact Ed
 have d5:decide (k=5)=false:=dF c5;by_cases c6:k=6
 .have d6:decide (k=6)=true:=dT c6;rw[iP (.inr c6)];refine MD func171 ntmps171 ?_;intro w e X hC;refine aH (uI @d5 @d6) ?_;exact Ed
 have d6:decide (k=6)=false:=dF c6;rw[iN (fun h=>h.elim c5 c6)];refine MD func171 ntmps171 ?_;intro w e X hC;refine zF (uI @d5 @d6) ?_;exact uP
def Sw(v:Vw)(k:Int):Bool:=if k=3 then decide (v.bg≠0) else if k=4 then decide (v.kd=1)&&decide (v.bg=0) else decide (v.kd=2)&&decide (v.bg≠0)&&decide (v.tx≠[])
theorem kZ(v:Vw)(k:Int):UB prog J9 172 [] [v.av,I k] [] (B (Sw v k)):=by
 unfold Sw;obtain⟨dv,kd,b,tx⟩:=v;simp only;by_cases c3:k=3
 .have d3:decide (k=3)=true:=dT c3;rw[iP c3];refine MD func172 ntmps172 ?_;intro w e X hC;refine aH @d3 ?_;exact Ed
 have d3:decide (k=3)=false:=dF c3;rw[iN c3];by_cases c4:k=4
 .have d4:decide (k=4)=true:=dT c4;rw[iP c4];cases d1:decide (kd=1)with
  |false=>refine MD func172 ntmps172 ?_;intro w e X hC;refine NL (uI @d3 @d4) ?_;refine K6 @d4 ?_;exact jm @d1|true=>refine MD func172 ntmps172 ?_;intro w e X hC;refine NL (uI @d3 @d4) ?_;refine K6 @d4 ?_;exact jm @d1
 have d4:decide (k=4)=false:=dF c4;rw[iN c4];cases d2:decide (kd=2)with
 |false=>refine MD func172 ntmps172 ?_;intro w e X hC;refine NL (uI @d3 @d4) ?_;refine NL @d4 ?_;exact jm @d2|true=>
  cases d0:decide (b≠0)with
  |false=>refine MD func172 ntmps172 ?_;intro w e X hC;refine NL (uI @d3 @d4) ?_;refine NL @d4 ?_;exact jm (uI @d2 @d0)|true=>refine MD func172 ntmps172 ?_;intro w e X hC;refine NL (uI @d3 @d4) ?_;refine NL @d4 ?_;exact jm (uI @d2 @d0)
def aB(c:UInt8):Int:=IntKind.u8.wrap (48+(IntKind.u8.wrap (IntKind.u8.wrap (c.toNat-48)+1)).tmod 10)
def fy(c:UInt8):0<=aB c/\aB c<256:=by unfold aB;generalize 48+_=z;simp only[IntKind.wrap,IntKind.signed,IntKind.bits];constructor<;>(simp;try omega)
def Qc(c:UInt8):UInt8:=UInt8.ofNat (aB c).toNat
def YF(l:List UInt8):bytesOf (l.map Kk)=some l:=M5 l
def PN{l:List UInt8}{i:Nat}:(l.map Kk).set i (.lit (.int .u8 63))=(l.set i 63).map Kk:=h_ (n:=63) oM oM
def Zi{l:List UInt8}{i:Nat}{c:UInt8}:(l.map Kk).set i (.lit (.int .u8 (IntKind.u8.wrap (48+(IntKind.u8.wrap (IntKind.u8.wrap (c.toNat-48)+1)).tmod 10))))=(l.set i (Qc c)).map Kk:=h_ (fy c).1 (fy c).2
def yd(v:Vw)(k:Int)(w:Nat):Uq:=
 if k=3 then⟨v.dv,false,[]⟩
 else if k=4 then⟨v.dv,true,(kP v).rd⟩
 else⟨v.dv,(kP v).sn,v.tx.set w (if k=5 then 63 else Qc (v.tx.getD w 0))⟩
def alm(v:Vw)(k:Int)(m:Nat)(hw:k≠3->k≠4->m<v.tx.length)(ht:v.tx.length<=1000):UB prog J9 173 [] [v.av,I k,I m] [] (yd v k m).av:=by
 have gr:=cM v;unfold yd;have er:kP v=⟨v.dv,(kP v).sn,(kP v).rd⟩:=rfl;generalize kP v=r at*;obtain⟨rdv,rsn,rrd⟩:=r;obtain⟨dv,kd,b,tx⟩:=v;simp only at*;by_cases c3:k=3
 .have d3:decide (k=3)=true:=dT c3;rw[iP c3];refine MD func173 ntmps173 ?_;intro w e X hC;refine BL ?_;refine R6 gr ?_;refine N5 @d3 ?_;rw[show f173.results.toList=[.cell 6 65] from rfl];first|refine jW ?_|exact W5
  rfl
 have d3:decide (k=3)=false:=dF c3;rw[iN c3];by_cases c4:k=4
 .have d4:decide (k=4)=true:=dT c4;rw[iP c4];refine MD func173 ntmps173 ?_;intro w e X hC;refine BL ?_;refine R6 gr ?_;refine NL @d3 ?_;refine N5 @d4 ?_;rw[show f173.results.toList=[.cell 6 65] from rfl];first|refine jW ?_|exact W5
  have e:rdv=dv:=by cases er;rfl
  subst e;rfl
 have d4:decide (k=4)=false:=dF c4;rw[iN c4];have PP:=hw c3 c4;by_cases c5:k=5
 .have d5:decide (k=5)=true:=dT c5;rw[iP c5];refine MD func173 ntmps173 ?_;intro w e X hC;refine BL ?_;refine R6 gr ?_;refine NL @d3 ?_;refine NL @d4 ?_;refine K6 @d5 ?_;refine aH (uI @PN @YF) ?_;refine A_ ?_;rw[show f173.results.toList=[.cell 6 65] from rfl];first|refine jW ?_|exact W5
  have e:rdv=dv:=by cases er;rfl
  subst e;rfl
 have d5:decide (k=5)=false:=dF c5;rw[iN c5];refine MD func173 ntmps173 ?_;intro w e X hC;refine BL ?_;refine R6 gr ?_;refine NL @d3 ?_;refine NL @d4 ?_;refine NL @d5 ?_;have g1:(tx.map Kk).getD m .bad=.lit (.int .u8 ((tx.getD m 0).toNat:Nat)):=by simp[Kk,PP]
 generalize tx.getD m 0=c at*;refine aH (uI @g1 (uI @Zi @YF)) ?_;refine A_ ?_;rw[show f173.results.toList=[.cell 6 65] from rfl];first|refine jW ?_|exact W5
 have e:rdv=dv:=by cases er;rfl
 subst e;rfl
def SL(r:Uq)(f:T3):Uq:=
 if f.a=3 then⟨r.dv,false,[]⟩
 else if f.a=4 then⟨r.dv,true,r.rd⟩
 else⟨r.dv,r.sn,r.rd.set f.c.toNat (if f.a=5 then 63 else Qc (r.rd.getD f.c.toNat 0))⟩
def aat(r:Uq)(f:T3)(hw:f.a≠3->f.a≠4->0<=f.c/\f.c<r.rd.length)(ht:r.rd.length<=1000):UB prog J9 64 [] [r.av,f.av] [] (SL r f).av:=by
 unfold SL;obtain⟨rdv,rsn,tx⟩:=r;obtain⟨k,fb,fc⟩:=f;simp only at*;by_cases c3:k=3
 .have d3:decide (k=3)=true:=dT c3;rw[iP c3];refine MD func64 ntmps64 ?_;intro w e X hC;refine N5 @d3 ?_;rw[show f64.results.toList=[.cell 4 65] from rfl];first|refine jW ?_|exact W5
  rfl
 have d3:decide (k=3)=false:=dF c3;rw[iN c3];by_cases c4:k=4
 .have d4:decide (k=4)=true:=dT c4;rw[iP c4];refine MD func64 ntmps64 ?_;intro w e X hC;refine NL @d3 ?_;refine N5 @d4 ?_;rw[show f64.results.toList=[.cell 4 65] from rfl];exact W5
 have d4:decide (k=4)=false:=dF c4;rw[iN c4];obtain⟨h0,PP⟩:=hw c3 c4;obtain⟨m,rfl⟩:∃m:Nat,fc=m:=⟨fc.toNat,oM⟩;have PP:m<tx.length:=oM;have em:(m:Int).toNat=m:=oM;rw[em];by_cases c5:k=5
 .have d5:decide (k=5)=true:=dT c5;rw[iP c5];refine MD func64 ntmps64 ?_;intro w e X hC;refine NL @d3 ?_;refine NL @d4 ?_;refine K6 @d5 ?_;refine aH (uI @PN (uI @YF @em)) ?_;refine A_ ?_;rw[show f64.results.toList=[.cell 4 65] from rfl];exact W5
 have d5:decide (k=5)=false:=dF c5;rw[iN c5];refine MD func64 ntmps64 ?_;intro w e X hC;refine NL @d3 ?_;refine NL @d4 ?_;refine NL @d5 ?_;have g1:(tx.map Kk).getD m .bad=.lit (.int .u8 ((tx.getD m 0).toNat:Nat)):=by simp[Kk,PP]
 generalize tx.getD m 0=c at*;refine Ew (uI @g1 (uI @Zi (uI @YF @em))) ?_;refine aH (uI @g1 (uI @Zi (uI @YF @em))) ?_;refine A_ ?_;rw[show f64.results.toList=[.cell 4 65] from rfl];exact W5
end Go.Proofs.YtfcgkbinohibcaaGreatDoor
namespace Go.Sym
open Go Go.Great
def w_(P:Program)(fb:FuncId):Prop:=
 Enters P fb/\∀(l bx off:Nat)(xs:List Int)(J:Nat->World->Prop)(W0:World),xs.length<=9223372036854775807->J 0 W0->
  (∀i W,J i W->∃U,VD W U (.P [IS xs]) (.pointer (some ⟨bx,off,none⟩)))->
  (∀i W,i<xs.length->J i W->YieldAt Fence.wide 0 P l #[.int .i64 ((xs.length:Int)-1 - i),.int .i64 (xs.getD (xs.length-1 - i) 0)] W (fun en W'=>en=.returned (.bool true)/\J (i+1) W'))->
  CallsIn Fence.wide 0 P fb #[.func (.yield l) #[] #[],.pointer (some ⟨bx,off,none⟩)] W0 (fun en W'=>(∃v,en=.returned v)/\J xs.length W')
def yw(C:Cx)(x y:Code)(Q:Exit->St->Prop)(s:St):Prop:=
 ∀a w,Tn C s a w->x.wpIn (E8 C.rd) 0 C.P (Exit.then (y.wpIn (E8 C.rd) 0 C.P (fun ex a' w'=>(∃s',Tn C s' a' w'/\Q ex s')\/(ex=.ret/\C.WV a' w'))) (fun ex a' w'=>(∃s',Tn C s' a' w'/\Q ex s')\/(ex=.ret/\C.WV a' w'))) a w
def xK{C:Cx}{x y z:Code}{Q:Exit->St->Prop}{s:St}(h:Ex C x (AI (yw C y z Q) Q) s):Ex C (.seq (.seq x y) z) Q s:=by
 intro a w hr;refine iQ (iQ (K_ (h a w hr) ?_));rintro e a' w' (⟨s',h1,h2⟩|⟨rfl,h⟩)
 .cases e<;>first|exact h2 a' w' h1|exact .inl ⟨s',h1,h2⟩
 exact .inr ⟨rfl,h⟩
def fL(hp':Hp):Exit->St->Prop
 | .normal,s=>∃(σ:Nm)(D:List Nat),Xk σ/\(∀q∈σ,q.2.1=0/\q.2.2.1=q.1/\q.2.2.2=0)/\Dg true σ s.hp σ/\(∀d∈N_ true σ s.hp σ,d∈D)/\(∀d∈D,lk σ d=none)/\yO true σ s.hp=hp'|_,_=>False
section
variable{C:Cx}{T:vp}
def cH.wJ{w w':World}{e:bQ}{G:Nat->Prop}{hp:Hp}(h:cH w e G hp)(hs:w'.heap.size=w.heap.size)(hh:∀b,¬e.z b->w'.heap[b]?=w.heap[b]?):cH w' e G hp/\Z7 w e G w' e G:=by
 have ext:Z7 w e G w' e G:=⟨oM,fun _ h=>h,fun _ _ h=>h,fun b _ hu=>hh b hu.1,fun _ SV h _=>⟨SV,h,rfl,rfl,.inl ⟨rfl,rfl⟩⟩⟩;refine⟨?_,ext⟩;exact h.step (fun _=>False) ext rfl (fun _ _=>⟨rfl,rfl⟩) (fun id ee b c _ he hb=>⟨hh b (h.nz _ _ _ _ he hb),fun b' c' hk=>⟨hh b' (h.kl _ _ _ hk).2.2,hk⟩⟩)
  (fun _ h=>h.elim) (fun _ _ _ h=>h.elim) (fun _ _ _ _ h=>h.elim) (fun b B c hk=>by rw[hs];exact h.kl b B c hk) h.ko h.kk
def eD(e:bQ)(z':Nat->Prop):bQ:=⟨e.m,z',e.Rc⟩
def cH.E0{w w':World}{e:bQ}{G:Nat->Prop}{hp:Hp}(h:cH w e G hp){z':Nat->Prop}(hz:∀b,e.z b->z' b)(Az:∀b,b<w.heap.size->z' b->e.z b)(hs:w.heap.size<=w'.heap.size)(hh:∀b,b<w.heap.size->w'.heap[b]?=w.heap[b]?):cH w' (eD e z') G hp/\Z7 w e G w' (eD e z') G:=by
 have ext:Z7 w e G w' (eD e z') G:=⟨hs,fun _ h=>h,fun b hb hu=>⟨fun h=>hu.1 (Az b hb h),hu.2⟩,fun b hb _=>hh b hb,fun _ SV h _=>⟨SV,h,rfl,rfl,.inl ⟨rfl,rfl⟩⟩⟩;refine⟨⟨h.dead,fun id g ob hi=>?_,h.inj,fun id ee b c he hb=>tL (h.lt _ _ _ _ he hb) hs,fun id ee b c he hb zJ=>h.nz _ _ _ _ he hb (Az b (h.lt _ _ _ _ he hb) zJ),fun b B c hk=>?_,h.ko,h.kk⟩,ext⟩
 .obtain⟨ee,h1,h2,h3,h4⟩:=h.live id g ob hi;exact⟨ee,h1,h2,h3,h4.ext ext fun b c hb=>⟨hh b (h.lt _ _ _ _ h1 hb),fun b' c' hk=>⟨hh b' (h.kl _ _ _ hk).1,hk⟩⟩⟩
 obtain⟨h1,h2,h3⟩:=h.kl b B c hk;exact⟨tL h1 hs,tL h2 hs,fun zJ=>h3 (Az b h1 zJ)⟩
def cH.anf{w w':World}{e:bQ}{G:Nat->Prop}{hp:Hp}(h:cH w e G hp){z':Nat->Prop}(hz:∀b,z' b->e.z b)(hs:w'.heap.size=w.heap.size)(hh:∀b,¬e.z b->w'.heap[b]?=w.heap[b]?):cH w' (eD e z') G hp/\Z7 w e G w' (eD e z') G:=by
 have ext:Z7 w e G w' (eD e z') G:=⟨oM,fun _ h=>h,fun b _ hu=>⟨fun h=>hu.1 (hz b h),hu.2⟩,fun b _ hu=>hh b hu.1,fun _ SV h _=>⟨SV,h,rfl,rfl,.inl ⟨rfl,rfl⟩⟩⟩;refine⟨⟨h.dead,fun id g ob hi=>?_,h.inj,fun id ee b c he hb=>by rw[hs];exact h.lt _ _ _ _ he hb,fun id ee b c he hb zJ=>h.nz _ _ _ _ he hb (hz b zJ),fun b B c hk=>?_,h.ko,h.kk⟩,ext⟩
 .obtain⟨ee,h1,h2,h3,h4⟩:=h.live id g ob hi;exact⟨ee,h1,h2,h3,h4.ext ext fun b c hb=>⟨hh b (h.nz _ _ _ _ h1 hb),fun b' c' hk=>⟨hh b' (h.kl _ _ _ hk).2.2,hk⟩⟩⟩
 obtain⟨h1,h2,h3⟩:=h.kl b B c hk;exact⟨oM,oM,fun zJ=>h3 (hz b zJ)⟩
structure Rd(w1:World)(e0:bQ)(L:Loop)(l:Nat)(hp:Hp)(W:World)(e':bQ):Prop where
 hr:cH W e' (rM 1) hp
 ext:Z7 w1 e0 (rM 1) W e' (rM 1)
 z:e'.z=e0.z
 own:∀b,TT e' b->w1.heap.size<=b\/TT e0 b
 os:W.os=w1.os
 tape:W.tape=w1.tape
 output:W.output=w1.output
 same:∀b,b<w1.heap.size->b≠l->¬TT e0 b->W.heap[b]?=w1.heap[b]?
 Sm:W.heap[l]?=some (.loop L)
 drawn:w1.drawn<=W.drawn
def Rd.wJ{w1 W W':World}{e0 e':bQ}{L L':Loop}{l:Nat}{hp:Hp}(h:Rd w1 e0 L l hp W e')(hz:e0.z l)(hs:W'.heap.size=W.heap.size)(hh:∀b,b≠l->W'.heap[b]?=W.heap[b]?)(hl:W'.heap[l]?=some (.loop L'))(h1:W'.os=W.os)(h2:W'.tape=W.tape)(h3:W'.output=W.output)(hd:W.drawn<=W'.drawn:=by exact lR _):Rd w1 e0 L' l hp W' e':=by
 have Ig:e'.z l:=by rw[h.z];exact hz
 obtain⟨k1,k2⟩:=h.hr.wJ hs (fun b hb=>hh b (by rintro rfl;exact hb Ig));exact⟨k1,h.ext.trans k2,h.z,h.own,h1.trans h.os,h2.trans h.tape,h3.trans h.output,fun b hb OT ho=>(hh b OT).trans (h.same b hb OT ho),hl,Jz h.drawn hd⟩
def Af{w:World}{r k:Nat}{o:Obj}(h:k≠r):(w.putObj r o).heap[k]?=w.heap[k]?:=World.putObj_heap_other h
def eI{w:World}{r:Nat}{o:Obj}:(w.putObj r o).heap.size=w.heap.size:=by simp[World.putObj]
def atD(hC:JE C.P T){N:Nat}{w1 W:World}{e0 e':bQ}{L:Loop}{l:Nat}{hp hp2:Hp}(dW:XO T w1 (UE e0))(h:Rd w1 e0 L l hp W e')(hz:e0.z l)(qE:∀b,e0.z b->b<w1.heap.size){s:St}(IY:s.hp=hp)(bB:s.ck=1){a:Act}(ha:a.defers=[])(has:a.tmps.size=N)(y3:∀t,VR W (UE e') e' (rM 1) (L5 s.tm t) (a.tmps.getD t undef)){body:Code}(hb:∀(w:World) (e:bQ) (rd:Option Nat) (X:Act->World->Prop),PT ⟨C.P,N,w,e,rd,[],X⟩ T->Ex ⟨C.P,N,w,e,rd,[],X⟩ body (fL hp2) s):
  body.wpIn (E8 (some l)) 0 C.P (fun ex _ W'=>ex=.normal/\∃e'',Rd w1 e0 L l hp2 W' e'') a W:=by
 have wh:PT ⟨C.P,N,W,e',some l,[],fun _ _=>False⟩ T:=⟨hC,dW.mono h.ext.size (fun b hb hu=>h.ext.un b hb hu) (fun b hb hu=>h.ext.same b hb hu)⟩;have JD:Tn ⟨C.P,N,W,e',some l,[],fun _ _=>False⟩ s a W:=by
  refine⟨ha,has,⟨rfl,rfl,rfl,lR _,fun _ _ _=>rfl,lR _⟩,e',by rw[IY,bB];exact h.hr,⟨rfl,fun b hb=>?_,?_,fun _ h=>.inr h⟩,by rw[bB];exact y3⟩
  .have C6:e'.z b:=hb;rw[h.z]at C6;exact tL (qE b C6) h.ext.size
  rw[bB];exact Z7.refl _ _ _
 refine K_ (hb W e' (some l) _ wh a W JD) ?_;intro ex a' W' pT;obtain⟨s',hr,hq⟩:=pT.resolve_right fun h=>h.2;cases ex<;>first|exact hq.elim|skip
 refine⟨rfl,?_⟩;obtain⟨σ,D,q1,q2,q3,q4,q5,q6⟩:=hq;obtain⟨e1,IA,fo,hv⟩:=hr.body;have rk:mX true e1 s'.hp (rM 1) σ D e1.z:=⟨q1,q3,q4,q5,fun q hq=>by rw[(q2 q hq).1];exact Sp,fun _ h=>h,fun _ h=>.inl h⟩;have w6:=rk.rel IA;have fz:=rk.GL IA;have G6:∀b,TT (eN σ e1 e1.z) b->TT e1 b:=fun b ho=>by obtain⟨q,_,h⟩:=dP ho;exact h.own
 rw[q6]at w6;have Lm:e1.z=e'.z:=fo.tI;have ext1:Z7 W e' (rM 1) W' (eN σ e1 e1.z) (rM 1):=by refine⟨fo.ext.size,fun _ h=>h,fun b hb hu=>fz.un b (fo.ext.un b hb hu),fo.ext.same,fun id SV X6 hg=>?_⟩;obtain⟨gi,a,ga,ee,hm,h6,rfl⟩:=tN X6;obtain⟨h7,h8,h9⟩:=q2 _ hm;simp only at h7 h8 h9;subst h7 h8 h9;obtain⟨ob,bF,_⟩:=A5 q3 hm;obtain⟨ee2,ED,zo,_⟩:=IA.live _ _ _ bF;rw[h6]at ED;cases ED;obtain⟨ee0,k1,k2,k3,k4⟩:=fo.ext.Ia a ee h6 jn;exact⟨ee0,k1,k2.trans zo,k3,k4⟩
 refine⟨eN σ e1 e1.z,w6,h.ext.trans ext1,Lm.trans h.z,fun b ho=>?_,hr.xt.os.trans h.os,hr.xt.tape.trans h.tape,hr.xt.output.trans h.output,fun b hb OT ho=>?_,?_,Jz h.drawn hr.xt.drawn⟩
 .rcases fo.jR b (G6 b ho)with h4|h4
  .exact .inl (Jz h.ext.size h4)
  exact h.own b h4
 .refine(hr.xt.same b (tL hb h.ext.size) fun X1=>?_).trans (h.same b hb OT ho);rcases h.own b X1 with h4|h4
  .omega
  exact ho h4
 have PP:l<W.heap.size:=tL (qE l hz) h.ext.size;exact(hr.xt.same l PP fun ho=>h.hr.PQ ho (by rw[h.z];exact hz)).trans h.Sm
def lz(T:vp)(rs:List ResultVar)(hp':Hp)(r:AV):Exit->St->Prop
 | .ret,s=>∃σ D,Nu T rs σ D hp' r s|_,_=>False
def mA(w:World)(L:Loop):World:=(w.alloc (.deferred (some []))).alloc (.loop L)
def ZA(w:World)(L:Loop):(mA w L).heap.size=w.heap.size+2:=by unfold mA;rw[Ar,Ar]
def FY(w:World)(L:Loop){b:Nat}(h:b<w.heap.size):(mA w L).heap[b]?=w.heap[b]?:=by have g:=(Qw.alloc (w.alloc (.deferred (some []))) (.loop L)).same b jE;exact g.trans ((Qw.alloc w (.deferred (some []))).same b h)
def aiz(w:World)(L:Loop):(mA w L).heap[w.heap.size]?=some (.deferred (some [])):=by have g:=(Qw.alloc (w.alloc (.deferred (some []))) (.loop L)).same w.heap.size jE;exact g.trans (sg w _)
def DK(w:World)(L:Loop):(mA w L).heap[w.heap.size+1]?=some (.loop L):=by have:=sg (w.alloc (.deferred (some []))) (.loop L);rw[Ar]at this;exact this
def mQ(hT:JE C.P T){fn:Func}{hp':Hp}{r:AV}{w:World}{e:bQ}{G:Nat->Prop}(fo:ke C w e G)(Zw:OL C w)(fk:∀b,TT e b->b<w.heap.size/\¬e.z b){L L':Loop}{X:Act->World->Prop}{s':St}{a':Act}{w':World}(hr:Tn ⟨C.P,C.N,(mA w L).putObj (w.heap.size+1) (.loop L'),eD e (fun b=>e.z b\/b=w.heap.size\/b=w.heap.size+1),none,[aP w.heap.size],X⟩ s' a' w')(hq:∃σ D,Nu T fn.results.toList σ D hp' r s'):uB C.P fn C.w0 C.e0 hp' r a' w':=by
 obtain⟨e1,IA,IQ,nQ⟩:=hr.body;have sz1:((mA w L).putObj (w.heap.size+1) (.loop L')).heap.size=w.heap.size+2:=by rw[eI,ZA]
 have nown:∀b,b=w.heap.size\/b=w.heap.size+1->¬TT e b:=fun b hb ho=>by have:=(fk b ho).1;omega
 have z1:e1.z=fun b=>e.z b\/b=w.heap.size\/b=w.heap.size+1:=IQ.tI;have wD:w'.heap[w.heap.size]?=some (.deferred (some [])):=by have:=hr.xt.same w.heap.size (by show _<((mA w L).putObj (w.heap.size+1) (.loop L')).heap.size;omega) (nown _ (.inl rfl));rw[this];exact(Af oM).trans (aiz w L)
 have szw:w.heap.size+2<=w'.heap.size:=by have:=hr.xt.size;rw[<-sz1];exact this
 refine⟨w.heap.size,hr.defers,wD,?_⟩;obtain⟨k1,k2⟩:=IA.anf (w':=w'.putObj w.heap.size (.deferred none)) (z':=e.z) (fun b hb=>by rw[z1];exact .inl hb) eI (fun b hb=>Af (by rintro rfl;exact hb (by rw[z1];exact .inr (.inl rfl))));have eqb:∀b,b<w.heap.size+2->¬TT e b->(w'.putObj w.heap.size (.deferred none)).heap[b]?=(((mA w L).putObj (w.heap.size+1) (.loop L')).putObj w.heap.size (.deferred none)).heap[b]?:=by
  intro b hb ho;by_cases pc:b=w.heap.size
  .subst pc;rw[World.putObj_heap_same oM,World.putObj_heap_same oM]
  rw[Af pc,Af pc];exact hr.xt.same b (by show b<((mA w L).putObj (w.heap.size+1) (.loop L')).heap.size;omega) ho
 have sz2:(((mA w L).putObj (w.heap.size+1) (.loop L')).putObj w.heap.size (.deferred none)).heap.size=w.heap.size+2:=by rw[eI,sz1]
 have JD:Tn ⟨C.P,C.N,((mA w L).putObj (w.heap.size+1) (.loop L')).putObj w.heap.size (.deferred none),e,none,[aP w.heap.size],X⟩ s' a' (w'.putObj w.heap.size (.deferred none)):=by
  refine⟨hr.defers,hr.size,⟨hr.xt.os,hr.xt.tape,hr.xt.output,?_,fun b hb ho=>?_,hr.xt.drawn⟩,eD e1 e.z,k1,⟨rfl,fun b hb=>?_,?_,fun b hb=>?_⟩,fun t=>(nQ t).ext k2⟩
  .show(((mA w L).putObj (w.heap.size+1) (.loop L')).putObj w.heap.size (.deferred none)).heap.size<=_;rw[sz2,eI];exact szw
  .exact eqb b B7 ho
  .show b<(((mA w L).putObj (w.heap.size+1) (.loop L')).putObj w.heap.size (.deferred none)).heap.size;have:=IQ.BA b (.inl hb);have h:b<((mA w L).putObj (w.heap.size+1) (.loop L')).heap.size:=this;omega
  .refine⟨?_,fun g h=>?_,fun b hb hu=>?_,fun b hb hu=>?_,fun id SV X6 hg=>?_⟩
   .show(((mA w L).putObj (w.heap.size+1) (.loop L')).putObj w.heap.size (.deferred none)).heap.size<=_;rw[sz2,eI];exact szw
   .exact IQ.ext.gs g h
   .have C6:b<w.heap.size+2:=B7;by_cases h:b=w.heap.size\/b=w.heap.size+1
    .exact⟨hu.1,fun ho=>IA.PQ ho (by rw[z1];exact .inr h)⟩
    have Ui:UE (eD e (fun b=>e.z b\/b=w.heap.size\/b=w.heap.size+1)) b:=⟨fun hz=>hz.elim hu.1 h,hu.2⟩;have:=IQ.ext.un b (by show b<((mA w L).putObj (w.heap.size+1) (.loop L')).heap.size;omega) Ui;exact⟨hu.1,this.2⟩
   .exact eqb b B7 hu.2
   exact IQ.ext.Ia id SV X6 hg
  rcases IQ.jR b hb with h|h
  .refine .inl ?_;show(((mA w L).putObj (w.heap.size+1) (.loop L')).putObj w.heap.size (.deferred none)).heap.size<=b;have h':((mA w L).putObj (w.heap.size+1) (.loop L')).heap.size<=b:=h;omega
  exact .inr h
 obtain⟨v,Ik,e',q1,q2,q3,q4,q5,q6⟩:=Bx (C:=⟨C.P,C.N,((mA w L).putObj (w.heap.size+1) (.loop L')).putObj w.heap.size (.deferred none),e,none,[aP w.heap.size],X⟩) rfl hT rfl rfl JD hq;have old:∀b,b<w.heap.size->(((mA w L).putObj (w.heap.size+1) (.loop L')).putObj w.heap.size (.deferred none)).heap[b]?=w.heap[b]?:=fun b hb=>by rw[Af oM,Af oM];exact FY w L hb
 have xB:=Zw.size;refine⟨v,Ik,e',q1,q2,?_,q4.trans fo.tI,fun b hb=>?_,⟨q6.os.trans Zw.os,q6.tape.trans Zw.tape,q6.output.trans Zw.output,by have h:(((mA w L).putObj (w.heap.size+1) (.loop L')).putObj w.heap.size (.deferred none)).heap.size<=_:=q6.size;omega,fun b hb ho=>?_,Jz Zw.drawn q6.drawn⟩⟩
 .refine Z7.trans (w':=((mA w L).putObj (w.heap.size+1) (.loop L')).putObj w.heap.size (.deferred none)) (e':=e) (G':=rM 1) ⟨oM,fun _ h=>h,fo.ext.un,fun b hb hu=>?_,fo.ext.Ia⟩ q3;exact(old b oM).trans (fo.ext.same b hb hu)
 .rcases q5 b hb with h|h
  .have h':(((mA w L).putObj (w.heap.size+1) (.loop L')).putObj w.heap.size (.deferred none)).heap.size<=b:=h;exact .inl oM
  exact fo.jR b h
 have X1:¬TT e b:=fun h=>by
  rcases fo.jR b h with h1|h1
  .omega
  exact ho h1
 exact(q6.same b (by show b<(((mA w L).putObj (w.heap.size+1) (.loop L')).putObj w.heap.size (.deferred none)).heap.size;omega) X1).trans ((old b oM).trans (Zw.same b hb ho))
theorem iZ:E8 none=Fence.wide:=rfl
def akZ(hC:PT C T)(MC:C.rd=none)(Zl:C.df=[]){fb:FuncId}(C':w_ C.P fb){id p1 p2 d:Nat}{g:Operand}{assign body c:Code}{s:St}{xs:List Int}{Q:Exit->St->Prop}(xE:xs.length<=9223372036854775807)(hg:s.ev g=.fn fb [.P [IS xs]])(hp1:p1<C.N)(hp2:p2<C.N)(afO:d<C.N)(amX:p1≠p2)(au0:d≠p1)(auQ:d≠p2)(tu:∀(l:Nat) (tm:Array Value) (w:World) (K:Act->World->Prop),K {tmps:=tm.setIfInBounds d (tm.getD p2 undef),defers:=[]} w->assign.wpIn (E8 (some l)) 0 C.P (Exit.then K fun _ _ _=>False) {tmps:=tm,defers:=[]} w)(τ:Nm)(hτ:Xk τ)(hτ0:∀q∈τ,q.2.1=0/\q.1=q.2.2.1)(Yq:Dg false τ s.hp τ)(rh:∀d∈N_ false τ s.hp τ,False)(I0:Nat->Hp)(h0:yO false τ s.hp=I0 0)(tmB:List (Nat×AV))(mF:∀t,L5 tmB t=.bad\/(t≠p1/\t≠p2/\t≠d/\L5 tmB t=qO false τ s.hp (L5 s.tm t)/\TK false τ s.hp (L5 s.tm t)/\∀d∈GB false τ s.hp (L5 s.tm t),False))(KC:∀i,i<xs.length->∀(w:World) (e:bQ) (rd:Option Nat) (X:Act->World->Prop),PT ⟨C.P,C.N,w,e,rd,[],X⟩ T->
   Ex ⟨C.P,C.N,w,e,rd,[],X⟩ body (fL (I0 (i+1))) ⟨(d,I (xs.getD (xs.length-1 - i) 0))::(p1,I ((xs.length:Int)-1 - i))::(p2,I (xs.getD (xs.length-1 - i) 0))::tmB,I0 i,1⟩){Q4:Hp}(aZ:Dg false (τ.map fun q=>(q.1,q.2.2.2,q.1,0)) (I0 xs.length) (τ.map fun q=>(q.1,q.2.2.2,q.1,0)))(Wx:∀d∈N_ false (τ.map fun q=>(q.1,q.2.2.2,q.1,0)) (I0 xs.length) (τ.map fun q=>(q.1,q.2.2.2,q.1,0)),False)(By:yO false (τ.map fun q=>(q.1,q.2.2.2,q.1,0)) (I0 xs.length)=Q4)(fn:Func)(hp':Hp)(r:AV)(Q1:∀a' w',uB C.P fn C.w0 C.e0 hp' r a' w'->C.WV a' w')(hc:∀(w:World) (e:bQ) (df:List Deferred) (X:Act->World->Prop),PT ⟨C.P,C.N,w,e,none,df,X⟩ T->Ex ⟨C.P,C.N,w,e,none,df,X⟩ c (lz T fn.results.toList hp' r) ⟨s.tm,Q4,s.ck⟩):
  yw C (.block id (.rangeFunc g #[p1,p2] assign body)) c Q s:=by
 intro a w hr;rw[MC,iZ];obtain⟨e,h1,fo,hv⟩:=hr.body;have mW:a.defers=[]:=hr.defers.trans Zl;have has:a.tmps.size=C.N:=hr.size;have Uy:=Jq (s:=s) hv g;rw[hg]at Uy;obtain⟨vs,heq,ec,Wi⟩:=sj Uy;have UC:vs.size=1:=by simpa using ec.symm
 obtain⟨bx,off,f,Pb,Io,Mp,SM,QM,aiW⟩:=(Wi 0 sM).Si.Si;have alF:vs=#[.pointer (some ⟨bx,off,none⟩)]:=by
  refine Array.ext (by simp[UC]) fun i hi jk=>?_;have PL:i=0:=by simp at jk;exact jk
  subst PL;have:vs.getD 0 undef=vs[0]:=by simp[gA,hi]
  rw[<-this];simpa using Pb
 subst alF;have aaL:VD w (UE e) (.P [IS xs]) (.pointer (some ⟨bx,off,none⟩)):=.P _ bx off f Io Mp SM QM aiW;refine It (wpIn_rangeFunc ?_);intro lP _;obtain⟨L,hL⟩:∃L:Loop,L={state:=.ready,pending:=none,fn:=lP,tmps:=a.tmps,params:=#[p1,p2],assign,body,defers:=w.heap.size}:=⟨_,rfl⟩
 obtain⟨ep,VW⟩:∃ep,ep=eD e (fun b=>e.z b\/b=w.heap.size\/b=w.heap.size+1):=⟨_,rfl⟩;obtain⟨k1,k2⟩:=h1.E0 (w':=mA w L) (z':=fun b=>e.z b\/b=w.heap.size\/b=w.heap.size+1) (fun b hb=>.inl hb) (fun b hb hz=>hz.elim (fun h=>h) oM) (by rw[ZA];omega) (fun b hb=>FY w L hb);rw[<-VW]at k1 k2;have epz:ep.z=fun b=>e.z b\/b=w.heap.size\/b=w.heap.size+1:=by rw[VW];rfl
 have BA:∀b,ep.z b->b<(mA w L).heap.size:=fun b hb=>by
  rw[epz]at hb;rw[ZA];rcases hb with hb|hb
  ·rw[fo.tI]at hb;have:=fo.BA b hb;have:=hr.xt.size;omega
  omega
 have rk:mX false ep s.hp (rM 1) τ [] ep.z:=⟨hτ,Yq,fun d hd=>(rh d hd).elim,fun d hd=>(by cases hd),fun q hq=>by rw[(hτ0 q hq).1];exact Sp,fun _ h=>h,fun _ h=>.inl h⟩;obtain⟨e0,LD⟩:∃e0,e0=eN τ ep ep.z:=⟨_,rfl⟩;have r0:=rk.rel k1;have fz0:=(rk.GL k1).un;rw[h0]at r0;rw[<-LD]at r0 fz0;have e0z:e0.z=ep.z:=by rw[LD];rfl
 have YI:∀b,TT e0 b->TT ep b:=fun b ho=>by rw[LD]at ho;obtain⟨q,_,h⟩:=dP ho;exact h.own
 have zl:e0.z (w.heap.size+1):=by rw[e0z,epz];exact .inr (.inr rfl)
 have afW:VD (mA w L) (UE e0) (.P [IS xs]) (.pointer (some ⟨bx,off,none⟩)):=aaL.mono k2.size (fun b hb hu=>fz0 b (k2.un b hb hu)) k2.same;have Q7:XO T (mA w L) (UE e0):=(hC.gl.mono fo.ext.size fo.ext.un fo.ext.same).mono k2.size (fun b hb hu=>fz0 b (k2.un b hb hu)) k2.same;have gJ:Rd (mA w L) e0 L (w.heap.size+1) (I0 0) (mA w L) e0:=⟨r0,Z7.refl _ _ _,rfl,fun _ h=>.inr h,rfl,rfl,rfl,fun _ _ _ _=>rfl,DK w L,lR _⟩;have tmE:∀t,VR (mA w L) (UE e0) e0 (rM 1) (L5 tmB t) (if t≠p1/\t≠p2/\t≠d then a.tmps.getD t undef else undef):=fun t=>by
  rcases mF t with h|⟨h2,h3,h4,h5,h6,h7⟩
  ·rw[h];exact .rC _ _ (.bad _)
  rw[iP ⟨h2,h3,h4⟩,h5,LD];exact rk.Np k1 ((hv t).ext k2) h6 fun d hd=>(h7 d hd).elim
 refine⟨w.heap.size+1,[aP w.heap.size],mA w L,{target:=.fn (.func fb) #[.pointer (some ⟨bx,off,none⟩)],args:=#[.func (.yield (w.heap.size+1)) #[] #[]]},mA w L,fb,
  #[.func (.yield (w.heap.size+1)) #[] #[]]++#[.pointer (some ⟨bx,off,none⟩)],mA w L,?_,?_,fun _ _=>trivial,?_,fun h=>C3,?_⟩
 ·have:=run_enterLoop_outer (P:=C.P) (w:=w) lP a.tmps #[p1,p2] assign body
  rw[hL];exact this
 ·simp only[resolve,heq];simp[go_sem]
 ·obtain⟨fn1,xH,px,eP⟩:=C'.1;simp only[invoke,callFunc,ig,fX,GQ,yT,xH,px,eP,C9,j4]
 refine(C'.2 (w.heap.size+1) bx off xs (fun i W=>∃e',Rd (mA w L) e0 L (w.heap.size+1) (I0 i) W e') (mA w L) xE ⟨e0,gJ⟩ ?_ ?_).mono ?_
 ·rintro i W ⟨e',yI⟩;exact⟨UE e',afW.mono yI.ext.size yI.ext.un yI.ext.same⟩
 ·rintro i W hi ⟨e',yI⟩;have hy:=run_yield (P:=C.P) (args:=#[.int .i64 ((xs.length:Int)-1 - i),.int .i64 (xs.getD (xs.length-1 - i) 0)]) yI.Sm (by rw[hL];rfl)
  refine⟨lP,(a.tmps.setIfInBounds p1 (.int .i64 ((xs.length:Int)-1 - i))).setIfInBounds p2 (.int .i64 (xs.getD (xs.length-1 - i) 0)),assign,body,by rw[hy,hL];simp,roundIn_of_wpIn trivial ?_⟩;refine tu (w.heap.size+1) _ W _ ?_;have PP:w.heap.size+1<W.heap.size:=(DH.1 yI.Sm).1;refine⟨_,run_beginRound yI.Sm (by rw[hL]),?_⟩;have M4:=yI.wJ (W':=W.putObj (w.heap.size+1) (.loop {L with state:=.busy})) (L':={L with state:=.busy}) zl eI (fun b hb=>Af hb) (World.putObj_heap_same PP) rfl rfl rfl;have:=atD (C:=C) (N:=C.N) hC.ty Q7 M4 zl (by rw[e0z];exact BA) (s:=⟨(d,I (xs.getD (xs.length-1 - i) 0))::(p1,I ((xs.length:Int)-1 - i))::(p2,I (xs.getD (xs.length-1 - i) 0))::tmB,I0 i,1⟩) rfl rfl
   (a:={tmps:=((a.tmps.setIfInBounds p1 (.int .i64 ((xs.length:Int)-1 - i))).setIfInBounds p2 (.int .i64 (xs.getD (xs.length-1 - i) 0))).setIfInBounds d (((a.tmps.setIfInBounds p1 (.int .i64 ((xs.length:Int)-1 - i))).setIfInBounds p2 (.int .i64 (xs.getD (xs.length-1 - i) 0))).getD p2 undef),defers:=[]}) rfl (by simp[has]) ?_ (KC i hi)
  ·refine K_ this ?_;rintro ex a3 W3 ⟨rfl,e'',xn⟩;have aI:w.heap.size+1<W3.heap.size:=(DH.1 xn.Sm).1;refine⟨_,_,run_endRound none xn.Sm,rfl,e'',xn.wJ zl eI (fun b hb=>Af hb) ?_ rfl rfl rfl⟩;rw[World.putObj_heap_same aI,hL];rfl
  intro t;have e2:((a.tmps.setIfInBounds p1 (.int .i64 ((xs.length:Int)-1 - i))).setIfInBounds p2 (.int .i64 (xs.getD (xs.length-1 - i) 0))).getD p2 undef=.int .i64 (xs.getD (xs.length-1 - i) 0):=by rw[gA,z_ (by simp[has];exact hp2)];rfl
  rw[e2];simp only[L5];by_cases Ll:d=t
  ·subst Ll;rw[iP rfl,gA,z_ (by simp[has];exact afO)];exact .rC _ _ (.lit _ rfl)
  rw[iN Ll,gA,CX Ll];by_cases tM:p1=t
  ·subst tM;rw[iP rfl,CX (FX amX),z_ (by rw[has];exact hp1)];exact .rC _ _ (.lit _ rfl)
  rw[iN tM];by_cases UU:p2=t
  ·subst UU;rw[iP rfl,z_ (by simp[has];exact hp2)];exact .rC _ _ (.lit _ rfl)
  rw[iN UU,CX UU,CX tM,<-gA];have:=(tmE t).ext M4.ext;rw[iP ⟨FX tM,FX UU,FX Ll⟩]at this;exact this
 rintro en W' ⟨⟨v,rfl⟩,e',yI⟩;have PP:w.heap.size+1<W'.heap.size:=(DH.1 yI.Sm).1;have hpn:L.pending=none:=by rw[hL]
 obtain⟨Lx,nG⟩:∃Lx:Loop,Lx={L with state:=.exhausted}:=⟨_,rfl⟩;have qp:=run_endLoop (P:=C.P) yI.Sm (by rw[hL];simp);rw[<-nG,hpn]at qp;refine⟨none,_,qp,?_⟩;have Ti:=yI.wJ (W':=W'.putObj (w.heap.size+1) (.loop Lx)) (L':=Lx) zl eI (fun b hb=>Af hb) (World.putObj_heap_same PP) rfl rfl rfl;show c.wpIn Fence.wide 0 C.P _ _ _;obtain⟨σb,hσb⟩:∃σb:Nm,σb=τ.map fun q=>(q.1,q.2.2.2,q.1,0):=⟨_,rfl⟩;rw[<-hσb]at aZ Wx By;have nb:Xk σb:=by
  rw[hσb];refine⟨?_,?_⟩
  ·rw[R8];exact hτ.n1
  rw[R8];exact hτ.n1
 have memb:∀q∈σb,∃q0∈τ,q=(q0.1,q0.2.2.2,q0.1,0):=fun q hq=>by rw[hσb]at hq;obtain⟨q0,h1,h2⟩:=A2.1 hq;exact⟨q0,h1,h2.symm⟩
 have rkb:mX false e' (I0 xs.length) (rM s.ck) σb [] e'.z:=⟨nb,aZ,fun d hd=>(Wx d hd).elim,fun d hd=>(by cases hd),fun q hq=>by
  obtain⟨q0,h3,rfl⟩:=memb q hq;obtain⟨ob,h4,_⟩:=A5 Yq (show(q0.1,q0.2.1,q0.2.2.1,q0.2.2.2)∈τ from h3);obtain⟨ee,h5,h6,h7,_⟩:=k1.live _ _ _ h4;exact h7,fun _ h=>h,fun _ h=>.inl h⟩
 have lu:=rkb.rel Ti.hr;have fzE:=(rkb.GL Ti.hr).un;rw[By]at lu;have ownE:∀b,TT (eN σb e' e'.z) b->TT e' b:=fun b ho=>by obtain⟨q,_,h⟩:=dP ho;exact h.own
 have sz1:((mA w L).putObj (w.heap.size+1) (.loop Lx)).heap.size=w.heap.size+2:=by rw[eI,ZA]
 have szE:w.heap.size+2<=(W'.putObj (w.heap.size+1) (.loop Lx)).heap.size:=by have:=Ti.ext.size;rw[ZA]at this;exact this
 have sameE:∀b,b<w.heap.size+2->¬TT e0 b->(W'.putObj (w.heap.size+1) (.loop Lx)).heap[b]?=((mA w L).putObj (w.heap.size+1) (.loop Lx)).heap[b]?:=fun b hb ho=>by
  by_cases OT:b=w.heap.size+1
  ·subst OT;rw[World.putObj_heap_same PP,World.putObj_heap_same (by rw[ZA];omega)]
  rw[Af OT,Af OT];exact yI.same b (by rw[ZA];exact hb) OT ho
 have own0':∀b,¬TT ep b->¬TT e0 b:=fun b h ho=>h (YI b ho);have E2:Z7 ((mA w L).putObj (w.heap.size+1) (.loop Lx)) ep (rM s.ck) (W'.putObj (w.heap.size+1) (.loop Lx)) (eN σb e' e'.z) (rM s.ck):=by
  refine⟨by rw[sz1];exact szE,fun _ h=>h,fun b hb hu=>fzE b (Ti.ext.un b (by rw[ZA];rw[sz1]at hb;exact hb) (fz0 b hu)),fun b hb hu=>sameE b (by rw[sz1]at hb;exact hb) (own0' b hu.2),fun id SV X6 hg=>?_⟩;obtain⟨gi,a1,ga,ee,hm,h6,rfl⟩:=tN X6;obtain⟨q0,h3,h4⟩:=memb _ hm;cases h4
  obtain⟨ob,h7,_⟩:=A5 aZ hm;obtain⟨ee2,h8,h9,_⟩:=Ti.hr.live _ _ _ h7;rw[h6]at h8;cases h8;obtain⟨ee0,m1,m2,m3,m4⟩:=Ti.ext.Ia _ ee h6 (by rw[h9];exact Sp);rw[LD]at m1;obtain⟨gj,aj,gaj,eej,Ru,bF,rfl⟩:=tN m1;have ED:=Xk.bw hτ.n1 Ru;have zo:=Xk.bw hτ.n1 (show(q0.1,q0.2.1,q0.2.2.1,q0.2.2.2)∈τ from h3);rw[ED]at zo;cases zo
  have Zr:=(hτ0 q0 h3).2;obtain⟨ob2,XT,_⟩:=A5 Yq (show(q0.1,q0.2.1,q0.2.2.1,q0.2.2.2)∈τ from h3);obtain⟨ee3,Qb,N3,_⟩:=k1.live _ _ _ XT;rw[bF]at Qb;cases Qb;exact⟨eej,by rw[Zr];exact bF,N3,m3,m4⟩
 obtain⟨k3,k4⟩:=k1.wJ (w':=(mA w L).putObj (w.heap.size+1) (.loop Lx)) eI (fun b hb=>Af YM);have ab5:∀X,Tn ⟨C.P,C.N,(mA w L).putObj (w.heap.size+1) (.loop Lx),ep,none,[aP w.heap.size],X⟩ ⟨s.tm,Q4,s.ck⟩ ({a with defers:=[aP w.heap.size]++a.defers}:Act) (W'.putObj (w.heap.size+1) (.loop Lx)):=fun X=>by
  refine⟨by rw[mW];rfl,has,⟨Ti.os,Ti.tape,Ti.output,by show((mA w L).putObj (w.heap.size+1) (.loop Lx)).heap.size<=_;rw[sz1];exact szE,fun b hb ho=>?_,Ti.drawn⟩,eN σb e' e'.z,lu,⟨Ti.z.trans e0z,fun b hb=>?_,?_,fun b hb=>?_⟩,fun t=>((hv t).ext (k2.trans k4)).ext E2⟩
  ·exact sameE b (by have h:b<((mA w L).putObj (w.heap.size+1) (.loop Lx)).heap.size:=hb;rw[sz1]at h;exact h) (own0' b ho)
  ·show b<((mA w L).putObj (w.heap.size+1) (.loop Lx)).heap.size;rw[eI];exact BA b hb
  ·have tB:∀id SV,(eN σb e' e'.z) id=some SV->rM 1 SV.g->rM s.ck SV.g:=fun id SV X6 _=>lu.gen id SV X6;exact⟨E2.size,fun g hg=>by
    by_cases L4:0<s.ck
    ·exact tL hg L4
    exact absurd (fo.ext.gs g hg) (by unfold rM;omega),E2.un,E2.same,fun id SV X6 hg=>E2.Ia id SV X6 (tB id SV X6 hg)⟩
  rcases Ti.own b (ownE b hb)with h|h
  ·refine .inl ?_;show((mA w L).putObj (w.heap.size+1) (.loop Lx)).heap.size<=b;rw[eI];exact h
  exact .inr (YI b h)
 have SG:PT ⟨C.P,C.N,(mA w L).putObj (w.heap.size+1) (.loop Lx),ep,none,[aP w.heap.size],fun _ _=>False⟩ T:=⟨hC.ty,((hC.gl.mono fo.ext.size fo.ext.un fo.ext.same).mono k2.size k2.un k2.same).mono k4.size k4.un k4.same⟩;refine K_ (hc _ _ _ _ SG _ _ (ab5 _)) ?_;rintro ex a' w' (⟨s',Lq,hq⟩|⟨_,hf⟩)
 ·cases ex<;>first|exact hq.elim|skip
  rw[VW]at Lq;exact .inr ⟨rfl,Q1 _ _ (mQ hC.ty fo hr.xt (fun b hb=>⟨h1.N2 hb,h1.PQ hb⟩) Lq hq)⟩
 exact hf.elim
end
open Go Go.Great
theorem aeK{t:Nat}{l:List (List Int)}(L:List Nat):(∀e∈PG t l,∀c∈e.cells,mj false L c)=True:=oI fun r=>.inl rfl
attribute [go_sem] aeK
section
variable{C:Cx}{T:vp}
def VR.adr{w:World}{e:bQ}{G:Nat->Prop}{v:Value}(h:VR w (UE e) e G (.sl [] true) v):∃a,v=.slice a 0 0:=by obtain⟨a,cap,rfl,_,hc⟩:=h.tv;rw[hc rfl];exact⟨a,rfl⟩
def wG{c:Code}{Q:Exit->St->Prop}{s:St}(nid bid gb t k j:Nat){cs:List AV}(hk:0<k)(hb:s.hp.get bid=some (gb,.box cs))(hj:cs.getD j .bad=.sl [] true)(hn:s.hp.get nid=none)(h:Ex C c Q ⟨s.tm,(bid,some (gb,.box (cs.set j (.l nid s.ck 0 0))))::(nid,some (s.ck,.own t k []))::s.hp,s.ck+1⟩):Ex C c Q s:=by
 intro a w hr;refine h a w ?_;obtain⟨e,h1,fo,hv⟩:=hr.body;have p:jC C e (rM s.ck) s.ck s.hp w:=⟨h1,fo,hr.xt,by simp[rM]⟩;have SO:bid≠nid:=by rintro rfl;rw[hn]at hb;cases hb
 have Se:j<cs.length:=by
  by_cases Se:j<cs.length
  .exact Se
  rw[gE,Zo oM]at hj;cases hj
 have aoe:∃av,∀(ee:EE) b c (vs:Array Value) t,e bid=some ee->ee.Rr=some (b,c)->w.heap[b]?=some (.cells vs t (0,0))->vs.getD j undef=.slice av 0 0:=by
  obtain⟨ee,he,_,_,HL⟩:=h1.live _ _ _ hb;obtain⟨_,_,b,c',vs,t',Wx,By,oH,FQ⟩:=HL;have e1:cs[j]=.sl [] true:=by rw[gE,gG Se]at hj;exact hj
  have:=FQ j Se;rw[e1]at this;obtain⟨av,kY⟩:=this.adr;refine⟨av,fun ee1 b1 c1 vs1 t1 h1 h2 h3=>?_⟩;rw[he]at h1;cases h1;rw[Wx]at h2;cases h2;rw[By]at h3;cases h3;exact kY
 obtain⟨av,aoH⟩:=aoe;have sL:=sO (P:=True) (v:=.l nid s.ck 0 0) (xv:=.slice av 0 0) p (Qw.refl w) (did:=nid) (ee:=⟨s.ck,none,k,0⟩) rfl (fun b c hb=>by cases hb) (ob:=.own t k []) ⟨rfl,rfl,hk,fun i hi=>yr,fun i hi=>yr,rfl⟩
  (.l _ _ _ _ _ (.inr rfl) rfl fun ee he _=>by
   rw[nq]at he;cases he;exact⟨lR _,fun _=>⟨rfl,rfl,av,rfl⟩⟩)
 obtain⟨nx,w',e',q1,q2,q3,q4,q5,q6⟩:=sL;cases q1
 have jJ:VR w (UE e') e' (Bb (rM s.ck) s.ck) (.l nid s.ck 0 0) (.slice av 0 0):=by
  rcases q6 with ⟨xv,h3,h4⟩|⟨h3,_⟩
  .cases h3;exact h4
  cases h3
 obtain⟨eb,OZ,ri,hgb,HL⟩:=q2.live bid gb (.box cs) (by rw[Mb,fj,Hp.RG _ _ SO];exact hb);obtain⟨Ap,aZ,b,c',vs,t',Wx,By,oH,FQ⟩:=HL;have gg:Bb (rM s.ck) s.ck=rM (s.ck+1):=X8 _;have kY:vs.getD j undef=.slice av 0 0:=by
  have e1:cs[j]=.sl [] true:=by rw[gE,gG Se]at hj;exact hj
  obtain⟨ee,he,Q_,_,aeT⟩:=h1.live _ _ _ hb;obtain⟨ee1,m1,m2,m3,m4⟩:=q3.Ia bid eb OZ (by rw[ri,<-Q_];exact h1.gen _ _ he);obtain⟨Sn,_⟩:=aeT;rw[he]at m1;cases m1;rcases m4 with ⟨m4,m5⟩|m4
  .exact aoH _ b c' vs t' he (m5.trans Wx) By
  omega
 rw[gg]at q2 q3 q4 FQ jJ;have w6:cH w e' (rM (s.ck+1)) ((bid,some (gb,.box (cs.set j (.l nid s.ck 0 0))))::(nid,some (s.ck,.own t k []))::s.hp):=by
  refine q2.step (fun i=>i=bid) (Z7.refl _ _ _) rfl (fun i hi=>⟨rfl,Hp.RG _ _ hi⟩) (fun _ _ _ _ _ _ _=>⟨rfl,fun _ _ h=>⟨rfl,h⟩⟩) (fun i hi hn=>?_) (fun i g' ob hi hg=>?_) (fun i ee b1 c1 hi he aZ=>?_) q2.kl q2.ko q2.kk
  .subst hi;rw[Hp.mz]at hn;cases hn
  .subst hi;rw[Hp.mz]at hg;cases hg
   refine⟨eb,OZ,ri,by rw[<-ri];exact q2.gen _ _ OZ,Ap,fun i hi=>?_,b,c',vs,t',Wx,By,by simpa using oH,fun i hi=>?_⟩
   .rw[PU];split
    .rfl
    exact aZ _ _
   have jk:i<cs.length:=Ks;rw[PU];split
   .next ZJ=>subst ZJ;rw[kY];exact jJ
   exact FQ i jk
  exact⟨q2.lt _ _ _ _ he aZ,q2.nz _ _ _ _ he aZ,fun i' SV c2 X6 C6=>by rw[hi]at*;exact q2.inj _ _ _ _ _ _ _ X6 he C6 aZ⟩
 exact⟨hr.defers,hr.size,hr.xt,e',w6,q4,fun t=>(hv t).ext q3⟩
def PZ{P:Program}{T:vp}{f:FuncId}{g:Nat}{hp:Hp}{vs:List AV}{K:AV->List Up->List Nat->Prop}{rc:AV}(τ σ:Nm)(keep:Bool){jD hp1:Hp}{as1:List AV}(h:UB P T f jD as1 hp1 rc)(e1:yO true τ hp=jD)(e2:vs.map (qO true τ hp)=as1)(rN:(τ.map (·.1)).Nodup)(Vc:(τ.map (·.2.2.1)).Nodup)(hg:∀q∈τ,q.2.1=0)(hP:Dg true τ hp τ)(hs:J3 τ hp vs)(hd:∀d∈N_ true τ hp τ++vs.flatMap (GB true τ hp),lk τ d=none)(iE:(σ.map (·.1)).Nodup)(qf:(σ.map (·.2.2.1)).Nodup)(BI:∀q∈σ,(q.2.2.2=0/\(q.2.2.1,0,q.1,q.2.1)∈τ)\/(q.2.2.2=1/\q.2.1=g))(LB:Dg false σ hp1 σ)(NJ:N_ false σ hp1 σ=[])(XH:TK false σ hp1 rc)(Te:GB false σ hp1 rc=[])(Ll:FP keep (xG τ σ (N_ true τ hp τ++vs.flatMap (GB true τ hp)) keep) (yO false σ hp1))(tM:kU keep (xG τ σ (N_ true τ hp τ++vs.flatMap (GB true τ hp)) keep) (qO false σ hp1 rc))(hK:K (qO false σ hp1 rc) (yO false σ hp1++qq ((xG τ σ (N_ true τ hp τ++vs.flatMap (GB true τ hp)) keep).filter fun i=>!(σ.map (·.1)).contains i)) (τ.map (·.2.2.1)++(N_ true τ hp τ++vs.flatMap (GB true τ hp)))):J8 P T f g hp vs K:=
 jL τ σ keep rN Vc hg hP hs hd (by rw[e1,e2];exact h) iE qf BI LB NJ XH Te Ll tM hK
theorem wI{τ:Nm}{hp:Hp}{tm:List (Nat×AV)}{p1 p2 d:Nat}:∀{tmB:List (Nat×AV)},(∀q∈tmB,q.1≠p1/\q.1≠p2/\q.1≠d/\q.2=qO false τ hp (L5 tm q.1)/\TK false τ hp (L5 tm q.1)/\GB false τ hp (L5 tm q.1)=[])->
  ∀t,L5 tmB t=.bad\/(t≠p1/\t≠p2/\t≠d/\L5 tmB t=qO false τ hp (L5 tm t)/\TK false τ hp (L5 tm t)/\∀d∈GB false τ hp (L5 tm t),False)
 |[],_,_=>.inl rfl|(i,x)::l,h,t=>by
  simp only[L5];by_cases hi:i=t
  .subst hi;rw[iP rfl];obtain⟨h1,h2,h3,h4,h5,h6⟩:=h _ mS;exact .inr ⟨h1,h2,h3,h4,h5,fun d hd=>by rw[h6]at hd;cases hd⟩
  rw[iN hi];exact wI (fun q hq=>h q (mC _ hq)) t
def Iy{s:St}{hp':Hp}(σ:Nm)(rN:(σ.map (·.1)).Nodup)(Vc:(σ.map (·.2.2.1)).Nodup)(hg:∀q∈σ,q.2.1=0/\q.2.2.1=q.1/\q.2.2.2=0)(hP:Dg true σ s.hp σ)(hd:∀d∈N_ true σ s.hp σ,lk σ d=none)(he:yO true σ s.hp=hp'):fL hp' .normal s:=
 ⟨σ,N_ true σ s.hp σ,⟨rN,Vc⟩,hg,hP,fun _ h=>h,hd,he⟩
def amo(τ:Nm)(I0:Nat->Hp)(tmB:List (Nat×AV))(fn:Func){Q4:Hp}{hp':Hp}{r:AV}{fb:FuncId}{id p1 p2 d:Nat}{g:Operand}{assign body c:Code}{s:St}{xs:List Int}{Q:Exit->St->Prop}(hC:PT C T)(MC:C.rd=none)(Zl:C.df=[])(C':w_ C.P fb)(xE:xs.length<=9223372036854775807)(hg:s.ev g=.fn fb [.P [IS xs]])(hp:p1<C.N/\p2<C.N/\d<C.N/\p1≠p2/\d≠p1/\d≠p2)(tu:∀(l:Nat) (tm:Array Value) (w:World) (K:Act->World->Prop),K {tmps:=tm.setIfInBounds d (tm.getD p2 undef),defers:=[]} w->assign.wpIn (E8 (some l)) 0 C.P (Exit.then K fun _ _ _=>False) {tmps:=tm,defers:=[]} w)(hτ1:(τ.map (·.1)).Nodup)(hτ2:(τ.map (·.2.2.1)).Nodup)(hτ0:∀q∈τ,q.2.1=0/\q.1=q.2.2.1)(Yq:Dg false τ s.hp τ)(rh:N_ false τ s.hp τ=[])(h0:yO false τ s.hp=I0 0)(mF:∀q∈tmB,q.1≠p1/\q.1≠p2/\q.1≠d/\q.2=qO false τ s.hp (L5 s.tm q.1)/\TK false τ s.hp (L5 s.tm q.1)/\GB false τ s.hp (L5 s.tm q.1)=[])(aZ:Dg false (τ.map fun q=>(q.1,q.2.2.2,q.1,0)) (I0 xs.length) (τ.map fun q=>(q.1,q.2.2.2,q.1,0)))(Wx:N_ false (τ.map fun q=>(q.1,q.2.2.2,q.1,0)) (I0 xs.length) (τ.map fun q=>(q.1,q.2.2.2,q.1,0))=[])(By:yO false (τ.map fun q=>(q.1,q.2.2.2,q.1,0)) (I0 xs.length)=Q4)(Q1:∀a' w',uB C.P fn C.w0 C.e0 hp' r a' w'->C.WV a' w')(KC:∀i,i<xs.length->∀(w:World) (e:bQ) (rd:Option Nat) (X:Act->World->Prop),PT ⟨C.P,C.N,w,e,rd,[],X⟩ T->
   Ex ⟨C.P,C.N,w,e,rd,[],X⟩ body (fL (I0 (i+1))) ⟨(d,I (xs.getD (xs.length-1 - i) 0))::(p1,I ((xs.length:Int)-1 - i))::(p2,I (xs.getD (xs.length-1 - i) 0))::tmB,I0 i,1⟩)(hc:∀(w:World) (e:bQ) (df:List Deferred) (X:Act->World->Prop),PT ⟨C.P,C.N,w,e,none,df,X⟩ T->Ex ⟨C.P,C.N,w,e,none,df,X⟩ c (lz T fn.results.toList hp' r) ⟨s.tm,Q4,s.ck⟩):
  yw C (.block id (.rangeFunc g #[p1,p2] assign body)) c Q s:=
 akZ hC MC Zl C' xE hg hp.1 hp.2.1 hp.2.2.1 hp.2.2.2.1 hp.2.2.2.2.1 hp.2.2.2.2.2 tu τ ⟨hτ1,hτ2⟩ hτ0 Yq (fun d hd=>by rw[rh]at hd;cases hd) I0 h0 tmB (wI mF) KC aZ
  (fun d hd=>by rw[Wx]at hd;cases hd) By fn hp' r Q1 hc
def af5{P:Program}{id d p2:Nat}{ty:TypeId}{pos:String}{after:Array Edge}(l:Nat)(tm:Array Value)(w:World)(K:Act->World->Prop)(h:K {tmps:=tm.setIfInBounds d (tm.getD p2 undef),defers:=[]} w):
  (Code.region id #[{dst:=some d,op:=.assign (.tmp p2),type:=ty,pos:=pos,after:=after,guard:=none}] false).wpIn (E8 (some l)) 0 P (Exit.then K fun _ _ _=>False) {tmps:=tm,defers:=[]} w:=by
 refine kI (l:=[{dst:=some d,op:=.assign (.tmp p2),type:=ty,pos:=pos,after:=after,guard:=none}]) ?_;unfold wpListIn;rw[iP (aO rfl _)];refine⟨fun _ _=>trivial,?_⟩;rw[E1 _ _ _ Xo];exact h
end
open Go Go.Great
def eZ(z:Nat->Prop):bQ:=⟨fun _=>none,z,fun _=>none⟩
def Jo{z:Nat->Prop}{b:Nat}:¬TT (eZ z) b:=by rintro(⟨_,_,_,h,_⟩|⟨_,_,h,_⟩)<;>cases h
def EA{z:Nat->Prop}{b:Nat}:UE (eZ z) b↔¬z b:=⟨fun h=>h.1,fun h=>⟨h,Jo⟩⟩
abbrev cZ(P:Program)(N:Nat)(w:World)(z:Nat->Prop):Cx:=⟨P,N,w,eZ z,none,[],fun _ _=>False⟩
def XC(hp:Hp):Prop:=∀id,hp.get id=none
def Ri{w:World}{z:Nat->Prop}{G:Nat->Prop}{hp:Hp}(hn:XC hp):cH w (eZ z) G hp:=by
 refine⟨fun _ _=>rfl,fun id g ob h=>?_,fun id qJ ee SV b c c' h=>?_,fun id ee b c h=>?_,fun id ee b c h=>?_,fun b B c h=>?_,fun _ _=>rfl,fun b B c h=>?_⟩
 .rw[hn id]at h;cases h
 all_goals cases h
def Tn.I4{C:Cx}{s:St}{a:Act}{w:World}(hr:Tn C s a w)(hn:XC s.hp)(Zl:C.df=[]):Tn (cZ C.P C.N w C.e0.z) s a w:=by
 obtain⟨e,h1,ln,hv⟩:=hr.body;have hm:∀id,e.m id=none:=fun id=>h1.dead id (hn id);have no:∀b,¬TT e b:=by
  rintro b (⟨id,ee,c,h,_⟩|⟨B,c,_,id,ee,c',h,_⟩)
  .rw[show e.m id=none from hm id]at h;cases h
  rw[show e.m id=none from hm id]at h;cases h
 have x:Z7 w e (rM s.ck) w (eZ C.e0.z) (rM s.ck):=⟨lR _,fun _ h=>h,fun b _ hu=>EA.2 (by rw[<-ln.tI];exact hu.1),fun _ _ _=>rfl,fun id SV h _=>nomatch h⟩;refine⟨hr.defers.trans Zl,hr.size,⟨rfl,rfl,rfl,lR _,fun _ _ _=>rfl,lR _⟩,eZ C.e0.z,Ri hn,
  ⟨rfl,fun b hb=>tL (ln.BA b hb) hr.xt.size,⟨lR _,fun g h=>ln.ext.gs g h,fun _ _ h=>h,fun _ _ _=>rfl,fun id SV h _=>nomatch h⟩,fun b hb=>(Jo hb).elim⟩,fun t=>(hv t).ext x⟩
abbrev JT:=Option Nat->World->(Nat->Prop)->Prop
def cR(P:Program)(l:Nat)(J:JT)(xs:List AV):Prop:=
 ∀i W U v,i<xs.length->J (some i) W U->(∀b,W.heap.size<=b->U b)->(∀W U,VD W U (xs.getD i .bad) v)->
  YieldAt Fence.wide 0 P l #[v] W (fun en W'=>∃b:Bool,en=.returned (.bool b)/\∃U',W.heap.size<=W'.heap.size/\(∀b,b<W.heap.size->U b->U' b/\W'.heap[b]?=W.heap[b]?)/\(∀b,W'.heap.size<=b->U' b)/\J (if b then some (i+1) else none) W' U')
def Ag(J:JT):Prop:=∀i W W' U,J i W U->Qw W W'->J i W' U
def Ku(P:Program)(T:vp)(fb:FuncId)(caps xs:List AV):Prop:=
 Enters P fb/\∀(l:Nat)(vs:Array Value)(J:JT)(W0:World)(U0:Nat->Prop),caps.length=vs.size->(∀i (h:i<caps.length),VD W0 U0 caps[i] (vs.getD i undef))->XO T W0 U0->(∀b,W0.heap.size<=b->U0 b)->J (some 0) W0 U0->
  Ag J->cR P l J xs->
  CallsIn Fence.wide 0 P fb (#[.func (.yield l) #[] #[]]++vs) W0 (fun en W'=>(∃v,en=.returned v)/\∃U,J (some xs.length) W' U\/J none W' U)
section
variable{P:Program}{T:vp}{N:Nat}{J:JT}
def Pt(P:Program)(T:vp)(N:Nat)(J:JT)(s:St)(i:Option Nat)(a:Act)(w:World):Prop:=
 XC s.hp/\∃z:Nat->Prop,(∀b,z b->b<w.heap.size)/\J i w (UE (eZ z))/\XO T w (UE (eZ z))/\Tn (cZ P N w z) s a w
def LO(P:Program)(T:vp)(N:Nat)(J:JT)(c:Code)(Q:Exit->St->Option Nat->Prop)(s:St)(i:Option Nat):Prop:=
 ∀a w,Pt P T N J s i a w->c.wpIn Fence.wide 0 P (fun ex a' w'=>∃s' i',Pt P T N J s' i' a' w'/\Q ex s' i') a w
def eU(next:St->Option Nat->Prop)(Q:Exit->St->Option Nat->Prop):Exit->St->Option Nat->Prop
 | .normal,s,i=>next s i|e,s,i=>Q e s i
def aam(id:Nat)(Q:Exit->St->Option Nat->Prop):Exit->St->Option Nat->Prop
 | .exit qJ,s,i=>if qJ=id then Q .normal s i else Q (.exit qJ) s i|e,s,i=>Q e s i
def Pt.grown(hJ:Ag J){s':St}{i:Option Nat}{a':Act}{w w':World}{z:Nat->Prop}(hz:∀b,z b->b<w.heap.size)(hj:J i w (UE (eZ z)))(hg:XO T w (UE (eZ z)))(h1:Tn (cZ P N w z) s' a' w')(h2:XC s'.hp):Pt P T N J s' i a' w':=by have f:=h1.xt;have g:Qw w w':=⟨f.os,f.tape,f.output,f.size,fun b hb=>f.same b hb Jo,f.drawn⟩;exact⟨h2,z,fun b hb=>tL (hz b hb) g.size,hJ _ _ _ _ hj g,hg.mono g.size (fun _ _ h=>h) (fun b hb _=>g.same b hb),h1.I4 h2 rfl⟩
def qy(hT:JE P T)(hJ:Ag J){c:Code}{Q:Exit->St->Option Nat->Prop}{s:St}{i:Option Nat}(h:∀w z,PT (⟨P,N,w,eZ z,none,[],fun _ _=>False⟩:Cx) T->Ex (⟨P,N,w,eZ z,none,[],fun _ _=>False⟩:Cx) c (fun ex s'=>XC s'.hp/\Q ex s' i) s):LO P T N J c Q s i:=by
 rintro a w ⟨hn,z,hz,hj,hg,hr⟩;refine K_ (h w z ⟨hT,hg⟩ a w hr) ?_;rintro ex a' w' (⟨s',h1,h2,h3⟩|⟨_,hf⟩)
 .exact⟨s',i,.grown hJ hz hj hg h1 h2,h3⟩
 exact hf.elim
def QY{x y:Code}{Q:Exit->St->Option Nat->Prop}{s:St}{i:Option Nat}(h:LO P T N J x (eU (LO P T N J y Q) Q) s i):LO P T N J (.seq x y) Q s i:=by intro a w hr;refine iQ (K_ (h a w hr) ?_);rintro e a' w' ⟨s',i',h1,h2⟩;cases e<;>first|exact h2 a' w' h1|exact⟨s',i',h1,h2⟩
def II{Q:Exit->St->Option Nat->Prop}{s:St}{i:Option Nat}(h:Q .normal s i):LO P T N J .skip Q s i:=fun _ _ hr=>wpIn_skip ⟨s,i,hr,h⟩
def acu{Q:Exit->St->Option Nat->Prop}{s:St}{i:Option Nat}(h:Q .ret s i):LO P T N J .ret Q s i:=fun _ _ hr=>wpIn_ret ⟨s,i,hr,h⟩
def ES{id:Nat}{Q:Exit->St->Option Nat->Prop}{s:St}{i:Option Nat}(h:Q (.exit id) s i):LO P T N J (.exit id) Q s i:=fun _ _ hr=>wpIn_exit ⟨s,i,hr,h⟩
theorem fT{id:Nat}{c:Code}{Q:Exit->St->Option Nat->Prop}{s:St}{i:Option Nat}(h:LO P T N J c (aam id Q) s i):LO P T N J (.block id c) Q s i:=by
 intro a w hr;refine It (K_ (h a w hr) ?_);rintro e a' w' ⟨s',i',h1,h2⟩;cases e with
 |exit qJ=>
  simp only[Exit.inBlock,aam]at h2 ⊢;by_cases hid:qJ=id
  .rw[iP hid]at h2 ⊢;exact⟨s',i',h1,h2⟩
  rw[iN hid]at h2 ⊢;exact⟨s',i',h1,h2⟩
 |_=>exact⟨s',i',h1,h2⟩
def Re{c:Operand}{x y:Code}{Q:Exit->St->Option Nat->Prop}{s:St}{i:Option Nat}(b:Bool)(hc:s.ev c=.lit (.bool b))(ht:b=true->LO P T N J x Q s i)(hf:b=false->LO P T N J y Q s i):LO P T N J (.cond c x y) Q s i:=by
 intro a w hr;have AF:=hr;obtain⟨_,z,_,_,_,JD⟩:=AF;obtain⟨e,_,_,hv⟩:=JD.body;have:=Jq (s:=s) hv c;rw[hc]at this;obtain⟨he,_⟩:=this.VI;refine wpIn_cond he ?_;cases b
 .exact hf rfl a w hr
 exact ht rfl a w hr
def Uk:AV->Bool
 | .lit _| .P _=>true|_=>false
def wk:List (Nat×AV)->List (Nat×AV)->Prop
 |[],_=>True|(t,v)::l,tm=>L5 tm t=v/\Uk v=true/\wk l tm
theorem rz:∀{l tm:List (Nat×AV)},wk l tm->∀t,L5 l t=.bad\/(L5 l t=L5 tm t/\Uk (L5 tm t)=true)
 |[],_,_,t=>.inl rfl|(t',v)::l,tm,h,t=>by
  simp only[L5];by_cases ht:t'=t
  .subst ht;rw[iP rfl,h.1];exact .inr ⟨rfl,h.2.1⟩
  rw[iN ht];exact rz h.2.2 t
theorem Pt.aaF{s:St}{tm:List (Nat×AV)}{i:Option Nat}{a:Act}{w:World}(h:Pt P T N J s i a w)(hw:wk tm s.tm):Pt P T N J ⟨tm,[],1⟩ i a w:=by
 obtain⟨hn,z,hz,hj,hg,hr⟩:=h;obtain⟨e,h1,ln,hv⟩:=(hr.I4 hn rfl).body;refine⟨fun _=>rfl,z,hz,hj,hg,hr.defers,hr.size,hr.xt,eZ z,Ri (fun _=>rfl),
  ⟨rfl,fun b hb=>hz b hb,Z7.refl _ _ _,fun b hb=>(Jo hb).elim⟩,fun t=>?_⟩
 have SW:=hv t;show VR w _ _ _ (L5 tm t) _;rcases rz hw t with h|⟨h,hp⟩
 .rw[h];exact .rC _ _ (.bad _)
 rw[h];generalize L5 s.tm t=av at SW hp;have zJ:∀b,UE e b->UE (eZ z) b:=fun b hu=>EA.2 (by have:=ln.tI;have h:e.z=z:=this;rw[<-h];exact hu.1);cases av with
 |lit v=>obtain⟨h,h'⟩:=SW.VI;rw[h];exact .rC _ _ (.lit _ h')
 |P cs=>exact .rC _ _ (SW.Si.mono (lR _) (fun b _ hu=>zJ b hu) (fun _ _ _=>rfl))|_=>cases hp
theorem KI{ι:Type}{c:Code}{Q:Exit->St->Option Nat->Prop}{s:St}{i:Option Nat}(tm:ι->List (Nat×AV))(n:ι->Option Nat)(ok:ι->Prop)(m:ι->Nat)(k0:ι)(h0:ok k0)(hi:i=n k0)(hw:wk (tm k0) s.tm)(round:∀k,ok k->LO P T N J c (eU (fun s' i'=>∃k',ok k'/\m k'<m k/\i'=n k'/\wk (tm k') s'.tm) Q) ⟨tm k,[],1⟩ (n k)):LO P T N J (.loop c) Q s i:=by
 intro a w hr;obtain⟨I,hI⟩:∃I:ι->Act->World->Prop,I=fun k a w=>ok k/\Pt P T N J ⟨tm k,[],1⟩ (n k) a w:=⟨_,rfl⟩;have hex:∃μ:Act->World->Nat,∀a w,(∃k,I k a w)->(∃k,I k a w/\m k=μ a w)/\∀k,I k a w->μ a w<=m k:=by
  have h1:∀a w,∃q,(∃k,I k a w)->(∃k,I k a w/\m k=q)/\∀k,I k a w->q<=m k:=by
   intro a w;by_cases h:∃k,I k a w
   .obtain⟨k,hk⟩:=h;obtain⟨q,⟨k',h1,h2⟩,h3⟩:=least (fun q=>∃k,I k a w/\m k=q) (m k) ⟨k,hk,rfl⟩;exact⟨q,fun _=>⟨⟨k',h1,h2⟩,fun k hk=>h3 _ ⟨k,hk,rfl⟩⟩⟩
   exact⟨0,fun h'=>absurd h' h⟩
  exact⟨fun a w=>Classical.choose (h1 a w),fun a w=>vB (h1 a w)⟩
 obtain⟨μ,hμ⟩:=hex;refine wpIn_loop (fun a w=>∃k,I k a w) μ ⟨k0,by rw[hI];exact⟨h0,hi ▸ hr.aaF hw⟩⟩ ?_;intro a w hk;obtain⟨⟨k,P',hm⟩,_⟩:=hμ a w hk;have BF:=P';rw[hI]at BF;refine K_ (round k BF.1 a w BF.2) ?_;rintro e a' w' ⟨s',i',h1,h2⟩;cases e with
 |normal=>
  obtain⟨k',q1,q2,q3,q4⟩:=h2;have A4:I k' a' w':=by rw[hI];exact⟨q1,q3 ▸ h1.aaF q4⟩
  refine⟨⟨k',A4⟩,?_⟩;have:=(hμ a' w' ⟨k',A4⟩).2 k' A4;omega
 |_=>exact⟨s',i',h1,h2⟩
theorem Dj{F:Fence}{n:Nat}{ops:Array Oper}{Q:Exit->Act->World->Prop}{So:List Oper}:
  ∀{l:List Oper}{a:Act}{w:World},wpListIn F n P ops (Exit.then (wpListIn F n P ops Q So) Q) l a w->wpListIn F n P ops Q (l++So) a w
 |[],a,w,h=>h|o::l,a,w,h=>by
  unfold wpListIn at h;show wpListIn F n P ops Q (o::(l++So)) a w;unfold wpListIn;split at h
  .rename_i hw;rw[iP hw];have h2:o.wpIn F n P a w (wpListIn F n P ops (Exit.then (wpListIn F n P ops Q So) Q) l) Q:=by
    refine⟨h.1,?_⟩;have h3:=h.2;generalize (o.semAt F.round a.eval).run P w=r at h3 ⊢;cases r with
    |ok x w'=>cases x<;>exact h3
    |halt x w'=>cases x<;>exact h3
   exact Oper.wpIn_mono (fun a w h=>Dj h) h2
  rename_i hw;rw[iN hw];exact⟨h.1,Dj h.2⟩
def Sg(av:AV):Prop:=(∃v,av=.lit v)\/∃cs,av=.agg cs/\∀c∈cs,AT c
theorem an8{w:World}{U:Nat->Prop}{e:bQ}{G:Nat->Prop}{av:AV}{v:Value}(hl:Sg av)(h:VR w U e G av v)(w':World)(U':Nat->Prop):VD w' U' av v:=by
 rcases hl with ⟨v',rfl⟩|⟨cs,rfl,hc⟩
 .obtain⟨h1,h2⟩:=h.VI;rw[h1];exact .lit _ h2
 obtain⟨vs,rfl,hl,q1,q2⟩:=h.IX;refine .agg _ _ hl q1 fun i hi=>?_;have h1:=hc _ (gM hi);have h2:=q2 i hi;generalize cs[i]=c at h1 h2;cases c with
 |lit v'=>obtain⟨h3,h4⟩:=h2.VI;rw[h3];exact .lit _ h4
 |_=>exact h1.elim
def abL{a:Act}{w:World}{dst:Option Tmp}{type:TypeId}{pos:String}{after:Array Edge}{guard:Option (Nat×Bool)}{x y:Operand}{ts:Array TypeId}{l fn:Nat}{v:Value}{tmps:Array Value}{asg bd:Code}(h:a.eval x=.func (.yield l) #[] #[])(h1:a.eval y=v)(hy:(Instr.yield l #[v]).run P w=.ok (.round l fn tmps asg bd) w):
  (execOp a.eval ⟨dst,.call {callee:=.value x,args:=#[y],argTypes:=ts},type,pos,after,guard⟩).run P w=.ok (.round l fn tmps asg bd) w:=by
 simp[execOp,resolve,invoke,Deferred.ofValue,h,h1,hy]
def afz(hT:JE P T)(hJ:Ag J){l:Nat}{xs:List AV}(hx:∀i,i<xs.length->Sg (xs.getD i .bad))(eH:cR P l J xs){id:Nat}{pre post:List Oper}{dst:Option Tmp}{x y:Operand}{ts:Array TypeId}{type:TypeId}{pos:String}{after:Array Edge}{Q:Exit->St->Option Nat->Prop}{s:St}{i:Nat}(hd:((pre++⟨dst,.call {callee:=.value x,args:=#[y],argTypes:=ts},type,pos,after,none⟩::post).all fun o=>decide (o.dst.getD 0<N))=true)(h:∀w z,PT (cZ P N w z) T->∀K:St->Prop,(∀s':St,XC s'.hp/\s'.ev x=.lit (.func (.yield l) #[] #[])/\i<xs.length/\s'.ev y=xs.getD i .bad/\(∀b:Bool,∀w z,PT (cZ P N w z) T->∀K:St->Prop,(∀s'':St,XC s''.hp/\Q .normal s'' (if b then some (i+1) else none)->K s'')->
    aa P T (pre++⟨dst,.call {callee:=.value x,args:=#[y],argTypes:=ts},type,pos,after,none⟩::post) post (s'.put dst (.lit (.bool b)) []) K)->K s')->aa P T (pre++⟨dst,.call {callee:=.value x,args:=#[y],argTypes:=ts},type,pos,after,none⟩::post) pre s K):
  LO P T N J (.region id (pre++⟨dst,.call {callee:=.value x,args:=#[y],argTypes:=ts},type,pos,after,none⟩::post).toArray false) Q s (some i):=by
 obtain⟨yo,i6⟩:∃yo:Oper,yo=⟨dst,.call {callee:=.value x,args:=#[y],argTypes:=ts},type,pos,after,none⟩:=⟨_,rfl⟩
 rw[<-i6]at hd h ⊢;have Y_:yo.dst=dst:=by rw[i6]
 rw[FR]at hd;have K2:∀o∈pre++yo::post,o.dst.getD 0<N:=fun o ho=>by simpa using hd o ho
 rintro a w ⟨hn,z,hz,hj,hg,hr⟩;refine kI (Dj ?_);refine Vp (C:=cZ P N w z) (T:=T) ⟨hT,hg⟩ _ ?_ pre (fun o ho=>K2 o (by simp[ho])) s a w hr (h w z ⟨hT,hg⟩ _ fun _ h=>h);rintro s' a' w' h1 ⟨MU,q1,q2,q3,q4⟩;obtain⟨_,z',Az,tw,X0,Lq⟩:=Pt.grown (J:=J) hJ hz hj hg h1 MU;obtain⟨e,KV,ln,hv⟩:=Lq.body;have hf:=Jq (s:=s') hv x;rw[q1]at hf;obtain⟨hf,_⟩:=hf.VI;have HE:=Jq (s:=s') hv y;rw[q3]at HE;have hU:∀b,w'.heap.size<=b->UE (eZ z') b:=fun b hb=>EA.2 fun h=>by have:=Az b h;omega
 obtain⟨fn,tmps,asg,bd,acz,MC⟩:=eH i w' _ _ q2 tw hU (an8 (hx i q2) HE);show wpListIn Fence.wide 0 P _ _ (yo::post) a' w';unfold wpListIn;rw[iP (aO (by rw[i6]) _)];refine⟨fun _ _=>trivial,?_⟩;rw[E1 _ _ _ (by rw[i6];intro c h;cases h),i6,abL hf rfl acz,<-i6,Oper.uponIn_round];refine⟨fun h=>C3,MC.mono ?_⟩;rintro en W' ⟨b,rfl,U',k1,k2,k3,k4⟩;have hm:∀id,e.m id=none:=fun id=>KV.dead id (MU id);have noe:∀b,¬TT e b:=by
  rintro b (⟨id,ee,c,h,_⟩|⟨B,c,_,id,ee,c',h,_⟩)
  ·rw[show e.m id=none from hm id]at h;cases h
  rw[show e.m id=none from hm id]at h;cases h
 have Xy:e.z=z':=ln.tI;obtain⟨z2,L3⟩:∃z2:Nat->Prop,z2=fun b=>¬U' b/\b<W'.heap.size:=⟨_,rfl⟩;have kz:UE (eZ z2)=U':=by
  funext b
  refine propext (EA.trans ⟨fun h=>?_,fun h=>?_⟩)
  ·rw[L3]at h;by_cases hb:b<W'.heap.size
   ·exact PM fun hu=>h ⟨hu,hb⟩
   exact k3 b oM
  rw[L3];exact fun h'=>h'.1 h
 have x:Z7 w' e (rM s'.ck) W' (eZ z2) (rM s'.ck):=⟨k1,fun _ h=>h,fun b hb hu=>by rw[kz];exact(k2 b hb (EA.2 (by rw[<-Xy];exact hu.1))).1,fun b hb hu=>(k2 b hb (EA.2 (by rw[<-Xy];exact hu.1))).2,fun id SV h _=>nomatch h⟩;have Cp:∀b,z2 b->b<W'.heap.size:=fun b hb=>by rw[L3]at hb;exact hb.2
 have Jg:XO T W' (UE (eZ z2)):=X0.mono k1 (fun b hb hu=>by rw[kz];exact(k2 b hb hu).1) (fun b hb hu=>(k2 b hb hu).2);have tB:∀g,rM 1 g->rM s'.ck g:=ln.ext.gs;have r2:Tn (cZ P N W' z2) s' a' W':=⟨Lq.defers,Lq.size,⟨rfl,rfl,rfl,lR _,fun _ _ _=>rfl,lR _⟩,eZ z2,Ri MU,
  ⟨rfl,Cp,⟨lR _,tB,fun _ _ h=>h,fun _ _ _=>rfl,fun id SV h _=>nomatch h⟩,fun b hb=>(Jo hb).elim⟩,fun t=>(hv t).ext x⟩
 have afB:yo.dst.getD 0<N:=by simpa using hd yo sM
 have r3:Tn (cZ P N W' z2) (s'.put dst (.lit (.bool b)) []) (a'.put dst (.bool b)) W':=by obtain⟨e2,g1,g2,g3⟩:=r2.body;have xw:=Z7.wide W' e2 (rM s'.ck) s'.ck;rw[X8]at xw;exact Qk (C:=cZ P N W' z2) r2 g3 (by rw[<-Y_];exact afB) (by rw[<-X8];exact g1.wide) xw (by rw[<-X8];exact g2.wide _) r2.xt (.rC _ _ (.lit _ rfl))
 show wpListIn Fence.wide 0 P _ _ post (a'.put yo.dst (.bool b)) W';rw[Y_];refine Vp (C:=cZ P N W' z2) (T:=T) ⟨hT,Jg⟩ _ ?_ post (fun o ho=>K2 o (by simp[ho])) _ _ _ r3 (q4 b W' z2 ⟨hT,Jg⟩ _ fun _ h=>h);rintro s'' a'' w'' g1 ⟨g2,g3⟩;exact⟨s'',_,.grown hJ Cp (by rw[kz];exact k4) Jg g1 g2,g3⟩
def abz(hT:JE P T)(hJ:Ag J){l:Nat}{xs:List AV}(hx:∀i,i<xs.length->Sg (xs.getD i .bad))(eH:cR P l J xs){id:Nat}{ops:List Oper}(k:Nat){dst:Option Tmp}{x y:Operand}{ts:Array TypeId}{type:TypeId}{pos:String}{after:Array Edge}{Q:Exit->St->Option Nat->Prop}{s:St}{i:Nat}(hk:ops=ops.take k++⟨dst,.call {callee:=.value x,args:=#[y],argTypes:=ts},type,pos,after,none⟩::ops.drop (k+1))(hd:(ops.all fun o=>decide (o.dst.getD 0<N))=true)(h:∀K:St->Prop,(∀s':St,XC s'.hp/\s'.ev x=.lit (.func (.yield l) #[] #[])/\i<xs.length/\s'.ev y=xs.getD i .bad/\(∀b:Bool,∀K:St->Prop,(∀s'':St,XC s''.hp/\Q .normal s'' (if b then some (i+1) else none)->K s'')->
    aa P T ops (ops.drop (k+1)) (s'.put dst (.lit (.bool b)) []) K)->K s')->aa P T ops (ops.take k) s K):
  LO P T N J (.region id ops.toArray false) Q s (some i):=by
 have:=afz (N:=N) (Q:=Q) (id:=id) (s:=s) (i:=i) hT hJ hx eH (pre:=ops.take k) (post:=ops.drop (k+1)) (dst:=dst) (x:=x) (y:=y) (ts:=ts) (type:=type) (pos:=pos) (after:=after);rw[<-hk]at this;exact this hd fun w z hC K hK=>h K fun s' h'=>hK s' ⟨h'.1,h'.2.1,h'.2.2.1,h'.2.2.2.1,fun b w z hC K hK=>h'.2.2.2.2 b K hK⟩
def aik(hT:JE P T){fb:FuncId}{fn:Func}{body:Code}(hf:P.funcs[fb]?=some fn)(jh:(fn.name== "runtime.NumGoroutine")=false)(hb:fn.body=some body)(ur:fn.results=#[])(hn:fn.ntmps=N)(hN:2<=N){cs xs:List AV}(h:∀l J,Ag J->cR P l J xs->LO P T N J body (fun ex _ i=>(ex=.normal\/ex=.ret)/\(i=some xs.length\/i=none)) ⟨[(0,.lit (.func (.yield l) #[] #[])),(1,.P cs)],[],1⟩ (some 0)):Ku P T fb [.P cs] xs:=by
 refine⟨⟨fn,hf,jh,by rw[hb];rfl⟩,?_⟩;intro l vs J W0 U0 hl hv hg ame hj hJ hY;refine callsIn_of_wp (F:=Fence.wide) hf hb trivial ?_;have UC:vs.size=1:=by simpa using hl.symm
 obtain⟨p,rfl⟩:∃p,vs=#[p]:=by
  refine⟨vs.getD 0 undef,Array.ext (by simp[UC]) fun i hi jk=>?_⟩;have PL:i=0:=by simp at jk;exact jk
  subst PL;simp[gA,hi]
 have hp:VD W0 U0 (.P cs) p:=by simpa using hv 0 sM
 obtain⟨z,hz⟩:∃z:Nat->Prop,z=fun b=>¬U0 b/\b<W0.heap.size:=⟨_,rfl⟩;have nV:UE (eZ z)=U0:=by
  funext b
  refine propext (EA.trans ⟨fun h=>?_,fun h=>?_⟩)
  ·rw[hz]at h;by_cases hb:b<W0.heap.size
   ·exact PM fun hu=>h ⟨hu,hb⟩
   exact ame b oM
  rw[hz];exact fun h'=>h'.1 h
 have qE:∀b,z b->b<W0.heap.size:=fun b hb=>by rw[hz]at hb;exact hb.2
 have e2:#[Value.func (.yield l) #[] #[]]++#[p]=#[Value.func (.yield l) #[] #[],p]:=rfl
 rw[e2,hn];refine K_ (h l J hJ hY _ W0 ⟨fun _=>rfl,z,qE,by rw[nV];exact hj,by rw[nV];exact hg,rfl,xF,⟨rfl,rfl,rfl,lR _,fun _ _ _=>rfl,lR _⟩,eZ z,Ri (fun _=>rfl),⟨rfl,qE,Z7.refl _ _ _,fun b hb=>(Jo hb).elim⟩,fun t=>?_⟩) ?_
 ·show VR _ _ _ _ (L5 [(0,AV.lit (.func (.yield l) #[] #[])),(1,.P cs)] t) _
  simp only[L5];by_cases h0:0=t
  ·subst h0;rw[iP rfl,gA,Jl sM];exact .rC _ _ (.lit _ rfl)
  rw[iN h0];by_cases h1:1=t
  ·subst h1;rw[iP rfl,gA,Jl sM,nV];exact .rC _ _ hp
  rw[iN h1];exact .rC _ _ (.bad _)
 rintro ex a' w' ⟨s',i',ak7,hex,hi⟩;obtain⟨_,z',_,tw,_,Lq⟩:=ak7;have hd:a'.defers=[]:=Lq.defers;have uf:∃U,J (some xs.length) w' U\/J none w' U:=⟨_,by rcases hi with rfl|rfl;exact .inl tw;exact .inr tw⟩;rcases hex with rfl|rfl
 ·exact⟨hd,.tuple #[],by simp[results,ur],⟨_,rfl⟩,uf⟩
 exact⟨hd,.tuple #[],by simp[results,ur],⟨_,rfl⟩,uf⟩
end
open Go Go.Great
def Z7.arc{w1 w2 w3:World}{e0 e1 e2:bQ}{G2 G3:Nat->Prop}(h:Z7 w1 e0 (rM 1) w2 e1 G2)(h':Z7 w2 e1 (rM 1) w3 e2 G3):Z7 w1 e0 (rM 1) w3 e2 G3:=by
 refine⟨Jz h.size h'.size,h'.gs,fun b hb hu=>h'.un b (tL hb h.size) (h.un b hb hu),fun b hb hu=>(h'.same b (tL hb h.size) (h.un b hb hu)).trans (h.same b hb hu),fun id SV he hg=>?_⟩;obtain⟨ee,k1,k2,k3,k4⟩:=h'.Ia id SV he hg;obtain⟨ee0,m1,m2,m3,m4⟩:=h.Ia id ee k1 (by rw[k2];exact hg);refine⟨ee0,m1,m2.trans k2,m3.trans k3,?_⟩;rcases m4 with ⟨m4,m5⟩|m4<;>rcases k4 with ⟨k4,k5⟩|k4
 .exact .inl ⟨m4.trans k4,m5.trans k5⟩
 .exact .inr oM
 .exact .inr oM
 exact .inr oM
structure nf(P:Program)(N:Nat)(w1:World)(e0:bQ)(L:Loop)(l:Nat)(rd:Option Nat)(s:St)(a:Act)(W:World)(e':bQ):Prop where
 rel:Tn ⟨P,N,W,e',rd,[],fun _ _=>False⟩ s a W
 hr:cH W e' (rM s.ck) s.hp
 ext:Z7 w1 e0 (rM 1) W e' (rM s.ck)
 z:e'.z=e0.z
 own:∀b,TT e' b->w1.heap.size<=b\/TT e0 b
 os:W.os=w1.os
 tape:W.tape=w1.tape
 output:W.output=w1.output
 same:∀b,b<w1.heap.size->b≠l->¬TT e0 b->W.heap[b]?=w1.heap[b]?
 Sm:W.heap[l]?=some (.loop L)
 drawn:w1.drawn<=W.drawn
section
variable{P:Program}{N:Nat}{T:vp}{w1 W:World}{e0 e':bQ}{L:Loop}{l:Nat}{rd:Option Nat}{s:St}{a:Act}
def aen{C:Cx}{s':St}{a':Act}{W':World}{e1:bQ}(hP:C.P=P)(hN:C.N=N)(MC:C.rd=rd)(Zl:C.df=[])(hd:a'.defers=C.df)(hs:a'.tmps.size=C.N)(xB:C.w0.heap.size<=W'.heap.size)(h1:cH W' e1 (rM s'.ck) s'.hp)(fo:ke C W' e1 (rM s'.ck))(hv:∀t,VR W' (UE e1) e1 (rM s'.ck) (L5 s'.tm t) (a'.tmps.getD t undef)):Tn ⟨P,N,W',e1,rd,[],fun _ _=>False⟩ s' a' W':=by
 subst hP hN MC;refine⟨hd.trans Zl,hs,⟨rfl,rfl,rfl,lR _,fun _ _ _=>rfl,lR _⟩,e1,h1,⟨rfl,fun b hb=>?_,⟨lR _,fun g h=>fo.ext.gs g h,fun _ _ h=>h,fun _ _ _=>rfl,fun id SV h _=>⟨SV,h,rfl,rfl,.inl ⟨rfl,rfl⟩⟩⟩,fun _ h=>.inr h⟩,hv⟩;have C6:e1.z b:=hb;rw[fo.tI]at C6;exact tL (fo.BA b C6) xB
def nf.step(hT:JE P T)(dW:XO T w1 (UE e0))(h:nf P N w1 e0 L l rd s a W e')(hz:e0.z l)(qE:∀b,e0.z b->b<w1.heap.size){c:Code}{Q:Exit->St->Prop}(hc:∀(w:World) (e:bQ) (rd:Option Nat) (X:Act->World->Prop),PT ⟨P,N,w,e,rd,[],X⟩ T->Ex ⟨P,N,w,e,rd,[],X⟩ c Q s):
  c.wpIn (E8 rd) 0 P (fun ex a' W'=>∃s' e'',nf P N w1 e0 L l rd s' a' W' e''/\Q ex s'/\Z7 W e' (rM 1) W' e'' (rM s'.ck)) a W:=by
 have wh:PT ⟨P,N,W,e',rd,[],fun _ _=>False⟩ T:=⟨hT,dW.mono h.ext.size (fun b hb hu=>h.ext.un b hb hu) (fun b hb hu=>h.ext.same b hb hu)⟩;refine K_ (hc W e' rd _ wh a W h.rel) ?_;intro ex a' W' pT;obtain⟨s',hr,hq⟩:=pT.resolve_right fun h=>h.2;obtain⟨e1,IA,fo,hv⟩:=hr.body;refine⟨s',e1,⟨aen (C:=⟨P,N,W,e',rd,[],fun _ _=>False⟩) rfl rfl rfl rfl hr.defers hr.size hr.xt.size IA fo hv,IA,h.ext.arc fo.ext,fo.tI.trans h.z,fun b ho=>?_,hr.xt.os.trans h.os,hr.xt.tape.trans h.tape,hr.xt.output.trans h.output,fun b hb OT ho=>?_,?_,Jz h.drawn hr.xt.drawn⟩,hq,fo.ext⟩
 .rcases fo.jR b ho with h4|h4
  .exact .inl (Jz h.ext.size h4)
  exact h.own b h4
 .refine(hr.xt.same b (tL hb h.ext.size) fun X1=>?_).trans (h.same b hb OT ho);rcases h.own b X1 with h4|h4
  .omega
  exact ho h4
 have PP:l<W.heap.size:=tL (qE l hz) h.ext.size;exact(hr.xt.same l PP fun ho=>h.hr.PQ ho (by rw[h.z];exact hz)).trans h.Sm
def nf.wJ{W':World}{L':Loop}(h:nf P N w1 e0 L l rd s a W e')(hz:e0.z l)(hs:W'.heap.size=W.heap.size)(hh:∀b,b≠l->W'.heap[b]?=W.heap[b]?)(hl:W'.heap[l]?=some (.loop L'))(h1:W'.os=W.os)(h2:W'.tape=W.tape)(h3:W'.output=W.output)(hd:W.drawn<=W'.drawn):nf P N w1 e0 L' l rd s a W' e':=by
 have Ig:e'.z l:=by rw[h.z];exact hz
 have sJ:∀b,¬e'.z b->W'.heap[b]?=W.heap[b]?:=fun b hb=>hh b (by rintro rfl;exact hb Ig);obtain⟨k1,k2⟩:=h.hr.wJ hs sJ;obtain⟨e1,g1,g2,g3⟩:=h.rel.body;obtain⟨k3,k4⟩:=g1.wJ hs (fun b hb=>sJ b (by rw[show e'.z=e1.z from g2.tI.symm];exact hb));refine⟨⟨h.rel.defers,h.rel.size,⟨rfl,rfl,rfl,lR _,fun _ _ _=>rfl,lR _⟩,e1,k3,⟨g2.tI,fun b hb=>by show b<W'.heap.size;rw[hs];exact g2.BA b hb,⟨lR _,g2.ext.gs,fun b hb hu=>g2.ext.un b (by rw[hs]at hb;exact hb) hu,fun _ _ _=>rfl,g2.ext.Ia⟩,fun b hb=>?_⟩,fun t=>(g3 t).ext k4⟩,
  k1,⟨by rw[hs];exact h.ext.size,h.ext.gs,h.ext.un,fun b hb hu=>(sJ b ?_).trans (h.ext.same b hb hu),h.ext.Ia⟩,h.z,h.own,h1.trans h.os,h2.trans h.tape,h3.trans h.output,fun b hb OT ho=>(hh b OT).trans (h.same b hb OT ho),hl,Jz h.drawn hd⟩
 .rcases g2.jR b hb with h4|h4
  .exact .inl (by show W'.heap.size<=b;rw[hs];exact h4)
  exact .inr h4
 rw[h.z];exact hu.1
def Mw(hp':Hp)(s:St):Prop:=∃(σ:Nm)(D:List Nat),Xk σ/\(∀q∈σ,q.2.1=0/\q.2.2.1=q.1/\q.2.2.2=0)/\Dg true σ s.hp σ/\(∀d∈N_ true σ s.hp σ,d∈D)/\(∀d∈D,lk σ d=none)/\yO true σ s.hp=hp'
def nf.end_{hp2:Hp}(h:nf P N w1 e0 L l rd s a W e')(hq:Mw hp2 s):∃e'',Rd w1 e0 L l hp2 W e''/\∀b,b<W.heap.size->UE e' b->UE e'' b:=by
 obtain⟨σ,D,q1,q2,q3,q4,q5,q6⟩:=hq;have rk:mX true e' s.hp (rM 1) σ D e'.z:=⟨q1,q3,q4,q5,fun q hq=>by rw[(q2 q hq).1];exact Sp,fun _ h=>h,fun _ h=>.inl h⟩;have w6:=rk.rel h.hr;have fz:=rk.GL h.hr;have G6:∀b,TT (eN σ e' e'.z) b->TT e' b:=fun b ho=>by obtain⟨q,_,h⟩:=dP ho;exact h.own
 rw[q6]at w6;refine⟨eN σ e' e'.z,⟨w6,⟨h.ext.size,fun _ h=>h,fun b hb hu=>fz.un b (h.ext.un b hb hu),h.ext.same,fun id SV X6 hg=>?_⟩,h.z,fun b ho=>h.own b (G6 b ho),h.os,h.tape,h.output,h.same,h.Sm,h.drawn⟩,fun b _ hu=>fz.un b hu⟩;obtain⟨gi,a,ga,ee,hm,h6,rfl⟩:=tN X6;obtain⟨h7,h8,h9⟩:=q2 _ hm;simp only at h7 h8 h9;subst h7 h8 h9;obtain⟨ob,bF,_⟩:=A5 q3 hm;obtain⟨ee2,ED,zo,_⟩:=h.hr.live _ _ _ bF;rw[h6]at ED;cases ED;obtain⟨ee0,k1,k2,k3,k4⟩:=h.ext.Ia a ee h6 jn;exact⟨ee0,k1,k2.trans zo,k3,k4⟩
def Rd.grow{hp:Hp}{W':World}(h:Rd w1 e0 L l hp W e')(hz:e0.z l)(qE:∀b,e0.z b->b<w1.heap.size)(x:Qw W W'):Rd w1 e0 L l hp W' e':=by obtain⟨k1,k2⟩:=h.hr.E0 (w':=W') (z':=e'.z) (fun _ h=>h) (fun _ _ h=>h) x.size x.same;refine⟨k1,h.ext.trans k2,h.z,h.own,x.os.trans h.os,x.tape.trans h.tape,x.output.trans h.output,fun b hb OT ho=>(x.same b (tL hb h.ext.size)).trans (h.same b hb OT ho),(x.same l (tL (qE l hz) h.ext.size)).trans h.Sm,Jz h.drawn x.drawn⟩
def Bo(stop:Bool)(hp1 Fg:Hp):Exit->St->Prop
 | .normal,s=>stop=false/\Mw hp1 s| .ret,s=>stop=true/\Mw Fg s|_,_=>False
theorem adO{w w':World}{e e':bQ}{G:Nat->Prop}{av:AV}{v:Value}(hp:Uk av=true)(h:VR w (UE e) e G av v)(hs:w.heap.size<=w'.heap.size)(hU:∀b,b<w.heap.size->UE e b->UE e' b)(hh:∀b,b<w.heap.size->UE e b->w'.heap[b]?=w.heap[b]?):VD w' (UE e') av v:=by
 cases av with
 |lit v'=>obtain⟨h1,h2⟩:=h.VI;rw[h1];exact .lit _ h2
 |P cs=>exact h.Si.mono hs hU hh|_=>cases hp
def ap1{C:Cx}(hC:PT C T)(MC:C.rd=none)(Zl:C.df=[]){fb:FuncId}{caps xs:List AV}(hit:Ku C.P T fb caps xs)(FJ:∀i (h:i<caps.length),Uk caps[i]=true){id p1:Nat}{g:Operand}{assign body c:Code}{s:St}{Q:Exit->St->Prop}(hg:s.ev g=.fn fb caps)(hp1:p1<C.N)(τ:Nm)(hτ:Xk τ)(hτ0:∀q∈τ,q.2.1=0/\q.1=q.2.2.1)(Yq:Dg false τ s.hp τ)(rh:∀d∈N_ false τ s.hp τ,False)(I0:Nat->Hp)(Fg:Hp)(h0:yO false τ s.hp=I0 0)(tmB:List (Nat×AV))(mF:∀t,L5 tmB t=.bad\/(t≠p1/\L5 tmB t=qO false τ s.hp (L5 s.tm t)/\TK false τ s.hp (L5 s.tm t)/\∀d∈GB false τ s.hp (L5 s.tm t),False))(sp:Nat->Bool)(KC:∀i,i<xs.length->∀(w:World) (e:bQ) (rd:Option Nat) (X:Act->World->Prop),PT ⟨C.P,C.N,w,e,rd,[],X⟩ T->
   Ex ⟨C.P,C.N,w,e,rd,[],X⟩ assign (fun ex s1=>ex=.normal/\∀(w:World) (e:bQ) (rd:Option Nat) (X:Act->World->Prop),PT ⟨C.P,C.N,w,e,rd,[],X⟩ T->Ex ⟨C.P,C.N,w,e,rd,[],X⟩ body (Bo (sp i) (I0 (i+1)) Fg) s1) ⟨(p1,xs.getD i .bad)::tmB,I0 i,1⟩){Q4 Jt:Hp}(aZ:Dg false (τ.map fun q=>(q.1,q.2.2.2,q.1,0)) (I0 xs.length) (τ.map fun q=>(q.1,q.2.2.2,q.1,0)))(Wx:∀d∈N_ false (τ.map fun q=>(q.1,q.2.2.2,q.1,0)) (I0 xs.length) (τ.map fun q=>(q.1,q.2.2.2,q.1,0)),False)(By:yO false (τ.map fun q=>(q.1,q.2.2.2,q.1,0)) (I0 xs.length)=Q4)(NE:Dg false (τ.map fun q=>(q.1,q.2.2.2,q.1,0)) Fg (τ.map fun q=>(q.1,q.2.2.2,q.1,0)))(Ac:∀d∈N_ false (τ.map fun q=>(q.1,q.2.2.2,q.1,0)) Fg (τ.map fun q=>(q.1,q.2.2.2,q.1,0)),False)(eF:yO false (τ.map fun q=>(q.1,q.2.2.2,q.1,0)) Fg=Jt)(fn:Func)(hp':Hp)(r:AV)(Q1:∀a' w',uB C.P fn C.w0 C.e0 hp' r a' w'->C.WV a' w')(hc:(∀k,k<xs.length->sp k=false)->∀(w:World) (e:bQ) (df:List Deferred) (X:Act->World->Prop),PT ⟨C.P,C.N,w,e,none,df,X⟩ T->Ex ⟨C.P,C.N,w,e,none,df,X⟩ c (lz T fn.results.toList hp' r) ⟨s.tm,Q4,s.ck⟩)(Dy:(∃k,k<xs.length/\sp k=true)->lz T fn.results.toList hp' r .ret ⟨s.tm,Jt,s.ck⟩):
  yw C (.block id (.rangeFunc g #[p1] assign body)) c Q s:=by
 intro a w hr;rw[MC,iZ];obtain⟨e,h1,fo,hv⟩:=hr.body;have mW:a.defers=[]:=hr.defers.trans Zl;have has:a.tmps.size=C.N:=hr.size;have Uy:=Jq (s:=s) hv g;rw[hg]at Uy;obtain⟨vs,heq,ec,Wi⟩:=sj Uy;refine It (wpIn_rangeFunc ?_);intro lP _;obtain⟨L,hL⟩:∃L:Loop,L={state:=.ready,pending:=none,fn:=lP,tmps:=a.tmps,params:=#[p1],assign,body,defers:=w.heap.size}:=⟨_,rfl⟩
 obtain⟨Ld,Mk⟩:∃Ld:Loop,Ld={L with state:=.done,pending:=some .ret}:=⟨_,rfl⟩;obtain⟨ep,VW⟩:∃ep,ep=eD e (fun b=>e.z b\/b=w.heap.size\/b=w.heap.size+1):=⟨_,rfl⟩;obtain⟨k1,k2⟩:=h1.E0 (w':=mA w L) (z':=fun b=>e.z b\/b=w.heap.size\/b=w.heap.size+1) (fun b hb=>.inl hb) (fun b hb hz=>hz.elim (fun h=>h) oM) (by rw[ZA];omega) (fun b hb=>FY w L hb);rw[<-VW]at k1 k2;have epz:ep.z=fun b=>e.z b\/b=w.heap.size\/b=w.heap.size+1:=by rw[VW];rfl
 have BA:∀b,ep.z b->b<(mA w L).heap.size:=fun b hb=>by
  rw[epz]at hb;rw[ZA];rcases hb with hb|hb
  ·rw[fo.tI]at hb;have:=fo.BA b hb;have:=hr.xt.size;omega
  omega
 have rk:mX false ep s.hp (rM 1) τ [] ep.z:=⟨hτ,Yq,fun d hd=>(rh d hd).elim,fun d hd=>(by cases hd),fun q hq=>by rw[(hτ0 q hq).1];exact Sp,fun _ h=>h,fun _ h=>.inl h⟩;obtain⟨e0,LD⟩:∃e0,e0=eN τ ep ep.z:=⟨_,rfl⟩;have r0:=rk.rel k1;have fz0:=(rk.GL k1).un;rw[h0]at r0;rw[<-LD]at r0 fz0;have e0z:e0.z=ep.z:=by rw[LD];rfl
 have YI:∀b,TT e0 b->TT ep b:=fun b ho=>by rw[LD]at ho;obtain⟨q,_,h⟩:=dP ho;exact h.own
 have zl:e0.z (w.heap.size+1):=by rw[e0z,epz];exact .inr (.inr rfl)
 have zlt0:∀b,e0.z b->b<(mA w L).heap.size:=by rw[e0z];exact BA
 have Q7:XO T (mA w L) (UE e0):=(hC.gl.mono fo.ext.size fo.ext.un fo.ext.same).mono k2.size (fun b hb hu=>fz0 b (k2.un b hb hu)) k2.same;have gJ:Rd (mA w L) e0 L (w.heap.size+1) (I0 0) (mA w L) e0:=⟨r0,Z7.refl _ _ _,rfl,fun _ h=>.inr h,rfl,rfl,rfl,fun _ _ _ _=>rfl,DK w L,lR _⟩;have tmE:∀t,VR (mA w L) (UE e0) e0 (rM 1) (L5 tmB t) (if t≠p1 then a.tmps.getD t undef else undef):=fun t=>by
  rcases mF t with h|⟨h2,h5,h6,h7⟩
  ·rw[h];exact .rC _ _ (.bad _)
  rw[iP h2,h5,LD];exact rk.Np k1 ((hv t).ext k2) h6 fun d hd=>(h7 d hd).elim
 have tail:∀(BK qV:Hp)(L2 Lx:Loop)(W':World)(e':bQ),Rd (mA w L) e0 L2 (w.heap.size+1) BK W' e'->
   Dg false (τ.map fun q=>(q.1,q.2.2.2,q.1,0)) BK (τ.map fun q=>(q.1,q.2.2.2,q.1,0))->(∀d∈N_ false (τ.map fun q=>(q.1,q.2.2.2,q.1,0)) BK (τ.map fun q=>(q.1,q.2.2.2,q.1,0)),False)->yO false (τ.map fun q=>(q.1,q.2.2.2,q.1,0)) BK=qV->
   ∀X,Tn ⟨C.P,C.N,(mA w L).putObj (w.heap.size+1) (.loop Lx),ep,none,[aP w.heap.size],X⟩ ⟨s.tm,qV,s.ck⟩ ({a with defers:=[aP w.heap.size]++a.defers}:Act) (W'.putObj (w.heap.size+1) (.loop Lx)):=by
  intro BK qV L2 Lx W' e' yI aZ Wx By X;have PP:w.heap.size+1<W'.heap.size:=(DH.1 yI.Sm).1;have Ti:=yI.wJ (W':=W'.putObj (w.heap.size+1) (.loop Lx)) (L':=Lx) zl eI (fun b hb=>Af hb) (World.putObj_heap_same PP) rfl rfl rfl;obtain⟨σb,hσb⟩:∃σb:Nm,σb=τ.map fun q=>(q.1,q.2.2.2,q.1,0):=⟨_,rfl⟩;rw[<-hσb]at aZ Wx By;have nb:Xk σb:=by
   rw[hσb];refine⟨?_,?_⟩
   ·rw[R8];exact hτ.n1
   rw[R8];exact hτ.n1
  have memb:∀q∈σb,∃q0∈τ,q=(q0.1,q0.2.2.2,q0.1,0):=fun q hq=>by rw[hσb]at hq;obtain⟨q0,h1,h2⟩:=A2.1 hq;exact⟨q0,h1,h2.symm⟩
  have rkb:mX false e' BK (rM s.ck) σb [] e'.z:=⟨nb,aZ,fun d hd=>(Wx d hd).elim,fun d hd=>(by cases hd),fun q hq=>by
   obtain⟨q0,h3,rfl⟩:=memb q hq;obtain⟨ob,h4,_⟩:=A5 Yq (show(q0.1,q0.2.1,q0.2.2.1,q0.2.2.2)∈τ from h3);obtain⟨ee,h5,h6,h7,_⟩:=k1.live _ _ _ h4;exact h7,fun _ h=>h,fun _ h=>.inl h⟩
  have lu:=rkb.rel Ti.hr;have fzE:=(rkb.GL Ti.hr).un;rw[By]at lu;have ownE:∀b,TT (eN σb e' e'.z) b->TT e' b:=fun b ho=>by obtain⟨q,_,h⟩:=dP ho;exact h.own
  have sz1:((mA w L).putObj (w.heap.size+1) (.loop Lx)).heap.size=w.heap.size+2:=by rw[eI,ZA]
  have szE:w.heap.size+2<=(W'.putObj (w.heap.size+1) (.loop Lx)).heap.size:=by have:=Ti.ext.size;rw[ZA]at this;exact this
  have sameE:∀b,b<w.heap.size+2->¬TT e0 b->(W'.putObj (w.heap.size+1) (.loop Lx)).heap[b]?=((mA w L).putObj (w.heap.size+1) (.loop Lx)).heap[b]?:=fun b hb ho=>by
   by_cases OT:b=w.heap.size+1
   ·subst OT;rw[World.putObj_heap_same PP,World.putObj_heap_same (by rw[ZA];omega)]
   rw[Af OT,Af OT];exact yI.same b (by rw[ZA];exact hb) OT ho
  have own0':∀b,¬TT ep b->¬TT e0 b:=fun b h ho=>h (YI b ho);have E2:Z7 ((mA w L).putObj (w.heap.size+1) (.loop Lx)) ep (rM s.ck) (W'.putObj (w.heap.size+1) (.loop Lx)) (eN σb e' e'.z) (rM s.ck):=by
   refine⟨by rw[sz1];exact szE,fun _ h=>h,fun b hb hu=>fzE b (Ti.ext.un b (by rw[ZA];rw[sz1]at hb;exact hb) (fz0 b hu)),fun b hb hu=>sameE b (by rw[sz1]at hb;exact hb) (own0' b hu.2),fun id SV X6 hg=>?_⟩;obtain⟨gi,a1,ga,ee,hm,h6,rfl⟩:=tN X6;obtain⟨q0,h3,h4⟩:=memb _ hm;cases h4
   obtain⟨ob,h7,_⟩:=A5 aZ hm;obtain⟨ee2,h8,h9,_⟩:=Ti.hr.live _ _ _ h7;rw[h6]at h8;cases h8;obtain⟨ee0,m1,m2,m3,m4⟩:=Ti.ext.Ia _ ee h6 (by rw[h9];exact Sp);rw[LD]at m1;obtain⟨gj,aj,gaj,eej,Ru,bF,rfl⟩:=tN m1;have ED:=Xk.bw hτ.n1 Ru;have zo:=Xk.bw hτ.n1 (show(q0.1,q0.2.1,q0.2.2.1,q0.2.2.2)∈τ from h3);rw[ED]at zo;cases zo
   have Zr:=(hτ0 q0 h3).2;obtain⟨ob2,XT,_⟩:=A5 Yq (show(q0.1,q0.2.1,q0.2.2.1,q0.2.2.2)∈τ from h3);obtain⟨ee3,Qb,N3,_⟩:=k1.live _ _ _ XT;rw[bF]at Qb;cases Qb;exact⟨eej,by rw[Zr];exact bF,N3,m3,m4⟩
  obtain⟨k3,k4⟩:=k1.wJ (w':=(mA w L).putObj (w.heap.size+1) (.loop Lx)) eI (fun b hb=>Af YM);refine⟨by rw[mW];rfl,has,⟨Ti.os,Ti.tape,Ti.output,by show((mA w L).putObj (w.heap.size+1) (.loop Lx)).heap.size<=_;rw[sz1];exact szE,fun b hb ho=>?_,Ti.drawn⟩,eN σb e' e'.z,lu,⟨Ti.z.trans e0z,fun b hb=>?_,?_,fun b hb=>?_⟩,fun t=>((hv t).ext (k2.trans k4)).ext E2⟩
  ·exact sameE b (by have h:b<((mA w L).putObj (w.heap.size+1) (.loop Lx)).heap.size:=hb;rw[sz1]at h;exact h) (own0' b ho)
  ·show b<((mA w L).putObj (w.heap.size+1) (.loop Lx)).heap.size;rw[eI];exact BA b hb
  ·have tB:∀id SV,(eN σb e' e'.z) id=some SV->rM 1 SV.g->rM s.ck SV.g:=fun id SV X6 _=>lu.gen id SV X6;exact⟨E2.size,fun g hg=>by
    by_cases L4:0<s.ck
    ·exact tL hg L4
    exact absurd (fo.ext.gs g hg) (by unfold rM;omega),E2.un,E2.same,fun id SV X6 hg=>E2.Ia id SV X6 (tB id SV X6 hg)⟩
  rcases Ti.own b (ownE b hb)with h|h
  ·refine .inl ?_;show((mA w L).putObj (w.heap.size+1) (.loop Lx)).heap.size<=b;rw[eI];exact h
  exact .inr (YI b h)
 have SG:∀Lx,PT ⟨C.P,C.N,(mA w L).putObj (w.heap.size+1) (.loop Lx),ep,none,[aP w.heap.size],fun _ _=>False⟩ T:=fun Lx=>by obtain⟨k3,k4⟩:=k1.wJ (w':=(mA w L).putObj (w.heap.size+1) (.loop Lx)) eI (fun b hb=>Af YM);exact⟨hC.ty,((hC.gl.mono fo.ext.size fo.ext.un fo.ext.same).mono k2.size k2.un k2.same).mono k4.size k4.un k4.same⟩
 obtain⟨J,CU⟩:∃J:JT,J=fun i W U=>match i with
  |some i=>(∃e',Rd (mA w L) e0 L (w.heap.size+1) (I0 i) W e'/\∀b,U b->UE e' b)/\∀k,k<i->sp k=false|none=>(∃e',Rd (mA w L) e0 Ld (w.heap.size+1) Fg W e'/\∀b,U b->UE e' b)/\∃k,k<xs.length/\sp k=true:=⟨_,rfl⟩
 refine⟨w.heap.size+1,[aP w.heap.size],mA w L,{target:=.fn (.func fb) vs,args:=#[.func (.yield (w.heap.size+1)) #[] #[]]},mA w L,fb,
  #[.func (.yield (w.heap.size+1)) #[] #[]]++vs,mA w L,?_,?_,fun _ _=>trivial,?_,fun h=>C3,?_⟩
 ·have:=run_enterLoop_outer (P:=C.P) (w:=w) lP a.tmps #[p1] assign body
  rw[hL];exact this
 ·simp only[resolve,heq];simp[go_sem]
 ·obtain⟨fn1,xH,px,eP⟩:=hit.1;simp only[invoke,callFunc,ig,fX,GQ,yT,xH,px,eP,C9,j4]
 refine(hit.2 (w.heap.size+1) vs J (mA w L) (UE e0) ec (fun i hi=>adO (FJ i hi) (Wi i hi) k2.size (fun b hb hu=>fz0 b (k2.un b hb hu)) k2.same) Q7 (fun b hb=>⟨fun hz=>by have:=zlt0 b hz;omega,fun ho=>by have:=r0.N2 ho;omega⟩)
  (by rw[CU];exact⟨⟨e0,gJ,fun _ h=>h⟩,fun k hk=>absurd hk (nZ _)⟩) ?_ ?_).mono ?_
 ·intro i W W' U hj hg;rw[CU]at hj ⊢;cases i with
  |some i=>obtain⟨⟨e',m1,m2⟩,m3⟩:=hj;exact⟨⟨e',m1.grow zl zlt0 hg,m2⟩,m3⟩
  |none=>obtain⟨⟨e',m1,m2⟩,m3⟩:=hj;exact⟨⟨e',m1.grow zl zlt0 hg,m2⟩,m3⟩
 ·intro i W U v hi hj hUb aqs;rw[CU]at hj;obtain⟨⟨e',yI,hU⟩,Ov⟩:=hj;have hy:=run_yield (P:=C.P) (args:=#[v]) yI.Sm (by rw[hL];rfl)
  refine⟨lP,a.tmps.setIfInBounds p1 v,assign,body,by rw[hy,hL];simp,roundIn_of_wpIn trivial ?_⟩;have PP:w.heap.size+1<W.heap.size:=(DH.1 yI.Sm).1;have VV:nf C.P C.N (mA w L) e0 L (w.heap.size+1) (some (w.heap.size+1)) ⟨(p1,xs.getD i .bad)::tmB,I0 i,1⟩ {tmps:=a.tmps.setIfInBounds p1 v,defers:=[]} W e':=by
   refine⟨⟨rfl,by simp[has],⟨rfl,rfl,rfl,lR _,fun _ _ _=>rfl,lR _⟩,e',yI.hr,⟨rfl,fun b hb=>?_,Z7.refl _ _ _,fun _ h=>.inr h⟩,fun t=>?_⟩,yI.hr,yI.ext,yI.z,yI.own,yI.os,yI.tape,yI.output,yI.same,yI.Sm,yI.drawn⟩
   ·have C6:e'.z b:=hb;rw[yI.z]at C6;exact tL (zlt0 b C6) yI.ext.size
   simp only[L5];by_cases ht:p1=t
   ·subst ht;rw[iP rfl,gA,z_ (by rw[has];exact hp1)];exact .rC _ _ (aqs W (UE e'))
   rw[iN ht,gA,CX ht,<-gA];have:=(tmE t).ext yI.ext;rw[iP (FX ht)]at this;exact this
  refine K_ (VV.step hC.ty Q7 zl zlt0 (KC i hi)) ?_;rintro ex a1 W1 ⟨s1,e1,Wo,⟨rfl,atd⟩,H7⟩;have po:w.heap.size+1<W1.heap.size:=(DH.1 Wo.Sm).1;refine⟨_,run_beginRound Wo.Sm (by rw[hL]),?_⟩;have M4:=Wo.wJ (W':=W1.putObj (w.heap.size+1) (.loop {L with state:=.busy})) (L':={L with state:=.busy}) zl eI (fun b hb=>Af hb) (World.putObj_heap_same po) rfl rfl rfl (lR _);refine K_ (M4.step hC.ty Q7 zl zlt0 atd) ?_;rintro ex a3 W3 ⟨s3,e3,MN,bz,F4⟩;have aI:w.heap.size+1<W3.heap.size:=(DH.1 MN.Sm).1;have ax:W.heap.size<=W3.heap.size:=Jz H7.size (by have:=F4.size;rw[eI]at this;exact this);have SO:∀{e2:bQ} b,e2.z=e0.z->UE e2 b->b≠w.heap.size+1:=fun b hz hu hb=>hu.1 (by rw[hz,hb];exact zl);have old:∀b,b<W.heap.size->U b->UE e3 b/\∀o,(W3.putObj (w.heap.size+1) o).heap[b]?=W.heap[b]?:=fun b hb hu=>by have u1:=H7.un b hb (hU b hu);have b1:b<W1.heap.size:=tL hb H7.size;have n1:=SO b Wo.z u1;have u3:=F4.un b (by rw[eI];exact b1) u1;refine⟨u3,fun o=>(Af n1).trans ((F4.same b (by rw[eI];exact b1) u1).trans ((Af n1).trans (H7.same b hb (hU b hu))))⟩
  have big:∀{hp:Hp}{e4:bQ}(L':Loop),Rd (mA w L) e0 L' (w.heap.size+1) hp W3 e4->∀b,W3.heap.size<=b->UE e4 b:=fun L' h4 b hb=>⟨fun hz=>by rw[h4.z]at hz;have:=zlt0 b hz;have:=h4.ext.size;omega,fun ho=>by have:=h4.hr.N2 ho;omega⟩;cases ex with
  |normal=>
   obtain⟨q1,q2⟩:=bz;obtain⟨e4,bf,C1⟩:=MN.end_ q2;refine⟨_,_,run_endRound none MN.Sm,true,rfl,UE e4,by rw[eI];exact ax,fun b hb hu=>⟨C1 b (tL hb ax) (old b hb hu).1,(old b hb hu).2 _⟩,fun b hb=>big _ bf b (by rw[eI]at hb;exact hb),?_⟩;rw[CU];refine⟨⟨e4,bf.wJ zl eI (fun b hb=>Af hb) ?_ rfl rfl rfl,fun _ h=>h⟩,fun k hk=>?_⟩
   ·rw[World.putObj_heap_same aI,hL];rfl
   by_cases mN:k=i
   ·rw[mN];exact q1
   exact Ov k oM
  |ret=>obtain⟨q1,q2⟩:=bz;obtain⟨e4,bf,C1⟩:=MN.end_ q2;refine⟨_,_,run_endRound (some .ret) MN.Sm,false,rfl,UE e4,by rw[eI];exact ax,fun b hb hu=>⟨C1 b (tL hb ax) (old b hb hu).1,(old b hb hu).2 _⟩,fun b hb=>big _ bf b (by rw[eI]at hb;exact hb),?_⟩;rw[CU];refine⟨⟨e4,bf.wJ zl eI (fun b hb=>Af hb) ?_ rfl rfl rfl,fun _ h=>h⟩,i,hi,q1⟩;rw[World.putObj_heap_same aI,Mk,hL];rfl
  |_=>exact bz.elim
 rintro en W' ⟨⟨v,rfl⟩,U,hj⟩;rw[CU]at hj;rcases hj with ⟨⟨e',yI,_⟩,Ov⟩|⟨⟨e',yI,_⟩,arq⟩
 ·obtain⟨Lx,nG⟩:∃Lx:Loop,Lx={L with state:=.exhausted}:=⟨_,rfl⟩;have qp:=run_endLoop (P:=C.P) yI.Sm (by rw[hL];simp);rw[<-nG,show L.pending=none by rw[hL]]at qp;refine⟨none,_,qp,?_⟩;show c.wpIn Fence.wide 0 C.P _ _ _;refine K_ (hc Ov _ _ _ _ (SG Lx) _ _ (tail _ _ L Lx W' e' yI aZ Wx By _)) ?_;rintro ex a' w' (⟨s',Lq,hq⟩|⟨_,hf⟩)
  ·cases ex<;>first|exact hq.elim|skip
   rw[VW]at Lq;exact .inr ⟨rfl,Q1 _ _ (mQ hC.ty fo hr.xt (fun b hb=>⟨h1.N2 hb,h1.PQ hb⟩) Lq hq)⟩
  exact hf.elim
 obtain⟨Lx,nG⟩:∃Lx:Loop,Lx={Ld with state:=.exhausted}:=⟨_,rfl⟩;have qp:=run_endLoop (P:=C.P) yI.Sm (by rw[Mk];simp);rw[<-nG,show Ld.pending=some .ret by rw[Mk]]at qp;refine⟨some .ret,_,qp,wpIn_ret ?_⟩;have Lq:=tail _ _ Ld Lx W' e' yI NE Ac eF (fun _ _=>False);rw[VW]at Lq;exact .inr ⟨rfl,Q1 _ _ (mQ hC.ty fo hr.xt (fun b hb=>⟨h1.N2 hb,h1.PQ hb⟩) Lq (Dy arq))⟩
theorem ajK{τ:Nm}{s:St}{p1:Nat}{tmB:List (Nat×AV)}(h:∀q∈tmB,q.1≠p1/\q.2=qO false τ s.hp (L5 s.tm q.1)/\TK false τ s.hp (L5 s.tm q.1)/\GB false τ s.hp (L5 s.tm q.1)=[]):
  ∀t,L5 tmB t=.bad\/(t≠p1/\L5 tmB t=qO false τ s.hp (L5 s.tm t)/\TK false τ s.hp (L5 s.tm t)/\∀d∈GB false τ s.hp (L5 s.tm t),False):=by
 intro t;induction tmB with
 |nil=>exact .inl rfl|cons q l ih=>
  simp only[L5];by_cases ht:q.1=t
  .rw[iP ht];obtain⟨h1,h2,h3,h4⟩:=h q mS;rw[ht]at h1 h2 h3 h4;exact .inr ⟨h1,h2,h3,fun d hd=>by rw[h4]at hd;cases hd⟩
  rw[iN ht];exact ih fun q hq=>h q (mC _ hq)
def akY{C:Cx}(τ:Nm)(Pb Fg:Hp)(tmB:List (Nat×AV))(fn:Func){Q4 Jt:Hp}{hp':Hp}{r:AV}{fb:FuncId}{caps xs:List AV}{id p1:Nat}{g:Operand}{assign body c:Code}{s:St}{Q:Exit->St->Prop}(hC:PT C T)(MC:C.rd=none)(Zl:C.df=[])(hit:Ku C.P T fb caps xs)(FJ:(caps.all Uk)=true)(hg:s.ev g=.fn fb caps)(hp1:p1<C.N)(hτ1:(τ.map (·.1)).Nodup)(hτ2:(τ.map (·.2.2.1)).Nodup)(hτ0:∀q∈τ,q.2.1=0/\q.1=q.2.2.1)(Yq:Dg false τ s.hp τ)(rh:N_ false τ s.hp τ=[])(h0:yO false τ s.hp=Pb)(mF:∀q∈tmB,q.1≠p1/\q.2=qO false τ s.hp (L5 s.tm q.1)/\TK false τ s.hp (L5 s.tm q.1)/\GB false τ s.hp (L5 s.tm q.1)=[])(aZ:Dg false (τ.map fun q=>(q.1,q.2.2.2,q.1,0)) Pb (τ.map fun q=>(q.1,q.2.2.2,q.1,0)))(Wx:N_ false (τ.map fun q=>(q.1,q.2.2.2,q.1,0)) Pb (τ.map fun q=>(q.1,q.2.2.2,q.1,0))=[])(By:yO false (τ.map fun q=>(q.1,q.2.2.2,q.1,0)) Pb=Q4)(NE:Dg false (τ.map fun q=>(q.1,q.2.2.2,q.1,0)) Fg (τ.map fun q=>(q.1,q.2.2.2,q.1,0)))(Ac:N_ false (τ.map fun q=>(q.1,q.2.2.2,q.1,0)) Fg (τ.map fun q=>(q.1,q.2.2.2,q.1,0))=[])(eF:yO false (τ.map fun q=>(q.1,q.2.2.2,q.1,0)) Fg=Jt)(Q1:∀a' w',uB C.P fn C.w0 C.e0 hp' r a' w'->C.WV a' w')(sp:Nat->Bool)(KC:∀i,i<xs.length->∀(w:World) (e:bQ) (rd:Option Nat) (X:Act->World->Prop),PT ⟨C.P,C.N,w,e,rd,[],X⟩ T->
   Ex ⟨C.P,C.N,w,e,rd,[],X⟩ assign (fun ex s1=>ex=.normal/\∀(w:World) (e:bQ) (rd:Option Nat) (X:Act->World->Prop),PT ⟨C.P,C.N,w,e,rd,[],X⟩ T->Ex ⟨C.P,C.N,w,e,rd,[],X⟩ body (Bo (sp i) Pb Fg) s1) ⟨(p1,xs.getD i .bad)::tmB,Pb,1⟩)(hc:(∀k,k<xs.length->sp k=false)->∀(w:World) (e:bQ) (df:List Deferred) (X:Act->World->Prop),PT ⟨C.P,C.N,w,e,none,df,X⟩ T->Ex ⟨C.P,C.N,w,e,none,df,X⟩ c (lz T fn.results.toList hp' r) ⟨s.tm,Q4,s.ck⟩)(Dy:(∃k,k<xs.length/\sp k=true)->lz T fn.results.toList hp' r .ret ⟨s.tm,Jt,s.ck⟩):
  yw C (.block id (.rangeFunc g #[p1] assign body)) c Q s:=
 ap1 hC MC Zl hit (fun i h=>FR.1 FJ _ (gM h)) hg hp1 τ ⟨hτ1,hτ2⟩ hτ0 Yq (fun d hd=>by rw[rh]at hd;cases hd) (fun _=>Pb) Fg h0 tmB (ajK mF) sp KC aZ (fun d hd=>by rw[Wx]at hd;cases hd) By NE (fun d hd=>by rw[Ac]at hd;cases hd) eF fn hp' r Q1 hc Dy
end
end Go.Sym
namespace Go.Proofs.YtfcgkbinohibcaaGreatDoor
open Go Go.Sym Go.Proofs.Tryz
def CI(v:Vw)(k:Int):Nat:=if Sw v k=true then(Ez k).toNat+1 else 0
def Di(v:Vw)(k:Int)(n:Nat):List Uq:=(List.range n).map (yd v k)
def dI(v:Vw):Nat->List Uq
 |0=>[]|j+1=>dI v j++Di v (3+j) (CI v (3+j))
def oG(v:Vw)(k:Int)(n:Nat):(Di v k n).length=n:=by simp[Di]
def Er(v:Vw)(j:Nat):(dI v (j+1)).length=(dI v j).length+CI v (3+j):=by rw[dI,aL,oG]
theorem od(v:Vw)(j:Nat):∀d,∃r,dI v (j+d)=dI v j++r
 |0=>⟨[],sM⟩|d+1=>by obtain⟨r,h⟩:=od v j d;exact⟨r++Di v (3+(j+d:Nat)) (CI v (3+(j+d:Nat))),by rw[<-lX,dI,h,Z5]⟩
def nJ(v:Vw){j m:Nat}(hj:j<4)(hm:m<CI v (3+j)):(dI v j).length+m<(dI v 4).length/\(dI v 4).getD ((dI v j).length+m) default=yd v (3+j) m:=by
 obtain⟨r,h⟩:=od v (j+1) (4-(j+1));have h2:dI v 4=dI v j++Di v (3+j) (CI v (3+j))++r:=by rw[show j+1+(4-(j+1))=4 by omega]at h;exact h
 rw[h2];refine⟨by rw[aL,aL,oG];omega,?_⟩;rw[Z5,gE,Ga oM,fd (by rw[oG];omega)];have e:(dI v j).length+m-(dI v j).length=m:=oM;rw[e];simp[Di,hm]
def asC(l:List Uq)(i:Nat)(h:i<(b7 l).length):Sg ((b7 l).getD i .bad):=by
 have h':i<l.length:=by simpa[b7] using h
 rw[YN h'];refine .inr ⟨_,rfl,fun c hc=>?_⟩;simp only[rX,AY,xN]at hc;rcases hc with rfl|rfl|rfl<;>trivial
def at3(v:Vw)(ht:v.tx=[]\/v.tx.length=10):Ku prog J9 170 [.P [I v.dv,I v.kd,I v.bg,S (strOf v.tx)]] (b7 (dI v 4)):=by
 refine aik (N:=27) A3 func170 vz rfl rfl ntmps170 dM ?_;intro l J hJ hY;repeat first|refine QY ?_|refine II ?_|refine fT ?_
 refine qy A3 hJ fun w z hC=>?_;refine uR ?_;intro K hK;refine uH ?_;refine hK _ ⟨fun _=>rfl,?_⟩;clear hK K hC w z;refine fT ?_;refine KI (fun j:Nat=>[(0,.lit (.func (.yield l) #[] #[])),(1,.P [I v.dv,I v.kd,I v.bg,S (strOf v.tx)]),(3,I (3+(j:Int)))]) (fun j=>some (dI v j).length) (fun j=>j<=4) (fun j=>4-j) 0 (zL _) rfl ⟨rfl,rfl,rfl,rfl,rfl,rfl,trivial⟩ ?_
 intro j hj;refine QY (QY ?_);refine qy A3 hJ fun w z hC=>?_;refine uR ?_;intro K hK;refine uH ?_;refine hK _ ⟨fun _=>rfl,?_⟩;clear hK K hC w z;by_cases h4:j<4
 ·refine Re true (rD (fun b=>AV.lit (.bool b)) (dT oM)) (fun _=>II ?_) (fun h=>C3);refine QY (fT (QY ?_));refine qy A3 hJ fun w z hC=>?_;refine uR ?_;intro K hK;refine uH ?_;refine hK _ ⟨fun _=>rfl,?_⟩;clear hK K hC w z;refine fT ?_;refine KI (fun m:Nat=>[(0,.lit (.func (.yield l) #[] #[])),(1,.P [I v.dv,I v.kd,I v.bg,S (strOf v.tx)]),(3,I (3+(j:Int))),(4,I (m:Int))]) (fun m=>some ((dI v j).length+m)) (fun m=>m<=CI v (3+j)) (fun m=>CI v (3+j)-m) 0 (zL _) rfl ⟨rfl,rfl,rfl,rfl,rfl,rfl,rfl,rfl,trivial⟩ ?_
  intro m hm;have auL:CI v (3+(j:Int))<=10:=by
   unfold CI Ez;split
   ·split<;>decide
   omega
  refine QY (QY ?_);by_cases PP:m<CI v (3+j)
  ·have oD:Sw v (3+j)=true:=by
    unfold CI at PP;split at PP
    ·assumption
    omega
   have jG:(m:Int)<=Ez (3+j):=by
    unfold CI at PP;rw[iP oD]at PP;have:0<=Ez (3+(j:Int)):=by unfold Ez;split<;>omega
    omega
   have d0:decide ((m:Int)<=Ez (3+j))=true:=dT jG;have hc:=kZ v (3+j);rw[oD]at hc;refine qy A3 hJ fun w z hC=>?_;refine uR ?_;intro K hK;refine Dx (IE _) ?_;first|refine Z6 @d0 ?_|exact an @d0
   refine Dx hc ?_;refine uH ?_;refine hK _ ⟨fun _=>rfl,?_⟩;clear hK K hC w z;refine Re true rfl (fun _=>II ?_) (fun h=>C3);refine QY (fT (QY ?_));obtain⟨dg,apc⟩:=nJ v h4 PP;have YG:=alm v (3+j) m (fun h3 Mf=>by
    have hm9:(m:Int)<=9:=by
     have:Ez (3+(j:Int))<=9:=by unfold Ez;split<;>omega
     omega
    have aK:v.tx≠[]:=by unfold Sw at oD;rw[iN h3,iN Mf]at oD;simp at oD;exact oD.2
    rcases ht with h|h
    ·exact absurd h aK
    omega) (by rcases ht with h|h<;>simp[h])
   refine abz A3 hJ (asC _) hY 5 rfl rfl ?_;intro K hK;simp only[dS,Td];refine uS ?_;refine Dx YG ?_;refine uH ?_;refine hK _ ⟨fun _=>rfl,rfl,by rw[OS];exact dg,by rw[YN dg,apc];rfl,fun b K hK=>?_⟩;simp only[dR,RH];refine Qd ?_;refine hK _ ⟨fun _=>rfl,?_⟩;clear hK K;cases b with
   |true=>refine Re false rfl (fun h=>C3) (fun _=>II ?_);refine qy A3 hJ fun w z hC=>?_;refine uR ?_;intro K hK;refine uH ?_;refine hK _ ⟨fun _=>rfl,?_⟩;clear hK K hC w z;exact⟨m+1,PP,oM,rfl,rfl,rfl,rfl,rfl,rfl,rfl,rD I oM,rfl,trivial⟩|false=>refine Re true rfl (fun _=>acu ?_) (fun h=>C3);exact⟨.inr rfl,.inr rfl⟩
  have kT:m=CI v (3+j):=oM;cases oD:Sw v (3+j)with
  |false=>
   have SI:m=0:=by rw[kT,CI,iN (by rw[oD];decide)]
   have d0:decide ((m:Int)<=Ez (3+j))=true:=dT (by
    have:0<=Ez (3+(j:Int)):=by unfold Ez;split<;>omega
    omega)
   have hc:=kZ v (3+j);rw[oD]at hc;refine qy A3 hJ fun w z hC=>?_;refine uR ?_;intro K hK;refine Dx (IE _) ?_;first|refine Z6 @d0 ?_|exact an @d0
   refine Dx hc ?_;refine uH ?_;refine hK _ ⟨fun _=>rfl,?_⟩;clear hK K hC w z;refine Re false rfl (fun h=>C3) (fun _=>ES ?_);refine qy A3 hJ fun w z hC=>?_;refine uR ?_;intro K hK;refine uH ?_;refine hK _ ⟨fun _=>rfl,?_⟩;clear hK K hC w z;exact⟨j+1,oM,oM,by rw[Er,kT],rfl,rfl,rfl,rfl,rD I oM,rfl,trivial⟩
  |true=>
   have d0:decide ((m:Int)<=Ez (3+j))=false:=dF (by
    have:0<=Ez (3+(j:Int)):=by unfold Ez;split<;>omega
    rw[kT,CI,iP oD];omega)
   refine qy A3 hJ fun w z hC=>?_;refine uR ?_;intro K hK;refine Dx (IE _) ?_;first|refine Z6 @d0 ?_|exact an @d0
   refine uH ?_;refine hK _ ⟨fun _=>rfl,?_⟩;clear hK K hC w z;refine Re false rfl (fun h=>C3) (fun _=>ES ?_);refine qy A3 hJ fun w z hC=>?_;refine uR ?_;intro K hK;refine uH ?_;refine hK _ ⟨fun _=>rfl,?_⟩;clear hK K hC w z;exact⟨j+1,oM,oM,by rw[Er,kT],rfl,rfl,rfl,rfl,rD I oM,rfl,trivial⟩
 have afX:j=4:=oM;subst afX;refine Re false (rD (fun b=>AV.lit (.bool b)) (dF oM)) (fun h=>C3) (fun _=>ES ?_);exact⟨.inl rfl,.inl (by rw[OS])⟩
def ahV(v:Vw):UB prog J9 123 [] [v.av] [] (.fn 170 [.P [I v.dv,I v.kd,I v.bg,S (strOf v.tx)]]):=by refine MD func123 ntmps123 ?_;intro w e X hC;exact Et
def zc(v:Vw)(r:Uq):Int×Bool:=if r=kP v then(0,true) else if r∈dI v 4 then(1,true) else(0,false)
def bV(a b:Uq):(decide (a.dv=b.dv)&&(a.sn==b.sn&&(decide (a.rd=b.rd)&&true)))=decide (a=b):=by obtain⟨a1,a2,a3⟩:=a;obtain⟨b1,b2,b3⟩:=b;rw[VY];simp
def aiN(y:Ly)(p:Pl)(pl:List T3)(r:Uq)(d:Nat)(h:Sj y p)(hd:d<y.D.length)(hr:r.dv=d)(JW:pl.length<=1000)(ht:(zY y p pl d).tx=[]\/(zY y p pl d).tx.length=10):
  UB prog J9 69 [] [y.av,p.av,.sl (YA pl) false,r.av] [] (.F1 [I (zc (zY y p pl d) r).1,B (zc (zY y p pl d) r).2]):=by
 have SR:=asO y p pl d h hd JW;obtain⟨e1,e2,e3,e4⟩:=h.at_ d hd;have g1:=Hr hd;have g2:=au e3;have hn:=h.n;have hs:=h.sl;generalize zY y p pl d=v at*;have Hk:=cM v;have AC:=ahV v;have Ut:=at3 v ht;obtain⟨rdv,rsn,rrd⟩:=r;simp only at hr;subst hr;generalize pM y d=n at*;generalize Wr y d=k at*;generalize y.D.getD d default=x at*;generalize p.Q.getD n []=sw at*;have d0:=Vj ((d:Int)<0);have d1:=Vj ((y.D.length:Int)<=(d:Int));have d2:=Vj ((n:Int)<0);have d3:=Vj ((p.Q.length:Int)<=(n:Int));have d4:=Vj ((k:Int)<0);have d5:=Vj ((sw.length:Int)<=(k:Int));refine AO (T:=J9) A3 func69 rfl vz (by simp[ntmps69]) ?_;intro w e X hX hC;rw[ntmps69];simp only[bZ,List.zipIdx,List.map];refine NL (uI @d0 @d1) ?_;refine aH @g1 ?_;refine mb (uI @g1 (uI @e1 (uI @e2 (uI @g2 (uI @d2 (uI @d3 (uI @d4 @d5))))))) ?_;refine uF ?_;refine uR ?_;refine R6 SR ?_;refine uE ?_;intro K hK;refine eh Hk ?_;have hq:=bV ⟨d,rsn,rrd⟩ (kP v);simp only at hq;simp only[hq];refine hK _ ?_;clear hK K;refine Wc ?_ ?_<;>intro c
 .rw[zc,iP c];refine WE ?_;rw[show f69.results.toList=[.cell 8 3,.cell 9 4] from rfl];exact W5
 refine md ?_;refine xK ?_;refine Gk AC ?_;first|refine uS ?_|exact uX
 refine akY [(107,0,107,3),(108,0,108,4),(109,0,109,5)] ([(107,some (0,.box [I d,B rsn,S (strOf rrd)])),(108,some (0,.box [I 0])),(109,some (0,.box [B false]))]) ([(107,some (0,.box [I d,B rsn,S (strOf rrd)])),(108,some (0,.box [I 1])),(109,some (0,.box [B true]))]) [(7,.p 107 0 0 0 0),(8,.p 108 0 0 0 0),(9,.p 109 0 0 0 0)] f69 hC rfl rfl (Ut) rfl rfl (by dsimp only;decide) ?_ ?_ ?_ ?_ ?_ ?_ ?_ ?_ ?_ rfl ?_ ?_ rfl hX (fun i=>decide ((dI v 4).getD i default=⟨d,rsn,rrd⟩)) ?_ ?_ ?_;(iterate 11 (focus (first|exact trivial|rfl|omega|(simp only[go_sem,Dg,N_,Lf,rZ,yO,Ds,b_,FV,rX,AY,rq,pF,iG,MP,Z5]<;>first|trivial|rfl|(simp;done)|omega)|(simp;done))))
 .clear hX hC;intro i hi w e rd X hC;have jk:i<(dI v 4).length:=by rw[OS]at hi;exact hi
  have hg:=YN jk;have hq:=bV ((dI v 4).getD i default) ⟨d,rsn,rrd⟩;generalize (dI v 4).getD i default=z at*;simp only at hq;rw[hg];refine uR ?_;intro K hK;refine uH ?_;refine hK _ ⟨rfl,?_⟩;clear hK K hC;intro w e rd X hC;refine Fm @hq ?_ ?_<;>intro c2
  .refine uZ ?_;refine A_ ⟨dT c2,?_⟩;show fL _ .normal _;refine Iy [(107,0,107,0),(108,0,108,0),(109,0,109,0)] ?_ ?_ ?_ ?_ ?_ ?_;(iterate 5 (focus (first|exact trivial|rfl|exact fun _ _=>rfl|(simp only[go_sem,Dg,N_,Lf,rZ,yO,Ds,b_,FV,rX,AY,rq,pF,iG,MP,Z5]<;>first|trivial|rfl|(simp;done)|omega)|(simp;done))));(simp only[go_sem,Dg,N_,Lf,rZ,yO,Ds,b_,FV,rX,AY,rq,pF,iG,MP,Z5])
  refine uW ?_;refine⟨dF c2,?_⟩;show fL _ .normal _;refine Iy [(107,0,107,0),(108,0,108,0),(109,0,109,0)] ?_ ?_ ?_ ?_ ?_ ?_;(iterate 5 (focus (first|exact trivial|rfl|exact fun _ _=>rfl|(simp only[go_sem,Dg,N_,Lf,rZ,yO,Ds,b_,FV,rX,AY,rq,pF,iG,MP,Z5]<;>first|trivial|rfl|(simp;done)|omega)|(simp;done))));(simp only[go_sem,Dg,N_,Lf,rZ,yO,Ds,b_,FV,rX,AY,rq,pF,iG,MP,Z5])
 .clear hX hC;intro Ov w e df X hC;have jh:¬(⟨d,rsn,rrd⟩:Uq)∈dI v 4:=fun hm=>by obtain⟨i,hi,he⟩:=G_ hm;have:=oF (Ov i (by rw[OS];exact hi));rw[gE,gG hi]at this;exact this he
  rw[zc,iN c,iN jh];refine f7 ?_;rw[show f69.results.toList=[.cell 8 3,.cell 9 4] from rfl];exact W5
 rintro⟨i,hi,hb⟩;have jk:i<(dI v 4).length:=by rw[OS]at hi;exact hi
 have he:=oT hb;have hm:(⟨d,rsn,rrd⟩:Uq)∈dI v 4:=by rw[<-he,gE,gG jk];exact gM jk
 rw[zc,iN c,iP hm];simp only[go_sem,Dg,N_,Lf,rZ,yO,Ds,b_,FV,rX,AY,rq,pF,iG,MP,Z5];show ∃σ D,Nu _ f69.results.toList σ D _ _ _;rw[show f69.results.toList=[.cell 8 3,.cell 9 4] from rfl];exact W5
def WO(kd:Int):UB prog J9 85 [] [I kd] [] (B (c9 kd)):=by
 refine MD func85 ntmps85 ?_;intro w e X hC;refine uA ?_;by_cases c1:1<=kd
 .have d1:decide (1<=kd)=true:=dT c1;refine xT @d1 ?_;try rfl
  simp only[go_sem,c9,d1,Q2]
 have d1:decide (1<=kd)=false:=dF c1;refine xT @d1 ?_;try rfl
 simp only[go_sem,c9,d1,aS]
def ji(fs:List Int)(k:Nat)(hn:fs.length<=1000):UB prog J9 274 [] [IS fs,I k] [] (I (fs.getD k 0)):=by
 refine MD func274 ntmps274 ?_;intro w e X hC;refine C0 ?_ ?_<;>intro h
 .refine OD ?_;try rfl
  rw[gE,Zo oM];rfl
 have PP:k<fs.length:=oM;exact jm (ma PP)
def wM(s:List Int)(k:Nat)(f:Int):Nat:=
 if f=1\/s.getD (k+1) 0≠0 then k
 else if f=2/\k+2<s.length/\s.getD (k+2) 0=0 then k+2 else k+1
def api(s:List Int)(k:Nat)(f:Int)(hs:s.length<=1000)(hk:k+1<s.length):UB prog J9 273 [] [IS s,I k,I f] [] (I (wM s k f)):=by
 have e1:(k:Int)+1=((k+1:Nat):Int):=oM;have e2:(k:Int)+2=((k+2:Nat):Int):=oM;refine MD func273 ntmps273 ?_;intro w e X hC;refine uA ?_;by_cases c1:f=1
 .have d1:decide (f=1)=true:=dT c1;refine Ij @d1 ?_;try rfl
  rw[wM,iP (.inl c1)];rfl
 have d1:decide (f=1)=false:=dF c1;by_cases c2:s.getD (k+1) 0=0
 .have d2:decide (¬s.getD (k+1) 0=0)=false:=dF (fun h=>h c2);have c2':¬(f=1\/s.getD (k+1) 0≠0):=fun h=>h.elim c1 (fun h=>h c2);by_cases c3:f=2
  .have d3:decide (f=2)=true:=dT c3;by_cases c4:k+2<s.length
   .have d4:=oN (((k+2:Nat):Int)<s.length);refine VF (uI @d1 (uI @d2 (uI @d3 (uI @d4 (uI @e1 (uI @e2 (uI (ma hk) (ma c4)))))))) ?_;refine Wc ?_ ?_<;>intro c5
    .refine OD ?_;try rfl
     rw[wM,iN c2',iP ⟨c3,c4,c5⟩];rfl
    refine OD ?_;try rfl
    rw[wM,iN c2',iN (fun h=>c5 h.2.2)];rfl
   have d4:=Vj (((k+2:Nat):Int)<s.length);refine Ij (uI @d1 (uI @d2 (uI @d3 (uI @d4 (uI @e1 (uI @e2 (ma hk))))))) ?_;try rfl
   rw[wM,iN c2',iN (fun h=>c4 h.2.1)];rfl
  have d3:decide (f=2)=false:=dF c3;refine Ij (uI @d1 (uI @d2 (uI @d3 (uI @e1 (uI @e2 (ma hk)))))) ?_;try rfl
  rw[wM,iN c2',iN (fun h=>c3 h.1)];rfl
 have d2:decide (¬s.getD (k+1) 0=0)=true:=dT c2;refine Ij (uI @d1 (uI @d2 (uI @e1 (ma hk)))) ?_;try rfl
 rw[wM,iP (.inr c2)];rfl
def aao(s:List Int)(hn:s.length<=1000):UB prog J9 272 [] [IS s] [] (I (E4 s)):=by
 refine MD func272 ntmps272 ?_;intro w e X hC;refine EP ?_;refine AJ s.length (fun i:Az=>⟨[(3,I ((s.take i.2).count 0:Nat)),(6,IS s),(7,I s.length),(8,I i.2)],[],i.1⟩) (ch) ?_;intro ck i hi;have hc:(s.take i).count 0<=i:=Jz pr xF;refine C0 ?_ ?_<;>intro h
 .have PP:i<s.length:=oM;have e1:=UM PP;generalize (s.take i).count 0=c at*;refine LY (ma PP) ?_;refine MI _ rfl (fun e'=>?_) (fun e'=>?_)
  .rw[iP e']at e1;refine uZ ?_;exact nX (_,i+1) (wT @e1)
  rw[iN e']at e1;refine uZ ?_;exact nX (_,i+1) (wT @e1)
 refine El ?_;have jk:i=s.length:=oM;subst jk;refine OD ?_;try rfl
 rw[Sy];rfl
def tZ(tm:Array Value)(i j:Nat)(v:Value):(tm.setIfInBounds i v).getD j undef=if i=j/\i<tm.size then v else tm.getD j undef:=by
 rw[gA,gA,Array.getElem?_setIfInBounds];by_cases h:i=j
 .subst h;by_cases h2:i<tm.size
  .simp[h2]
  simp[h2]
 simp[h]
section
variable{P:Program}{ops:Array Oper}{Q:Exit->Act->World->Prop}{a:Act}{w w':World}{So:List Oper}{o:Oper}{v:Value}
def Lu(hg:o.guard=none)(hd:∀c,o.op≠.defer c)(h:(execOp a.eval o).run P w=.ok (.value v) w')(hn:wpListIn Fence.wide 0 P ops Q So (a.put o.dst v) w'):wpListIn Fence.wide 0 P ops Q (o::So) a w:=by unfold wpListIn;rw[iP (aO hg _)];refine⟨fun _ _=>trivial,?_⟩;rw[E1 _ _ _ hd,h,Ta];exact hn
end
section
variable{P:Program}{a:Act}{w:World}{dst:Option Tmp}{type:TypeId}{pos:String}{after:Array Edge}{guard:Option (Nat×Bool)}
def Dq{x:Operand}{v:Value}(h:a.eval x=v):(execOp a.eval ⟨dst,.move x,type,pos,after,guard⟩).run P w=.ok (.value v) w:=by subst h;rfl
def o5{x:Operand}{v:Value}(h:a.eval x=v):(execOp a.eval ⟨dst,.assign x,type,pos,after,guard⟩).run P w=.ok (.value v) w:=by subst h;rfl
def Fk{t:TypeId}{x:Operand}{v0 v:Value}(h:a.eval x=v0)(hl:(Instr.loadAt t v0).run P w=.ok v w):(execOp a.eval ⟨dst,.load t x,type,pos,after,guard⟩).run P w=.ok (.value v) w:=by subst h;exact(Ea _ _).trans (by rw[hl];rfl)
def apL{t:TypeId}{x y:Operand}{v0 v1 v:Value}(h:a.eval x=v0)(h1:a.eval y=v1)(hl:(Instr.indexAt t v0 v1).run P w=.ok v w):(execOp a.eval ⟨dst,.indexAddr t x y,type,pos,after,guard⟩).run P w=.ok (.value v) w:=by subst h h1;exact(Ea _ _).trans (by rw[hl];rfl)
def agX{t:TypeId}{x:Operand}{v0 v:Value}(h:a.eval x=v0)(hl:∀ty,(Builtin.len_ #[t] ty #[v0]).run P w=.ok v w):(execOp a.eval ⟨dst,.call {callee:=.builtin .len,args:=#[x],argTypes:=#[t]},type,pos,after,guard⟩).run P w=.ok (.value v) w:=by
 subst h;have e1:(execOp a.eval ⟨dst,.call {callee:=.builtin .len,args:=#[x],argTypes:=#[t]},type,pos,after,guard⟩).run P w=((Builtin.len_ #[t] type #[a.eval x]).run P w).andThen fun v w=>.ok (.value v) w:=by simp[execOp,resolve,invoke,builtin]
 rw[e1,hl];rfl
def KJ{x y:Operand}{m n:Int}{t u:TypeId}(h:a.eval x=.int .i64 m)(h1:a.eval y=.int .i64 n)(hb:-9223372036854775808<=m-n/\m-n<=9223372036854775807):(execOp a.eval ⟨dst,.binOp .sub t x y u,type,pos,after,guard⟩).run P w=.ok (.value (.int .i64 (m-n))) w:=by simp[execOp,h,h1,eqGuard,binOp,Op.intArith,wrap_i64 hb]
def ajB{x y:Operand}{m n:Int}{t u:TypeId}(h:a.eval x=.int .i64 m)(h1:a.eval y=.int .i64 n):(execOp a.eval ⟨dst,.binOp .geq t x y u,type,pos,after,guard⟩).run P w=.ok (.value (.bool (decide (n<=m)))) w:=by simp[execOp,h,h1,eqGuard,binOp,Op.intCmp]
def adS{x y z:Operand}{ts:Array TypeId}{l fn:Nat}{v1 v2:Value}{tmps:Array Value}{asg bd:Code}(h:a.eval x=.func (.yield l) #[] #[])(h1:a.eval y=v1)(h2:a.eval z=v2)(hy:(Instr.yield l #[v1,v2]).run P w=.ok (.round l fn tmps asg bd) w):
  (execOp a.eval ⟨dst,.call {callee:=.value x,args:=#[y,z],argTypes:=ts},type,pos,after,guard⟩).run P w=.ok (.round l fn tmps asg bd) w:=by
 simp[execOp,resolve,invoke,Deferred.ofValue,h,h1,h2,hy]
def alN{x:Operand}{b:Bool}{t:TypeId}(h:a.eval x=.bool b):(execOp a.eval ⟨dst,.unOp .not t x,type,pos,after,guard⟩).run P w=.ok (.value (.bool (!b))) w:=by simp[execOp,h,Op.unary]
end
def atg:w_ prog 269:=by
 refine⟨⟨f269,func269,vz,vz⟩,?_⟩;intro l bx off xs J W0 xE Qa hJ KC;have O8:=A3.fits (t:=22) dM;have pS:=A3.fits (t:=3) dM;obtain⟨d22,uM,aiH⟩:=O8.under;have aub:d22=.slice 3:=aiH;subst aub;have rd:∀i W,J i W->∃sv,(Instr.loadAt 22 (.pointer (some ⟨bx,off,none⟩))).run prog W=.ok sv W/\(∀ty,(Builtin.len_ #[22] ty #[sv]).run prog W=.ok (.int .i64 xs.length) W)/\
   ∀j,j<xs.length->∃av,(Instr.indexAt 22 sv (.int .i64 (j:Nat))).run prog W=.ok av W/\(Instr.loadAt 3 av).run prog W=.ok (.int .i64 (xs.getD j 0)) W:=by
  intro i W iV;obtain⟨U,akb⟩:=hJ i W iV;obtain⟨b,o,f,hp,hU,hb,hc,h1,hv⟩:=akb.Si;cases hp
  have hl:=GZ O8 W bx off f fun j hj=>hc j (show j<1 from hj);have IU:=hv 0 sM;refine⟨f 0,?_,?_,?_⟩
  ·rw[hl];rfl
  ·intro ty;rcases IU.Rv with ⟨h0,a,ha⟩|⟨sb,so,cap,k,g,ha,_⟩
   ·have dY:tk xs=[]:=h0;have:xs.length=0:=by rw[<-nP xs,dY];rfl
    have fR:f 0=.slice a 0 0:=ha;rw[fR,this];simp[Builtin.len_,pP uM,goInt]
   have fR:f 0=.slice (some ⟨sb,so,none⟩) (tk xs).length cap:=ha;rw[fR,nP];simp[Builtin.len_,pP uM,goInt]
  intro j hj;rcases IU.Rv with ⟨h0,a,ha⟩|⟨sb,so,cap,k,g,ha,hU2,hsb,h3,h4,_,zU,hk,J0,wE,BC⟩
  ·have dY:tk xs=[]:=h0;have:xs.length=0:=by rw[<-nP xs,dY];rfl
   omega
  have fR:f 0=.slice (some ⟨sb,so,none⟩) (tk xs).length cap:=ha;have Se:j<(tk xs).length:=by rw[nP];exact hj
  have VJ:(tk xs)[j].cells=[I (xs.getD j 0)]:=by have:=ma hj;rw[gE,gG Se]at this;have e2:(tk xs)[j]=I (xs.getD j 0):=this;rw[e2];rfl
  have P':k=1:=by have:=hk j Se;rw[VJ]at this;simpa using this.symm
  subst P';refine⟨.pointer (some ⟨sb,so+(j:Int).toNat*(tl J9 3).size,none⟩),?_,?_⟩
  ·rw[fR];exact Kl uM pS sb so _ cap .i64 (j:Nat) oM oM W
  have d_:=GZ pS W sb (so+(j:Int).toNat*(tl J9 3).size) (fun m=>g (j*1+m)) fun m hm=>by
   have SI:m=0:=by have:m<1:=hm;omega
   subst SI;have:=J0 j oM;have e3:so+(j:Int).toNat*(tl J9 3).size+0=so+j:=by simp[show(tl J9 3).size=1 from rfl]
   rw[e3,this];simp
  rw[d_];have hg:=BC j Se 0 (by rw[VJ];simp);have:(tk xs)[j].cells[0]'(by rw[VJ];simp)=I (xs.getD j 0):=by simp only[VJ,E6]
  rw[this]at hg;have X0:g (j*1+0)=.int .i64 (xs.getD j 0):=(VR.rC (e:=⟨fun _=>none,fun _=>False,fun _=>none⟩) (G:=fun _=>True) _ _ (hg.mono (U':=UE ⟨fun _=>none,fun _=>False,fun _=>none⟩) (lR _) (fun _ _ _=>⟨id,fun ho=>by
   rcases ho with ⟨_,_,_,h,_⟩|⟨_,_,h,_⟩<;>cases h⟩) fun _ _ _=>rfl)).VI.1
  show Result.ok (g (j*1+0)) W=_;rw[X0]
 refine callsIn_of_wp (F:=Fence.wide) func269 vz trivial ?_;obtain⟨Y,hY⟩:∃Y:Value,Y=.func (.yield l) #[] #[]:=⟨_,rfl⟩
 obtain⟨Pt,kC⟩:∃Pt:Value,Pt=.pointer (some ⟨bx,off,none⟩):=⟨_,rfl⟩;rw[<-kC]at rd;rw[<-hY,<-kC];have T0:(#[Y,Pt]++Array.replicate (f269.ntmps - #[Y,Pt].size) undef).size=19/\(#[Y,Pt]++Array.replicate (f269.ntmps - #[Y,Pt].size) undef).getD 0 undef=Y/\(#[Y,Pt]++Array.replicate (f269.ntmps - #[Y,Pt].size) undef).getD 1 undef=Pt:=by rw[ntmps269];refine⟨sM,?_,?_⟩<;>rw[gA,Jl sM]<;>rfl
 generalize (#[Y,Pt]++Array.replicate (f269.ntmps - #[Y,Pt].size) undef)=tm at T0
 obtain⟨t1,t2,t3⟩:=T0;have nd:∀{op:Op}{c:Call},op≠.defer c->op≠.defer c:=fun h=>h;refine iQ (kI ?_);obtain⟨sv,q1,q2,q3⟩:=rd 0 W0 Qa;refine Lu rfl Xo (Fk (v0:=Pt) t3 q1) ?_;refine Lu rfl Xo (agX (v0:=sv) S5 q2) ?_;refine Lu rfl Xo (KJ (m:=xs.length) (n:=1) S5 rfl oM) ?_;refine Lu rfl Xo (o5 (v:=.int .i64 ((xs.length:Int)-1)) S5) ?_;show(Code.block _ _).wpIn Fence.wide 0 prog _ _ _;refine It (wpIn_loop (fun a W=>∃i,i<=xs.length/\J i W/\a.defers=[]/\a.tmps.size=19/\a.tmps.getD 0 undef=Y/\a.tmps.getD 1 undef=Pt/\a.tmps.getD 3 undef=.int .i64 ((xs.length:Int)-1 - i))
  (fun a _=>match a.tmps.getD 3 undef with| .int _ n=>(n+1).toNat|_=>0) ⟨0,zL _,Qa,rfl,?_,?_,?_,?_⟩ ?_)
 ·simp[Act.put,t1]
 ·simp only[Act.put,tZ,t2];rfl
 ·simp only[Act.put,tZ,t3];rfl
 ·simp[Act.put,tZ,t1]
 rintro a W ⟨i,hi,iV,hd,s1,s2,s3,s4⟩;clear t1 t2 t3;refine iQ (iQ (kI ?_));refine Lu rfl Xo (Dq s4) ?_;refine Lu rfl Xo (ajB (m:=(xs.length:Int)-1 - i) (n:=0) pa rfl) ?_;by_cases PP:i<xs.length
 ·refine wpIn_cond_true ?_ (wpIn_skip ?_)
  ·simp only[Act.put,Act.eval,tZ,yY,s1,s2,s3,s4,Nat.reduceEqDiff,Nat.reduceLT,kM,ul,be,j4,ql,reduceIte];exact rD Value.bool xF
  refine iQ (It (iQ (kI ?_)));obtain⟨sv,q1,q2,q3⟩:=rd i W iV;obtain⟨av,q4,q5⟩:=q3 (xs.length-1 - i) oM;have ei:((xs.length-1 - i:Nat):Int)=(xs.length:Int)-1 - i:=oM;rw[ei]at q4;refine Lu rfl Xo (Dq (v:=Y) pa) ?_;refine Lu rfl Xo (Dq (v:=.int .i64 ((xs.length:Int)-1 - i)) pa) ?_;refine Lu rfl Xo (Fk (v0:=Pt) pa q1) ?_;refine Lu rfl Xo (Dq (v:=.int .i64 ((xs.length:Int)-1 - i)) pa) ?_;refine Lu rfl Xo (apL (v0:=sv) pa pa q4) ?_;refine Lu rfl Xo (Fk (v0:=av) pa q5) ?_;obtain⟨fn,tmps,asg,bd,hy,hr⟩:=KC i W PP iV;unfold wpListIn;rw[iP (aO rfl _)];refine⟨fun _ _=>trivial,?_⟩;rw[E1 _ _ _ Xo,adS (l:=l) (v1:=.int .i64 ((xs.length:Int)-1 - i)) (v2:=.int .i64 (xs.getD (xs.length-1 - i) 0)) (by rw[<-hY];simp[Act.put,Act.eval,tZ,s1]) pa pa hy,Oper.uponIn_round];refine⟨fun h=>C3,hr.mono ?_⟩;rintro en W' ⟨rfl,ah9⟩;refine Lu rfl Xo (alN (b:=true) pa) ?_;refine wpIn_cond_false (by simp only[Act.put,Act.eval,tZ,yY,s1,s2,s3,s4,Nat.reduceEqDiff,Nat.reduceLT,kM,ul,be,j4,ql,reduceIte,Y5]) (wpIn_skip ?_);refine kI ?_;refine Lu rfl Xo (Dq (v:=.int .i64 ((xs.length:Int)-1 - i)) pa) ?_;refine Lu rfl Xo (KJ (m:=(xs.length:Int)-1 - i) (n:=1) pa rfl oM) ?_;refine Lu rfl Xo (o5 (v:=.int .i64 ((xs.length:Int)-1 - i-1)) pa) ?_;simp only[Exit.then];refine And.intro (Exists.intro (i+1) ?_) ?_
  ·refine And.intro oM (And.intro ah9 (And.intro ?_ (And.intro ?_ (And.intro ?_ (And.intro ?_ ?_)))))
   ·simp only[Act.put];exact hd
   ·simp only[Act.put,Act.eval,tZ,yY,s1,s2,s3,s4,Nat.reduceEqDiff,Nat.reduceLT,kM,ul,be,j4,ql,reduceIte]
   ·simp only[Act.put,Act.eval,tZ,yY,s1,s2,s3,s4,Nat.reduceEqDiff,Nat.reduceLT,kM,ul,be,j4,ql,reduceIte]
   ·simp only[Act.put,Act.eval,tZ,yY,s1,s2,s3,s4,Nat.reduceEqDiff,Nat.reduceLT,kM,ul,be,j4,ql,reduceIte]
   simp only[Act.put,Act.eval,tZ,yY,s1,s2,s3,s4,Nat.reduceEqDiff,Nat.reduceLT,kM,ul,be,j4,ql,reduceIte];exact rD (Value.int .i64) oM
  simp only[Act.put,Act.eval,tZ,yY,s1,s2,s3,s4,Nat.reduceEqDiff,Nat.reduceLT,kM,ul,be,j4,ql,reduceIte];omega
 have jk:i=xs.length:=oM;subst jk;refine wpIn_cond_false ?_ (wpIn_exit ?_)
 ·simp only[Act.put,Act.eval,tZ,yY,s1,s2,s3,s4,Nat.reduceEqDiff,Nat.reduceLT,kM,ul,be,j4,ql,reduceIte];exact rD Value.bool xF
 simp only[Exit.then,Exit.inBlock,ql];have ur:f269.results=#[]:=rfl
 exact⟨hd,.tuple #[],by simp[results,ur],⟨_,rfl⟩,iV⟩
end Go.Proofs.YtfcgkbinohibcaaGreatDoor
namespace Go.Plant
def aD:List Int->List Int->Bool->List Int×Int
 |[],_,_=>([],0)|b::r,fs,op=>
  if b=0 then(0::(aD r (fs.drop 1) op).1,(aD r (fs.drop 1) op).2)
  else if r=[] then(if op=true/\fs.getD 0 0≠1 then([0],b) else([b],0))
  else if fs.getD 0 0=1\/r.getD 0 0≠0 then(b::(aD r (fs.drop 1) op).1,(aD r (fs.drop 1) op).2)
  else if fs.getD 0 0=2/\1<r.length/\r.getD 1 0=0 then(0::((aD r (fs.drop 1) op).1.set 1 b),(aD r (fs.drop 1) op).2)
  else(0::((aD r (fs.drop 1) op).1.set 0 b),(aD r (fs.drop 1) op).2)
theorem iR(s fs:List Int)(op:Bool):(aD s fs op).1.length=s.length:=by
 induction s generalizing fs with
 |nil=>rfl|cons b r ih=>
  rw[aD];split
  .simp[ih]
  split
  .next h=>subst h;split<;>rfl
  split
  .simp[ih]
  split<;>simp[ih]
def K8(r fs:List Int)(op:Bool):aD (0::r) fs op=(0::(aD r (fs.drop 1) op).1,(aD r (fs.drop 1) op).2):=by rw[aD,iP rfl]
theorem BG{r:List Int}(h:r≠[])(h0:r.getD 0 0=0):∃t,r=0::t:=by
 cases r with
 |nil=>exact absurd rfl h|cons a t=>exact⟨t,by simp at h0;rw[h0]⟩
def nz(s:List Int):List Int:=s.filter fun x=>decide (x≠0)
@[simp] theorem auC:nz []=[]:=rfl
@[simp] theorem D0(s:List Int):nz (0::s)=nz s:=rfl
theorem Vk{b:Int}(h:b≠0)(s:List Int):nz (b::s)=b::nz s:=by simp[nz,h]
def an4(s t:List Int):nz (s++t)=nz s++nz t:=by simp[nz]
theorem asE(s fs:List Int)(op:Bool):nz (aD s fs op).1++nz [(aD s fs op).2]=nz s:=by
 induction s generalizing fs with
 |nil=>rfl|cons b r ih=>
  by_cases hb:b=0
  .subst hb;rw[K8];simp only[D0];exact ih _
  rw[aD,iN hb];split
  .next h=>
   subst h;split
   .rfl
   simp[nz,hb]
  next hr=>
  split
  .rw[Vk hb,Vk hb,Mb,ih]
  next h1=>
  have h0:r.getD 0 0=0:=BX fun h=>h1 (.inr h);obtain⟨t,rfl⟩:=BG hr h0;split
  .next h2=>
   have ht:t≠[]:=by intro h;subst h;simp at h2
   obtain⟨u,rfl⟩:=BG ht (by simpa using h2.2.2);have:=ih (fs.drop 1);rw[K8,K8]at this ⊢;simp only[D0]at this;simp only[ID,FA,D0,Vk hb,Mb];rw[this]
  have:=ih (fs.drop 1);rw[K8]at this ⊢;simp only[D0]at this;simp only[FA,D0,Vk hb,Mb];rw[this]
theorem ahZ(s fs:List Int)(op:Bool)(h:s.getD 0 0=0):(aD s fs op).1.getD 0 0=0:=by
 cases s with
 |nil=>rfl|cons b r=>simp at h;subst h;rw[K8];rfl
theorem ab(s fs:List Int)(op:Bool):
  (aD s fs op).2=if op=true/\fs.getD (s.length-1) 0≠1 then s.getD (s.length-1) 0 else 0:=by
 induction s generalizing fs with
 |nil=>simp[aD]|cons b r ih=>
  have hd:r≠[]->(fs.drop 1).getD (r.length-1) 0=fs.getD ((b::r).length-1) 0/\r.getD (r.length-1) 0=(b::r).getD ((b::r).length-1) 0:=by intro hr;have:0<r.length:=bt.mpr hr;have e:(b::r).length-1=(r.length-1)+1:=xF;rw[e];exact⟨by simp[gE,TQ],by simp[gE]⟩
  by_cases hr:r=[]
  .subst hr;by_cases hb:b=0
   .subst hb;simp[aD]
   rw[aD,iN hb,iP rfl];simp only[dO,N9,Ek];by_cases hc:op=true/\fs.getD 0 0≠1
   .rw[iP hc];simp only[cy,vW,Ek];rw[iP hc]
   rw[iN hc];simp only[cy,vW];rw[iN hc]
  have:=ih (fs.drop 1);rw[(hd hr).1,(hd hr).2]at this;rw[aD];simp only[iN hr];split
  .exact this
  split
  .exact this
  split<;>exact this
def Eo(l:List Int)(i j:Nat):List Int:=(l.set i (l.getD j 0)).set j (l.getD i 0)
def lJ(s:List Int)(k:Nat)(f:Int):Nat:=
 if f=1\/s.getD (k+1) 0≠0 then k
 else if f=2/\k+2<s.length/\s.getD (k+2) 0=0 then k+2 else k+1
def Ul(s fs:List Int)(op:Bool)(k:Nat)(o:List Int×Int):List Int×Int:=
 if s.getD k 0=0 then o
 else if k+1<s.length then(Eo o.1 k (lJ s k (fs.getD k 0)),o.2)
 else if op=true/\fs.getD k 0≠1 then(o.1.set k 0,s.getD k 0)
 else o
def PY(s fs:List Int)(op:Bool):Nat->List Int×Int
 |0=>(s,0)|c+1=>Ul s fs op (s.length-1-c) (PY s fs op c)
def aqE(l:List Int)(i:Nat):Eo l i i=l:=by
 unfold Eo;by_cases h:i<l.length
 .simp[gE,gG h]
 rw[Dm A6,Dm oM]
def rx(a b:List Int)(i:Nat)(x:Int):(a++b).set (a.length+i) x=a++b.set i x:=by
 rw[ap _ _ oM];congr 2
 omega
def Yd(a b:List Int)(i:Nat):(a++b).getD (a.length+i) 0=b.getD i 0:=by simp[gE,Ga]
def RE(a b:List Int)(i j:Nat):Eo (a++b) (a.length+i) (a.length+j)=a++Eo b i j:=by simp only[Eo,Yd,rx]
def asr(a s fs:List Int)(op:Bool)(b:Int)(r:List Int)(hs:s=a++b::r)(o:Int)(A:List Int)(hA:A=(aD r (fs.drop (a.length+1)) op).1)(ho:o=(aD r (fs.drop (a.length+1)) op).2):
  Ul s fs op a.length (a++b::A,o)=(a++(aD (b::r) (fs.drop a.length) op).1,(aD (b::r) (fs.drop a.length) op).2):=by
 have e0:s.getD a.length 0=b:=by rw[hs];simpa using Yd a (b::r) 0
 have e1:s.getD (a.length+1) 0=r.getD 0 0:=by rw[hs];simpa using Yd a (b::r) 1
 have e2:s.getD (a.length+2) 0=r.getD 1 0:=by rw[hs];simpa using Yd a (b::r) 2
 have el:s.length=a.length+1+r.length:=by rw[hs];simp;omega
 have ef:(fs.drop a.length).getD 0 0=fs.getD a.length 0:=by simp[gE]
 have ed:(fs.drop a.length).drop 1=fs.drop (a.length+1):=sM;rw[aD,ed,<-hA,<-ho,ef];unfold Ul;rw[e0];by_cases hb:b=0
 .subst hb;rw[iP rfl,iP rfl]
 rw[iN hb,iN hb];by_cases hr:r=[]
 .subst hr;have:A=[]:=by rw[hA];rfl
  subst this;have:o=0:=by rw[ho];rfl
  subst this;rw[iN (by simp at el;omega),iP rfl];split
  .have:=rx a [b] 0 0;simp only[dq,FA]at this;simp only[this]
  rfl
 have hl:0<r.length:=bt.mpr hr;rw[iP oM,iN hr];unfold lJ;rw[e1,e2,el];by_cases h1:fs.getD a.length 0=1\/r.getD 0 0≠0
 .rw[iP h1,iP h1,aqE]
 rw[iN h1,iN h1];have h0:r.getD 0 0=0:=BX fun h=>h1 (.inr h);obtain⟨t,rfl⟩:=BG hr h0;rw[K8]at hA;by_cases h2:fs.getD a.length 0=2/\1<(0::t).length/\(0::t).getD 1 0=0
 .have ht:t≠[]:=by intro h;subst h;simp at h2
  obtain⟨u,rfl⟩:=BG ht (by simpa using h2.2.2);rw[K8]at hA;rw[iP (by refine⟨h2.1,?_,h2.2.2⟩;have:=h2.2.1;omega),iP h2];have:=RE a (b::A) 0 2;simp only[dq]at this;rw[this,hA];simp[Eo]
 rw[iN (by intro h;exact h2 ⟨h.1,by have:=h.2.1;omega,h.2.2⟩),iN h2];have:=RE a (b::A) 0 1;simp only[dq]at this;rw[this,hA];simp[Eo]
theorem aiC(s fs:List Int)(op:Bool)(c:Nat)(hc:c<=s.length):
  PY s fs op c=(s.take (s.length-c)++(aD (s.drop (s.length-c)) (fs.drop (s.length-c)) op).1,(aD (s.drop (s.length-c)) (fs.drop (s.length-c)) op).2):=by
 induction c with
 |zero=>simp[PY,aD]|succ c ih=>
  have hk:s.length-1-c<s.length:=oM;have e1:s.length-c=(s.length-1-c)+1:=oM;have e2:s.length-(c+1)=s.length-1-c:=oM;rw[PY,ih oM,e1,e2];generalize DJ:s.length-1-c=k at*;have hs:s=s.take k++s[k]::s.drop (k+1):=by rw[<-Pv hk,pH]
  have PP:(s.take k).length=k:=xF;have ht:s.take (k+1)=s.take k++[s[k]]:=by rw[wr];simp[hk]
  have:=asr (s.take k) s fs op s[k] (s.drop (k+1)) hs (aD (s.drop (k+1)) (fs.drop ((s.take k).length+1)) op).2 _ rfl rfl;rw[PP,<-Pv hk]at this;rw[ht,Z5];exact this
def aqg(s fs:List Int)(op:Bool):PY s fs op s.length=aD s fs op:=by rw[aiC _ _ _ _ (lR _)];simp
end Go.Plant
namespace Go.Proofs.YtfcgkbinohibcaaGreatDoor
open Go Go.Sym Go.Proofs.Tryz
open Go.Plant
def j9(s:List Int)(h0:0<s.length)(hs:s.length<=1000):UB prog J9 183 [] [IS s] [(100,some (1,.own 3 1 (tk s)))] (.l 100 1 0 s.length):=by refine MD func183 ntmps183 ?_;intro w e X hC;refine uZ ?_;refine UN ?_;refine A_ ?_;rw[show f183.results.toList=[.tmp 2] from rfl];(refine Me [(100,1,105,4)] Xs sM sM sM I3 I3 I3 ?_ ?_;all_goals (first|refine UR ?_|exact Xv|skip))
def arW{s fs:List Int}{op:Bool}{k:Nat}{o:List Int×Int}:(Ul s fs op k o).1.length=o.1.length:=by
 unfold Ul;split
 .rfl
 split
 .simp[Eo]
 split<;>simp
theorem HK{s fs:List Int}{op:Bool}:∀c,(PY s fs op c).1.length=s.length
 |0=>rfl|c+1=>by rw[PY,arW,HK c]
theorem agT(s:List Int)(k:Nat)(f:Int):wM s k f=lJ s k f:=rfl
def aq2{s:List Int}{k:Nat}{f:Int}(h:k+1<s.length):lJ s k f<s.length:=by
 unfold lJ;split
 .omega
 split<;>omega
def atK(s fs:List Int)(op:Bool)(h0:0<s.length)(hn:fs.length<=1000)(hs:s.length<=1000):
  UB prog J9 254 [] [IS s,IS fs,B op] [(100,some (1,.own 3 1 (tk (aD s fs op).1)))] (.F1 [.l 100 1 0 s.length,I (aD s fs op).2]):=by
 refine MD func254 ntmps254 ?_;intro w e X hC;refine BL ?_;intro K hK;refine PZ [] [(113,4,100,1)] false ((j9 s h0 hs)) iw iw p6 p6 p6 p6 p6 p6 p6 p6 p6 p6 p6 p6 p6 p6 p6 ?_;refine M3 ?_;refine hK _ ?_;clear hK K;refine uZ ?_;have ei:(s.length:Int)-1=((s.length:Int)-1-((0:Nat):Int)):=oM;refine uW ?_;refine PV (fun i:Nat×Az=>⟨[(0,IS s),(1,IS fs),(2,B op),(8,.l 113 i.2.2 0 s.length),(9,I (PY s fs op i.2.1).2),(10,I ((s.length:Int)-1 - i.2.1))],(113,some (i.2.2,.own 3 1 (tk (PY s fs op i.2.1).1)))::[],i.1⟩) (fun i=>i.2.1<=s.length) (fun i=>s.length - i.2.1) (_,0,_) (zL _) (.of (lR _) (by repeat first|exact Zf.nil|refine He ?_|(refine Zf.cons ?_ ?_;(focus (simp only[go_sem,PY];done)))) (by repeat first|exact O6.nil|refine yB ?_|(refine O6.cons ?_ ?_;(focus (simp only[go_sem,<-ei,PY];done))))) ?_;rintro⟨ck,c,g⟩ hc;simp only at hc;have TX:=HK (s:=s) (fs:=fs) (op:=op) c;have e1:PY s fs op (c+1)=Ul s fs op (s.length-1-c) (PY s fs op c):=rfl;have efin:c=s.length->PY s fs op c=aD s fs op:=fun h=>by subst h;exact aqg s fs op
 generalize e9:PY s fs op c=o at*;refine C0 ?_ ?_<;>intro h
 .have PP:c<s.length:=oM;obtain⟨k,hk⟩:∃k,k=s.length-1-c:=⟨_,rfl⟩;have DJ:(s.length:Int)-1-c=k:=oM;have DN:k<s.length:=oM;have e3:(k:Int)-1=(s.length:Int)-1-((c+1:Nat):Int):=oM;rw[<-hk]at e1;simp only[DJ];by_cases c1:s.getD k 0=0
  .have e2:Ul s fs op k o=o:=iP c1;have d1:decide (s.getD k 0=0)=true:=dT c1;refine kV (uI (ma DN) @d1) ?_;exact nX (_,c+1,g) (wK (uI @e1 @e2) (uI @e1 (uI @e2 @e3)))
  have d1:decide (s.getD k 0=0)=false:=dF c1;by_cases c2:k+1<s.length
  .have e2:Ul s fs op k o=(Eo o.1 k (lJ s k (fs.getD k 0)),o.2):=by rw[Ul,iN c1,iP c2]
   have d2:=oN ((k:Int)<(s.length:Int)-1);have ht:=aq2 (f:=fs.getD k 0) c2;have tM:=api s k (fs.getD k 0) hs c2;rw[agT]at tM;generalize e7:lJ s k (fs.getD k 0)=to at*;have BZ:to<o.1.length:=oM;have S8:k<o.1.length:=oM;refine VF (uI (ma DN) (uI @d1 @d2)) ?_;refine uR ?_;intro K hK;refine eh ((ji fs k hn)) ?_;refine eh tM ?_;refine hK _ ?_;clear hK K;refine Ew (uI (ma BZ) (uI (ma S8) @TX)) ?_;refine X3 ?_;refine uW ?_;have e2':Ul s fs op k o=((o.1.set k (o.1.getD to 0)).set to (o.1.getD k 0),o.2):=e2;exact nX (_,c+1,g) (wK (uI @e1 @e2') (uI @e1 (uI @e2' @e3)))
  have d2:=Vj ((k:Int)<(s.length:Int)-1);cases op with
  |false=>
   have e2:Ul s fs false k o=o:=by rw[Ul,iN c1,iN c2,iN sM]
   refine kV (uI (ma DN) (uI @d1 @d2)) ?_;exact nX (_,c+1,g) (wK (uI @e1 @e2) (uI @e1 (uI @e2 @e3)))
  |true=>
   by_cases c3:fs.getD k 0=1
   .have e2:Ul s fs true k o=o:=by rw[Ul,iN c1,iN c2,iN (fun h=>h.2 c3)]
    have d3:decide (¬fs.getD k 0=1)=false:=dF (fun h=>h c3);refine VF (uI (ma DN) (uI @d1 @d2)) ?_;refine uR ?_;intro K hK;refine eh ((ji fs k hn)) ?_;first|refine Z6 @d3 ?_|exact an @d3
    refine hK _ ?_;clear hK K;refine X3 ?_;refine uW ?_;exact nX (_,c+1,g) (wK (uI @e1 @e2) (uI @e1 (uI @e2 @e3)))
   have e2:Ul s fs true k o=(o.1.set k 0,s.getD k 0):=by rw[Ul,iN c1,iN c2,iP ⟨rfl,c3⟩]
   have d3:decide (¬fs.getD k 0=1)=true:=dT c3;have S8:k<o.1.length:=oM;refine VF (uI (ma DN) (uI @d1 @d2)) ?_;refine uR ?_;intro K hK;refine eh ((ji fs k hn)) ?_;first|refine Z6 @d3 ?_|exact an @d3
   refine hK _ ?_;clear hK K;refine kV (uI (ma DN) @TX) ?_;exact nX (_,c+1,g) (wK (uI @e1 @e2) (uI @e1 (uI @e2 @e3)))
 refine El ?_;have Zp:c=s.length:=oM;have e2:=efin Zp;subst e2;refine WE ?_;rw[show f254.results.toList=[.tmp 6,.tmp 7] from rfl];(refine Me [(100,1,113,g)] Xs sM sM sM I3 I3 I3 ?_ ?_;all_goals (first|refine UR ?_|exact Xv|skip))
def ae4(xs:List Int):UB prog J9 250 [] [IS xs] [] (.fn 269 [.P [IS xs]]):=by refine MD func250 ntmps250 ?_;intro w e X hC;exact Et
theorem XB(x:Nd)(c:Int)(hx:x.ex.length<=1000):UB prog J9 116 [] [x.av,I c] [] (B (jo x c)):=by
 refine MD func116 ntmps116 ?_;intro w e X hC;refine uA ?_;have ai5 (h:x.kd=7):c9 x.kd=false:=by rw[c9,h];rfl
 cases c1:c9 x.kd with
 |true=>
  have n7:¬x.kd=7:=fun h=>by have:=ai5 h;rw[c1]at this;cases this
  have e1:jo x c=if c=-1 then decide (¬x.kd=5) else decide (0<=c)&&decide (c<x.ex.length):=by rw[jo,iN n7,c1,iN sM]
  refine uR ?_;intro K hK;refine eh ((WO x.kd)) ?_;first|refine Z6 @c1 ?_|exact an @c1
  refine hK _ ?_;clear hK K;refine uT ?_;by_cases c2:c=-1
  .have d2:decide (c=-1)=true:=dT c2;have d3:=Vj (0<=c);refine xT (uI @d2 @d3) ?_;try rfl
   simp only[go_sem,e1,iP c2,decide_not]
  have d2:decide (c=-1)=false:=dF c2;rw[iN c2]at e1;by_cases c3:0<=c
  .have d3:decide (0<=c)=true:=dT c3;by_cases c4:c<x.ex.length
   .have d4:decide (c<(x.ex.length:Int))=true:=dT c4;refine xT (uI @d2 (uI @d3 @d4)) ?_;try rfl
    rw[e1,d3,d4];rfl
   have d4:decide (c<(x.ex.length:Int))=false:=dF c4;refine xT (uI @d2 (uI @d3 @d4)) ?_;try rfl
   rw[e1,d3,d4];rfl
  have d3:decide (0<=c)=false:=dF c3;refine xT (uI @d2 @d3) ?_;try rfl
  rw[e1,d3];rfl
 |false=>
  refine uR ?_;intro K hK;refine eh ((WO x.kd)) ?_;first|refine Z6 @c1 ?_|exact an @c1
  refine hK _ ?_;clear hK K;refine uF ?_;by_cases c2:x.kd=7
  .have d2:decide (x.kd=7)=true:=dT c2;have e1:jo x c=(decide (0<=c)&&decide (c<=40)):=by rw[jo,iP c2]
   by_cases c3:0<=c
   .have d3:decide (0<=c)=true:=dT c3;refine Ij (uI @d2 @d3) ?_;try rfl
    rw[e1,d3];rfl
   have d3:decide (0<=c)=false:=dF c3;refine Ij (uI @d2 @d3) ?_;try rfl
   rw[e1,d3];rfl
  have d2:decide (x.kd=7)=false:=dF c2;have e1:jo x c=decide (c=0):=by rw[jo,iN c2,c1,iP rfl]
  refine Ij @d2 ?_;try rfl
  exact an @e1
def OP{α:Type}(p:α->Bool)(l:List α):Int:=match l.findIdx? p with|some i=>i|none=>-1
def jI{α:Type}{p:α->Bool}{l:List α}{d:α}{i:Nat}(hi:i<l.length)(h:∀j,j<i->p (l.getD j d)=false)(h2:p (l.getD i d)=true):OP p l=i:=by
 have e1:l.findIdx? p=some i:=by rw[tV];refine⟨hi,by simpa[hi] using h2,fun j tw=>?_⟩;have pO:j<l.length:=oM;simpa[pO] using h j tw
 rw[OP,e1]
def A7{α:Type}{p:α->Bool}{l:List α}{d:α}(h:∀j,j<l.length->p (l.getD j d)=false):OP p l=-1:=by
 have e1:l.findIdx? p=none:=by rw[n4];intro x hx;obtain⟨j,tw,rfl⟩:=G_ hx;simpa[tw] using h j oM
 rw[OP,e1]
theorem SQ{α:Type}{p:α->Bool}{l:List α}:decide (0<=OP p l)=l.any p:=by
 unfold OP;cases h:l.findIdx? p with
 |none=>
  have:l.any p=false:=by rw[n4]at h;rw[lA];exact fun x hx=>by simpa using h x hx
  rw[this];rfl
 |some i=>
  have:l.any p=true:=by rw[tV]at h;obtain⟨hi,h1,_⟩:=h;exact X4.2 ⟨_,gM hi,h1⟩
  rw[this];simp
def TH(l:List Int)(x:Int)(hl:l.length<=1000):UB prog J9 149 [] [IS l,I x] [] (I (OP (fun y=>decide (x=y)) l)):=by
 refine MD func149 ntmps149 ?_;intro w e X hC;refine EP ?_;refine R7 l.length (fun i:Az=>⟨[(1,I x),(0,IS l),(6,IS l),(7,I l.length),(8,I i.2)],[],i.1⟩) (fun i=>∀j,j<i.2->(fun y=>decide (x=y)) (l.getD j 0)=false) (fun j hj=>absurd hj (nZ _)) (ch) ?_;intro ck i hi hj;simp only at hj;refine C0 ?_ ?_<;>intro h
 .have PP:i<l.length:=oM
  skip
  cases c1:(fun y=>decide (x=y)) (l.getD i 0)with
  |true=>
   have e1:=jI (p:=(fun y=>decide (x=y))) (d:=0) PP hj c1;have d1:=c1;simp only at d1;refine aH (uI (ma PP) @d1) ?_;refine eg ?_;try rfl
   exact an @e1
  |false=>
   have d1:=c1;simp only at d1;refine zF (uI (ma PP) @d1) ?_;refine⟨(_,i+1),⟨uO,fun j tw=>?_⟩,uO,ch⟩;by_cases ZJ:j=i
   .subst ZJ;exact c1
   exact hj j DG
 refine El ?_;have e1:=A7 (l:=l) (p:=(fun y=>decide (x=y))) fun j h=>hj j oM;refine OD ?_;try rfl
 exact an @e1
def M6(l:List Int)(x:Int)(hl:l.length<=1000):UB prog J9 87 [] [IS l,I x] [] (B (l.any (fun y=>decide (x=y)))):=by
 refine MD func87 ntmps87 ?_;intro w e X hC;refine Bn ((TH l x hl)) ?_;try rfl
 exact an @SQ
def Ql(x y:T3):Bool:=decide (x.a=y.a)&&(decide (x.b=y.b)&&(decide (x.c=y.c)&&true))
def PB{x y:T3}:Ql x y=true↔x=y:=by
 cases x;cases y
 simp[Ql]
def adZ(l:List T3)(x:T3)(hl:l.length<=1000):UB prog J9 282 [] [.sl (YA l) false,x.av] [] (I (OP (fun y:T3=>Ql x y) l)):=by
 refine MD func282 ntmps282 ?_;intro w e X hC;refine EP ?_;refine R7 l.length (fun i:Az=>⟨[(3,.p 103 1 0 0 0),(0,.sl (YA l) false),(6,.sl (YA l) false),(7,I l.length),(8,I i.2)],(103,some (1,.box [I x.a,I x.b,I x.c]))::[],i.1⟩) (fun i=>∀j,j<i.2->(fun y:T3=>Ql x y) (l.getD j default)=false) (fun j hj=>absurd hj (nZ _)) (ch) ?_;intro ck i hi hj;simp only at hj;refine C0 ?_ ?_<;>intro h
 .have PP:i<l.length:=oM
  skip
  cases c1:(fun y:T3=>Ql x y) (l.getD i default)with
  |true=>
   have e1:=jI (p:=(fun y:T3=>Ql x y)) (d:=default) PP hj c1;have d1:=c1;simp only[Ql]at d1;refine uA ?_;refine mb (uI (Hr PP) @d1) ?_;refine eg ?_;try rfl
   exact an @e1
  |false=>
   have d1:=c1;simp only[Ql]at d1;refine uA ?_;refine mb (uI (Hr PP) @d1) ?_;refine UN ?_;refine⟨(_,i+1),⟨uO,fun j tw=>?_⟩,uO,ch⟩;by_cases ZJ:j=i
   .subst ZJ;exact c1
   exact hj j DG
 refine El ?_;have e1:=A7 (l:=l) (p:=(fun y:T3=>Ql x y)) fun j h=>hj j oM;refine OD ?_;try rfl
 exact an @e1
def uh(l:List T3)(x:T3)(hl:l.length<=1000):UB prog J9 268 [] [.sl (YA l) false,x.av] [] (B (l.any (fun y:T3=>Ql x y))):=by
 refine MD func268 ntmps268 ?_;intro w e X hC;refine Bn ((adZ l x hl)) ?_;try rfl
 exact an @SQ
def atb(l:List T3)(x:T3)(hl:l.length<=1000):UB prog J9 240 [] [.sl (YA l) false,x.av] [] (I (OP (fun y:T3=>Ql x y) l)):=by
 refine MD func240 ntmps240 ?_;intro w e X hC;refine EP ?_;refine R7 l.length (fun i:Az=>⟨[(3,.p 103 1 0 0 0),(0,.sl (YA l) false),(6,.sl (YA l) false),(7,I l.length),(8,I i.2)],(103,some (1,.box [I x.a,I x.b,I x.c]))::[],i.1⟩) (fun i=>∀j,j<i.2->(fun y:T3=>Ql x y) (l.getD j default)=false) (fun j hj=>absurd hj (nZ _)) (ch) ?_;intro ck i hi hj;simp only at hj;refine C0 ?_ ?_<;>intro h
 .have PP:i<l.length:=oM
  skip
  cases c1:(fun y:T3=>Ql x y) (l.getD i default)with
  |true=>
   have e1:=jI (p:=(fun y:T3=>Ql x y)) (d:=default) PP hj c1;have d1:=c1;simp only[Ql]at d1;refine uA ?_;refine mb (uI (Hr PP) @d1) ?_;refine eg ?_;try rfl
   exact an @e1
  |false=>
   have d1:=c1;simp only[Ql]at d1;refine uA ?_;refine mb (uI (Hr PP) @d1) ?_;refine UN ?_;refine⟨(_,i+1),⟨uO,fun j tw=>?_⟩,uO,ch⟩;by_cases ZJ:j=i
   .subst ZJ;exact c1
   exact hj j DG
 refine El ?_;have e1:=A7 (l:=l) (p:=(fun y:T3=>Ql x y)) fun j h=>hj j oM;refine OD ?_;try rfl
 exact an @e1
def ah7(l:List T3)(x:T3)(hl:l.length<=1000):UB prog J9 188 [] [.sl (YA l) false,x.av] [] (B (l.any (fun y:T3=>Ql x y))):=by
 refine MD func188 ntmps188 ?_;intro w e X hC;refine Bn ((atb l x hl)) ?_;try rfl
 exact an @SQ
def ka{α:Type}{l:List α}{i:Nat}{d:α}(h:i<l.length):l.getD i d∈l:=by rw[gE,gG h];exact gM h
def aof(l:List Int)(k:Nat)(cs:List AV)(p:Int->Bool)(hl:l.length<=1000)(hk:∀y∈l,UB prog J9 k [] [I y,.P cs] [] (B (p y))):UB prog J9 255 [] [IS l,.fn k [.P cs]] [] (I (OP p l)):=by
 refine MD func255 ntmps255 ?_;intro w e X hC;refine EP ?_;refine R7 l.length (fun i:Az=>⟨[(1,.fn k [.P cs]),(0,IS l),(6,IS l),(7,I l.length),(8,I i.2)],[],i.1⟩) (fun i=>∀j,j<i.2->p (l.getD j 0)=false) (fun j hj=>absurd hj (nZ _)) (ch) ?_;intro ck i hi hj;simp only at hj;refine C0 ?_ ?_<;>intro h
 .have PP:i<l.length:=oM;have An:=hk (l.getD i 0) (ka PP);cases c1:p (l.getD i 0)with
  |true=>
   have e1:=jI (p:=p) (d:=0) PP hj c1;rw[c1]at An;refine cw (ma PP) An ?_;refine eg ?_;try rfl
   exact an @e1
  |false=>
   rw[c1]at An;refine cw (ma PP) An ?_;refine UN ?_;refine⟨(_,i+1),⟨uO,fun j tw=>?_⟩,uO,ch⟩;by_cases ZJ:j=i
   .subst ZJ;exact c1
   exact hj j DG
 refine El ?_;have e1:=A7 (l:=l) (p:=p) fun j h=>hj j oM;refine OD ?_;try rfl
 exact an @e1
def aha(l:List T3)(k:Nat)(cs:List AV)(p:T3->Bool)(hl:l.length<=1000)(hk:∀y∈l,UB prog J9 k [] [y.av,.P cs] [] (B (p y))):UB prog J9 165 [] [.sl (YA l) false,.fn k [.P cs]] [] (I (OP p l)):=by
 refine MD func165 ntmps165 ?_;intro w e X hC;refine EP ?_;refine R7 l.length (fun i:Az=>⟨[(1,.fn k [.P cs]),(0,.sl (YA l) false),(6,.sl (YA l) false),(7,I l.length),(8,I i.2)],[],i.1⟩) (fun i=>∀j,j<i.2->p (l.getD j default)=false) (fun j hj=>absurd hj (nZ _)) (ch) ?_;intro ck i hi hj;simp only at hj;refine C0 ?_ ?_<;>intro h
 .have PP:i<l.length:=oM;have An:=hk (l.getD i default) (ka PP);cases c1:p (l.getD i default)with
  |true=>
   have e1:=jI (p:=p) (d:=default) PP hj c1;rw[c1]at An;refine cw (Hr PP) An ?_;refine eg ?_;try rfl
   exact an @e1
  |false=>
   rw[c1]at An;refine cw (Hr PP) An ?_;refine UN ?_;refine⟨(_,i+1),⟨uO,fun j tw=>?_⟩,uO,ch⟩;by_cases ZJ:j=i
   .subst ZJ;exact c1
   exact hj j DG
 refine El ?_;have e1:=A7 (l:=l) (p:=p) fun j h=>hj j oM;refine OD ?_;try rfl
 exact an @e1
def DY(l:List T3)(k:Nat)(cs:List AV)(p:T3->Bool)(hl:l.length<=1000)(hk:∀y∈l,UB prog J9 k [] [y.av,.P cs] [] (B (p y))):UB prog J9 117 [] [.sl (YA l) false,.fn k [.P cs]] [] (B (l.any p)):=by
 refine MD func117 ntmps117 ?_;intro w e X hC;refine Bn ((aha l k cs p hl hk)) ?_;try rfl
 exact an @SQ
def amj(l:List T3)(k:Nat)(p:T3->Bool)(hl:l.length<=1000)(hk:∀y∈l,UB prog J9 k [] [y.av] [] (B (p y))):UB prog J9 258 [] [.sl (YA l) false,.fn k []] [] (I (OP p l)):=by
 refine MD func258 ntmps258 ?_;intro w e X hC;refine EP ?_;refine R7 l.length (fun i:Az=>⟨[(1,.fn k []),(0,.sl (YA l) false),(6,.sl (YA l) false),(7,I l.length),(8,I i.2)],[],i.1⟩) (fun i=>∀j,j<i.2->p (l.getD j default)=false) (fun j hj=>absurd hj (nZ _)) (ch) ?_;intro ck i hi hj;simp only at hj;refine C0 ?_ ?_<;>intro h
 .have PP:i<l.length:=oM;have An:=hk (l.getD i default) (ka PP);cases c1:p (l.getD i default)with
  |true=>
   have e1:=jI (p:=p) (d:=default) PP hj c1;rw[c1]at An;refine cw (Hr PP) An ?_;refine eg ?_;try rfl
   exact an @e1
  |false=>
   rw[c1]at An;refine cw (Hr PP) An ?_;refine UN ?_;refine⟨(_,i+1),⟨uO,fun j tw=>?_⟩,uO,ch⟩;by_cases ZJ:j=i
   .subst ZJ;exact c1
   exact hj j DG
 refine El ?_;have e1:=A7 (l:=l) (p:=p) fun j h=>hj j oM;refine OD ?_;try rfl
 exact an @e1
def akq(l:List Nd)(k:Nat)(cs:List AV)(p:Nd->Bool)(hl:l.length<=1000)(hk:∀y∈l,UB prog J9 k [] [y.av,.P cs] [] (B (p y))):UB prog J9 189 [] [.sl (H4 l) false,.fn k [.P cs]] [] (I (OP p l)):=by
 refine MD func189 ntmps189 ?_;intro w e X hC;refine EP ?_;refine R7 l.length (fun i:Az=>⟨[(1,.fn k [.P cs]),(0,.sl (H4 l) false),(6,.sl (H4 l) false),(7,I l.length),(8,I i.2)],[],i.1⟩) (fun i=>∀j,j<i.2->p (l.getD j default)=false) (fun j hj=>absurd hj (nZ _)) (ch) ?_;intro ck i hi hj;simp only at hj;refine C0 ?_ ?_<;>intro h
 .have PP:i<l.length:=oM;have An:=hk (l.getD i default) (ka PP);cases c1:p (l.getD i default)with
  |true=>
   have e1:=jI (p:=p) (d:=default) PP hj c1;rw[c1]at An;refine cw (bp PP) An ?_;refine eg ?_;try rfl
   exact an @e1
  |false=>
   rw[c1]at An;refine cw (bp PP) An ?_;refine UN ?_;refine⟨(_,i+1),⟨uO,fun j tw=>?_⟩,uO,ch⟩;by_cases ZJ:j=i
   .subst ZJ;exact c1
   exact hj j DG
 refine El ?_;have e1:=A7 (l:=l) (p:=p) fun j h=>hj j oM;refine OD ?_;try rfl
 exact an @e1
def af9(l:List Nd)(k:Nat)(p:Nd->Bool)(hl:l.length<=1000)(hk:∀y∈l,UB prog J9 k [] [y.av] [] (B (p y))):UB prog J9 189 [] [.sl (H4 l) false,.fn k []] [] (I (OP p l)):=by
 refine MD func189 ntmps189 ?_;intro w e X hC;refine EP ?_;refine R7 l.length (fun i:Az=>⟨[(1,.fn k []),(0,.sl (H4 l) false),(6,.sl (H4 l) false),(7,I l.length),(8,I i.2)],[],i.1⟩) (fun i=>∀j,j<i.2->p (l.getD j default)=false) (fun j hj=>absurd hj (nZ _)) (ch) ?_;intro ck i hi hj;simp only at hj;refine C0 ?_ ?_<;>intro h
 .have PP:i<l.length:=oM;have An:=hk (l.getD i default) (ka PP);cases c1:p (l.getD i default)with
  |true=>
   have e1:=jI (p:=p) (d:=default) PP hj c1;rw[c1]at An;refine cw (bp PP) An ?_;refine eg ?_;try rfl
   exact an @e1
  |false=>
   rw[c1]at An;refine cw (bp PP) An ?_;refine UN ?_;refine⟨(_,i+1),⟨uO,fun j tw=>?_⟩,uO,ch⟩;by_cases ZJ:j=i
   .subst ZJ;exact c1
   exact hj j DG
 refine El ?_;have e1:=A7 (l:=l) (p:=p) fun j h=>hj j oM;refine OD ?_;try rfl
 exact an @e1
def aei(l:List Nd)(k:Nat)(p:Nd->Bool)(hl:l.length<=1000)(hk:∀y∈l,UB prog J9 k [] [y.av] [] (B (p y))):UB prog J9 147 [] [.sl (H4 l) false,.fn k []] [] (B (l.any p)):=by
 refine MD func147 ntmps147 ?_;intro w e X hC;refine Bn ((af9 l k p hl hk)) ?_;try rfl
 exact an @SQ
abbrev g_(y:Ly)(ord:List Int):List AV:=[.sl (H4 y.U) false,.sl (YA y.D) false,IS ord]
def xV(x:Nd)(sl bin:List Int)(c:Int)(fs:List T3)(n:Nat):Int:=
 if x.kd=7 then(if bin.any (fun y=>decide (c=y))=true then 0 else -1)
 else if c9 x.kd=false then -1
 else if sl.getD (x.ln.toNat-1) 0=0\/fs.any (fun y=>Ql ⟨1,n,x.ln-1⟩ y)=true then -1 else c
theorem aeY(y:Ly)(p:Pl)(ord:List Int)(c:Int)(fs:List T3)(n:Nat)(hp:Zc y.U p)(hf:fs.length<=1000)(hn:n<y.U.length):
  UB prog J9 249 [] [.P (g_ y ord),p.av,I n,I c,.sl (YA fs) false] [] (I (xV (y.U.getD n default) (p.Q.getD n []) (p.R.getD n []) c fs n)):=by
 have xE:=hp.xl;have bE:n<p.Q.length:=dj;have wu:n<p.R.length:=by rw[hp.bl];exact hn
 have s6:=hp.row n hn;have OT:=hp.bin n hn;have fo:=hp.ln n hn;have VV:=hp.st n hn;generalize e2:y.U.getD n default=x at*;generalize e3:p.Q.getD n []=sl at*;generalize e4:p.R.getD n []=bin at*;refine MD func249 ntmps249 ?_;intro w e X hC;iterate 2 refine Bj (uI (bp hn) @e2) ?_
 by_cases c1:x.kd=7
 .have d1:decide (x.kd=7)=true:=dT c1;refine VF @d1 ?_;cases c2:bin.any (fun y=>decide (c=y))with
  |true=>
   have e1:xV x sl bin c fs n=0:=by rw[xV,iP c1,iP c2]
   refine nF (uI (au wu) @e4) ?_;intro K hK;refine Dx ((M6 bin c oM)) ?_;first|refine Z6 @c2 ?_|exact an @c2
   refine uH ?_;refine hK _ ?_;clear hK K;refine eg ?_;try rfl
   exact an @e1
  |false=>
   have e1:xV x sl bin c fs n=-1:=by rw[xV,iP c1,iN (by simp[c2])]
   refine nF (uI (au wu) @e4) ?_;intro K hK;refine Dx ((M6 bin c oM)) ?_;first|refine Z6 @c2 ?_|exact an @c2
   refine uH ?_;refine hK _ ?_;clear hK K;refine UN ?_;refine uJ ?_;try rfl
   exact an @e1
 have d1:decide (x.kd=7)=false:=dF c1;refine VF @d1 ?_;cases c2:c9 x.kd with
 |false=>
  have e1:xV x sl bin c fs n=-1:=by rw[xV,iN c1,iP c2]
  refine uR ?_;intro K hK;refine eh ((WO x.kd)) ?_;first|refine Z6 @c2 ?_|exact an @c2
  refine hK _ ?_;clear hK K;refine eg ?_;try rfl
  exact an @e1
 |true=>
  have IQ:=VV c2;obtain⟨q,hq⟩:∃q,q=x.ln.toNat-1:=⟨_,rfl⟩;have Tz:x.ln-1=(q:Int):=oM;have tJ:q<sl.length:=oM;have e1:xV x sl bin c fs n=if sl.getD q 0=0\/fs.any (fun y=>Ql ⟨1,n,q⟩ y)=true then -1 else c:=by rw[xV,iN c1,iN (by simp[c2]),<-hq,Tz]
  refine uR ?_;intro K hK;refine eh ((WO x.kd)) ?_;first|refine Z6 @c2 ?_|exact an @c2
  refine hK _ ?_;clear hK K;refine uF ?_;refine Bj @Tz ?_;by_cases c3:sl.getD q 0=0
  .have d3:decide (sl.getD q 0=0)=true:=dT c3;rw[iP (.inl c3)]at e1;refine cx (uI (au bE) (uI @e3 (uI (ma tJ) @d3))) ?_;refine eg ?_;try rfl
   exact an @e1
  have d3:decide (sl.getD q 0=0)=false:=dF c3;cases c4:fs.any (fun y=>Ql ⟨1,n,q⟩ y)with
  |true=>
   rw[iP (.inr c4)]at e1;refine nF (uI (au bE) (uI @e3 (uI (ma tJ) @d3))) ?_;intro K hK;refine Dx ((uh fs ⟨1,n,q⟩ hf)) ?_;first|refine Z6 @c4 ?_|exact an @c4
   refine uH ?_;refine hK _ ?_;clear hK K;refine eg ?_;try rfl
   exact an @e1
  |false=>
   rw[iN (fun h=>h.elim c3 (fun h=>by rw[c4]at h;cases h))]at e1;refine nF (uI (au bE) (uI @e3 (uI (ma tJ) @d3))) ?_;intro K hK;refine Dx ((uh fs ⟨1,n,q⟩ hf)) ?_;first|refine Z6 @c4 ?_|exact an @c4
   refine uH ?_;refine hK _ ?_;clear hK K;refine UN ?_;refine uJ ?_;try rfl
   exact an @e1
abbrev U(n:Nat):AV:=.lit (.int .u64 (n:Int))
def tz:Nat->Nat->Nat
 |0,_=>0|f+1,S=>if S % 2=1 then 0 else 1+tz f (S / 2)
theorem TU:∀f S,tz f S<=f
 |0,_=>lR _|f+1,S=>by have:=TU f (S / 2);rw[tz];split<;>omega
def fu(S:Int):Int:=OQ .u64 (IntKind.u64.wrap (Lv .u64 S (IntKind.u64.wrap (0-S))*285870213051353865)) 58
def af8:((List.range 2048).all fun S=>decide (S=0)||(decide (0<=fu S)&&(decide (fu S<64)&&decide (Nb.getD (fu S).toNat 0=(tz 11 S:Int)))))=true:=kR
def aek{S:Nat}(h:S<2048)(h0:S≠0):0<=fu S/\fu S<64/\Nb.getD (fu S).toNat 0=(tz 11 S:Int):=by
 have:=FR.1 af8 S (BD.2 h);simp only[eo,TF,Vd]at this;rcases this with h|h
 .exact absurd h h0
 exact h
theorem atV:Sb J9.gl 3=some (Nb.map fun n=>AV.lit (.int .u8 n)):=rfl
theorem Bk:Nb.length=64:=rfl
def as8{l:List Int}{k:Nat}(h:k<l.length):(List.drop k (l.map fun n=>AV.lit (.int .u8 n))).getD 0 .bad=.lit (.int .u8 (l.getD k 0)):=by simp[gE,h]
def ahT(S:Nat)(h:S<2048)(h0:S≠0):UB prog J9 271 [] [U S] [] (I (tz 11 S)):=by
 obtain⟨z1,z2,z3⟩:=aek h h0;have d1:=Vj ((S:Int)=0);have ez:OQ .u64 (IntKind.u64.wrap (Lv .u64 S (IntKind.u64.wrap (0-S))*285870213051353865)) 58=fu S:=rfl;have PP:(fu S).toNat<Nb.length:=by rw[Bk];omega
 have hw:IntKind.i64.wrap ((tz 11 S:Nat):Int)=(tz 11 S:Nat):=wrap_i64 ⟨oM,by have:=TU 11 S;omega⟩;refine MD func271 ntmps271 ?_;intro w e X hC;iterate 2 refine Bj @d1 ?_
 refine uF ?_;generalize e9:fu S=q at*;refine cx (uI @atV (uI @B3 (uI @DT.{0} (uI @Bk (uI @ez (uI (as8 PP) (uI @z3 @hw))))))) ?_;exact uP
def KK(S:Nat)(h:S<2048)(h0:S≠0):UB prog J9 252 [] [U S] [] (I (tz 11 S)):=by refine MD func252 ntmps252 ?_;intro w e X hC;refine uA ?_;refine uF ?_;refine yX ((ahT S h h0)) ?_;exact uP
def Bc(xs:List Nd)(W:List Int)(n m:Nat):Bool:=decide (m≠n)&&(decide (0<=W.getD m 0)&&decide ((xs.getD m default).ex.getD (W.getD m 0).toNat 0=n))
def yk(xs:List Nd)(W:List Int)(n:Nat):Nat->Nat
 |0=>0|m+1=>if Bc xs W n m=true then yk xs W n m ||| 2^m else yk xs W n m
theorem tn(xs:List Nd)(W:List Int)(n:Nat):∀m,yk xs W n m<2^m
 |0=>by simp[yk]|m+1=>by
  have ih:=tn xs W n m;rw[yk];split
  .exact Nat.or_lt_two_pow (yy ih (YQ oM oM)) (YQ oM oM)
  exact yy ih (YQ oM oM)
def acr:∀m:Fin 24,CE .u64 1 (m:Nat)=((2^(m:Nat):Nat):Int):=dM
def JN{a:Nat}(h:a<2^64):IntKind.u64.wrap (a:Int)=a:=by simp only[IntKind.wrap,IntKind.bits,IntKind.signed,aS,C9,kM,j4];omega
def u64_or{a b:Nat}(ha:a<2^24)(hb:b<2^24):lN .u64 a b=((a ||| b:Nat):Int):=by show IntKind.u64.wrap ((BitVec.ofInt 64 (a:Int) ||| BitVec.ofInt 64 (b:Int)).toNat:Nat)=_;rw[BitVec.toNat_or,cY,cY,RJ,RJ,Xx oM,Xx oM];have:=Nat.or_lt_two_pow ha hb;exact JN oM
def ao8(y:Ly)(ord W:List Int)(n:Nat)(hy:y.U.length<=24)(hW:W.length=y.U.length)(hx:∀m,m<y.U.length->0<=W.getD m 0->W.getD m 0<(y.U.getD m default).ex.length):
  UB prog J9 251 [] [.P (g_ y ord),IS W,I n] [] (U (yk y.U W n W.length)):=by
 refine MD func251 ntmps251 ?_;intro w e X hC;refine EP ?_;refine AJ W.length (fun i:Az=>⟨[(0,.P (g_ y ord)),(2,I n),(7,U (yk y.U W n i.2)),(10,IS W),(11,I W.length),(12,I i.2)],[],i.1⟩) (ch) ?_;intro ck m hm;refine C0 ?_ ?_<;>intro h
 .have PP:m<W.length:=oM;have aJ:m<y.U.length:=oM;have ab3:=hx m aJ;have e1:yk y.U W n (m+1)=if Bc y.U W n m=true then yk y.U W n m ||| 2^m else yk y.U W n m:=rfl
  have iS:=tn y.U W n m;have hp2:2^m<=2^23:=Il oM oM;have IY:=acr ⟨m,oM⟩;have jz:=u64_or (a:=yk y.U W n m) (b:=2^m) oM oM;simp only at IY;refine Bj (ma PP) ?_;unfold Bc at e1;generalize W.getD m 0=v at*;generalize e2:y.U.getD m default=x at*;generalize yk y.U W n m=S at*;by_cases c1:m=n
  .have d1:decide (¬(m:Int)=n)=false:=dF oM;rw[iN (by simp[c1])]at e1;refine VF @d1 ?_;exact nX (_,m+1) (wT @e1)
  have d1:decide (¬(m:Int)=n)=true:=dT oM;by_cases c2:0<=v
  .have d2:decide (0<=v)=true:=dT c2;obtain⟨k,hk⟩:∃k,k=v.toNat:=⟨_,rfl⟩;have akA:v=(k:Int):=oM;have DN:k<x.ex.length:=by have:=ab3 c2;omega
   rw[<-hk]at e1;subst akA;by_cases c3:x.ex.getD k 0=n
   .have d3:decide (x.ex.getD k 0=(n:Int))=true:=dT c3;rw[iP (by simp only[dT c1,d2,d3,Bool.and_self])]at e1;refine VF (uI @d1 (uI @d2 (uI @d3 (uI (bp aJ) (uI @e2 (uI (ma DN) (uI @IY @jz))))))) ?_;exact nX (_,m+1) (wT @e1)
   have d3:decide (x.ex.getD k 0=(n:Int))=false:=dF c3;rw[iN (by simp only[d3];simp)]at e1;refine VF (uI @d1 (uI @d2 (uI @d3 (uI (bp aJ) (uI @e2 (ma DN)))))) ?_;exact nX (_,m+1) (wT @e1)
  have d2:decide (0<=v)=false:=dF c2;rw[iN (by simp only[d2];simp)]at e1;refine VF (uI @d1 @d2) ?_;exact nX (_,m+1) (wT @e1)
 refine El ?_;have Qo:m=W.length:=oM;subst Qo;exact Et
theorem ajr(y:Ly)(p:Pl)(ord:List Int)(n:Nat)(hp:Zc y.U p)(hn:n<y.U.length):UB prog J9 253 [] [.P (g_ y ord),p.av,I n] [] (B (Y3 (y.U.getD n default) (p.Q.getD n []))):=by
 have xE:=hp.xl;have bE:n<p.Q.length:=dj;have s6:=hp.row n hn;have fo:=hp.ln n hn;have VV:=hp.st n hn;generalize e2:y.U.getD n default=x at*;generalize e3:p.Q.getD n []=sl at*;refine MD func253 ntmps253 ?_;intro w e X hC;refine uA ?_;cases c1:c9 x.kd with
 |false=>
  have e4:Y3 x sl=true:=by rw[Y3,c1];rfl
  refine nF (uI (bp hn) @e2) ?_;intro K hK;refine Dx ((WO x.kd)) ?_;first|refine Z6 @c1 ?_|exact an @c1
  refine hK _ ?_;clear hK K;refine eg ?_;try rfl
  exact an @e4
 |true=>
  have RO:0<sl.length:=by have:=VV c1;omega
  have e4:Y3 x sl=(decide (sl.getD 0 0=0)&&(decide (¬x.kd=5)||decide (2<=E4 sl))):=by rw[Y3,c1];rfl
  have Zw:E4 sl<=sl.length:=pr;refine nF (uI (bp hn) @e2) ?_;intro K hK;refine Dx ((WO x.kd)) ?_;first|refine Z6 @c1 ?_|exact an @c1
  refine hK _ ?_;clear hK K;refine uF ?_;by_cases c3:x.kd=5
  .have d3:decide (x.kd=5)=true:=dT c3;by_cases c4:E4 sl<2
   .have d4:=oN ((E4 sl:Int)<2);have d5:=Vj (2<=E4 sl);refine nF (uI (bp hn) (uI @e2 (uI (au bE) (uI @e3 @d3)))) ?_;intro K hK;refine Dx ((aao sl oM)) ?_;first|refine Z6 @d4 ?_|exact an @d4
    refine uH ?_;refine hK _ ?_;clear hK K;refine eg ?_;try rfl
    exact an (uI @e4 (uI @d5 (uI @c3 (uI @Bool.or_self @Yx))))
   have d4:=Vj ((E4 sl:Int)<2);have d5:=oN (2<=E4 sl);refine nF (uI (bp hn) (uI @e2 (uI (au bE) (uI @e3 @d3)))) ?_;intro K hK;refine Dx ((aao sl oM)) ?_;first|refine Z6 @d4 ?_|exact an @d4
   refine uH ?_;refine hK _ ?_;clear hK K;refine uF ?_;refine xT (uI (au bE) (uI @e3 (uI (ma RO) @ic))) ?_;try rfl
   exact an (uI @e4 (uI @d5 (uI @z8 @Bool.and_true)))
  have d3:decide (x.kd=5)=false:=dF c3;refine cx (uI (bp hn) (uI @e2 (uI (au bE) (uI @e3 @d3)))) ?_;refine uF ?_;refine xT (uI (au bE) (uI @e3 (uI (ma RO) @ic))) ?_;try rfl
  exact an (uI @e4 (uI @c3 (uI @Aa @Bool.and_true)))
def aaM(y:Ly)(p:Pl)(ord:List Int)(hp:Zc y.U p):UB prog J9 115 [] [.P (g_ y ord),p.av] [] (B true):=by
 have xE:=hp.xl;have jJ:=hp.sl;have OT:=hp.bl;have d1:decide (¬(p.Q.length:Int)=y.U.length)=false:=dF oM;have d2:decide (¬(p.R.length:Int)=y.U.length)=false:=dF oM;refine MD func115 ntmps115 ?_;intro w e X hC;refine uA ?_;refine zr (uI @d1 @d2) ?_;refine uF ?_;refine EP ?_;refine AJ y.U.length (fun i:Az=>⟨[(3,.p 103 1 0 0 0),(33,.sl (H4 y.U) false),(34,I y.U.length),(35,I i.2)],(103,some (1,.box (GE p)))::[],i.1⟩) (ch) ?_;intro ck i hi;refine C0 ?_ ?_<;>intro h
 .have PP:i<y.U.length:=oM;have bE:i<p.Q.length:=oM;have s6:=hp.row i PP;have fo:=hp.ln i PP;generalize e2:y.U.getD i default=x at*;generalize e3:p.Q.getD i []=sl at*;have d3:decide (¬(sl.length:Int)=x.ln)=false:=dF oM;refine Bj (uI (bp PP) @e2) ?_;refine zr (uI (au bE) (uI @e3 @d3)) ?_;refine UN ?_;exact nX (_,i+1) ch
 refine El ?_;exact Et
def aim(f g:T3):UB prog J9 118 [] [g.av,.P [I f.a,I f.b,I f.c]] [] (B (decide (f.b=g.b)&&decide (f.c=g.c))):=by
 refine MD func118 ntmps118 ?_;intro w e X hC;refine uA ?_;by_cases b1:f.b=g.b
 .have d1:decide (f.b=g.b)=true:=dT b1;refine Ij @d1 ?_;try rfl
  exact an (uI @d1 @Q2)
 have d1:decide (f.b=g.b)=false:=dF b1;refine Ij @d1 ?_;try rfl
 exact an (uI @d1 @aS)
theorem apl{α:Type}{p:α->Bool}{l:List α}{d:α}{i:Nat}(h:i<=l.length):(l.take i).any p=(List.range i).any fun k=>p (l.getD k d):=by
 induction i with
 |zero=>simp|succ i ih=>have hi:i<l.length:=oM;rw[wr,gG hi,mh,ih oM,RM,mh];simp[hi]
def P2(y:Ly)(ord cs:List Int)(fs:List T3)(hy:y.U.length<=1000)(LF:cs.length<=1000)(BE:fs.length<=1000)(hex:∀n,n<y.U.length->(y.U.getD n default).ex.length<=500):
  UB prog J9 66 [] [.P (g_ y ord),IS cs,.sl (YA fs) false] [] (I (Zk y.U cs fs)):=by
 refine MD func66 ntmps66 ?_;intro w e X hC;refine C0 ?_ ?_<;>intro c1
 .refine OD ?_;try rfl
  rw[Zk,iP oM];rfl
 have c1':¬(cs.length≠y.U.length):=oM;refine EP ?_;refine R7 cs.length (fun i:Az=>⟨[(0,.P (g_ y ord)),(2,.sl (YA fs) false),(22,IS cs),(23,I cs.length),(24,I i.2)],[],i.1⟩) (fun i=>∀j,j<i.2->jo (y.U.getD j default) (cs.getD j 0)=true) (fun j hj=>absurd hj (nZ _)) (ch) ?_;intro ck i hi hj;simp only at hj;refine C0 ?_ ?_<;>intro h
 .have XJ:i<cs.length:=oM;have PP:i<y.U.length:=oM;refine Bj (ma XJ) ?_;cases c2:jo (y.U.getD i default) (cs.getD i 0)with
  |false=>
   refine nF (bp PP) ?_;intro K hK;refine Dx ((XB (y.U.getD i default) (cs.getD i 0) iC)) ?_;first|refine Z6 @c2 ?_|exact an @c2
   refine uH ?_;refine hK _ ?_;clear hK K;refine X3 ?_;refine uJ ?_;try rfl
   have:BR y.U cs=false:=by rw[BR,HB];exact⟨i,BD.2 XJ,by rw[c2];simp⟩
   rw[Zk,iN c1',iP this];rfl
  |true=>
   refine nF (bp PP) ?_;intro K hK;refine Dx ((XB (y.U.getD i default) (cs.getD i 0) iC)) ?_;first|refine Z6 @c2 ?_|exact an @c2
   refine uH ?_;refine hK _ ?_;clear hK K;refine X3 ?_;refine⟨(_,i+1),⟨uO,fun j tw=>?_⟩,uO,ch⟩;by_cases ZJ:j=i
   .subst ZJ;exact c2
   exact hj j DG
 refine El ?_;have c2:BR y.U cs=true:=by rw[BR,FR];intro j tw;exact hj j HQ
 have c2':¬BR y.U cs=false:=by rw[c2];simp
 clear hj hi h;refine C0 ?_ ?_<;>intro c3
 .refine OD ?_;try rfl
  rw[Zk,iN c1',iN c2',iP oM];rfl
 have c3':¬4<fs.length:=oM;have e0:Zk y.U cs fs=if PH y.U fs≠0 then PH y.U fs else if CH fs=true then 5 else 0:=by rw[Zk,iN c1',iN c2',iN c3']
 rw[e0];refine EP ?_;refine R7 fs.length (fun i:Az=>⟨[(0,.P (g_ y ord)),(2,.sl (YA fs) false),(44,.sl (YA fs) false),(45,I fs.length),(46,I i.2)],[],i.1⟩) (fun i=>PH y.U fs=PH y.U (fs.drop i.2)) rfl (ch) ?_;intro ck i hi hj;simp only at hj;refine C0 ?_ ?_<;>intro h
 .have PP:i<fs.length:=oM;have e5:=OC (xs:=y.U) PP;rw[e5]at hj;generalize e3:fs.getD i default=f at*;refine Bj (uI (Hr PP) @e3) ?_;by_cases k1:f.a≠1/\f.a≠2
  .have d1:decide (¬f.a=1)=true:=dT k1.1;have d2:decide (¬f.a=2)=true:=dT k1.2;have e6:EQ y.U f=4:=iP k1;rw[e6]at hj;refine Ij (uI @d1 @d2) ?_;try rfl
   rw[hj];rfl
  have e7:EQ y.U f=if f.b<0\/(y.U.length:Int)<=f.b\/f.c<0\/(y.U.getD f.b.toNat default).ln<=f.c then 1 else 0:=iN k1
  have k2:f.a=1\/f.a=2:=oM;by_cases k3:f.b<0\/(y.U.length:Int)<=f.b\/f.c<0\/(y.U.getD f.b.toNat default).ln<=f.c
  .rw[iP k3]at e7;rw[e7]at hj;by_cases b1:f.b<0
   .rcases k2 with k2|k2
    .refine VF (uI @e3 (uI @k2 @b1)) ?_;refine zr (uI @e3 (uI @k2 @b1)) ?_;refine Ij @b1 ?_;try rfl
     rw[hj];rfl
    refine VF (uI @e3 (uI @k2 @b1)) ?_;refine zr (uI @e3 (uI @k2 @b1)) ?_;refine Ij @b1 ?_;try rfl
    rw[hj];rfl
   by_cases b2:(y.U.length:Int)<=f.b
   .rcases k2 with k2|k2
    .refine VF (uI @e3 (uI @k2 (uI @b1 @b2))) ?_;refine zr (uI @e3 (uI @k2 (uI @b1 @b2))) ?_;refine Ij (uI @b1 @b2) ?_;try rfl
     rw[hj];rfl
    refine VF (uI @e3 (uI @k2 (uI @b1 @b2))) ?_;refine zr (uI @e3 (uI @k2 (uI @b1 @b2))) ?_;refine Ij (uI @b1 @b2) ?_;try rfl
    rw[hj];rfl
   by_cases b3:f.c<0
   .rcases k2 with k2|k2
    .refine VF (uI @e3 (uI @k2 (uI @b1 (uI @b2 @b3)))) ?_;refine zr (uI @e3 (uI @k2 (uI @b1 (uI @b2 @b3)))) ?_;refine Ij (uI @b1 (uI @b2 @b3)) ?_;try rfl
     rw[hj];rfl
    refine VF (uI @e3 (uI @k2 (uI @b1 (uI @b2 @b3)))) ?_;refine zr (uI @e3 (uI @k2 (uI @b1 (uI @b2 @b3)))) ?_;refine Ij (uI @b1 (uI @b2 @b3)) ?_;try rfl
    rw[hj];rfl
   have b4:(y.U.getD f.b.toNat default).ln<=f.c:=oM;have OT:f.b.toNat<y.U.length:=oM;rcases k2 with k2|k2
   .refine VF (uI @e3 (uI @k2 (uI @b1 (uI @b2 (uI @b3 (uI @b4 (bp OT))))))) ?_;refine zr (uI @e3 (uI @k2 (uI @b1 (uI @b2 (uI @b3 (uI @b4 (bp OT))))))) ?_;refine Ij (uI @b1 (uI @b2 (uI @b3 (uI @b4 (bp OT))))) ?_;try rfl
    rw[hj];rfl
   refine VF (uI @e3 (uI @k2 (uI @b1 (uI @b2 (uI @b3 (uI @b4 (bp OT))))))) ?_;refine zr (uI @e3 (uI @k2 (uI @b1 (uI @b2 (uI @b3 (uI @b4 (bp OT))))))) ?_;refine Ij (uI @b1 (uI @b2 (uI @b3 (uI @b4 (bp OT))))) ?_;try rfl
   rw[hj];rfl
  rw[iN k3]at e7;rw[e7]at hj;have b1:¬f.b<0:=fun h=>k3 (.inl h);have b2:¬(y.U.length:Int)<=f.b:=fun h=>k3 (.inr (.inl h));have b3:¬f.c<0:=fun h=>k3 (.inr (.inr (.inl h)));have b4:¬(y.U.getD f.b.toNat default).ln<=f.c:=fun h=>k3 (.inr (.inr (.inr h)));have OT:f.b.toNat<y.U.length:=oM;rcases k2 with k2|k2
  .refine VF (uI @e3 (uI @k2 (uI @b1 (uI @b2 (uI @b3 (uI @b4 (bp OT))))))) ?_;refine zr (uI @e3 (uI @k2 (uI @b1 (uI @b2 (uI @b3 (uI @b4 (bp OT))))))) ?_;refine VF (uI @b1 (uI @b2 (uI @b3 (uI @b4 (bp OT))))) ?_;refine⟨(_,i+1),⟨uO,YD⟩,uO,ch⟩
  refine VF (uI @e3 (uI @k2 (uI @b1 (uI @b2 (uI @b3 (uI @b4 (bp OT))))))) ?_;refine zr (uI @e3 (uI @k2 (uI @b1 (uI @b2 (uI @b3 (uI @b4 (bp OT))))))) ?_;refine VF (uI @b1 (uI @b2 (uI @b3 (uI @b4 (bp OT))))) ?_;refine⟨(_,i+1),⟨uO,YD⟩,uO,ch⟩
 refine El ?_;have KO:¬PH y.U fs≠0:=by rw[hj,Db oM];simp[PH]
 rw[iN KO];clear hj hi h;refine EP ?_;refine R7 fs.length (fun i:Az=>⟨[(2,.sl (YA fs) false),(95,.sl (YA fs) false),(96,I fs.length),(97,I i.2)],[],i.1⟩) (fun i=>∀j,j<i.2->((List.range j).any fun k=>decide ((fs.getD j default).b=(fs.getD k default).b)&&decide ((fs.getD j default).c=(fs.getD k default).c))=false) (fun j hj=>absurd hj (nZ _)) (ch) ?_;intro ck i hi hj;simp only at hj;refine C0 ?_ ?_<;>intro h
 .have PP:i<fs.length:=oM;have hlen:(fs.take i).length=i:=j6;have D4:=DY (fs.take i) 118 [I (fs.getD i default).a,I (fs.getD i default).b,I (fs.getD i default).c] (fun g=>decide ((fs.getD i default).b=g.b)&&decide ((fs.getD i default).c=g.c)) oM (fun g _=>aim (fs.getD i default) g);rw[apl (d:=default) oM]at D4;have YB:=hj;refine Bj (Hr PP) ?_;cases c4:(List.range i).any fun k=>decide ((fs.getD i default).b=(fs.getD k default).b)&&decide ((fs.getD i default).c=(fs.getD k default).c)with
  |true=>
   rw[c4]at D4;have hd:CH fs=true:=by rw[CH,X4];exact⟨i,BD.2 PP,c4⟩
   refine nF @L1 ?_;refine I6 D4 ?_;refine X3 ?_;refine uJ ?_;try rfl
   rw[hd];rfl
  |false=>
   rw[c4]at D4;refine nF @L1 ?_;refine I6 D4 ?_;refine X3 ?_;refine⟨(_,i+1),⟨uO,fun j tw=>?_⟩,uO,ch⟩;by_cases ZJ:j=i
   .subst ZJ;exact c4
   exact hj j DG
 refine El ?_;have hd:CH fs=false:=by rw[CH,lA];intro j tw;rw[hj j HQ];simp
 refine OD ?_;try rfl
 rw[hd];rfl
def N0(xs:List Nd)(p:Pl)(cs:List Int)(fs:List T3)(n:Nat):List Int:=(List.range n).map fun i=>xV (xs.getD i default) (p.Q.getD i []) (p.R.getD i []) (cs.getD i 0) fs i
def IR(xs:List Nd)(p:Pl)(cs:List Int)(fs:List T3)(n:Nat):(N0 xs p cs fs n).length=n:=by simp[N0]
def anV(xs:List Nd)(p:Pl)(cs:List Int)(fs:List T3)(n:Nat):N0 xs p cs fs (n+1)=N0 xs p cs fs n++[xV (xs.getD n default) (p.Q.getD n []) (p.R.getD n []) (cs.getD n 0) fs n]:=by simp[N0,RM]
def EG{xs:List Nd}{p:Pl}{cs:List Int}{fs:List T3}{n m:Nat}(h:m<n):(N0 xs p cs fs n).getD m 0=xV (xs.getD m default) (p.Q.getD m []) (p.R.getD m []) (cs.getD m 0) fs m:=by simp[N0,gE,h]
def TM(n:Nat):List Int:=List.replicate n (-1)
def M_(n:Nat):TM (n+1)=TM n++[-1]:=by simp[TM,Be]
def b8(n:Nat):(TM n).length=n:=by simp[TM]
def Cj(W:List Int):Nat->Nat->List Int->List Int
 |0,_,lv=>lv|f+1,S,lv=>if S=0 then lv else Cj W f (S &&& (S-1)) (lv.set (tz 11 S) (W.getD (tz 11 S) 0))
def IG(x:Nd)(sl:List Int)(w l:Int):Bool:=decide (x.kd=5)&&(decide (0<=w)&&(decide (l<0)&&decide (sl.getD 0 0=0)))
def vu(xs:List Nd)(p:Pl)(W:List Int)(n:Nat)(s:List Int×List Int):List Int×List Int:=
 let x:=xs.getD n default
 let sl:=p.Q.getD n []
 let ar:=IG x sl (W.getD n 0) (s.1.getD n 0)
 let lv:=if ar=true then s.1.set n 0 else s.1
 let S:=yk xs W n W.length
 if c9 x.kd=false then(Cj W S S lv,s.2)
 else if S≠0/\Y3 x sl=true/\ar=false then(lv.set (tz 11 S) (W.getD (tz 11 S) 0),s.2.set n (tz 11 S))
 else(lv,s.2)
def GX(xs:List Nd)(p:Pl)(W ord:List Int):Nat->List Int×List Int
 |0=>(TM xs.length,TM xs.length)|c+1=>vu xs p W (ord.getD (ord.length-1-c) 0).toNat (GX xs p W ord c)
def vO(xs:List Nd)(p:Pl)(W ord:List Int):List Int×List Int:=GX xs p W ord ord.length
theorem bX(W:List Int):∀f S lv,(Cj W f S lv).length=lv.length
 |0,_,_=>rfl|f+1,S,lv=>by
  rw[Cj];split
  .rfl
  rw[bX W f];simp
def XQ{xs:List Nd}{p:Pl}{W:List Int}{n:Nat}{s:List Int×List Int}:(vu xs p W n s).1.length=s.1.length/\(vu xs p W n s).2.length=s.2.length:=by
 unfold vu;simp only;have:(if IG (xs.getD n default) (p.Q.getD n []) (W.getD n 0) (s.1.getD n 0)=true then s.1.set n 0 else s.1).length=s.1.length:=by split<;>simp
 split
 .exact⟨(bX _ _ _ _).trans this,rfl⟩
 split
 .exact⟨by simpa using this,sM⟩
 exact⟨this,rfl⟩
theorem Bv{xs:List Nd}{p:Pl}{W ord:List Int}:∀c,(GX xs p W ord c).1.length=xs.length/\(GX xs p W ord c).2.length=xs.length
 |0=>⟨b8 _,b8 _⟩|c+1=>by have:=Bv (xs:=xs) (p:=p) (W:=W) (ord:=ord) c;rw[GX];exact⟨XQ.1.trans this.1,XQ.2.trans this.2⟩
theorem bh:∀{f S k:Nat},S≠0->S<2^k->k<=f->tz f S<k
 |0,S,k,h0,h,hk=>by have:k=0:=oM;subst this;simp at h;omega|f+1,S,k,h0,h,hk=>by
  have zU:k≠0:=by rintro rfl;simp at h;omega
  obtain⟨k',rfl⟩:∃k',k=k'+1:=⟨k-1,oM⟩;rw[tz];split
  .omega
  have:=bh (f:=f) (S:=S / 2) (k:=k') oM (by rw[KN]at h;omega) oM;omega
def u64_and{a b:Nat}(ha:a<2^24)(hb:b<2^24):Lv .u64 a b=((a &&& b:Nat):Int):=by show IntKind.u64.wrap ((BitVec.ofInt 64 (a:Int) &&& BitVec.ofInt 64 (b:Int)).toNat:Nat)=_;rw[BitVec.toNat_and,cY,cY,RJ,RJ,Xx oM,Xx oM];have:a &&& b<=a:=Nat.and_le_left;exact JN oM
def an9(y:Ly)(p:Pl)(ord cs:List Int)(fs:List T3)(hp:Zc y.U p)(hN:y.U.length<=11)(hc:cs.length=y.U.length)(hf:fs.length<=1000)(hx:∀m,m<y.U.length->0<=(N0 y.U p cs fs y.U.length).getD m 0->(N0 y.U p cs fs y.U.length).getD m 0<(y.U.getD m default).ex.length)(S0:ord.length<=1000)(ak:∀i,i<ord.length->0<=ord.getD i 0/\ord.getD i 0<y.U.length):
  UB prog J9 210 [] [.P (g_ y ord),p.av,IS cs,.sl (YA fs) false] [] (.agg [IS (vO y.U p (N0 y.U p cs fs y.U.length) ord).1,IS (vO y.U p (N0 y.U p cs fs y.U.length) ord).2]):=by
 have xE:=hp.xl;refine AO (T:=J9) A3 func210 rfl vz (by simp[ntmps210]) ?_;intro w e X hX hC;rw[ntmps210];simp only[bZ,List.zipIdx,List.map];iterate 3 refine uA ?_
 refine wG 301 109 4 3 1 0 dM rfl rfl rfl ?_;first|refine uS ?_|exact uX
 refine wG 302 109 4 3 1 1 dM rfl rfl rfl ?_;first|refine uS ?_|exact uX
 refine wG 303 110 5 3 1 0 dM rfl rfl rfl ?_;first|refine uS ?_|exact uX
 refine EP ?_;refine AJ y.U.length (fun i:Az=>⟨[(2,IS cs),(3,.sl (YA fs) false),(4,.p 104 1 0 0 0),(5,.p 105 2 0 0 0),(8,.p 108 3 0 0 0),(9,.p 109 4 0 0 0),(10,.p 110 5 0 0 0),(23,I y.U.length),(24,I i.2)],
  (109,some (4,.box [.l 301 6 0 i.2,.l 302 7 0 i.2]))::(110,some (5,.box [.l 303 8 0 i.2]))::(301,some (6,.own 3 1 (tk (TM i.2))))::(302,some (7,.own 3 1 (tk (TM i.2))))::(303,some (8,.own 3 1 (tk (N0 y.U p cs fs i.2))))::
  (108,some (3,.box [.sl [] true,.sl [] true]))::(105,some (2,.box (GE p)))::(104,some (1,.box [.P (g_ y ord)]))::[],i.1⟩) (ch) ?_
 intro ck i hi;have pt:=b8 i;have my:=IR y.U p cs fs i;have e1:=M_ i;have e2:=anV y.U p cs fs i;have efi:i=y.U.length->N0 y.U p cs fs i=N0 y.U p cs fs y.U.length/\TM i=TM y.U.length:=fun h=>by rw[h];exact⟨rfl,rfl⟩
 generalize e8:TM i=ng at*;generalize e9:N0 y.U p cs fs i=wn at*;refine C0 ?_ ?_<;>intro h
 .have PP:i<y.U.length:=oM;have XJ:i<cs.length:=oM;refine uA ?_;refine Ew @pt ?_;refine Dp (uI @my (ma XJ)) ?_;intro K hK;refine Dx ((aeY y p ord (cs.getD i 0) fs i hp hf PP)) ?_;first|refine Z6 @my ?_|exact an @my
  refine uH ?_;refine hK _ ?_;clear hK K;refine uZ ?_;exact nX (_,i+1) (wH (uI @e1 @e2))
 refine El ?_;have jk:i=y.U.length:=oM;obtain⟨rfl,rfl⟩:=efi jk;subst jk;clear hi h e1 e2 efi pt;generalize e9:N0 y.U p cs fs y.U.length=W at*;refine AR (s':=⟨[(4,.p 104 1 0 0 0),(5,.p 105 2 0 0 0),(8,.p 108 3 0 0 0),(9,.p 109 4 0 0 0),(10,.p 110 5 0 0 0)],
  (109,some (4,.box [.l 301 6 0 y.U.length,.l 302 7 0 y.U.length]))::(110,some (5,.box [IS W]))::(301,some (6,.own 3 1 (tk (TM y.U.length))))::(302,some (7,.own 3 1 (tk (TM y.U.length))))::
  (108,some (3,.box [.sl [] false,.sl [] false]))::(105,some (2,.box (GE p)))::(104,some (1,.box [.P (g_ y ord)]))::[],_⟩) (ch) ?_
 refine xK ?_;refine Gk ((ae4 ord)) ?_;first|refine uS ?_|exact uX
 refine amo [(109,0,109,4),(301,0,301,6),(302,0,302,7),(110,0,110,5),(105,0,105,2),(104,0,104,1),(108,0,108,3)] (fun i=>[(109,some (0,.box [.l 301 0 0 y.U.length,.l 302 0 0 y.U.length])),(301,some (0,.own 3 1 (tk (GX y.U p W ord i).1))),(302,some (0,.own 3 1 (tk (GX y.U p W ord i).2))),(110,some (0,.box [IS W])),(105,some (0,.box (GE p))),(104,some (0,.box [.P (g_ y ord)])),(108,some (0,.box [.sl [] false,.sl [] false]))]) [(4,.p 104 0 0 0 0),(5,.p 105 0 0 0 0),(9,.p 109 0 0 0 0),(10,.p 110 0 0 0 0)] f210 hC rfl rfl atg ?_ rfl (by dsimp only;decide) (fun l tm w K h=>af5 l tm w K h) ?_ ?_ ?_ ?_ ?_ ?_ ?_ ?_ ?_ rfl hX ?_ ?_;(iterate 6 (focus (first|exact trivial|rfl|omega|(simp only[go_sem,Dg,N_,Lf,rZ,yO,Ds,b_,FV,rX,AY,rq,pF,iG,MP,Z5]<;>first|trivial|rfl|(simp;done)|omega)|(simp;done))));(focus (first|exact trivial|rfl|omega|(simp only[go_sem,Dg,N_,Lf,rZ,yO,Ds,b_,FV,rX,AY,rq,pF,iG,MP,Z5,GX]<;>first|trivial|rfl|(simp;done)|omega)|(simp;done)));(iterate 3 (focus (first|exact trivial|rfl|omega|(simp only[go_sem,Dg,N_,Lf,rZ,yO,Ds,b_,FV,rX,AY,rq,pF,iG,MP,Z5]<;>first|trivial|rfl|(simp;done)|omega)|(simp;done))))
 .clear hX hC;intro i hi w e rd X hC;have ho:=ak (ord.length-1 - i) oM;have e1:GX y.U p W ord (i+1)=vu y.U p W (ord.getD (ord.length-1 - i) 0).toNat (GX y.U p W ord i):=rfl;have hl:=Bv (xs:=y.U) (p:=p) (W:=W) (ord:=ord) i;obtain⟨n,hn⟩:∃n:Nat,n=(ord.getD (ord.length-1 - i) 0).toNat:=⟨_,rfl⟩;have dK:ord.getD (ord.length-1 - i) 0=(n:Int):=oM;have pt:n<y.U.length:=oM;rw[<-hn]at e1;simp only[dK];clear dK hn ho;generalize GX y.U p W ord i=st at*;generalize GX y.U p W ord (i+1)=CL at*;obtain⟨lv,en⟩:=st;obtain⟨IQ,I5⟩:=hl;simp only at IQ I5;have bE:n<p.Q.length:=by rw[hp.sl];exact pt
  have Yf:n<W.length:=oM;have P8:n<lv.length:=oM;have s6:=hp.row n pt;have fo:=hp.ln n pt;have VV:=hp.st n pt;have Rx:=ajr y p ord n hp pt;have qH:=ao8 y ord W n oM my (fun m hm h0=>hx m hm h0);have jQ:=tn y.U W n W.length;rw[my]at jQ qH;unfold vu at e1;simp only[my]at e1;generalize e2:y.U.getD n default=x at*;generalize e3:p.Q.getD n []=sl at*;generalize e4:W.getD n 0=wn at*;generalize e5:lv.getD n 0=ln at*;generalize e6:yk y.U W n y.U.length=S at*;have anP:S<2^11:=tL jQ (Il oM oM);refine uW ?_;refine JP (fun q:Nat=>⟨[(4,.p 104 0 0 0 0),(5,.p 105 0 0 0 0),(9,.p 109 0 0 0 0),(10,.p 110 0 0 0 0),(13,I n),(14,B (IG x sl wn ln))],(109,some (0,.box [.l 301 0 0 y.U.length,.l 302 0 0 y.U.length]))::(301,some (0,.own 3 1 (tk lv)))::(302,some (0,.own 3 1 (tk en)))::(110,some (0,.box [IS W]))::(105,some (0,.box (GE p)))::(104,some (0,.box [.P (g_ y ord)]))::(108,some (0,.box [.sl [] false,.sl [] false]))::[],q⟩) (fun _=>True) ?_ ?_
  .unfold IG;by_cases a1:x.kd=5
   .have d1:decide (x.kd=5)=true:=dT a1;have RO:0<sl.length:=by have:=VV (by rw[c9,a1];rfl);omega
    by_cases a2:0<=wn
    .have d2:decide (0<=wn)=true:=dT a2;by_cases a3:ln<0
     .have d3:decide (ln<0)=true:=dT a3;refine cx (uI (bp pt) (uI @e2 (uI @d1 (uI (ma Yf) (uI @e4 (uI @d2 (uI (ma P8) (uI @e5 (uI @IQ (uI @d3 (uI (au bE) (uI @e3 (uI (ma RO) @ic))))))))))))) ?_;refine⟨_,trivial,wT (uI @d1 (uI @d2 (uI @d3 @Q2)))⟩
     have d3:decide (ln<0)=false:=dF a3;refine cx (uI (bp pt) (uI @e2 (uI @d1 (uI (ma Yf) (uI @e4 (uI @d2 (uI (ma P8) (uI @e5 (uI @IQ @d3))))))))) ?_;refine⟨_,trivial,wT (uI @d1 (uI @d2 (uI @d3 (uI @Q2 @aS))))⟩
    have d2:decide (0<=wn)=false:=dF a2;refine cx (uI (bp pt) (uI @e2 (uI @d1 (uI (ma Yf) (uI @e4 @d2))))) ?_;refine⟨_,trivial,wT (uI @d1 (uI @d2 (uI @Q2 @aS)))⟩
   have d1:decide (x.kd=5)=false:=dF a1;refine cx (uI (bp pt) (uI @e2 @d1)) ?_;refine⟨_,trivial,wT (uI @d1 @aS)⟩
  intro ck _;generalize IG x sl wn ln=ar at*;generalize e7:(if ar=true then lv.set n 0 else lv)=lv1 at*;have d_:lv1.length=y.U.length:=by rw[<-e7];split<;>simp[IQ]
  refine GA ?_;refine JP (fun q:Nat=>⟨[(4,.p 104 0 0 0 0),(5,.p 105 0 0 0 0),(9,.p 109 0 0 0 0),(10,.p 110 0 0 0 0),(13,I n),(14,B ar)],(109,some (0,.box [.l 301 0 0 y.U.length,.l 302 0 0 y.U.length]))::(301,some (0,.own 3 1 (tk lv1)))::(302,some (0,.own 3 1 (tk en)))::(110,some (0,.box [IS W]))::(105,some (0,.box (GE p)))::(104,some (0,.box [.P (g_ y ord)]))::(108,some (0,.box [.sl [] false,.sl [] false]))::[],q⟩) (fun _=>True) ?_ ?_
  .cases ar with
   |true=>rw[iP rfl]at e7;refine VF @IQ ?_;refine⟨_,trivial,wH @e7⟩|false=>rw[iN sM]at e7;refine X3 ?_;refine uW ?_;refine⟨_,trivial,wH @e7⟩
  intro ck _;refine yX qH ?_;cases c1:c9 x.kd with
  |false=>
   rw[iP c1]at e1;refine nF (uI (bp pt) @e2) ?_;intro K hK;refine Dx ((WO x.kd)) ?_;first|refine Z6 @c1 ?_|exact an @c1
   refine hK _ ?_;clear hK K;refine uT ?_;refine uW ?_;refine PV (fun q:Nat×Nat×List Int×Nat=>⟨[(4,.p 104 0 0 0 0),(5,.p 105 0 0 0 0),(9,.p 109 0 0 0 0),(10,.p 110 0 0 0 0),(13,I n),(15,U q.2.1)],(109,some (0,.box [.l 301 0 0 y.U.length,.l 302 0 0 y.U.length]))::(301,some (0,.own 3 1 (tk q.2.2.1)))::(302,some (0,.own 3 1 (tk en)))::(110,some (0,.box [IS W]))::(105,some (0,.box (GE p)))::(104,some (0,.box [.P (g_ y ord)]))::(108,some (0,.box [.sl [] false,.sl [] false]))::[],q.1⟩)
    (fun q=>q.2.1<2^y.U.length/\q.2.1<=q.2.2.2/\Cj W q.2.2.2 q.2.1 q.2.2.1=Cj W S S lv1/\q.2.2.1.length=y.U.length) (fun q=>q.2.1) (_,S,lv1,S) ⟨jQ,lR _,rfl,d_⟩ (ch) ?_
   rintro⟨ck,S',O1,f⟩ ⟨g1,g2,g3,g4⟩;simp only at g1 g2 g3 g4;have SP:S'<2^11:=tL g1 (Il oM oM);refine C0 ?_ ?_<;>intro h
   .have h0:S'≠0:=oM;have hm:=bh (f:=11) h0 g1 hN;have UI:=KK S' SP h0;obtain⟨f',rfl⟩:∃f',f=f'+1:=⟨f-1,oM⟩;rw[Cj,iN h0]at g3;generalize tz 11 S'=m at*;have LM:m<W.length:=oM;have kF:m<O1.length:=oM;have ju:IntKind.u64.wrap ((S':Int)-1)=((S'-1:Nat):Int):=by have:=JN (a:=S'-1) oM;rw[<-this];congr 1;omega
    have hand:=u64_and (a:=S') (b:=S'-1) oM oM;refine yX UI ?_;refine Ew (uI (ma LM) (uI (ma kF) @g4)) ?_;refine aH (uI @ju @hand) ?_;have hle:S' &&& (S'-1)<=S'-1:=Nat.and_le_right;refine⟨(_,S' &&& (S'-1),O1.set m (W.getD m 0),f'),⟨uO,uO,g3,by simp only[su];exact g4⟩,uO,ch⟩
   refine El ?_;have h0:S'=0:=oM;subst h0;have e8:O1=Cj W S S lv1:=by
    rw[<-g3];cases f with
    |zero=>rfl|succ f=>rw[Cj,iP rfl]
   rw[<-e8]at e1;refine Iy [(109,0,109,0),(301,0,301,0),(302,0,302,0),(110,0,110,0),(105,0,105,0),(104,0,104,0),(108,0,108,0)] ?_ ?_ ?_ ?_ ?_ ?_;(iterate 5 (focus (first|exact trivial|rfl|exact fun _ _=>rfl|(simp only[go_sem,Dg,N_,Lf,rZ,yO,Ds,b_,FV,rX,AY,rq,pF,iG,MP,Z5,e1]<;>first|trivial|rfl|(simp;done)|omega)|(simp;done))));(simp only[go_sem,Dg,N_,Lf,rZ,yO,Ds,b_,FV,rX,AY,rq,pF,iG,MP,Z5,e1])
  |true=>
   rw[iN (by simp[c1])]at e1;refine nF (uI (bp pt) @e2) ?_;intro K hK;refine Dx ((WO x.kd)) ?_;first|refine Z6 @c1 ?_|exact an @c1
   refine hK _ ?_;clear hK K;refine uF ?_;by_cases s1:S=0
   .have d1:decide (¬(S:Int)=0)=false:=dF oM;rw[iN (fun h=>h.1 s1)]at e1;refine cx @d1 ?_;refine xJ ?_;refine Iy [(109,0,109,0),(301,0,301,0),(302,0,302,0),(110,0,110,0),(105,0,105,0),(104,0,104,0),(108,0,108,0)] ?_ ?_ ?_ ?_ ?_ ?_;(iterate 5 (focus (first|exact trivial|rfl|exact fun _ _=>rfl|(simp only[go_sem,Dg,N_,Lf,rZ,yO,Ds,b_,FV,rX,AY,rq,pF,iG,MP,Z5,e1]<;>first|trivial|rfl|(simp;done)|omega)|(simp;done))));(simp only[go_sem,Dg,N_,Lf,rZ,yO,Ds,b_,FV,rX,AY,rq,pF,iG,MP,Z5,e1])
   have d1:decide (¬(S:Int)=0)=true:=dT oM;cases s2:Y3 x sl with
   |false=>rw[iN (fun h=>by rw[s2]at h;cases h.2.1)]at e1;rw[s2]at Rx;refine WT @d1 Rx ?_;refine xJ ?_;refine Iy [(109,0,109,0),(301,0,301,0),(302,0,302,0),(110,0,110,0),(105,0,105,0),(104,0,104,0),(108,0,108,0)] ?_ ?_ ?_ ?_ ?_ ?_;(iterate 5 (focus (first|exact trivial|rfl|exact fun _ _=>rfl|(simp only[go_sem,Dg,N_,Lf,rZ,yO,Ds,b_,FV,rX,AY,rq,pF,iG,MP,Z5,e1]<;>first|trivial|rfl|(simp;done)|omega)|(simp;done))));(simp only[go_sem,Dg,N_,Lf,rZ,yO,Ds,b_,FV,rX,AY,rq,pF,iG,MP,Z5,e1])
   |true=>
    rw[s2]at Rx;cases ar with
    |true=>rw[iN (fun h=>by cases h.2.2)]at e1;refine WT @d1 Rx ?_;refine xJ ?_;refine Iy [(109,0,109,0),(301,0,301,0),(302,0,302,0),(110,0,110,0),(105,0,105,0),(104,0,104,0),(108,0,108,0)] ?_ ?_ ?_ ?_ ?_ ?_;(iterate 5 (focus (first|exact trivial|rfl|exact fun _ _=>rfl|(simp only[go_sem,Dg,N_,Lf,rZ,yO,Ds,b_,FV,rX,AY,rq,pF,iG,MP,Z5,e1]<;>first|trivial|rfl|(simp;done)|omega)|(simp;done))));(simp only[go_sem,Dg,N_,Lf,rZ,yO,Ds,b_,FV,rX,AY,rq,pF,iG,MP,Z5,e1])
    |false=>rw[iP ⟨s1,s2,rfl⟩]at e1;have hm:=bh (f:=11) s1 jQ hN;have UI:=KK S anP s1;generalize tz 11 S=m at*;have LM:m<W.length:=oM;have kF:m<lv1.length:=oM;refine WT @d1 Rx ?_;refine uT ?_;refine yX UI ?_;refine Ew (uI (ma LM) (uI (ma kF) (uI @d_ @I5))) ?_;refine uW ?_;refine Iy [(109,0,109,0),(301,0,301,0),(302,0,302,0),(110,0,110,0),(105,0,105,0),(104,0,104,0),(108,0,108,0)] ?_ ?_ ?_ ?_ ?_ ?_;(iterate 5 (focus (first|exact trivial|rfl|exact fun _ _=>rfl|(simp only[go_sem,Dg,N_,Lf,rZ,yO,Ds,b_,FV,rX,AY,rq,pF,iG,MP,Z5,e1]<;>first|trivial|rfl|(simp;done)|omega)|(simp;done))));(simp only[go_sem,Dg,N_,Lf,rZ,yO,Ds,b_,FV,rX,AY,rq,pF,iG,MP,Z5,e1])
 clear hX hC;intro w e df X hC;have cQ:=Bv (xs:=y.U) (p:=p) (W:=W) (ord:=ord) ord.length;refine f7 ?_;rw[show f210.results.toList=[.cell 8 97] from rfl];first|refine VO (uI @cQ.1 @cQ.2) ?_|exact kv (uI @cQ.1 @cQ.2)
 rfl
def aaG(l:List (List Int))(hl:l.length<=1000)(h3:∀i,i<l.length->(l.getD i []).length<=1000):UB prog J9 135 [] [RS l] [(100,some (1,.own 22 1 (PG 3 l)))] (.l 100 1 0 l.length):=by
 refine MD func135 ntmps135 ?_;intro w e X hC;refine EP ?_;refine PV (fun i:Nat×Az=>⟨[(3,.l 103 i.2.2 0 i.2.1),(6,RS l),(7,I l.length),(8,I i.2.1)],(103,some (i.2.2,.own 22 1 (PG 3 (l.take i.2.1))))::[],i.1⟩) (fun i=>i.2.1<=l.length) (fun i=>l.length - i.2.1) (_,0,_) (zL _) (.of (lR _) aq bi) ?_;rintro⟨ck,i,g⟩ hi;simp only at hi;refine C0 ?_ ?_<;>intro h
 .have PP:i<l.length:=oM;have e1:=R9 (d:=[]) PP;have s6:=h3 i PP;have lC:(l.take i).length=i:=xF;generalize e2:l.getD i []=r at*;generalize l.take i=o at*;refine aH (uI (au PP) (uI @e2 @lC)) ?_;exact nX (_,i+1,g) (wH @e1)
 refine El ?_;have jk:i=l.length:=oM;subst jk;simp only[Sy];refine WE ?_;rw[show f135.results.toList=[.tmp 2] from rfl];(refine Me [(100,1,103,g)] Xs sM sM sM I3 I3 I3 ?_ ?_;all_goals (first|refine UR ?_|exact Xv|skip))
def H2(p:Pl)(h1:p.Q.length<=1000)(h2:p.R.length<=1000)(h3:∀i,i<p.Q.length->(p.Q.getD i []).length<=1000)(h4:∀i,i<p.R.length->(p.R.getD i []).length<=1000):
  UB prog J9 77 [] [p.av] (qK p) (pq p):=by
 refine MD func77 ntmps77 ?_;intro w e X hC;refine uZ ?_;refine uD ?_;intro K hK;refine PZ [] [(105,5,100,1)] false ((aaG p.Q h1 h3)) iw iw p6 p6 p6 p6 p6 p6 p6 p6 p6 p6 p6 p6 p6 p6 p6 ?_;refine M3 ?_;refine PZ [] [(108,8,100,1)] false ((aaG p.R h2 h4)) iw iw p6 p6 p6 p6 p6 p6 p6 p6 p6 p6 p6 p6 p6 p6 p6 ?_;refine x8 ?_;refine hK _ ?_;clear hK K;refine A_ ?_;rw[show f77.results.toList=[.cell 2 36] from rfl];(refine Me [(100,1,105,5),(101,1,108,8)] Xs sM sM sM I3 I3 I3 ?_ ?_;all_goals (first|refine UR ?_|exact Xv|skip))
def aln(b y:Int):UB prog J9 213 [] [I y,.P [I b]] [] (B (decide (y=b))):=by refine MD func213 ntmps213 ?_;intro w e X hC;exact Et
def ar4(m:T3):UB prog J9 216 [] [m.av] [] (B (decide (m.b=m.c))):=by refine MD func216 ntmps216 ?_;intro w e X hC;exact Et
open Go.Plant
def asA(y:Ly)(p:Pl)(ord:List Int)(fs:List T3)(n:Nat)(op:Bool)(hp:Zc y.U p)(hf:YS y.U fs)(hn:n<y.U.length)(h0:0<(p.Q.getD n []).length):
  UB prog J9 211 [] [.P (g_ y ord),p.av,I n,.sl (YA fs) false,B op] [(100,some (1,.own 3 1 (tk (aD (p.Q.getD n []) (u_ fs n (y.U.getD n default).ln.toNat) op).1)))]
   (.F1 [.l 100 1 0 (p.Q.getD n []).length,I (aD (p.Q.getD n []) (u_ fs n (y.U.getD n default).ln.toNat) op).2]):=by
 have xE:=hp.xl;have bE:n<p.Q.length:=dj;have s6:=hp.row n hn;have fo:=hp.ln n hn;have cQ:=hf.len;have aeR:=fun i hi=>hf.ok i hi n hn;generalize e2:y.U.getD n default=x at*;generalize e3:p.Q.getD n []=sl at*;obtain⟨q,hq⟩:∃q:Nat,q=x.ln.toNat:=⟨_,rfl⟩;have Tz:x.ln=(q:Int):=oM;rw[<-hq];refine MD func211 ntmps211 ?_;intro w e X hC;refine LY (uI (bp hn) (uI @e2 @Tz)) ?_;refine PV (fun i:Nat×Az=>⟨[(0,.P (g_ y ord)),(2,I n),(4,B op),(6,.p 106 1 0 0 0),(12,.l 124 i.2.2 0 q),(25,.sl (YA fs) false),(26,I fs.length),(27,I i.2.1)],(124,some (i.2.2,.own 3 1 (tk (mD fs n q i.2.1))))::(106,some (1,.box (GE p)))::[],i.1⟩) (fun i=>i.2.1<=fs.length) (fun i=>fs.length - i.2.1) (_,0,_) (zL _) (.of (lR _) (by repeat first|exact Zf.nil|refine He ?_|(refine Zf.cons ?_ ?_;(focus (simp only[go_sem,mD,Mv];done)))) (by repeat first|exact O6.nil|refine yB ?_|(refine O6.cons ?_ ?_;(focus (simp only[go_sem,Mv];done))))) ?_;rintro⟨ck,i,g⟩ hi;simp only at hi;have TX:=BJ fs n q i;have e1:mD fs n q (i+1)=eY fs n i (mD fs n q i):=rfl;have e9:u_ fs n q=mD fs n q fs.length:=rfl;have efin:i=fs.length->mD fs n q i=u_ fs n q:=fun h=>by subst h;rfl
 generalize mD fs n q i=o at*;refine C0 ?_ ?_<;>intro h
 .have PP:i<fs.length:=oM;have F_:=aeR i PP;unfold eY at e1;generalize e5:fs.getD i default=f at*;refine Bj (uI (Hr PP) @e5) ?_;by_cases c1:f.b=n
  .have d1:decide (f.b=(n:Int))=true:=dT c1;obtain⟨c2,c3⟩:=F_ c1;rw[iP c1]at e1;obtain⟨k,hk⟩:∃k:Nat,k=f.c.toNat:=⟨_,rfl⟩;have DJ:f.c=(k:Int):=oM;rw[<-hk]at e1;have DN:k<o.length:=oM;refine VF (uI @d1 (uI @DJ @TX)) ?_;exact nX (_,i+1,g) (wH @e1)
  have d1:decide (f.b=(n:Int))=false:=dF c1;rw[iN c1]at e1;refine VF @d1 ?_;exact nX (_,i+1,g) (wH @e1)
 refine El ?_;have e6:=efin oM;subst e6;refine nF (uI (au bE) @e3) ?_;intro K hK;refine⟨oM,?_⟩;refine PZ [] [(149,ck+8,100,1)] true ((atK sl (u_ fs n q) op h0 oM oM)) iw iw p6 p6 p6 p6 p6 p6 p6 p6 p6 p6 p6 p6 p6 p6 p6 ?_;refine M3 ?_;refine hK _ ?_;clear hK K;refine A_ ?_;rw[show f211.results.toList=[.tmp 10,.tmp 11] from rfl];(refine Me [(100,1,149,ck+8)] Xs sM sM sM I3 I3 I3 ?_ ?_;all_goals (first|refine UR ?_|exact Xv|skip))
theorem Kx{α:Type}(p:α->Bool)(l:List α)(d:α):(OP p l=-1/\l.filter (fun y=>!p y)=l)\/
  ∃i:Nat,OP p l=i/\i<l.length/\(l.take (i+1)).filter (fun y=>!p y)=l.take i:=by
 unfold OP;cases h:l.findIdx? p with
 |none=>refine .inl ⟨rfl,?_⟩;rw[n4]at h;rw[jl];intro a ha;simp[h a ha]|some i=>rw[tV]at h;obtain⟨hi,h1,h2⟩:=h;refine .inr ⟨i,rfl,hi,?_⟩;rw[wr,aT,gG hi];simp only[rK,XL,h1,Y5,C9,j4,zV,MP];rw[jl];intro a ha;obtain⟨j,hj,rfl⟩:=G_ ha;simp only[Hh]at hj;have:=h2 j oM;simpa using this
def Df{α:Type}{q:α->Bool}{l:List α}{j:Nat}{d:α}(h:j<l.length):(l.take (j+1)).filter q=(l.take j).filter q++if q (l.getD j d)=true then[l.getD j d] else[]:=by
 rw[wr,aT,gG h];have:l.getD j d=l[j]:=by simp[h]
 rw[this];simp only[rK,XL,zV]
def Ch{α:Type}{o:List α}{i:Nat}{x:α}(h:i<o.length):(o.set i x).take (i+1)=o.take i++[x]:=by rw[wr,List.take_set_of_le (lR _)];simp[h]
def SN{α:Type}{o:List α}{i k:Nat}{x d:α}(h:i≠k):(o.set i x).getD k d=o.getD k d:=by simp only[gE];rw[UX h]
def ano(l:List Int)(k:Nat)(cs:List AV)(p:Int->Bool)(hl:l.length<=1000)(hk:∀y∈l,UB prog J9 k [] [I y,.P cs] [] (B (p y))):
  UB prog J9 212 [(0,some (0,.own 3 1 (tk l)))] [.l 0 0 0 l.length,.fn k [.P cs]] [(100,some (1,.own 3 1 (tk (l.filter fun y=>!p y))))] (.l 100 1 0 (l.filter fun y=>!p y).length):=by
 refine MD func212 ntmps212 ?_;intro w e X hC;refine uA ?_;refine uR ?_;intro K hK;refine oj (rc:=I (OP p l)) ?_ ?_ ?_ ?_ ?_ ?_;(focus (first|exact trivial|(simp only[go_sem]<;>trivial)));(focus (simp only[go_sem];exact(aof l k cs p hl hk)));(focus (first|exact trivial|(simp only[go_sem]<;>trivial)));(focus (first|exact trivial|(simp only[go_sem]<;>trivial)));(focus (first|exact trivial|(simp only[go_sem]<;>trivial)));first|refine uS ?_|exact uX
 refine hK _ ?_;clear hK K;rcases Kx p l 0 with ⟨e1,e2⟩|⟨i0,e1,h1,e2⟩
 .rw[e1,e2];refine X3 ?_;refine A_ ?_;rw[show f212.results.toList=[.tmp 4] from rfl];(refine Me [(100,1,0,0)] Xs sM sM sM I3 I3 I3 ?_ ?_;all_goals (first|refine UR ?_|exact Xv|skip))
 rw[e1];refine X3 ?_;refine uW ?_;refine PV (fun i:Nat×Nat×Nat×List Int=>⟨[(0,.l 0 0 0 l.length),(1,.fn k [.P cs]),(5,I i.2.2.1),(6,I i.2.1)],(0,some (0,.own 3 1 (tk i.2.2.2)))::[],i.1⟩) (fun i=>i.2.1<=l.length/\i.2.2.1<i.2.1/\i.2.2.2.length=l.length/\i.2.2.2.take i.2.2.1=(l.take i.2.1).filter (fun y=>!p y)/\∀k,i.2.1<=k->i.2.2.2.getD k 0=l.getD k 0) (fun i=>l.length - i.2.1) (_,i0+1,i0,l) ⟨uO,uO,rfl,e2.symm,fun _ _=>rfl⟩ (ch) ?_;rintro⟨ck,j,i,o⟩ ⟨hi,U7,S0,he,ho⟩;simp only at hi U7 S0 he ho;refine C0 ?_ ?_<;>intro h
 .have PP:j<l.length:=oM;have e3:=Df (q:=fun y=>!p y) (d:=0) PP;have hj:=ho j (lR _);have An:=hk (l.getD j 0) (ka PP);generalize e4:l.getD j 0=x at*;have dh:j<o.length:=oM;cases c1:p x with
  |true=>rw[c1]at An;simp only[c1,Y5,C9,j4,MP]at e3;refine VF (uI (ma dh) (uI @hj @S0)) ?_;refine yX An ?_;refine UN ?_;refine⟨(_,j+1,i,o),⟨uO,uO,S0,by simp only[e3];exact he,fun k h=>ho k (by simp only at h;omega)⟩,uO,ch⟩|false=>rw[c1]at An;simp only[c1,RB,ql]at e3;refine VF (uI (ma dh) (uI @hj @S0)) ?_;refine yX An ?_;refine uT ?_;refine aH @S0 ?_;refine⟨(_,j+1,i+1,o.set i x),⟨uO,uO,by simp only[su];exact S0,by simp only;rw[e3,Ch oM,he],fun k h=>by simp only at h ⊢;rw[SN oM];exact ho k oM⟩,uO,ch⟩
 refine El ?_;have e5:o.take i=l.filter (fun y=>!p y):=by rw[he,DZ oM]
 have e6:(l.filter (fun y=>!p y)).length=i:=by rw[<-e5,Hh];omega
 have e7:(o.take i).length+(l.length - i)=l.length:=j6;have e8:(o.take i).take i=o.take i:=by rw[List.take_take,Nat.min_self]
 have e9:(o.take i++List.replicate (l.length - i) 0).take i=l.filter (fun y=>!p y):=by rw[lh j6,e8,e5]
 refine aH (uI @yW @e7) ?_;rw[acx,yW,e9];rw[e6];refine A_ ?_;rw[show f212.results.toList=[.tmp 4] from rfl];(refine Me [(100,1,0,ck+10)] Xs sM sM sM I3 I3 I3 ?_ ?_;all_goals (first|refine UR ?_|exact Xv|skip))
def alO(l:List T3)(k:Nat)(p:T3->Bool)(hl:l.length<=1000)(hk:∀y∈l,UB prog J9 k [] [y.av] [] (B (p y))):
  UB prog J9 215 [(0,some (0,.own 107 3 (YA l)))] [.l 0 0 0 l.length,.fn k []] [(100,some (1,.own 107 3 (YA (l.filter fun y=>!p y))))] (.l 100 1 0 (l.filter fun y=>!p y).length):=by
 refine MD func215 ntmps215 ?_;intro w e X hC;refine uA ?_;refine uR ?_;intro K hK;refine oj (rc:=I (OP p l)) ?_ ?_ ?_ ?_ ?_ ?_;(focus (first|exact trivial|(simp only[go_sem]<;>trivial)));(focus (simp only[go_sem];exact(amj l k p hl hk)));(focus (first|exact trivial|(simp only[go_sem]<;>trivial)));(focus (first|exact trivial|(simp only[go_sem]<;>trivial)));(focus (first|exact trivial|(simp only[go_sem]<;>trivial)));first|refine uS ?_|exact uX
 refine hK _ ?_;clear hK K;rcases Kx p l default with ⟨e1,e2⟩|⟨i0,e1,h1,e2⟩
 .rw[e1,e2];refine X3 ?_;refine A_ ?_;rw[show f215.results.toList=[.tmp 4] from rfl];(refine Me [(100,1,0,0)] Xs sM sM sM I3 I3 I3 ?_ ?_;all_goals (first|refine UR ?_|exact Xv|skip))
 rw[e1];refine X3 ?_;refine uW ?_;refine PV (fun i:Nat×Nat×Nat×List T3=>⟨[(0,.l 0 0 0 l.length),(1,.fn k []),(5,I i.2.2.1),(6,I i.2.1)],(0,some (0,.own 107 3 (YA i.2.2.2)))::[],i.1⟩) (fun i=>i.2.1<=l.length/\i.2.2.1<i.2.1/\i.2.2.2.length=l.length/\i.2.2.2.take i.2.2.1=(l.take i.2.1).filter (fun y=>!p y)/\∀k,i.2.1<=k->i.2.2.2.getD k default=l.getD k default) (fun i=>l.length - i.2.1) (_,i0+1,i0,l) ⟨uO,uO,rfl,e2.symm,fun _ _=>rfl⟩ (ch) ?_;rintro⟨ck,j,i,o⟩ ⟨hi,U7,S0,he,ho⟩;simp only at hi U7 S0 he ho;refine C0 ?_ ?_<;>intro h
 .have PP:j<l.length:=oM;have e3:=Df (q:=fun y=>!p y) (d:=default) PP;have hj:=ho j (lR _);have An:=hk (l.getD j default) (ka PP);generalize e4:l.getD j default=x at*;have dh:j<o.length:=oM;cases c1:p x with
  |true=>rw[c1]at An;simp only[c1,Y5,C9,j4,MP]at e3;refine VF (uI (Hr dh) (uI @hj @S0)) ?_;refine yX An ?_;refine UN ?_;refine⟨(_,j+1,i,o),⟨uO,uO,S0,by simp only[e3];exact he,fun k h=>ho k (by simp only at h;omega)⟩,uO,ch⟩|false=>rw[c1]at An;simp only[c1,RB,ql]at e3;refine VF (uI (Hr dh) (uI @hj @S0)) ?_;refine yX An ?_;refine uT ?_;refine aH @S0 ?_;refine⟨(_,j+1,i+1,o.set i x),⟨uO,uO,by simp only[su];exact S0,by simp only;rw[e3,Ch oM,he],fun k h=>by simp only at h ⊢;rw[SN oM];exact ho k oM⟩,uO,ch⟩
 refine El ?_;have e5:o.take i=l.filter (fun y=>!p y):=by rw[he,DZ oM]
 have e6:(l.filter (fun y=>!p y)).length=i:=by rw[<-e5,Hh];omega
 have e7:(o.take i).length+(l.length - i)=l.length:=j6;have e8:(o.take i).take i=o.take i:=by rw[List.take_take,Nat.min_self]
 have e9:∀r:List AV,(YA (o.take i)++r).take i=YA (l.filter (fun y=>!p y)):=fun r=>by rw[lh (by rw[MY,Hh];omega),L1,e8,e5]
 refine aH (uI @L1 @e7) ?_;rw[e9];rw[e6];refine A_ ?_;rw[show f215.results.toList=[.tmp 4] from rfl];(refine Me [(100,1,0,ck+10)] Xs sM sM sM I3 I3 I3 ?_ ?_;all_goals (first|refine UR ?_|exact Xv|skip))
def sF(x:Int):UB prog J9 233 [] [I x] [] (B false):=by
 refine MD func233 ntmps233 ?_;intro w e X hC;refine OD ?_;try rfl
 try simp
def aqf(x:Int):UB prog J9 275 [] [I x] [] (B false):=by
 refine MD func275 ntmps275 ?_;intro w e X hC;refine OD ?_;try rfl
 try simp
def apj(x y:Int):UB prog J9 196 [] [I x,I y] [] (B (decide (x<y))):=by refine MD func196 ntmps196 ?_;intro w e X hC;refine uA ?_;refine yX ((sF x)) ?_;exact uP
def ajq(s:Nat):OQ .u64 (s:Int) 1=((s / 2:Nat):Int):=by show(s:Int).fdiv (2^(min 1 64))=_;rw[Int.fdiv_eq_ediv_of_nonneg _ dM];show(s:Int) / 2=_;omega
def yF(l:List Int)(x:Int):Nat:=(l.takeWhile (fun y=>decide (y<x))).length
def aij(l:List Int)(x:Int):yF l x<=l.length:=by
 have h:(l.takeWhile (fun y=>decide (y<x))).length+(l.dropWhile (fun y=>decide (y<x))).length=l.length:=by rw[<-aL,I8]
 unfold yF;omega
theorem aaC:∀{l:List Int}{x:Int}{k:Nat},k<=l.length->(∀j,j<k->l.getD j 0<x)->(∀j,k<=j->j<l.length->x<=l.getD j 0)->yF l x=k
 |[],x,k,h,_,_=>by have:k=0:=A6;subst this;rfl|y::l,x,0,_,_,h=>by
  have:¬y<x:=by have:=h 0 (lR _) sM;simp at this;omega
  simp[yF,this]
 |y::l,x,k+1,h,h1,h2=>by
  have hy:y<x:=by simpa using h1 0 oM
  have ih:=aaC (l:=l) (x:=x) (k:=k) A6 (fun j hj=>by simpa using h1 (j+1) oM) (fun j hj hl=>by simpa using h2 (j+1) oM w9);simp only[yF]at ih;simp only[yF,List.takeWhile_cons,hy,aA,ql,dO,ih]
def aae{l:List Int}(h:l.Pairwise (·<=·)){i j:Nat}(U7:i<=j)(hj:j<l.length):l.getD i 0<=l.getD j 0:=by
 rcases Nat.lt_or_eq_of_le U7 with h1|h1
 .have:=JQ.1 h i j oM hj h1;simpa[show i<l.length by omega,hj] using this
 subst h1;exact MB _
def aeD(l:List Int)(x:Int)(hl:l.length<=1000)(hs:l.Pairwise (·<=·)):
  UB prog J9 256 [] [IS l,I x] [] (.F1 [I (yF l x),B (decide (yF l x<l.length)&&decide (l.getD (yF l x) 0=x))]):=by
 refine MD func256 ntmps256 ?_;intro w e X hC;refine EP ?_;refine PV (fun i:Nat×Az=>⟨[(0,IS l),(1,I x),(6,I l.length),(7,I i.2.1),(8,I i.2.2)],[],i.1⟩) (fun i=>i.2.1<=i.2.2/\i.2.2<=l.length/\(∀j,j<i.2.1->l.getD j 0<x)/\∀j,i.2.2<=j->j<l.length->x<=l.getD j 0) (fun i=>i.2.2 - i.2.1) (_,0,l.length) ⟨zL _,lR _,fun j hj=>absurd hj (nZ _),fun j h1 h2=>by simp only at h1;omega⟩ (ch) ?_;rintro⟨ck,a,b⟩ ⟨K7,OT,h1,h2⟩;simp only at K7 OT h1 h2;refine C0 ?_ ?_<;>intro h
 .obtain⟨m,hm⟩:∃m,m=(a+b) / 2:=⟨_,rfl⟩;have PP:m<l.length:=oM;have e1:IntKind.u64.wrap ((a:Int)+b)=((a+b:Nat):Int):=by rw[show(a:Int)+b=((a+b:Nat):Int) by omega];exact JN oM
  have e2:=ajq (a+b);rw[<-hm]at e2;have e3:IntKind.i64.wrap (m:Int)=m:=by rw[IntKind.wrap_i64];omega
  refine Bj (uI @e1 (uI @e2 @e3)) ?_;refine nF (ma PP) ?_;refine I6 ((apj (l.getD m 0) x)) ?_;refine Wc ?_ ?_<;>intro c1
  .refine uZ ?_;refine⟨(_,m+1,b),⟨uO,uO,fun j hj=>?_,h2⟩,uO,ch⟩;have:=aae hs (show j<=m by simp only at hj;omega) PP;omega
  refine uZ ?_;refine⟨(_,a,m),⟨uO,uO,h1,fun j hj hl=>?_⟩,uO,ch⟩;have:=aae hs (show m<=j from hj) hl;omega
 refine El ?_;have RV:b=a:=oM;subst RV;have e1:=aaC OT h1 h2;rw[e1];by_cases c1:b<l.length
 .have d1:=oN ((b:Int)<l.length);have d2:decide (b<l.length)=true:=dT c1;rw[d2];cases c2:decide (l.getD b 0=x)with
  |true=>
   refine cx (uI @d1 (uI @c2 (ma c1))) ?_;refine uW ?_;refine A_ ?_;rw[show f256.results.toList=[.tmp 4,.tmp 5] from rfl];first|refine jW ?_|exact W5
   rfl
  |false=>
   refine nF (uI @d1 (uI @c2 (ma c1))) ?_;refine I6 ((aqf (l.getD b 0))) ?_;refine uW ?_;refine A_ ?_;rw[show f256.results.toList=[.tmp 4,.tmp 5] from rfl];first|refine jW ?_|exact W5
   rfl
 have d1:=Vj ((b:Int)<l.length);have d2:decide (b<l.length)=false:=dF c1;rw[d2,aS];refine aH @d1 ?_;refine A_ ?_;rw[show f256.results.toList=[.tmp 4,.tmp 5] from rfl];exact W5
end Go.Proofs.YtfcgkbinohibcaaGreatDoor
