/- Lemmas towards inferAsks_card: no conditions of their own. -/
import Derived.Test.YtfcgkbinohibcaaGreatDoorA4
import Derived.Lib.SplitLaws
import Derived.Lib.Replace
import Derived.Lib.AtoiAll
import Derived.Lib.ItoaNum
import Derived.Lib.Join
import Derived.Lib.Repeat
import Derived.RangeFuncSeq
import Derived.RangeFuncIn
import Derived.RangeFuncCalls
set_option linter.all false
namespace Go.Scr
open Go Go.Lib
abbrev Bs:=List UInt8
def ZE (c:UInt8):Bs->List Bs
 |[]=>[[]]|x::r=>if x=c then[]::ZE c r else
   match ZE c r with
   |[]=>[[x]]|w::ws=>(x::w)::ws
def M8 (c:UInt8):Bool:=decide (48<=c.toNat/\c.toNat<=57)
def J7 (acc:Nat) (s:Bs):Nat:=s.foldl (fun n c=>10*n+(c.toNat - 48)) acc
theorem Qaj (acc:Nat) (a:Bs) (c:UInt8):J7 acc (a++[c])=10*J7 acc a+(c.toNat - 48):=by simp[J7]
theorem PV {n:Nat} (h:n<10):(UInt8.ofNat (48+n)).toNat=48+n:=by simp;omega
theorem iM:∀(s:Bs) (a:Nat),(∀c∈s,M8 c=true)->J7 a s<(a+1)*10^s.length
 |[],a,_=>by simp[J7]|c::s,a,h=>by have hc:48<=c.toNat/\c.toNat<=57:=oT (h c sM);have h1:=iM s (10*a+(c.toNat - 48)) (fun x hx=>h x (mC _ hx));show J7 (10*a+(c.toNat - 48)) s<_;rw[List.length_cons,Nat.pow_succ,Nat.mul_comm (10^s.length),<-Nat.mul_assoc];refine tL h1 (Nat.mul_le_mul_right _ oM)
theorem nk {p:UInt8->Bool} {s:Bs} (h:s.all p=true) (i:Nat):(s.take i).all p=true:=by rw[List.all_eq_true] at h ⊢;exact fun x hx=>h x (List.mem_of_mem_take hx)
theorem VW {p:UInt8->Bool} {s:Bs} (h:s.all p=true) {i:Nat} (hi:i<s.length):p (s.getD i 0)=true:=by rw[List.all_eq_true] at h;rw[gE,gG hi];exact h _ (gM hi)
theorem ZO {s:Bs} {i:Nat} (hi:i<s.length):s.take (i+1)=s.take i++[s.getD i 0]:=by rw[List.take_succ,gE,gG hi];rfl
theorem Qak {s:Bs} {i:Nat} (h:s.all M8=true) (hi:i<=s.length):J7 0 (s.take i)<10^i:=by have:=iM (s.take i) 0 (List.all_eq_true.1 (nk h i));rw[List.length_take,Nat.min_eq_left hi] at this;omega
def C6 (n:Nat):Nat->Bs
 |0=>[]|k+1=>C6 (n / 10) k++[UInt8.ofNat (48+n % 10)]
theorem digs_length:∀(k n:Nat),(C6 n k).length=k
 |0,_=>rfl|k+1,n=>by simp[C6,digs_length k]
theorem cq:∀(j k n:Nat),C6 n (k+j)=C6 (n / 10^j) k++C6 n j
 |0,k,n=>by simp[C6]|j+1,k,n=>by rw[<-Nat.add_assoc,C6,cq j k,C6,<-List.append_assoc,Nat.div_div_eq_div_mul,Nat.pow_succ,Nat.mul_comm 10]
open Go Go.Lib
structure Plt where
 l:Int
 a:Int
 s:Int
 deriving DecidableEq,Inhabited
structure VN where
 car:Bs
 num:Int
 suf:Bs
 day:Int
 deriving DecidableEq,Inhabited
structure VM where
 k:Int
 n:Int
 w:Int
 deriving DecidableEq,Inhabited
structure Rev where
 k:Int
 amt:Int
 flt:VN
 deriving DecidableEq,Inhabited
structure VG where
 k:Int
 mv:List VM
 gl:List VM
 lost:Bool
 plt:Plt
 node:Int
 img:Int
 clr:Bool
 txt:Bs
 rev:Rev
 dev:Int
 con:Int
 flt:VN
 deriving DecidableEq,Inhabited
def P0:Plt:=⟨0,0,0⟩
def F0:VN:=⟨[],0,[],0⟩
def W0:VM:=⟨0,0,0⟩
def R0:Rev:=⟨0,0,F0⟩
def A0 (k:Int):VG:=⟨k,[],[],false,P0,0,0,false,[],R0,0,0,F0⟩
def Plt.ok (p:Plt):Bool:=decide (0<=p.l/\p.l<=9/\1<=p.a/\p.a<=999/\0<=p.s/\p.s<=999999)
def Plt.num (p:Plt):Int:=(p.l*1000+p.a)*1000000+p.s
def Plt.fmt (p:Plt):Bs:=if p.ok then C6 p.num.toNat 10 else[]
def only (x:VG):VG:=
 if x.k=1 then {A0 x.k with mv:=x.mv,gl:=x.gl,lost:=x.lost}
 else if x.k=2\/x.k=10 then {A0 x.k with plt:=x.plt,node:=x.node}
 else if x.k=3 then {A0 x.k with txt:=x.txt}
 else if x.k=4 then {A0 x.k with img:=x.img,clr:=x.clr}
 else if x.k=5 then {A0 x.k with rev:=x.rev}
 else if x.k=6\/x.k=7 then {A0 x.k with node:=x.node}
 else if x.k=8 then {A0 x.k with dev:=x.dev,plt:=x.plt,node:=x.node,con:=x.con}
 else if x.k=9 then {A0 x.k with dev:=x.dev,plt:=x.plt,con:=x.con}
 else if x.k=11\/x.k=12 then {A0 x.k with dev:=x.dev}
 else if x.k=13 then {A0 x.k with flt:=x.flt}
 else A0 x.k
structure Rd where
 line:Bs
 ws:List Bs
 bad:Bool
def val (s:Bs):Option Int:=
 match atoiAll s with
 | .ok v=>if 0<=v/\v<=999999 then some v else none|_=>none
def U7 (s:Bs):Rd:=⟨s,ZE 32 s,false⟩
end Go.Scr
namespace Go.Proofs.YtfcgkbinohibcaaGreatDoor
open Go Go.Sym Go.Proofs.Tryz
namespace Sc
open Go.Scr
theorem mJ (l:List UInt8):PE (Ea l)=True:=eq_true (mI l)
theorem Qik {l:List UInt8}:(∀e∈Ea l,∀c∈e.cells,SJ c)=True:=by refine eq_true fun e he c hc=>?_;simp only[Ea,List.mem_map] at he;obtain⟨x,_,rfl⟩:=he;simp only[Dr,AV.cells,List.mem_singleton] at hc;subst hc;trivial
def strs (l:List Bs):List AV:=l.map fun x=>S (strOf x)
theorem ZL (l:List Bs):(strs l).length=l.length:=by simp[strs]
theorem Ge {l:List Bs} {i:Nat} (h:i<l.length):(strs l).getD i .bad=S (strOf (l.getD i [])):=by simp[strs,h]
theorem VO (l:List Bs):PE (strs l)=True:=by refine eq_true fun e he c hc=>?_;simp only[strs,List.mem_map] at he;obtain⟨x,_,rfl⟩:=he;simp only[AV.cells,List.mem_singleton] at hc;subst hc;trivial
theorem VX {l:List Bs}:(∀y∈strs l,y.cells.length=1)=True:=by refine eq_true fun e he=>?_;simp only[strs,List.mem_map] at he;obtain⟨x,_,rfl⟩:=he;rfl
theorem ZM {l:List Bs} {b:Bs}:strs l++[.lit (.string (strOf b))]=strs (l++[b]):=by simp[strs]
theorem kb {l:List Bs} {i:Nat}:(strs l).take i=strs (l.take i):=by simp[strs]
attribute [go_sem] mJ ZL VO VX ZM
theorem Qg4 {c:UInt8} (h:M8 c=true):IntKind.i64.wrap (IntKind.u8.wrap ((c.toNat:Int) - 48))=(c.toNat:Int) - 48:=by have h:48<=c.toNat/\c.toNat<=57:=oT h;rw[IntKind.wrap_u8,IntKind.wrap_i64];omega
abbrev Uc (c:UInt8):AV:= .lit (.int .u8 ((c.toNat:Nat):Int))
theorem kx {p:UInt8->Bool} {s:Bs} {i:Nat} (hi:i<s.length) (h:(s.take i).all p=true) (h1:p (s.getD i 0)=true):(s.take (i+1)).all p=true:=by rw[ZO hi,List.all_append,h,List.all_cons,h1];rfl
theorem iK {p:UInt8->Bool} {s:Bs} {i:Nat} (hi:i<s.length) (h1:p (s.getD i 0)=false):s.all p=false:=by
 cases h:s.all p with
 |false=>rfl|true=>rw[VW h hi] at h1;cases h1
theorem aN (s:Bs) (k:Nat) (p:UInt8->Bool) (hl:s.length<=1000000) (hk:∀c,Ag prog Ad k [] [Uc c] [] (B (p c))):
  Ag prog Ad 235 [] [S (strOf s), .fn k []] [] (B (s.all p)):=by
 refine Am func235 ntmps235 ?_;intro w e X hC;refine xy4 ?_;refine Aw (fun i:Nat×Nat=>⟨[(0,S (strOf s)),(1, .fn k []),(7,I s.length),(8,I i.2)],[],i.1⟩) (fun i=>i.2<=s.length/\(s.take i.2).all p=true) (fun i=>s.length - i.2) (_,0) ⟨zL _,rfl⟩ (Af) ?_;rintro⟨ck,i⟩ ⟨hi,hj⟩;simp only at hi hj;refine xy1 (fun h=>?_) (fun h=>?_)
 .have Aa:i<s.length:=oM;have Bk:=hk (s.getD i 0);refine uA ?_;cases c1:p (s.getD i 0) with
  |true=>rw[c1] at Bk;refine uR ?_;intro K hK;refine⟨oM,?_⟩;refine xz0 Bk ?_;refine hK _ ?_;clear hK K;refine xy9 ?_;refine⟨(_,i+1),⟨uO,kx Aa hj c1⟩,uO,Af⟩|false=>
   rw[c1] at Bk;refine uR ?_;intro K hK;refine⟨oM,?_⟩;refine xz0 Bk ?_;refine hK _ ?_;clear hK K;refine xq4 ?_;try rfl
   rw[iK Aa c1];rfl
 refine At ?_;have:i=s.length:=oM;subst this;rw[List.take_length] at hj;refine xz3 ?_;try rfl
 rw[hj];rfl
end Sc
namespace Sc
open Go.Scr
abbrev Plt.av (p:Plt):AV:= .agg [I p.l,I p.a,I p.s]
theorem Qb0 (p:Plt):Ag prog Ad 217 [] [Plt.av p] [] (B p.ok):=QbZ p.l p.a p.s
theorem QeF (p:Plt):Ag prog Ad 161 [] [Plt.av p] [] (B p.ok):=QeE p.l p.a p.s
theorem Zh {p:Plt} (h:p.ok=true):0<=p.l/\p.l<=9/\1<=p.a/\p.a<=999/\0<=p.s/\p.s<=999999:=oT h
theorem pX (n:Nat):IntKind.u8.wrap (48+IntKind.u8.wrap ((n:Int).tmod 10))=((UInt8.ofNat (48+n % 10)).toNat:Nat):=by
 have h1:(n:Int).tmod 10=((n % 10:Nat):Int):=by rw[Int.tmod_eq_emod_of_nonneg oM];rfl
 rw[h1,PV oM,IntKind.wrap_u8,IntKind.wrap_u8];omega
theorem cr (n:Nat) (j:Nat):C6 n (j+1)=UInt8.ofNat (48+n / 10^j % 10)::C6 n j:=by rw[Nat.add_comm,cq j 1];rfl
theorem Qjn (N i:Nat) (h:i<10):(Ea (List.replicate (10 - i) 0++C6 N i)).take (9 - i)++[.lit (.int .u8 ((UInt8.ofNat (48+N / 10^i % 10)).toNat:Nat))]++(Ea (List.replicate (10 - i) 0++C6 N i)).drop (9 - i+1)=Ea (List.replicate (10 - (i+1)) 0++C6 N (i+1)):=by
 rw[cr,show 10 - (i+1)=9 - i by omega,show 10 - i=(9 - i)+1 by omega,List.replicate_succ'];simp only[Ea,List.map_append,List.append_assoc];generalize hA:List.map Dr (List.replicate (9 - i) 0)=A;have Mi:A.length=9 - i:=by rw[<-hA];simp
 rw[List.take_append_of_le_length oM,List.take_of_length_le oM];rw[show A++(List.map Dr [0]++List.map Dr (C6 N i))=(A++List.map Dr [0])++List.map Dr (C6 N i) by simp];rw[List.drop_append_of_le_length (by simp[Mi]),List.drop_of_length_le (by simp[Mi])];rfl
theorem pformat_sat (p:Plt):Ag prog Ad 169 [] [Plt.av p] [] (S (strOf p.fmt)):=by
 have h0:=Qb0 p;refine Am func169 ntmps169 ?_;intro w e X hC;refine uZ ?_;cases c0:p.ok with
 |false=>
  have e:p.fmt=[]:=vw7;rw[c0] at h0;refine uR ?_;refine xy7 h0 ?_;refine xq4 ?_;try rfl
  rw[e];rfl
 |true=>
  have hb:=Zh c0;have e:p.fmt=C6 p.num.toNat 10:=vw7;have h1:=QbJ p.l p.a p.s ⟨hb.1,hb.2.1⟩ oM oM;rw[c0] at h0;refine uR ?_;refine xy7 h0 ?_;refine xy9 ?_;refine uR ?_;refine xy7 h1 ?_;refine uZ ?_;rw[e];obtain⟨N,hN⟩:∃N:Nat,p.num=N:=⟨p.num.toNat,by unfold Plt.num;omega⟩;have W6:(p.l*1000+p.a)*1000000+p.s=N:=hN;have tf:N<10000000000:=oM;rw[W6,hN,Int.toNat_natCast];refine uW ?_;refine Aw (fun i:Nat×Nat=>⟨[(3, .p 103 6 0 0 0),(4,I (N / 10^i.2:Nat)),(11,I i.2)],[(103,some (6, .box (Ea (List.replicate (10 - i.2) 0++C6 N i.2))))],i.1⟩) (fun i=>i.2<=10) (fun i=>10 - i.2) (_,0) (zL _) (.of (lR _) Cb (AS (uI @Nat.pow_zero @Nat.div_one))) ?_;rintro⟨ck,i⟩ hi;simp only at hi;refine xy1 (fun h=>?_) (fun h=>?_)
  .have hw:=pX (N / 10^i);have hx:(9 - (i:Int)).toNat*1=9 - i:=oM;have hl:10 - i+(C6 N i).length=10:=by rw[digs_length];omega
   have hs:=Qjn N i oM;have hq:((N / 10^i:Nat):Int).tdiv 10=((N / 10^(i+1):Nat):Int):=by rw[Int.tdiv_eq_ediv_of_nonneg (Int.natCast_nonneg _),Nat.pow_succ,<-Nat.div_div_eq_div_mul];rfl
   have BX:N / 10^i<=N:=Nat.div_le_self _ _;refine uA ?_;refine Av (uI @hw (uI @hx (uI @hl @hs))) ?_;intro K hK;refine⟨oM,oM,Nat.sub_le _ _,?_⟩;refine hK _ ?_;clear hK K;have Ie:IntKind.i64.wrap ((N / 10^(i+1):Nat):Int)=((N / 10^(i+1):Nat):Int):=by have:N / 10^(i+1)<=N:=Nat.div_le_self _ _;generalize N / 10^(i+1)=q at*;rw[IntKind.wrap_i64];omega
   refine Bg (uI @hq @Ie) ?_;refine⟨(_,i+1),uO,uO,Af⟩
  refine At ?_;have:i=10:=oM;subst this;have e2:List.replicate (10 - 10) (0:UInt8)++C6 N 10=C6 N 10:=rfl;rw[e2];exact xz5
end Sc
namespace Sc
open Go.Scr
theorem jI (s:Bs) (hs:s.length<=10) (hd:s.all M8=true):Ag prog Ad 220 [] [S (strOf s)] [] (I (J7 0 s:Nat)):=by
 refine Am func220 ntmps220 ?_;intro w e X hC;refine xy4 ?_;refine Aw (fun i:Nat×Nat=>⟨[(0,S (strOf s)),(3,I (J7 0 (s.take i.2):Nat)),(4,I i.2)],[],i.1⟩) (fun i=>i.2<=s.length) (fun i=>s.length - i.2) (_,0) (zL _) (Af) ?_;rintro⟨ck,i⟩ hi;simp only at hi;have hn:=Qak hd hi;have hn:J7 0 (s.take i)<10000000000:=tL hn (Nat.pow_le_pow_right dM (by omega:i<=10));refine xy1 (fun h=>?_) (fun h=>?_)
 .have Aa:i<s.length:=oM;have Nu:48<=(s.getD i 0).toNat/\(s.getD i 0).toNat<=57:=oT (VW hd Aa);have e1:=ZO Aa;have e2:=Qaj 0 (s.take i) (s.getD i 0);rw[<-e1] at e2;have hw:=Qg4 (VW hd Aa);have e3:((J7 0 (s.take (i+1)):Nat):Int)=(J7 0 (s.take i):Nat)*10+(((s.getD i 0).toNat:Int) - 48):=oM;refine Bg @hw ?_;refine⟨(_,i+1),uO,uO, .of (lR _) Cb (AS @e3)⟩
 refine At ?_;have:i=s.length:=oM;subst this;rw[List.take_length];exact xz5
theorem jq (s:Bs) (hs:s.length<=1000000):Ag prog Ad 219 [] [S (strOf s)] [] (B (s.all M8)):=by
 refine Am func219 ntmps219 ?_;intro w e X hC;refine xy4 ?_;refine Aw (fun i:Nat×Nat=>⟨[(0,S (strOf s)),(3,I i.2)],[],i.1⟩) (fun i=>i.2<=s.length/\(s.take i.2).all M8=true) (fun i=>s.length - i.2) (_,0) ⟨zL _,rfl⟩ (Af) ?_;rintro⟨ck,i⟩ ⟨hi,hj⟩;simp only at hi hj;refine xw9 (fun h=>?_) (fun h=>?_)
 .have Aa:i<s.length:=oM;have CP:M8 (s.getD i 0)=false->B (s.all M8)=B false:=fun h=>by rw[iK Aa h]
  by_cases c0:(s.getD i 0).toNat<48
  .have e0:=uDt ((((s.getD i 0).toNat:Nat):Int)<48);rw[CP (dF oM)];refine Bg @e0 ?_;exact xz7
  have e0:=uDf ((((s.getD i 0).toNat:Nat):Int)<48);by_cases c1:57<(s.getD i 0).toNat
  .have e1:=uDt (57<(((s.getD i 0).toNat:Nat):Int));rw[CP (dF oM)];refine Bg (uI @e0 @e1) ?_;exact xz7
  have e1:=uDf (57<(((s.getD i 0).toNat:Nat):Int));refine Bg (uI @e0 @e1) ?_;refine xy9 ?_;refine⟨(_,i+1),⟨uO,kx Aa hj (dT ⟨oM,oM⟩)⟩,uO,Af⟩
 refine At ?_;have:i=s.length:=oM;subst this;rw[List.take_length] at hj;rw[hj];exact xz5
theorem Qhg (k n:Nat):Ea (List.replicate k 0++C6 n 0)=List.replicate k (.lit (.int .u8 0)):=by simp[C6,Ea,Dr]
theorem pY (n:Nat):IntKind.u8.wrap (48+(n:Int).tmod 10)=((UInt8.ofNat (48+n % 10)).toNat:Nat):=by
 have h1:(n:Int).tmod 10=((n % 10:Nat):Int):=by rw[Int.tmod_eq_emod_of_nonneg oM];rfl
 rw[h1,PV oM,IntKind.wrap_u8];omega
theorem pc (N k i:Nat) (h:i<k):(Ea (List.replicate (k - i) 0++C6 N i)).set (k - 1 - i) (.lit (.int .u8 ((UInt8.ofNat (48+N / 10^i % 10)).toNat:Nat)))=Ea (List.replicate (k - (i+1)) 0++C6 N (i+1)):=by
 rw[cr,show k - (i+1)=k - 1 - i by omega,show k - i=(k - 1 - i)+1 by omega,List.replicate_succ'];simp only[Ea,List.map_append,List.append_assoc];generalize hA:List.map Dr (List.replicate (k - 1 - i) 0)=A;have Mi:A.length=k - 1 - i:=by rw[<-hA];simp
 rw[List.set_append_right _ _ oM,Mi,Nat.sub_self];rfl
theorem Qb4 (N k:Nat) (hN:N<10^12) (hk:k<=12) (Ck:1<=k):Ag prog Ad 162 [] [I N,I k] [] (S (strOf (C6 N k))):=by
 have hN:N<1000000000000:=hN;refine Am func162 ntmps162 ?_;intro w e X hC;refine xy4 ?_;refine Aw (fun i:Nat×Nat=>⟨[(0,I (N / 10^i.2:Nat)),(5, .l 108 3 0 k),(6,I ((k:Int) - 1 - i.2))],[(108,some (3, .own 5 1 (Ea (List.replicate (k - i.2) 0++C6 N i.2))))],i.1⟩) (fun i=>i.2<=k) (fun i=>k - i.2) (_,0) (zL _) (.of (lR _) (Ax (uI @Qhg @Nat.sub_zero)) (AS (uI @Nat.pow_zero (uI @Nat.div_one (uI @Int.natCast_zero @Int.sub_zero))))) ?_;rintro⟨ck,i⟩ hi;simp only at hi;have hl:k - i+(C6 N i).length=k:=by rw[digs_length];omega
 refine xy1 (fun h=>?_) (fun h=>?_)
 .have Aa:i<k:=oM;have hw:=pY (N / 10^i);have hx:((k:Int) - 1 - i).toNat=k - 1 - i:=oM;have hs:=pc N k i Aa;have hq:((N / 10^i:Nat):Int).tdiv 10=((N / 10^(i+1):Nat):Int):=by rw[Int.tdiv_eq_ediv_of_nonneg (Int.natCast_nonneg _),Nat.pow_succ,<-Nat.div_div_eq_div_mul];rfl
  have BX:N / 10^i<=N:=Nat.div_le_self _ _;have hmd:0<=((N / 10^i:Nat):Int).tmod 10/\((N / 10^i:Nat):Int).tmod 10<10:=by rw[Int.tmod_eq_emod_of_nonneg (Int.natCast_nonneg _)];omega
  refine Av (uI @hw (uI @hx (uI @hl @hs))) ?_;intro K hK;refine⟨oM,oM,oM,?_⟩;refine hK _ ?_;clear hK K;have Ie:IntKind.i64.wrap ((N / 10^(i+1):Nat):Int)=((N / 10^(i+1):Nat):Int):=by have:N / 10^(i+1)<=N:=Nat.div_le_self _ _;generalize N / 10^(i+1)=q at*;rw[IntKind.wrap_i64];omega
  have D0:(k:Int) - 1 - i - 1=(k:Int) - 1 - (i+1:Nat):=oM;refine Bg (uI @hq (uI @Ie @D0)) ?_;refine⟨(_,i+1),uO,uO,Af⟩
 refine At ?_;have:i=k:=oM;subst this;have e2:List.replicate (i - i) (0:UInt8)++C6 N i=C6 N i:=by rw[Nat.sub_self];rfl
 rw[e2];exact xz5
theorem Qeo {p:Plt} (h:p.ok=true):∃N:Nat,p.num=N/\N<10000000000:=by have hb:=Zh h;exact⟨p.num.toNat,by unfold Plt.num;omega,by unfold Plt.num;omega⟩
theorem rpformat_sat (p:Plt):Ag prog Ad 112 [] [Plt.av p] [] (S (strOf p.fmt)):=by
 have h0:=QeF p;refine Am func112 ntmps112 ?_;intro w e X hC;refine uZ ?_;cases c0:p.ok with
 |false=>have e:p.fmt=[]:=vw7;rw[c0] at h0;rw[e];refine uR ?_;refine xy7 h0 ?_;exact xz7|true=>have hb:=Zh c0;have e:p.fmt=C6 p.num.toNat 10:=vw7;have h1:=Qen p.l p.a p.s ⟨hb.1,hb.2.1⟩ oM oM;obtain⟨N,hN,tf⟩:=Qeo c0;have W6:(p.l*1000+p.a)*1000000+p.s=N:=hN;rw[W6] at h1;have h2:=Qb4 N 10 oM dM dM;rw[c0] at h0;rw[e,hN,Int.toNat_natCast];refine uR ?_;refine xy7 h0 ?_;refine uF ?_;refine uR ?_;intro K hK;refine xy0 h1 ?_;refine xy0 h2 ?_;refine hK _ ?_;clear hK K;exact uP
end Sc
structure BU where
 us:Int
 sl:List (List Int)
 bn:List (List Int)
 deriving Inhabited
abbrev BU.av (x:BU):AV:= .agg [I x.us,RS x.sl,RS x.bn]
def BY (l:List BU):List AV:=l.map BU.av
theorem xB (l:List BU):(BY l).length=l.length:=by simp[BY]
theorem SF {l:List BU} {i:Nat} (h:i<l.length):(BY l).getD i .bad=(l.getD i default).av:=by simp[BY,h]
theorem mM (l:List BU):PE (BY l)=True:=by refine eq_true fun e he c hc=>?_;simp only[BY,List.mem_map] at he;obtain⟨x,_,rfl⟩:=he;simp only[AV.cells,List.mem_cons,List.not_mem_nil,or_false] at hc;rcases hc with rfl|rfl|rfl<;>first|trivial|rfl
theorem xD {l:List BU} {us:Int} {sl:List (List Int)} {bn:List (List Int)}:BY l++[.agg [.lit (.int .i64 us), .sl (Ij sl) false, .sl (Ij bn) false]]=BY (l++[⟨us,sl,bn⟩]):=by simp[BY]
theorem xC {l:List BU} {i:Nat} {us:Int} {sl:List (List Int)} {bn:List (List Int)}:(BY l).set i (.agg [.lit (.int .i64 us), .sl (Ij sl) false, .sl (Ij bn) false])=BY (l.set i ⟨us,sl,bn⟩):=by simp[BY,List.map_set]
attribute [go_sem] xB mM xD xC
structure Dh where
 dv:Int
 sn:Bool
 rd:List UInt8
 deriving DecidableEq,Inhabited
abbrev Dh.av (x:Dh):AV:= .agg [I x.dv,B x.sn,S (strOf x.rd)]
def Eu (l:List Dh):List AV:=l.map Dh.av
theorem QQ (l:List Dh):(Eu l).length=l.length:=by simp[Eu]
theorem SY {l:List Dh} {i:Nat} (h:i<l.length):(Eu l).getD i .bad=(l.getD i default).av:=by simp[Eu,h]
theorem mT (l:List Dh):PE (Eu l)=True:=by refine eq_true fun e he c hc=>?_;simp only[Eu,List.mem_map] at he;obtain⟨x,_,rfl⟩:=he;simp only[AV.cells,List.mem_cons,List.not_mem_nil,or_false] at hc;rcases hc with rfl|rfl|rfl<;>first|trivial|rfl
theorem Qet {l:List Dh} {x:Dh}:Eu l++[x.av]=Eu (l++[x]):=by simp[Eu]
attribute [go_sem] QQ mT
structure D5 where
 bud:Int
 l:List BU
abbrev D5.av (x:D5):AV:= .agg [I x.bud, .sl (BY x.l) false]
def BU.pl (h:BU):Pl:=⟨h.sl,h.bn⟩
def Rj (y:Ly) (d:Nat):Int:=(y.D.getD d default).a
def M9 (y:Ly) (d:Nat):Nat:=(y.D.getD d default).b.toNat
def Og (y:Ly) (d:Nat):Nat:=(y.D.getD d default).c.toNat
structure K5 (y:Ly) (p:Pl):Prop where
 n:y.D.length<=1000
 sl:p.Q.length<=1000
 at_:∀d,d<y.D.length->(y.D.getD d default).b=M9 y d/\(y.D.getD d default).c=Og y d/\M9 y d<p.Q.length/\Og y d<(p.Q.getD (M9 y d) []).length
def Hh (y:Ly) (p:Pl) (d:Nat):Int:=(p.Q.getD (M9 y d) []).getD (Og y d) 0
theorem QeS (y:Ly) (p:Pl) (d:Nat) (h:K5 y p) (hd:d<y.D.length):Ag prog Ad 111 [] [y.av,p.av,I d] [] (I (Hh y p d)):=by obtain⟨e1,e2,e3,e4⟩:=h.at_ d hd;have g1:=By hd;have g2:=BF e3;have g3:=Ao e4;have hn:=h.n;have hs:=h.sl;unfold Hh;generalize M9 y d=n at*;generalize Og y d=k at*;generalize y.D.getD d default=x at*;generalize p.Q.getD n []=r at*;refine Am func111 ntmps111 ?_;intro w e X hC;refine uZ ?_;refine xq2 (uI @g1 (uI @e1 (uI @e2 (uI @g2 @g3)))) ?_;exact uP
end Go.Proofs.YtfcgkbinohibcaaGreatDoor
namespace Go.Inf
def CJ:List Int->List Int->Bool
 |_,[]=>false|[],_::_=>true|a::r,b::t=>if a=b then CJ r t else decide (a<b)
theorem ir (a:List Int):CJ a []=false:=by cases a<;>rfl
theorem UV:∀a:List Int,CJ a a=false
 |[]=>rfl|a::r=>by rw[CJ,iP rfl,UV r]
theorem SN:∀{a b c:List Int},CJ a b=true->CJ b c=true->CJ a c=true
 |_,[],_,h,_=>by rw[ir] at h;cases h
 |_,_::_,[],_,h=>by rw[ir] at h;cases h
 |[],_::_,_::_,_,_=>rfl|a::r,b::s,c::t,h1,h2=>by
  unfold CJ at h1 h2 ⊢;by_cases e1:a=b
  .subst e1;rw[iP rfl] at h1;by_cases e2:a=c
   .rw[iP e2] at h2 ⊢;exact SN h1 h2
   rw[iN e2] at h2 ⊢;exact h2
  rw[iN e1] at h1;have h1:=oT h1;by_cases e2:b=c
  .subst e2;rw[iN e1];exact dT h1
  rw[iN e2] at h2;have h2:=oT h2;rw[iN oM];exact dT oM
theorem yT {a b:List Int} (h:CJ a b=true):CJ b a=false:=by
 cases h2:CJ b a with
 |false=>rfl|true=>rw[<-UV a,SN h h2]
theorem UW:∀{a b:List Int},CJ a b=false->CJ b a=false->a=b
 |[],[],_,_=>rfl|[],_::_,h,_=>vx0|_::_,[],_,h=>vx0|a::r,b::t,h1,h2=>by
  unfold CJ at h1 h2;by_cases e:a=b
  .subst e;rw[iP rfl] at h1 h2;rw[UW h1 h2]
  rw[iN e] at h1;rw[iN fun h=>e h.symm] at h2;have h1:=oF h1;have h2:=oF h2;omega
section
variable {P:Type} (key:P->List Int)
abbrev Hy (P:Type):=Int×P
def Tk (X Y:List (Hy P)):Prop:=∀x∈X,∃y∈Y,y.2=x.2/\y.1<=x.1
theorem Tk.refl (X:List (Hy P)):Tk X X:=fun x hx=>⟨x,hx,rfl,Int.le_refl _⟩
variable [DecidableEq P]
structure Jv (X l:List (Hy P)):Prop where
 one:l.Pairwise fun a b=>a.2≠b.2
 mem:∀h∈l,h∈X
 least:∀h∈l,∀x∈X,x.2=h.2->h.1<=x.1
 all:∀x∈X,∃h∈l,h.2=x.2
def gadd:List (Hy P)->Hy P->List (Hy P)
 |[],h=>[h]|x::t,h=>if x.2=h.2 then(min x.1 h.1,x.2)::t else x::gadd t h
theorem Jv.nil:Jv ([]:List (Hy P)) []:=⟨.nil,sM,sM,sM⟩
theorem iT:∀{l:List (Hy P)},(l.Pairwise fun a b=>a.2≠b.2)->∀{a b:Hy P},a∈l->b∈l->a.2=b.2->a=b
 |[],_,a,_,ha,_,_=>by cases ha
 |z::l,hl,a,b,ha,hb,e=>by
  obtain⟨r1,r2⟩:=List.pairwise_cons.1 hl;rcases List.mem_cons.1 ha with e1|h1
  .rcases List.mem_cons.1 hb with e2|h2
   .rw[e1,e2]
   rw[e1] at e;exact absurd e (r1 b h2)
  rcases List.mem_cons.1 hb with e2|h2
  .rw[e2] at e;exact absurd e.symm (r1 a h1)
  exact iT r2 h1 h2 e
theorem TV {l:List (Hy P)} {h a:Hy P} (ha:a∈gadd l h):a.2=h.2\/∃x∈l,x.2=a.2:=by
 induction l with
 |nil=>rw[gadd] at ha;rw[List.mem_singleton.1 ha];exact .inl rfl|cons x t ih=>
  rw[gadd] at ha;split at ha
  .rcases List.mem_cons.1 ha with rfl|GT
   .exact .inr ⟨x,sM,rfl⟩
   exact .inr ⟨a,mC _ GT,rfl⟩
  rcases List.mem_cons.1 ha with rfl|GT
  .exact .inr ⟨a,sM,rfl⟩
  rcases ih GT with e|⟨y,hy,e⟩
  .exact .inl e
  exact .inr ⟨y,mC _ hy,e⟩
theorem Jv.gadd {X l:List (Hy P)} {h:Hy P} (hG:Jv X l):Jv (X++[h]) (gadd l h):=by
 have main:∀l:List (Hy P),(l.Pairwise fun a b=>a.2≠b.2)->((Inf.gadd l h).Pairwise fun a b=>a.2≠b.2)/\Tk (l++[h]) (Inf.gadd l h)/\(∀a∈Inf.gadd l h,a∈l++[h])/\∀a∈Inf.gadd l h,∀x∈l++[h],x.2=a.2->a.1<=x.1:=by
  intro l;induction l with
  |nil=>intro _;refine⟨List.pairwise_singleton _ _,Tk.refl _,fun a ha=>ha,fun a ha x hx _=>?_⟩;rw[List.mem_singleton.1 ha,List.mem_singleton.1 hx];exact Int.le_refl _|cons x t ih=>
   intro hs;obtain⟨p1,p2⟩:=List.pairwise_cons.1 hs;rw[Inf.gadd];by_cases c:x.2=h.2
   .rw[iP c];refine⟨List.pairwise_cons.2 ⟨fun y hy=>p1 y hy,p2⟩,fun y hy=>?_,fun a ha=>?_,fun a ha y hy e=>?_⟩
    .rcases List.mem_cons.1 hy with rfl|hy
     .exact⟨_,mS,rfl,Int.min_le_left _ _⟩
     rcases List.mem_append.1 hy with hy|hy
     .exact⟨y,mC _ hy,rfl,Int.le_refl _⟩
     rw[List.mem_singleton.1 hy];exact⟨_,mS,c,Int.min_le_right _ _⟩
    .rcases List.mem_cons.1 ha with rfl|GT
     .rcases Int.le_total x.1 h.1 with hl|hl
      .rw[Int.min_eq_left hl];simp
      rw[Int.min_eq_right hl,c];simp
     exact mC _ (List.mem_append_left _ GT)
    rcases List.mem_cons.1 ha with rfl|GT
    .rcases List.mem_cons.1 hy with rfl|hy
     .exact Int.min_le_left _ _
     rcases List.mem_append.1 hy with hy|hy
     .exact absurd e.symm (p1 y hy)
     rw[List.mem_singleton.1 hy];exact Int.min_le_right _ _
    rcases List.mem_cons.1 hy with rfl|hy
    .exact absurd e (p1 a GT)
    rcases List.mem_append.1 hy with hy|hy
    .rw[iT p2 GT hy e.symm];exact Int.le_refl _
    rw[List.mem_singleton.1 hy,<-c] at e;exact absurd e (p1 a GT)
   rw[iN c];obtain⟨i1,i2,i3,i4⟩:=ih p2;have far:∀a∈Inf.gadd t h,x.2≠a.2:=fun a ha=>by
    rcases TV ha with e|⟨y,hy,e⟩
    .rw[e];exact c
    rw[<-e];exact p1 y hy
   refine⟨List.pairwise_cons.2 ⟨far,i1⟩,fun y hy=>?_,fun a ha=>?_,fun a ha y hy e=>?_⟩
   .rcases List.mem_cons.1 hy with rfl|hy
    .exact⟨y,sM,rfl,Int.le_refl _⟩
    obtain⟨z,hz,h1⟩:=i2 y hy;exact⟨z,mC _ hz,h1⟩
   .rcases List.mem_cons.1 ha with rfl|GT
    .simp
    exact mC _ (i3 a GT)
   rcases List.mem_cons.1 ha with rfl|GT
   .rcases List.mem_cons.1 hy with rfl|hy
    .exact Int.le_refl _
    rcases List.mem_append.1 hy with hy|hy
    .exact absurd e.symm (p1 y hy)
    rw[List.mem_singleton.1 hy] at e;exact absurd e.symm c
   rcases List.mem_cons.1 hy with rfl|hy
   .exact absurd e (far a GT)
   exact i4 a GT y hy e
 obtain⟨m1,m2,m3,m4⟩:=main l hG.one;refine⟨m1,fun a ha=>?_,fun a ha x hx e=>?_,fun x hx=>?_⟩
 .rcases List.mem_append.1 (m3 a ha) with h1|h1
  .exact List.mem_append_left _ (hG.mem a h1)
  exact List.mem_append_right _ h1
 .rcases List.mem_append.1 hx with hx|hx
  .obtain⟨b,hb,eb⟩:=hG.all x hx;exact Int.le_trans (m4 a ha b (List.mem_append_left _ hb) (eb.trans e)) (hG.least b hb x hx eb.symm)
  exact m4 a ha x (List.mem_append_right _ hx) e
 rcases List.mem_append.1 hx with hx|hx
 .obtain⟨b,hb,eb⟩:=hG.all x hx;obtain⟨z,hz,ez,_⟩:=m2 b (List.mem_append_left _ hb);exact⟨z,hz,ez.trans eb⟩
 obtain⟨z,hz,ez,_⟩:=m2 x (List.mem_append_right _ hx);exact⟨z,hz,ez⟩
end
section
variable {F W:Type} [DecidableEq W] (win:F->W)
def ext:Nat->List F->List F->List (List F)
 |0,_,_=>[]|_+1,[],_=>[]|k+1,f::r,sm=>(if sm.any (fun g=>decide (win f=win g)) then[] else(sm++[f])::ext k r (sm++[f]))++ext (k+1) r sm
def QiP (sm t:List F):Prop:=(t.Pairwise fun a b=>win a≠win b)/\∀f∈t,∀g∈sm,win f≠win g
theorem Ro (o s:List F):ext win 0 o s=[]:=by cases o<;>rfl
theorem QhF:∀{others:List F} {k:Nat} {sm X:List F},X∈ext win k others sm↔∃t,t≠[]/\t.Sublist others/\t.length<=k/\QiP win sm t/\X=sm++t
 |[],k,sm,X=>by
  have:ext win k [] sm=[]:=by cases k<;>rfl
  rw[this];constructor
  .intro h;cases h
  rintro⟨t,h0,h1,-⟩;exact absurd (List.sublist_nil.1 h1) h0
 |f::r,0,sm,X=>by
  rw[Ro];constructor
  .intro h;cases h
  rintro⟨t,h0,-,h2,-⟩;exact absurd (List.length_eq_zero_iff.1 (Nat.le_zero.1 h2)) h0
 |f::r,k+1,sm,X=>by
  rw[ext,List.mem_append,QhF (others:=r) (k:=k+1)];by_cases c:sm.any (fun g=>decide (win f=win g))=true
  .rw[iP c];obtain⟨g,hg,hw⟩:=List.any_eq_true.1 c;have hw:=oT hw;constructor
   .rintro(h|⟨t,h0,h1,h2⟩)
    .cases h
    exact⟨t,h0,h1.cons f,h2⟩
   rintro⟨t,h0,h1,h2,h3,h4⟩;refine .inr ⟨t,h0,?_,h2,h3,h4⟩;cases h1 with
   |cons _ h=>exact h|cons_cons _ h=>exact absurd hw (h3.2 f sM g hg)
  rw[iN c,List.mem_cons,QhF (others:=r) (k:=k)];have CP:∀g∈sm,win f≠win g:=fun g hg e=>c (List.any_eq_true.2 ⟨g,hg,dT e⟩);constructor
  .rintro((rfl|⟨t,h0,h1,h2,h3,rfl⟩)|⟨t,h0,h1,h2⟩)
   .refine⟨[f],sM,(List.nil_sublist r).cons_cons f,sM,⟨List.pairwise_singleton _ _,fun a ha g hg=>?_⟩,rfl⟩;rw[List.mem_singleton.1 ha];exact CP g hg
   .refine⟨f::t,sM,h1.cons_cons f,vz7,⟨List.pairwise_cons.2 ⟨fun a ha e=>h3.2 a ha f sM e.symm,h3.1⟩,fun a ha g hg=>?_⟩,sM⟩;rcases List.mem_cons.1 ha with rfl|ha
    .exact CP g hg
    exact h3.2 a ha g (List.mem_append_left _ hg)
   exact⟨t,h0,h1.cons f,h2⟩
  rintro⟨t,h0,h1,h2,h3,h4⟩;cases h1 with
  |cons _ h=>exact .inr ⟨t,h0,h,h2,h3,h4⟩|cons_cons _ h=>
   rename_i t;obtain⟨p1,p2⟩:=List.pairwise_cons.1 h3.1;refine .inl ?_;by_cases ht:t=[]
   .subst ht;exact .inl h4
   refine .inr ⟨t,ht,h,vz7,⟨p2,fun a ha g hg=>?_⟩,by rw[h4];simp⟩;rcases List.mem_append.1 hg with hg|hg
   .exact h3.2 a (mC _ ha) g hg
   rw[List.mem_singleton.1 hg];exact fun e=>p1 a ha e.symm
def QiG (k:Nat) (others:List F):List (List F):=[]::ext win k others []
theorem QjJ {k:Nat} {others X:List F}:X∈QiG win k others↔X.Sublist others/\X.length<=k/\X.Pairwise fun a b=>win a≠win b:=by
 unfold QiG;rw[List.mem_cons,QhF];constructor
 .rintro(rfl|⟨t,-,h1,h2,h3,h4⟩)
  .exact⟨List.nil_sublist _,zL _, .nil⟩
  have e:X=t:=h4;subst e;exact⟨h1,h2,h3.1⟩
 rintro⟨h1,h2,h3⟩;by_cases h:X=[]
 .exact .inl h
 exact .inr ⟨X,h,h1,h2,⟨h3,fun _ _ g hg=>by cases hg⟩,sM⟩
variable (mk:Nat->W->F)
end
section
variable {F P:Type}
def Kh (step:List F->P) (cost:P->Option Int) (used budget:Int) (S:List (List F)):List (Hy P):=
 S.filterMap fun X=>match cost (step X) with
  |none=>none|some c=>if used+X.length+c<=budget then some (used+X.length+c,step X) else none
theorem VU {step:List F->P} {cost:P->Option Int} {used budget:Int} {S:List (List F)} {h:Hy P}:
  h∈Kh step cost used budget S↔∃X∈S,∃c,cost (step X)=some c/\used+X.length+c<=budget/\h=(used+X.length+c,step X):=by
 unfold Kh;rw[List.mem_filterMap];constructor
 .rintro⟨X,hX,h1⟩;split at h1
  .cases h1
  rename_i c hc;split at h1
  .rename_i hl;exact⟨X,hX,c,hc,hl,(Option.some.inj h1).symm⟩
  cases h1
 rintro⟨X,hX,c,hc,hl,rfl⟩;refine⟨X,hX,?_⟩;rw[hc];simp only;rw[iP hl]
variable {W:Type} [DecidableEq W]
end
theorem QiA {α:Type} [DecidableEq α]:∀{l m:List α},l.Nodup->(∀a∈l,a∈m)->l.length<=m.length
 |[],_,_,_=>zL _|a::l,m,h,hs=>by obtain⟨h1,h2⟩:=List.nodup_cons.1 h;have ha:a∈m:=hs a sM;have:=QiA (l:=l) (m:=m.erase a) h2 fun b hb=>(List.mem_erase_of_ne (fun e=>h1 (by rw[<-e];exact hb))).2 (hs b (mC _ hb));rw[List.length_erase_of_mem ha] at this;have:=List.length_pos_of_mem ha;rw[List.length_cons];omega
section
variable {P:Type} [DecidableEq P] (key:P->List Int)
theorem Jv.plants {X l:List (Hy P)} (h:Jv X l):(l.map (·.2)).Nodup:=List.pairwise_map.2 h.one
def FW (lim:Nat) (G:List (Hy P)) (h:Hy P):List (Hy P):=if lim<G.length then G else gadd G h
def HV (lim:Nat) (X G:List (Hy P)):Prop:=(G.length<=lim+1)/\((G.length<=lim/\Jv X G)\/(lim<G.length/\(G.map (·.2)).Nodup/\∀a∈G,∃x∈X,x.2=a.2))
theorem P5 (G:List (Hy P)) (h:Hy P):(gadd G h).length<=G.length+1:=by
 induction G with
 |nil=>exact lR _|cons x t ih=>
  rw[gadd];split
  .simp
  simp only[List.length_cons];omega
theorem HV.nil (lim:Nat):HV lim ([]:List (Hy P)) []:=⟨zL _, .inl ⟨zL _, .nil⟩⟩
theorem HV.step {lim:Nat} {X G:List (Hy P)} {h:Hy P} (hG:HV lim X G):HV lim (X++[h]) (FW lim G h):=by
 obtain⟨h1,h2⟩:=hG;unfold FW;rcases h2 with ⟨h2,h3⟩|⟨h2,h3,h4⟩
 .rw[iN oM];have hg:=h3.gadd (h:=h);have hl:=P5 G h;refine⟨oM,?_⟩;by_cases c:(gadd G h).length<=lim
  .exact .inl ⟨c,hg⟩
  exact .inr ⟨oM,hg.plants,fun a ha=>⟨a,hg.mem a ha,rfl⟩⟩
 rw[iP h2];refine⟨h1, .inr ⟨h2,h3,fun a ha=>?_⟩⟩;obtain⟨x,hx,e⟩:=h4 a ha;exact⟨x,List.mem_append_left _ hx,e⟩
theorem HV.foldl {lim:Nat}:∀{Y X G:List (Hy P)},HV lim X G->HV lim (X++Y) (Y.foldl (FW lim) G)
 |[],X,G,h=>by rw[List.append_nil];exact h|y::Y,X,G,h=>by have:=HV.foldl (Y:=Y) (h.step (h:=y));rw[List.append_assoc] at this;exact this
end
def keyS (s b:List (List Int)):List Int:=s.flatten++b.flatMap fun x=>(x.length:Int)::x
theorem dj:∀{s s':List (List Int)} {r r':List Int},s.map List.length=s'.map List.length->s.flatten++r=s'.flatten++r'->s=s'/\r=r'
 |[],[],_,_,_,h=>⟨rfl,vy0⟩|[],_::_,_,_,h,_=>vz3|_::_,[],_,_,h,_=>vz3|x::s,y::s',r,r',hl,h=>by simp only[List.map_cons,List.cons.injEq] at hl;simp only[List.flatten_cons,List.append_assoc] at h;obtain⟨h1,h2⟩:=List.append_inj h hl.1;obtain⟨h3,h4⟩:=dj hl.2 h2;exact⟨by rw[h1,h3],h4⟩
theorem jx:∀{b b':List (List Int)},b.length=b'.length->(b.flatMap fun x=>(x.length:Int)::x)=(b'.flatMap fun x=>(x.length:Int)::x)->b=b'
 |[],[],_,_=>rfl|[],_::_,h,_=>vz3|_::_,[],h,_=>vz3|x::b,y::b',hl,h=>by simp only[List.flatMap_cons,List.cons_append,List.cons.injEq] at h;obtain⟨h0,h⟩:=h;obtain⟨h1,h2⟩:=List.append_inj h oM;rw[h1,jx xx2 h2]
theorem yr {s s' b b':List (List Int)} (h1:s.map List.length=s'.map List.length) (h2:b.length=b'.length) (h:keyS s b=keyS s' b'):s=s'/\b=b':=by unfold keyS at h;obtain⟨h3,h4⟩:=dj h1 h;exact⟨h3,jx h2 h4⟩
end Go.Inf
namespace Go.Proofs.YtfcgkbinohibcaaGreatDoor
open Go Go.Sym Go.Proofs.Tryz
def AZ (p:Pl):List Int:=Inf.keyS p.Q p.R
structure Jw (p:Pl):Prop where
 sl:p.Q.length<=1000
 bl:p.R.length<=1000
 sr:∀r∈p.Q,r.length<=1000
 br:∀r∈p.R,r.length<=1000
theorem WF:∀{l:List (List Int)},(∀r∈l,r.length<=1000)->l.flatten.length<=l.length*1000
 |[],_=>lR _|x::l,h=>by have h1:=h x sM;have h2:=WF (l:=l) fun r hr=>h r (mC _ hr);simp only[List.flatten_cons,aL,List.length_cons];omega
def GC (l:List (List Int)):List Int:=l.flatMap fun x=>(x.length:Int)::x
theorem jw:GC []=[]:=rfl
theorem Zo:∀{l:List (List Int)},(∀r∈l,r.length<=1000)->(GC l).length<=l.length*1001
 |[],_=>lR _|x::l,h=>by have h1:=h x sM;have h2:=Zo (l:=l) fun r hr=>h r (mC _ hr);have e:GC (x::l)=((x.length:Int)::x)++GC l:=rfl;rw[e];simp only[aL,List.length_cons];omega
theorem Vr {α:Type} {l:List α} {i:Nat} (h:i<l.length) (d:α):l.take (i+1)=l.take i++[l.getD i d]:=by rw[List.take_succ,gG h,gE,gG h];rfl
theorem qS {l:List (List Int)} {i:Nat} (h:i<l.length):(l.take (i+1)).flatten=(l.take i).flatten++l.getD i []:=by rw[Vr h []];simp
theorem Qeq {l:List (List Int)} {i:Nat} (h:i<l.length):GC (l.take (i+1))=GC (l.take i)++[((l.getD i []).length:Int)]++l.getD i []:=by rw[Vr h []];simp[GC]
theorem gX (a b:List Int):As a++As b=As (a++b):=xv6
theorem GQ {α:Type} {l:List α} {i:Nat} (h:i<l.length) (d:α):l.getD i d∈l:=by rw[gE,gG h];exact gM h
theorem YQ (p:Pl):AZ p=p.Q.flatten++GC p.R:=by unfold AZ Inf.keyS GC;rfl
def Zg (x:T3):Go.Scr.Plt:=⟨x.a,x.b,x.c⟩
def MW (pl:List T3) (b:Int):List UInt8:=if 1<=b/\b<=pl.length then(Zg (pl.getD (b - 1).toNat default)).fmt else[]
def MS (y:Ly) (p:Pl) (pl:List T3) (d:Nat):Dh:=⟨d,decide (Hh y p d≠0),if Hh y p d≠0/\Rj y d=2 then MW pl (Hh y p d) else[]⟩
theorem Qci (y:Ly) (p:Pl) (pl:List T3) (d:Nat) (h:K5 y p) (hd:d<y.D.length) (EK:pl.length<=1000) (hb:0<=Hh y p d/\Hh y p d<=pl.length):
  Ag prog Ad 63 [] [y.av,p.av, .sl (Ai pl) false,I d] [] (MS y p pl d).av:=by
 have gs:=QeS y p d h hd;have g1:=By hd;have hn:=h.n;unfold MS Rj;generalize Hh y p d=b at*;generalize y.D.getD d default=x at*;by_cases h0:b=0
 .subst h0;refine Am func63 ntmps63 ?_;intro w e X hC;refine xz8 ?_;refine xy2 gs ?_;refine uZ ?_;refine xk1 ?_;rw[show f63.results.toList=[.cell 8 65] from rfl];first|refine Bn ?_|exact Bm
  rw[iN (fun h=>h.1.elim)];rfl
 have d0:decide (b≠0)=true:=dT h0;have Aa:(b - 1).toNat<pl.length:=oM;have g2:=By Aa;have gf:=Sc.rpformat_sat (Zg (pl.getD (b - 1).toNat default));by_cases h2:x.a=2
 .have d2:decide (x.a=2)=true:=dT h2;rw[d0,iP ⟨h0,h2⟩,MW,iP oM];generalize pl.getD (b - 1).toNat default=z at*;refine Am func63 ntmps63 ?_;intro w e X hC;refine xz8 ?_;refine xy2 gs ?_;refine Bg @d0 ?_;refine uT ?_;refine Bg (uI @g1 @d2) ?_;refine uT ?_;refine Av @g2 ?_;refine xy2 gf ?_;refine xz4 ?_;rw[show f63.results.toList=[.cell 8 65] from rfl];exact Bm
 have d2:decide (x.a=2)=false:=dF h2;rw[d0,iN (fun h=>h2 h.2)];refine Am func63 ntmps63 ?_;intro w e X hC;refine xz8 ?_;refine xy2 gs ?_;refine Bg @d0 ?_;refine uT ?_;refine Bg (uI @g1 @d2) ?_;refine xk1 ?_;rw[show f63.results.toList=[.cell 8 65] from rfl];first|refine Bn ?_|exact Bm
 rfl
def LK (y:Ly) (p:Pl) (pl:List T3) (i:Nat):List Dh:=(List.range i).map (MS y p pl)
def E9 (y:Ly) (p:Pl) (pl:List T3):List Dh:=LK y p pl y.D.length
theorem Qas (y:Ly) (p:Pl) (pl:List T3) (i:Nat):LK y p pl (i+1)=LK y p pl i++[MS y p pl i]:=by simp[LK,List.range_succ]
theorem U2 (y:Ly) (p:Pl) (pl:List T3) (i:Nat):(LK y p pl i).length=i:=by simp[LK]
theorem Qar (y:Ly) (p:Pl) (pl:List T3) (h:K5 y p) (EK:pl.length<=1000) (hb:∀d,d<y.D.length->0<=Hh y p d/\Hh y p d<=pl.length):
  Ag prog Ad 20 [] [y.av,p.av, .sl (Ai pl) false, .sl [] false] [] (.tup [.sl (Eu (E9 y p pl)) false,I 0]):=by
 have hn:=h.n;have gr (d:Nat) (hd:d<y.D.length):=Qci y p pl d h hd EK (hb d hd);refine Am func20 ntmps20 ?_;intro w e X hC;refine uZ ?_;refine uF ?_;refine xy4 ?_;refine Aw (fun q:Nat×Nat=>⟨[(2, .sl (Ai pl) false),(3, .sl [] false),(4, .p 104 1 0 0 0),(5, .p 105 2 0 0 0),(10,I 0)],(105,some (2, .box [RS p.Q,RS p.R]))::(104,some (1, .box [.sl (AA y.U) false, .sl (Ai y.D) false]))::[],q.1⟩) (fun _=>True) (fun _=>0) (_,0) trivial (Af) ?_;rintro⟨ck,u⟩ -;refine uA ?_;refine xk0 ?_;refine xy4 ?_;refine Aw (fun q:Nat×Nat=>⟨[(2, .sl (Ai pl) false),(3, .sl [] false),(4, .p 104 1 0 0 0),(5, .p 105 2 0 0 0),(12,I 0)],(105,some (2, .box [RS p.Q,RS p.R]))::(104,some (1, .box [.sl (AA y.U) false, .sl (Ai y.D) false]))::[],q.1⟩) (fun _=>True) (fun _=>0) (_,0) trivial (Af) ?_;rintro⟨ck,v⟩ -;refine uA ?_;refine xk0 ?_;refine xy4 ?_;refine Aw (fun q:Nat×Nat×Nat=>⟨[(2, .sl (Ai pl) false),(3, .sl [] false),(4, .p 104 1 0 0 0),(5, .p 105 2 0 0 0),(14, .l 114 q.2.2 0 q.2.1),(15,I q.2.1)],(114,some (q.2.2, .own 65 3 (Eu (LK y p pl q.2.1))))::(105,some (2, .box [RS p.Q,RS p.R]))::(104,some (1, .box [.sl (AA y.U) false, .sl (Ai y.D) false]))::[],q.1⟩) (fun q=>q.2.1<=y.D.length) (fun q=>y.D.length - q.2.1) (_,0,_) (zL _) (Af) ?_;rintro⟨ck,i,g⟩ hi;simp only at hi;have AR:=U2 y p pl i;have X5:=Qas y p pl i;generalize Sj:LK y p pl i=o at*;refine xw9 (fun c=>?_) (fun c=>?_)
 .have Aa:i<y.D.length:=oM;have gri:=gr i Aa;generalize MS y p pl i=r at*;refine uR ?_;refine xy2 gri ?_;refine xy4 ?_;refine Aw (fun q:Nat×Nat×Nat=>⟨[(2, .sl (Ai pl) false),(3, .sl [] false),(4, .p 104 1 0 0 0),(5, .p 105 2 0 0 0),(14, .l 114 g 0 i),(15,I i),(16, .p 116 q.2.2 0 0 0),(17,I 0)],(116,some (q.2.2, .box [I r.dv,B r.sn,S (strOf r.rd)]))::(114,some (g, .own 65 3 (Eu o)))::(105,some (2, .box [RS p.Q,RS p.R]))::(104,some (1, .box [.sl (AA y.U) false, .sl (Ai y.D) false]))::[],q.1⟩) (fun _=>True) (fun _=>0) (_,0,_) trivial (Af) ?_;rintro⟨ck,v,g2⟩ -;refine uA ?_;refine xk0 ?_;refine Bg (uI @AR @Qet) ?_;rw[<-X5];refine⟨(_,i+1,g),uO,uO,Af⟩
 refine At ?_;have Bx:i=y.D.length:=oM;have ho:E9 y p pl=o:=by rw[<-Sj,Bx];rfl
 rw[ho];refine xz4 ?_;rw[show Tryz.f20.results.toList=[.tmp 8, .tmp 9] from rfl];exact MY @AR
structure Vw where
 dv:Int
 kd:Int
 bg:Int
 tx:List UInt8
 deriving DecidableEq,Inhabited
abbrev Vw.av (v:Vw):AV:= .agg [I v.dv,I v.kd,I v.bg,S (strOf v.tx)]
def E8 (y:Ly) (p:Pl) (pl:List T3) (d:Nat):Vw:=⟨d,Rj y d,Hh y p d,MW pl (Hh y p d)⟩
theorem y5 (y:Ly) (p:Pl) (pl:List T3) (d:Nat) (h:K5 y p) (hd:d<y.D.length) (EK:pl.length<=1000):
  Ag prog Ad 121 [] [y.av,p.av, .sl (Ai pl) false,I d] [] (E8 y p pl d).av:=by
 obtain⟨e1,e2,e3,e4⟩:=h.at_ d hd;have g1:=By hd;have g2:=BF e3;have g3:=Ao e4;have hn:=h.n;have hs:=h.sl;unfold E8 Hh Rj;generalize M9 y d=n at*;generalize Og y d=k at*;generalize y.D.getD d default=x at*;generalize p.Q.getD n []=r at*;generalize r.getD k 0=b at*;by_cases h1:1<=b
 .have d1:decide (1<=b)=true:=dT h1;by_cases h2:b<=pl.length
  .have d2:decide (b<=(pl.length:Int))=true:=dT h2;have Aa:(b - 1).toNat<pl.length:=oM;have g4:=By Aa;have gf:=Sc.pformat_sat (Zg (pl.getD (b - 1).toNat default));rw[MW,iP ⟨h1,h2⟩];generalize pl.getD (b - 1).toNat default=z at*;refine Am func121 ntmps121 ?_;intro w e X hC;refine Bg @g1 ?_;refine xq2 (uI @g1 (uI @e1 (uI @e2 (uI @g2 @g3)))) ?_;refine Bg (uI @d1 @d2) ?_;refine uT ?_;refine Av @g4 ?_;refine xy2 gf ?_;refine xz4 ?_;rw[show f121.results.toList=[.cell 8 167] from rfl];exact Bm
  have d2:decide (b<=(pl.length:Int))=false:=dF h2;rw[MW,iN (fun h=>h2 h.2)];refine Am func121 ntmps121 ?_;intro w e X hC;refine Bg @g1 ?_;refine xq2 (uI @g1 (uI @e1 (uI @e2 (uI @g2 @g3)))) ?_;refine Bg (uI @d1 @d2) ?_;refine xk1 ?_;rw[show f121.results.toList=[.cell 8 167] from rfl];first|refine Bn ?_|exact Bm
  rfl
 have d1:decide (1<=b)=false:=dF h1;rw[MW,iN (fun h=>h1 h.1)];refine Am func121 ntmps121 ?_;intro w e X hC;refine Bg @g1 ?_;refine xq2 (uI @g1 (uI @e1 (uI @e2 (uI @g2 @g3)))) ?_;refine Bg @d1 ?_;refine xk1 ?_;rw[show f121.results.toList=[.cell 8 167] from rfl];first|refine Bn ?_|exact Bm
 rfl
def Kb (v:Vw):Dh:=⟨v.dv,decide (v.bg≠0),if v.kd=2/\v.bg≠0 then v.tx else[]⟩
theorem kN (v:Vw):Ag prog Ad 122 [] [v.av] [] (Kb v).av:=by
 unfold Kb;obtain⟨dv,kd,b,tx⟩:=v;simp only;by_cases h2:kd=2
 .have d2:decide (kd=2)=true:=dT h2;by_cases h0:b=0
  .subst h0;rw[iN (fun h=>h.2 rfl)];refine Am func122 ntmps122 ?_;intro w e X hC;refine Bg @d2 ?_;refine xk1 ?_;rw[show f122.results.toList=[.cell 2 65] from rfl];first|refine Bn ?_|exact Bm
   rfl
  have d0:decide (b≠0)=true:=dT h0;rw[iP ⟨h2,h0⟩,d0];refine Am func122 ntmps122 ?_;intro w e X hC;refine Bg (uI @d2 @d0) ?_;refine xq0 ?_;rw[show f122.results.toList=[.cell 2 65] from rfl];exact Bm
 have d2:decide (kd=2)=false:=dF h2;rw[iN (fun h=>h2 h.1)];refine Am func122 ntmps122 ?_;intro w e X hC;refine Bg @d2 ?_;refine xk1 ?_;rw[show f122.results.toList=[.cell 2 65] from rfl];first|refine Bn ?_|exact Bm
 rfl
def HN (k:Int):Int:=if k=5\/k=6 then 9 else 0
theorem Y3 (k:Int):Ag prog Ad 171 [] [I k] [] (I (HN k)):=by
 unfold HN;by_cases c5:k=5
 .have d5:decide (k=5)=true:=dT c5;rw[iP (.inl c5)];refine Am func171 ntmps171 ?_;intro w e X hC;refine Bg @d5 ?_;exact xz7
 have d5:decide (k=5)=false:=dF c5;by_cases c6:k=6
 .have d6:decide (k=6)=true:=dT c6;rw[iP (.inr c6)];refine Am func171 ntmps171 ?_;intro w e X hC;refine Bg (uI @d5 @d6) ?_;exact xz7
 have d6:decide (k=6)=false:=dF c6;rw[iN (fun h=>h.elim c5 c6)];refine Am func171 ntmps171 ?_;intro w e X hC;refine Bg (uI @d5 @d6) ?_;refine xy9 ?_;exact uP
def QD (v:Vw) (k:Int):Bool:=if k=3 then decide (v.bg≠0) else if k=4 then decide (v.kd=1)&&decide (v.bg=0) else decide (v.kd=2)&&decide (v.bg≠0)&&decide (v.tx≠[])
theorem iz (v:Vw) (k:Int):Ag prog Ad 172 [] [v.av,I k] [] (B (QD v k)):=by
 unfold QD;obtain⟨dv,kd,b,tx⟩:=v;simp only;by_cases c3:k=3
 .have d3:decide (k=3)=true:=dT c3;rw[iP c3];refine Am func172 ntmps172 ?_;intro w e X hC;refine Bg @d3 ?_;exact xz7
 have d3:decide (k=3)=false:=dF c3;rw[iN c3];by_cases c4:k=4
 .have d4:decide (k=4)=true:=dT c4;rw[iP c4];cases d1:decide (kd=1) with
  |false=>refine Am func172 ntmps172 ?_;intro w e X hC;refine Bg (uI @d3 @d4) ?_;refine xq8 @d4 ?_;refine uT ?_;refine Bg @d1 ?_;exact uP|true=>refine Am func172 ntmps172 ?_;intro w e X hC;refine Bg (uI @d3 @d4) ?_;refine xq8 @d4 ?_;refine uT ?_;refine Bg @d1 ?_;exact uP
 have d4:decide (k=4)=false:=dF c4;rw[iN c4];cases d2:decide (kd=2) with
 |false=>refine Am func172 ntmps172 ?_;intro w e X hC;refine Bg (uI @d3 @d4) ?_;refine xq8 @d4 ?_;refine xq8 @d2 ?_;exact uP|true=>
  cases d0:decide (b≠0) with
  |false=>refine Am func172 ntmps172 ?_;intro w e X hC;refine Bg (uI @d3 @d4) ?_;refine xq8 @d4 ?_;refine xq8 (uI @d2 @d0) ?_;exact uP|true=>refine Am func172 ntmps172 ?_;intro w e X hC;refine Bg (uI @d3 @d4) ?_;refine xq8 @d4 ?_;refine xq8 (uI @d2 @d0) ?_;exact uP
def VE (c:UInt8):Int:=IntKind.u8.wrap (48+(IntKind.u8.wrap (IntKind.u8.wrap (c.toNat - 48)+1)).tmod 10)
theorem kU (c:UInt8):0<=VE c/\VE c<256:=by unfold VE;generalize 48+_=z;simp only[IntKind.wrap,IntKind.signed,IntKind.bits];constructor<;>(simp;try omega)
def kT (c:UInt8):UInt8:=UInt8.ofNat (VE c).toNat
theorem bu (l:List UInt8):bytesOf (l.map Dr)=some l:=Wh l
theorem o8 {l:List UInt8} {i:Nat}:(l.map Dr).set i (.lit (.int .u8 63))=(l.set i 63).map Dr:=bt (n:=63) oM oM
theorem o9 {l:List UInt8} {i:Nat} {c:UInt8}:(l.map Dr).set i (.lit (.int .u8 (IntKind.u8.wrap (48+(IntKind.u8.wrap (IntKind.u8.wrap (c.toNat - 48)+1)).tmod 10))))=(l.set i (kT c)).map Dr:=bt (kU c).1 (kU c).2
def VA (v:Vw) (k:Int) (w:Nat):Dh:=
 if k=3 then⟨v.dv,false,[]⟩
 else if k=4 then⟨v.dv,true,(Kb v).rd⟩
 else⟨v.dv,(Kb v).sn,v.tx.set w (if k=5 then 63 else kT (v.tx.getD w 0))⟩
theorem QgZ (v:Vw) (k:Int) (m:Nat) (hw:k≠3->k≠4->m<v.tx.length) (ht:v.tx.length<=1000):Ag prog Ad 173 [] [v.av,I k,I m] [] (VA v k m).av:=by
 have gr:=kN v;unfold VA;have er:Kb v=⟨v.dv,(Kb v).sn,(Kb v).rd⟩:=rfl;generalize Kb v=r at*;obtain⟨rdv,rsn,rrd⟩:=r;obtain⟨dv,kd,b,tx⟩:=v;simp only at*;by_cases c3:k=3
 .have d3:decide (k=3)=true:=dT c3;rw[iP c3];refine Am func173 ntmps173 ?_;intro w e X hC;refine xz8 ?_;refine xy2 gr ?_;refine Bg @d3 ?_;refine xq0 ?_;rw[show f173.results.toList=[.cell 6 65] from rfl];first|refine Bn ?_|exact Bm
  rfl
 have d3:decide (k=3)=false:=dF c3;rw[iN c3];by_cases c4:k=4
 .have d4:decide (k=4)=true:=dT c4;rw[iP c4];refine Am func173 ntmps173 ?_;intro w e X hC;refine xz8 ?_;refine xy2 gr ?_;refine Bg @d3 ?_;refine xq8 @d4 ?_;refine xq0 ?_;rw[show f173.results.toList=[.cell 6 65] from rfl];first|refine Bn ?_|exact Bm
  have e:rdv=dv:=by cases er;rfl
  subst e;rfl
 have d4:decide (k=4)=false:=dF c4;rw[iN c4];have Aa:=hw c3 c4;by_cases c5:k=5
 .have d5:decide (k=5)=true:=dT c5;rw[iP c5];refine Am func173 ntmps173 ?_;intro w e X hC;refine xz8 ?_;refine xy2 gr ?_;refine Bg @d3 ?_;refine xq8 @d4 ?_;refine xq8 @d5 ?_;refine uT ?_;refine Bg (uI @o8 @bu) ?_;refine Ay ?_;rw[show f173.results.toList=[.cell 6 65] from rfl];first|refine Bn ?_|exact Bm
  have e:rdv=dv:=by cases er;rfl
  subst e;rfl
 have d5:decide (k=5)=false:=dF c5;rw[iN c5];refine Am func173 ntmps173 ?_;intro w e X hC;refine xz8 ?_;refine xy2 gr ?_;refine Bg @d3 ?_;refine xq8 @d4 ?_;refine xq8 @d5 ?_;refine uF ?_;have g1:(tx.map Dr).getD m .bad= .lit (.int .u8 ((tx.getD m 0).toNat:Nat)):=by simp[Dr,Aa]
 generalize tx.getD m 0=c at*;refine Bg (uI @g1 (uI @o9 @bu)) ?_;refine Ay ?_;rw[show f173.results.toList=[.cell 6 65] from rfl];first|refine Bn ?_|exact Bm
 have e:rdv=dv:=by cases er;rfl
 subst e;rfl
end Go.Proofs.YtfcgkbinohibcaaGreatDoor
namespace Go.Sym
open Go Go.Great
def VH (P:Program) (fb:FuncId):Prop:=
 Enters P fb/\∀(l bx off:Nat) (xs:List Int) (J:Nat->World->Prop) (W0:World),xs.length<=9223372036854775807->J 0 W0->
  (∀i W,J i W->∃U,VD W U (.P [IS xs]) (.pointer (some ⟨bx,off,none⟩)))->
  (∀i W,i<xs.length->J i W->YieldAt Fence.wide 0 P l #[.int .i64 ((xs.length:Int) - 1 - i), .int .i64 (xs.getD (xs.length - 1 - i) 0)] W (fun en W'=>en= .returned (.bool true)/\J (i+1) W'))->
  CallsIn Fence.wide 0 P fb #[.func (.yield l) #[] #[], .pointer (some ⟨bx,off,none⟩)] W0 (fun en W'=>(∃v,en= .returned v)/\J xs.length W')
def Q6 (C:Cx) (x y:Code) (Q:Exit->St->Prop) (s:St):Prop:=
 ∀a w,BS C s a w->x.wpIn (Gp C.rd) 0 C.P (Exit.then (y.wpIn (Gp C.rd) 0 C.P (fun ex a' w'=>(∃s',BS C s' a' w'/\Q ex s')\/(ex= .ret/\C.esc a' w'))) (fun ex a' w'=>(∃s',BS C s' a' w'/\Q ex s')\/(ex= .ret/\C.esc a' w'))) a w
theorem aY {C:Cx} {x y z:Code} {Q:Exit->St->Prop} {s:St} (h:BD C x (N4 (Q6 C y z Q) Q) s):BD C (.seq (.seq x y) z) Q s:=by
 intro a w hr;refine wpIn_seq (wpIn_seq (wpIn_mono (h a w hr) ?_));rintro e a' w' (⟨s',h1,h2⟩|⟨rfl,h⟩)
 .cases e<;>first|exact h2 a' w' h1|exact .inl ⟨s',h1,h2⟩
 exact .inr ⟨rfl,h⟩
def PI (hp':Hp):Exit->St->Prop
 | .normal,s=>∃(σ:Nm) (D:List Nat),CR σ/\(∀q∈σ,q.2.1=0/\q.2.2.1=q.1/\q.2.2.2=0)/\A9 true σ s.hp σ/\(∀d∈AT true σ s.hp σ,d∈D)/\(∀d∈D,lk σ d=none)/\A7 true σ s.hp=hp'|_,_=>False
section
variable {C:Cx} {T:AE}
theorem AU.zwr {w w':World} {e:An} {G:Nat->Prop} {hp:Hp} (h:AU w e G hp) (hs:w'.heap.size=w.heap.size) (hh:∀b,¬e.z b->w'.heap[b]?=w.heap[b]?):AU w' e G hp/\AB w e G w' e G:=by
 have ext:AB w e G w' e G:=⟨oM,fun _ h=>h,fun _ _ h=>h,fun b _ hu=>hh b hu.1,fun _ Au h _=>⟨Au,h,rfl,rfl, .inl ⟨rfl,rfl⟩⟩⟩;refine⟨?_,ext⟩;exact h.step (fun _=>False) ext rfl (fun _ _=>⟨rfl,rfl⟩) (fun id ee b c _ he hb=>⟨hh b (h.nz _ _ _ _ he hb),fun b' c' hk=>⟨hh b' (h.kl _ _ _ hk).2.2,hk⟩⟩)
  (fun _ h=>h.elim) (fun _ _ _ h=>h.elim) (fun _ _ _ _ h=>h.elim) (fun b B c hk=>by rw[hs];exact h.kl b B c hk) h.ko h.kk
def Kq (e:An) (z':Nat->Prop):An:=⟨e.m,z',e.kid⟩
theorem AU.zmore {w w':World} {e:An} {G:Nat->Prop} {hp:Hp} (h:AU w e G hp) {z':Nat->Prop} (hz:∀b,e.z b->z' b) (NN:∀b,b<w.heap.size->z' b->e.z b) (hs:w.heap.size<=w'.heap.size)
  (hh:∀b,b<w.heap.size->w'.heap[b]?=w.heap[b]?):AU w' (Kq e z') G hp/\AB w e G w' (Kq e z') G:=by
 have ext:AB w e G w' (Kq e z') G:=⟨hs,fun _ h=>h,fun b hb hu=>⟨fun h=>hu.1 (NN b hb h),hu.2⟩,fun b hb _=>hh b hb,fun _ Au h _=>⟨Au,h,rfl,rfl, .inl ⟨rfl,rfl⟩⟩⟩;refine⟨⟨h.dead,fun id g ob hi=>?_,h.inj,fun id ee b c he hb=>tL (h.lt _ _ _ _ he hb) hs,fun id ee b c he hb D2=>h.nz _ _ _ _ he hb (NN b (h.lt _ _ _ _ he hb) D2),fun b B c hk=>?_,h.ko,h.kk⟩,ext⟩
 .obtain⟨ee,h1,h2,h3,h4⟩:=h.live id g ob hi;exact⟨ee,h1,h2,h3,h4.ext ext fun b c hb=>⟨hh b (h.lt _ _ _ _ h1 hb),fun b' c' hk=>⟨hh b' (h.kl _ _ _ hk).1,hk⟩⟩⟩
 obtain⟨h1,h2,h3⟩:=h.kl b B c hk;exact⟨tL h1 hs,tL h2 hs,fun D2=>h3 (NN b h1 D2)⟩
theorem AU.zless {w w':World} {e:An} {G:Nat->Prop} {hp:Hp} (h:AU w e G hp) {z':Nat->Prop} (hz:∀b,z' b->e.z b) (hs:w'.heap.size=w.heap.size)
  (hh:∀b,¬e.z b->w'.heap[b]?=w.heap[b]?):AU w' (Kq e z') G hp/\AB w e G w' (Kq e z') G:=by
 have ext:AB w e G w' (Kq e z') G:=⟨oM,fun _ h=>h,fun b _ hu=>⟨fun h=>hu.1 (hz b h),hu.2⟩,fun b _ hu=>hh b hu.1,fun _ Au h _=>⟨Au,h,rfl,rfl, .inl ⟨rfl,rfl⟩⟩⟩;refine⟨⟨h.dead,fun id g ob hi=>?_,h.inj,fun id ee b c he hb=>by rw[hs];exact h.lt _ _ _ _ he hb,fun id ee b c he hb D2=>h.nz _ _ _ _ he hb (hz b D2),fun b B c hk=>?_,h.ko,h.kk⟩,ext⟩
 .obtain⟨ee,h1,h2,h3,h4⟩:=h.live id g ob hi;exact⟨ee,h1,h2,h3,h4.ext ext fun b c hb=>⟨hh b (h.nz _ _ _ _ h1 hb),fun b' c' hk=>⟨hh b' (h.kl _ _ _ hk).2.2,hk⟩⟩⟩
 obtain⟨h1,h2,h3⟩:=h.kl b B c hk;exact⟨oM,oM,fun D2=>h3 (hz b D2)⟩
structure Rd (w1:World) (e0:An) (L:Loop) (l:Nat) (hp:Hp) (W:World) (e':An):Prop where
 hr:AU W e' (Az 1) hp
 ext:AB w1 e0 (Az 1) W e' (Az 1)
 z:e'.z=e0.z
 own:∀b,AQ e' b->w1.heap.size<=b\/AQ e0 b
 os:W.os=w1.os
 tape:W.tape=w1.tape
 output:W.output=w1.output
 same:∀b,b<w1.heap.size->b≠l->¬AQ e0 b->W.heap[b]?=w1.heap[b]?
 rec_:W.heap[l]?=some (.loop L)
 drawn:w1.drawn<=W.drawn
theorem Rd.zwr {w1 W W':World} {e0 e':An} {L L':Loop} {l:Nat} {hp:Hp} (h:Rd w1 e0 L l hp W e') (hz:e0.z l) (hs:W'.heap.size=W.heap.size) (hh:∀b,b≠l->W'.heap[b]?=W.heap[b]?) (hl:W'.heap[l]?=some (.loop L'))
  (h1:W'.os=W.os) (h2:W'.tape=W.tape) (h3:W'.output=W.output) (hd:W.drawn<=W'.drawn:=by exact lR _):Rd w1 e0 L' l hp W' e':=by
 have JP:e'.z l:=by rw[h.z];exact hz
 obtain⟨k1,k2⟩:=h.hr.zwr hs (fun b hb=>hh b (by rintro rfl;exact hb JP));exact⟨k1,h.ext.trans k2,h.z,h.own,h1.trans h.os,h2.trans h.tape,h3.trans h.output,fun b hb Al ho=>(hh b Al).trans (h.same b hb Al ho),hl,Nat.le_trans h.drawn hd⟩
theorem Fa {w:World} {r k:Nat} {o:Obj} (h:k≠r):(w.putObj r o).heap[k]?=w.heap[k]?:=World.putObj_heap_other h
theorem DV {w:World} {r:Nat} {o:Obj}:(w.putObj r o).heap.size=w.heap.size:=by simp[World.putObj]
theorem Qb3 (hC:B4 C.P T) {N:Nat} {w1 W:World} {e0 e':An} {L:Loop} {l:Nat} {hp hp2:Hp}
  (KF:Gg T w1 (UE e0)) (h:Rd w1 e0 L l hp W e') (hz:e0.z l) (G8:∀b,e0.z b->b<w1.heap.size)
  {s:St} (NH:s.hp=hp) (Ig:s.ck=1) {a:Act} (ha:a.defers=[]) (has:a.tmps.size=N) (OY:∀t,VR W (UE e') e' (Az 1) (AC s.tm t) (a.tmps.getD t undef)) {body:Code}
  (hb:∀(w:World) (e:An) (rd:Option Nat) (X:Act->World->Prop),Cn ⟨C.P,N,w,e,rd,[],X⟩ T->BD ⟨C.P,N,w,e,rd,[],X⟩ body (PI hp2) s):
  body.wpIn (Gp (some l)) 0 C.P (fun ex _ W'=>ex= .normal/\∃e'',Rd w1 e0 L l hp2 W' e'') a W:=by
 have WW:Cn ⟨C.P,N,W,e',some l,[],fun _ _=>False⟩ T:=⟨hC,KF.mono h.ext.size (fun b hb hu=>h.ext.un b hb hu) (fun b hb hu=>h.ext.same b hb hu)⟩;have hrel:BS ⟨C.P,N,W,e',some l,[],fun _ _=>False⟩ s a W:=by
  refine⟨ha,has,⟨rfl,rfl,rfl,lR _,fun _ _ _=>rfl,lR _⟩,e',by rw[NH,Ig];exact h.hr,⟨rfl,fun b hb=>?_,?_,fun _ h=> .inr h⟩,by rw[Ig];exact OY⟩
  .have CO:e'.z b:=hb;rw[h.z] at CO;exact tL (G8 b CO) h.ext.size
  rw[Ig];exact AB.refl _ _ _
 refine wpIn_mono (hb W e' (some l) _ WW a W hrel) ?_;intro ex a' W' Sp;obtain⟨s',hr,hq⟩:=Sp.resolve_right fun h=>h.2;cases ex<;>first|exact hq.elim|skip
 refine⟨rfl,?_⟩;obtain⟨σ,D,q1,q2,q3,q4,q5,q6⟩:=hq;obtain⟨e1,BJ,AK,hv⟩:=hr.body;have rk:Ff true e1 s'.hp (Az 1) σ D e1.z:=⟨q1,q3,q4,q5,fun q hq=>by rw[(q2 q hq).1];exact Nat.zero_lt_one,fun _ h=>h,fun _ h=> .inl h⟩;have BE:=rk.rel BJ;have fz:=rk.frz BJ;have L0:∀b,AQ (eN σ e1 e1.z) b->AQ e1 b:=fun b ho=>by obtain⟨q,_,h⟩:=Km ho;exact h.own
 rw[q6] at BE;have FP:e1.z=e'.z:=AK.zeq;have ext1:AB W e' (Az 1) W' (eN σ e1 e1.z) (Az 1):=by refine⟨AK.ext.size,fun _ h=>h,fun b hb hu=>fz.un b (AK.ext.un b hb hu),AK.ext.same,fun id Au AP hg=>?_⟩;obtain⟨gi,a,ga,ee,hm,h6,rfl⟩:=Gm AP;obtain⟨h7,h8,h9⟩:=q2 _ hm;simp only at h7 h8 h9;subst h7 h8 h9;obtain⟨ob,C8,_⟩:=Hg q3 hm;obtain⟨ee2,C9,F1,_⟩:=BJ.live _ _ _ C8;rw[h6] at C9;cases C9;obtain⟨ee0,k1,k2,k3,k4⟩:=AK.ext.ent a ee h6 vk8;exact⟨ee0,k1,k2.trans F1,k3,k4⟩
 refine⟨eN σ e1 e1.z,BE,h.ext.trans ext1,FP.trans h.z,fun b ho=>?_,hr.frm.os.trans h.os,hr.frm.tape.trans h.tape,hr.frm.output.trans h.output,fun b hb Al ho=>?_,?_,Nat.le_trans h.drawn hr.frm.drawn⟩
 .rcases AK.mine b (L0 b ho) with h4|h4
  .exact .inl (Nat.le_trans h.ext.size h4)
  exact h.own b h4
 .refine(hr.frm.same b (tL hb h.ext.size) fun HF=>?_).trans (h.same b hb Al ho);rcases h.own b HF with h4|h4
  .omega
  exact ho h4
 have Aa:l<W.heap.size:=tL (G8 l hz) h.ext.size;exact(hr.frm.same l Aa fun ho=>h.hr.own_nz ho (by rw[h.z];exact hz)).trans h.rec_
def PH (T:AE) (rs:List ResultVar) (hp':Hp) (r:AV):Exit->St->Prop
 | .ret,s=>∃σ D,IT T rs σ D hp' r s|_,_=>False
def A6 (w:World) (L:Loop):World:=(w.alloc (.deferred (some []))).alloc (.loop L)
theorem Ii (w:World) (L:Loop):(A6 w L).heap.size=w.heap.size+2:=by unfold A6;rw[Hi,Hi]
theorem YS (w:World) (L:Loop) {b:Nat} (h:b<w.heap.size):(A6 w L).heap[b]?=w.heap[b]?:=by have g:=(CX.alloc (w.alloc (.deferred (some []))) (.loop L)).same b vw8;exact g.trans ((CX.alloc w (.deferred (some []))).same b h)
theorem yK (w:World) (L:Loop):(A6 w L).heap[w.heap.size]?=some (.deferred (some [])):=by have g:=(CX.alloc (w.alloc (.deferred (some []))) (.loop L)).same w.heap.size vw8;exact g.trans (Hz w _)
theorem io (w:World) (L:Loop):(A6 w L).heap[w.heap.size+1]?=some (.loop L):=by have:=Hz (w.alloc (.deferred (some []))) (.loop L);rw[Hi] at this;exact this
theorem Wy (hT:B4 C.P T) {fn:Func} {hp':Hp} {r:AV} {w:World} {e:An} {G:Nat->Prop} (AK:Ew C w e G) (B8:HU C w) (DS:∀b,AQ e b->b<w.heap.size/\¬e.z b) {L L':Loop} {X:Act->World->Prop}
  {s':St} {a':Act} {w':World}
  (hr:BS ⟨C.P,C.N,(A6 w L).putObj (w.heap.size+1) (.loop L'),Kq e (fun b=>e.z b\/b=w.heap.size\/b=w.heap.size+1),none,[J3 w.heap.size],X⟩ s' a' w')
  (hq:∃σ D,IT T fn.results.toList σ D hp' r s'):Kg C.P fn C.w0 C.e0 hp' r a' w':=by
 obtain⟨e1,BJ,BH,Jg⟩:=hr.body;have sz1:((A6 w L).putObj (w.heap.size+1) (.loop L')).heap.size=w.heap.size+2:=by rw[DV,Ii]
 have nown:∀b,b=w.heap.size\/b=w.heap.size+1->¬AQ e b:=fun b hb ho=>by have:=(DS b ho).1;omega
 have z1:e1.z=fun b=>e.z b\/b=w.heap.size\/b=w.heap.size+1:=BH.zeq;have wD:w'.heap[w.heap.size]?=some (.deferred (some [])):=by have:=hr.frm.same w.heap.size (by show _<((A6 w L).putObj (w.heap.size+1) (.loop L')).heap.size;omega) (nown _ (.inl rfl));rw[this];exact(Fa oM).trans (yK w L)
 have szw:w.heap.size+2<=w'.heap.size:=by have:=hr.frm.size;rw[<-sz1];exact this
 refine⟨w.heap.size,hr.defers,wD,?_⟩;obtain⟨k1,k2⟩:=BJ.zless (w':=w'.putObj w.heap.size (.deferred none)) (z':=e.z) (fun b hb=>by rw[z1];exact .inl hb) DV (fun b hb=>Fa (by rintro rfl;exact hb (by rw[z1];exact .inr (.inl rfl))));have eqb:∀b,b<w.heap.size+2->¬AQ e b->(w'.putObj w.heap.size (.deferred none)).heap[b]?=(((A6 w L).putObj (w.heap.size+1) (.loop L')).putObj w.heap.size (.deferred none)).heap[b]?:=by
  intro b hb ho;by_cases Xk:b=w.heap.size
  .subst Xk;rw[World.putObj_heap_same oM,World.putObj_heap_same oM]
  rw[Fa Xk,Fa Xk];exact hr.frm.same b (by show b<((A6 w L).putObj (w.heap.size+1) (.loop L')).heap.size;omega) ho
 have sz2:(((A6 w L).putObj (w.heap.size+1) (.loop L')).putObj w.heap.size (.deferred none)).heap.size=w.heap.size+2:=by rw[DV,sz1]
 have hrel:BS ⟨C.P,C.N,((A6 w L).putObj (w.heap.size+1) (.loop L')).putObj w.heap.size (.deferred none),e,none,[J3 w.heap.size],X⟩ s' a' (w'.putObj w.heap.size (.deferred none)):=by
  refine⟨hr.defers,hr.size,⟨hr.frm.os,hr.frm.tape,hr.frm.output,?_,fun b hb ho=>?_,hr.frm.drawn⟩,Kq e1 e.z,k1,⟨rfl,fun b hb=>?_,?_,fun b hb=>?_⟩,fun t=>(Jg t).ext k2⟩
  .show(((A6 w L).putObj (w.heap.size+1) (.loop L')).putObj w.heap.size (.deferred none)).heap.size<=_;rw[sz2,DV];exact szw
  .exact eqb b vx4 ho
  .show b<(((A6 w L).putObj (w.heap.size+1) (.loop L')).putObj w.heap.size (.deferred none)).heap.size;have:=BH.zlt b (.inl hb);have h:b<((A6 w L).putObj (w.heap.size+1) (.loop L')).heap.size:=this;omega
  .refine⟨?_,fun g h=>?_,fun b hb hu=>?_,fun b hb hu=>?_,fun id Au AP hg=>?_⟩
   .show(((A6 w L).putObj (w.heap.size+1) (.loop L')).putObj w.heap.size (.deferred none)).heap.size<=_;rw[sz2,DV];exact szw
   .exact BH.ext.gs g h
   .have CO:b<w.heap.size+2:=vx4;by_cases h:b=w.heap.size\/b=w.heap.size+1
    .exact⟨hu.1,fun ho=>BJ.own_nz ho (by rw[z1];exact .inr h)⟩
    have O1:UE (Kq e (fun b=>e.z b\/b=w.heap.size\/b=w.heap.size+1)) b:=⟨fun hz=>hz.elim hu.1 h,hu.2⟩;have:=BH.ext.un b (by show b<((A6 w L).putObj (w.heap.size+1) (.loop L')).heap.size;omega) O1;exact⟨hu.1,this.2⟩
   .exact eqb b vx4 hu.2
   exact BH.ext.ent id Au AP hg
  rcases BH.mine b hb with h|h
  .refine .inl ?_;show(((A6 w L).putObj (w.heap.size+1) (.loop L')).putObj w.heap.size (.deferred none)).heap.size<=b;have h':((A6 w L).putObj (w.heap.size+1) (.loop L')).heap.size<=b:=h;omega
  exact .inr h
 obtain⟨v,AL,e',q1,q2,q3,q4,q5,q6⟩:=Z9 (C:=⟨C.P,C.N,((A6 w L).putObj (w.heap.size+1) (.loop L')).putObj w.heap.size (.deferred none),e,none,[J3 w.heap.size],X⟩) rfl hT rfl rfl hrel hq;have old:∀b,b<w.heap.size->(((A6 w L).putObj (w.heap.size+1) (.loop L')).putObj w.heap.size (.deferred none)).heap[b]?=w.heap[b]?:=fun b hb=>by rw[Fa oM,Fa oM];exact YS w L hb
 have Be:=B8.size;refine⟨v,AL,e',q1,q2,?_,q4.trans AK.zeq,fun b hb=>?_,⟨q6.os.trans B8.os,q6.tape.trans B8.tape,q6.output.trans B8.output,by have h:(((A6 w L).putObj (w.heap.size+1) (.loop L')).putObj w.heap.size (.deferred none)).heap.size<=_:=q6.size;omega,fun b hb ho=>?_,Nat.le_trans B8.drawn q6.drawn⟩⟩
 .refine AB.trans (w':=((A6 w L).putObj (w.heap.size+1) (.loop L')).putObj w.heap.size (.deferred none)) (e':=e) (G':=Az 1) ⟨oM,fun _ h=>h,AK.ext.un,fun b hb hu=>?_,AK.ext.ent⟩ q3;exact(old b oM).trans (AK.ext.same b hb hu)
 .rcases q5 b hb with h|h
  .have h':(((A6 w L).putObj (w.heap.size+1) (.loop L')).putObj w.heap.size (.deferred none)).heap.size<=b:=h;exact .inl oM
  exact AK.mine b h
 have HF:¬AQ e b:=fun h=>by
  rcases AK.mine b h with h1|h1
  .omega
  exact ho h1
 exact(q6.same b (by show b<(((A6 w L).putObj (w.heap.size+1) (.loop L')).putObj w.heap.size (.deferred none)).heap.size;omega) HF).trans ((old b oM).trans (B8.same b hb ho))
theorem cU:Gp none=Fence.wide:=rfl
theorem nT (hC:Cn C T) (DU:C.rd=none) (KC:C.df=[]) {fb:FuncId} (FE:VH C.P fb) {id p1 p2 d:Nat} {g:Operand} {assign body c:Code} {s:St} {xs:List Int} {Q:Exit->St->Prop}
  (C4:xs.length<=9223372036854775807) (hg:s.ev g= .fn fb [.P [IS xs]]) (hp1:p1<C.N) (hp2:p2<C.N) (ug:d<C.N) (wu:p1≠p2) (QhQ:d≠p1) (QhR:d≠p2)
  (Xi:∀(l:Nat) (tm:Array Value) (w:World) (K:Act->World->Prop),K {tmps:=tm.setIfInBounds d (tm.getD p2 undef),defers:=[]} w->assign.wpIn (Gp (some l)) 0 C.P (Exit.then K fun _ _ _=>False) {tmps:=tm,defers:=[]} w)
  (τ:Nm) (hτ:CR τ) (hτ0:∀q∈τ,q.2.1=0/\q.1=q.2.2.1) (hpP:A9 false τ s.hp τ) (hpR:∀d∈AT false τ s.hp τ,False) (DT:Nat->Hp) (h0:A7 false τ s.hp=DT 0)
  (tmB:List (Nat×AV)) (OZ:∀t,AC tmB t= .bad\/(t≠p1/\t≠p2/\t≠d/\AC tmB t=Bw false τ s.hp (AC s.tm t)/\B7 false τ s.hp (AC s.tm t)/\∀d∈Bl false τ s.hp (AC s.tm t),False))
  (Mw:∀i,i<xs.length->∀(w:World) (e:An) (rd:Option Nat) (X:Act->World->Prop),Cn ⟨C.P,C.N,w,e,rd,[],X⟩ T->
   BD ⟨C.P,C.N,w,e,rd,[],X⟩ body (PI (DT (i+1))) ⟨(d,I (xs.getD (xs.length - 1 - i) 0))::(p1,I ((xs.length:Int) - 1 - i))::(p2,I (xs.getD (xs.length - 1 - i) 0))::tmB,DT i,1⟩)
  {JV:Hp} (BP:A9 false (τ.map fun q=>(q.1,q.2.2.2,q.1,0)) (DT xs.length) (τ.map fun q=>(q.1,q.2.2.2,q.1,0))) (BX:∀d∈AT false (τ.map fun q=>(q.1,q.2.2.2,q.1,0)) (DT xs.length) (τ.map fun q=>(q.1,q.2.2.2,q.1,0)),False)
  (EI:A7 false (τ.map fun q=>(q.1,q.2.2.2,q.1,0)) (DT xs.length)=JV)
  (fn:Func) (hp':Hp) (r:AV) (Nx:∀a' w',Kg C.P fn C.w0 C.e0 hp' r a' w'->C.esc a' w')
  (hc:∀(w:World) (e:An) (df:List Deferred) (X:Act->World->Prop),Cn ⟨C.P,C.N,w,e,none,df,X⟩ T->BD ⟨C.P,C.N,w,e,none,df,X⟩ c (PH T fn.results.toList hp' r) ⟨s.tm,JV,s.ck⟩):
  Q6 C (.block id (.rangeFunc g #[p1,p2] assign body)) c Q s:=by
 intro a w hr;rw[DU,cU];obtain⟨e,h1,AK,hv⟩:=hr.body;have RK:a.defers=[]:=hr.defers.trans KC;have has:a.tmps.size=C.N:=hr.size;have H7:=Me (s:=s) hv g;rw[hg] at H7;obtain⟨vs,heq,EL,FO⟩:=Rq H7;have Yw:vs.size=1:=by simpa using EL.symm
 obtain⟨bx,off,f,LB,RN,H3,T8,Xj,tV⟩:=(FO 0 sM).ptI_inv.ptI_inv;have xc:vs=#[.pointer (some ⟨bx,off,none⟩)]:=by
  refine Array.ext (by simp[Yw]) fun i hi Ar=>?_;have CH:i=0:=by simp at Ar;exact Ar
  subst CH;have:vs.getD 0 undef=vs[0]:=by simp[gA,hi]
  rw[<-this];simpa using LB
 subst xc;have tw:VD w (UE e) (.P [IS xs]) (.pointer (some ⟨bx,off,none⟩)):= .P _ bx off f RN H3 T8 Xj tV;refine wpIn_block (wpIn_rangeFunc ?_);intro Mh _;obtain⟨L,hL⟩:∃L:Loop,L={state:= .ready,pending:=none,fn:=Mh,tmps:=a.tmps,params:=#[p1,p2],assign,body,defers:=w.heap.size}:=⟨_,rfl⟩
 obtain⟨ep,Nw⟩:∃ep,ep=Kq e (fun b=>e.z b\/b=w.heap.size\/b=w.heap.size+1):=⟨_,rfl⟩;obtain⟨k1,k2⟩:=h1.zmore (w':=A6 w L) (z':=fun b=>e.z b\/b=w.heap.size\/b=w.heap.size+1) (fun b hb=> .inl hb) (fun b hb hz=>hz.elim (fun h=>h) oM) (by rw[Ii];omega) (fun b hb=>YS w L hb);rw[<-Nw] at k1 k2;have epz:ep.z=fun b=>e.z b\/b=w.heap.size\/b=w.heap.size+1:=by rw[Nw];rfl
 have zlt:∀b,ep.z b->b<(A6 w L).heap.size:=fun b hb=>by
  rw[epz] at hb;rw[Ii];rcases hb with hb|hb
  ·rw[AK.zeq] at hb;have:=AK.zlt b hb;have:=hr.frm.size;omega
  omega
 have rk:Ff false ep s.hp (Az 1) τ [] ep.z:=⟨hτ,hpP,fun d hd=>(hpR d hd).elim,fun d hd=>(by cases hd),fun q hq=>by rw[(hτ0 q hq).1];exact Nat.zero_lt_one,fun _ h=>h,fun _ h=> .inl h⟩;obtain⟨e0,FH⟩:∃e0,e0=eN τ ep ep.z:=⟨_,rfl⟩;have r0:=rk.rel k1;have fz0:=(rk.frz k1).un;rw[h0] at r0;rw[<-FH] at r0 fz0;have e0z:e0.z=ep.z:=by rw[FH];rfl
 have NY:∀b,AQ e0 b->AQ ep b:=fun b ho=>by rw[FH] at ho;obtain⟨q,_,h⟩:=Km ho;exact h.own
 have zl:e0.z (w.heap.size+1):=by rw[e0z,epz];exact .inr (.inr rfl)
 have tA:VD (A6 w L) (UE e0) (.P [IS xs]) (.pointer (some ⟨bx,off,none⟩)):=tw.mono k2.size (fun b hb hu=>fz0 b (k2.un b hb hu)) k2.same;have R3:Gg T (A6 w L) (UE e0):=(hC.gl.mono AK.ext.size AK.ext.un AK.ext.same).mono k2.size (fun b hb hu=>fz0 b (k2.un b hb hu)) k2.same;have U7:Rd (A6 w L) e0 L (w.heap.size+1) (DT 0) (A6 w L) e0:=⟨r0,AB.refl _ _ _,rfl,fun _ h=> .inr h,rfl,rfl,rfl,fun _ _ _ _=>rfl,io w L,lR _⟩;have tmE:∀t,VR (A6 w L) (UE e0) e0 (Az 1) (AC tmB t) (if t≠p1/\t≠p2/\t≠d then a.tmps.getD t undef else undef):=fun t=>by
  rcases OZ t with h|⟨h2,h3,h4,h5,h6,h7⟩
  ·rw[h];exact .dat _ _ (.bad _)
  rw[iP ⟨h2,h3,h4⟩,h5,FH];exact rk.vrt k1 ((hv t).ext k2) h6 fun d hd=>(h7 d hd).elim
 refine⟨w.heap.size+1,[J3 w.heap.size],A6 w L,{target:= .fn (.func fb) #[.pointer (some ⟨bx,off,none⟩)],args:=#[.func (.yield (w.heap.size+1)) #[] #[]]},A6 w L,fb,
  #[.func (.yield (w.heap.size+1)) #[] #[]]++#[.pointer (some ⟨bx,off,none⟩)],A6 w L,?_,?_,fun _ _=>trivial,?_,fun h=>vx0,?_⟩
 ·have:=run_enterLoop_outer (P:=C.P) (w:=w) Mh a.tmps #[p1,p2] assign body
  rw[hL];exact this
 ·simp only[resolve,heq];simp[go_sem]
 ·obtain⟨fn1,OC,OD,OE⟩:=FE.1;simp only[invoke,callFunc,Sem.run_bind,Sem.run_pure,Result.andThen_ok,run_program,OC,OD,OE,Bool.false_eq_true,if_false]
 refine(FE.2 (w.heap.size+1) bx off xs (fun i W=>∃e',Rd (A6 w L) e0 L (w.heap.size+1) (DT i) W e') (A6 w L) C4 ⟨e0,U7⟩ ?_ ?_).mono ?_
 ·rintro i W ⟨e',Cm⟩;exact⟨UE e',tA.mono Cm.ext.size Cm.ext.un Cm.ext.same⟩
 ·rintro i W hi ⟨e',Cm⟩;have hy:=run_yield (P:=C.P) (args:=#[.int .i64 ((xs.length:Int) - 1 - i), .int .i64 (xs.getD (xs.length - 1 - i) 0)]) Cm.rec_ (by rw[hL];rfl)
  refine⟨Mh,(a.tmps.setIfInBounds p1 (.int .i64 ((xs.length:Int) - 1 - i))).setIfInBounds p2 (.int .i64 (xs.getD (xs.length - 1 - i) 0)),assign,body,by rw[hy,hL];simp,roundIn_of_wpIn trivial ?_⟩;refine Xi (w.heap.size+1) _ W _ ?_;have Aa:w.heap.size+1<W.heap.size:=(Array.getElem?_eq_some_iff.1 Cm.rec_).1;refine⟨_,run_beginRound Cm.rec_ (by rw[hL]),?_⟩;have Ub:=Cm.zwr (W':=W.putObj (w.heap.size+1) (.loop {L with state:= .busy})) (L':={L with state:= .busy}) zl DV (fun b hb=>Fa hb) (World.putObj_heap_same Aa) rfl rfl rfl;have:=Qb3 (C:=C) (N:=C.N) hC.ty R3 Ub zl (by rw[e0z];exact zlt) (s:=⟨(d,I (xs.getD (xs.length - 1 - i) 0))::(p1,I ((xs.length:Int) - 1 - i))::(p2,I (xs.getD (xs.length - 1 - i) 0))::tmB,DT i,1⟩) rfl rfl
   (a:={tmps:=((a.tmps.setIfInBounds p1 (.int .i64 ((xs.length:Int) - 1 - i))).setIfInBounds p2 (.int .i64 (xs.getD (xs.length - 1 - i) 0))).setIfInBounds d (((a.tmps.setIfInBounds p1 (.int .i64 ((xs.length:Int) - 1 - i))).setIfInBounds p2 (.int .i64 (xs.getD (xs.length - 1 - i) 0))).getD p2 undef),defers:=[]}) rfl (by simp[has]) ?_ (Mw i hi)
  ·refine wpIn_mono this ?_;rintro ex a3 W3 ⟨rfl,e'',Yb⟩;have OM:w.heap.size+1<W3.heap.size:=(Array.getElem?_eq_some_iff.1 Yb.rec_).1;refine⟨_,_,run_endRound none Yb.rec_,rfl,e'',Yb.zwr zl DV (fun b hb=>Fa hb) ?_ rfl rfl rfl⟩;rw[World.putObj_heap_same OM,hL];rfl
  intro t;have e2:((a.tmps.setIfInBounds p1 (.int .i64 ((xs.length:Int) - 1 - i))).setIfInBounds p2 (.int .i64 (xs.getD (xs.length - 1 - i) 0))).getD p2 undef= .int .i64 (xs.getD (xs.length - 1 - i) 0):=by rw[gA,Array.getElem?_setIfInBounds_self_of_lt (by simp[has];exact hp2)];rfl
  rw[e2];simp only[AC];by_cases JY:d=t
  ·subst JY;rw[iP rfl,gA,Array.getElem?_setIfInBounds_self_of_lt (by simp[has];exact ug)];exact .dat _ _ (.lit _ rfl)
  rw[iN JY,gA,Array.getElem?_setIfInBounds_ne JY];by_cases Ih:p1=t
  ·subst Ih;rw[iP rfl,Array.getElem?_setIfInBounds_ne (Ne.symm wu),Array.getElem?_setIfInBounds_self_of_lt (by rw[has];exact hp1)];exact .dat _ _ (.lit _ rfl)
  rw[iN Ih];by_cases Jf:p2=t
  ·subst Jf;rw[iP rfl,Array.getElem?_setIfInBounds_self_of_lt (by simp[has];exact hp2)];exact .dat _ _ (.lit _ rfl)
  rw[iN Jf,Array.getElem?_setIfInBounds_ne Jf,Array.getElem?_setIfInBounds_ne Ih,<-gA];have:=(tmE t).ext Ub.ext;rw[iP ⟨Ne.symm Ih,Ne.symm Jf,Ne.symm JY⟩] at this;exact this
 rintro en W' ⟨⟨v,rfl⟩,e',Cm⟩;have Aa:w.heap.size+1<W'.heap.size:=(Array.getElem?_eq_some_iff.1 Cm.rec_).1;have ww:L.pending=none:=by rw[hL]
 obtain⟨Lx,RE⟩:∃Lx:Loop,Lx={L with state:= .exhausted}:=⟨_,rfl⟩;have AJ:=run_endLoop (P:=C.P) Cm.rec_ (by rw[hL];simp);rw[<-RE,ww] at AJ;refine⟨none,_,AJ,?_⟩;have Et:=Cm.zwr (W':=W'.putObj (w.heap.size+1) (.loop Lx)) (L':=Lx) zl DV (fun b hb=>Fa hb) (World.putObj_heap_same Aa) rfl rfl rfl;show c.wpIn Fence.wide 0 C.P _ _ _;obtain⟨σb,hσb⟩:∃σb:Nm,σb=τ.map fun q=>(q.1,q.2.2.2,q.1,0):=⟨_,rfl⟩;rw[<-hσb] at BP BX EI;have nb:CR σb:=by
  rw[hσb];refine⟨?_,?_⟩
  ·rw[List.map_map];exact hτ.n1
  rw[List.map_map];exact hτ.n1
 have memb:∀q∈σb,∃q0∈τ,q=(q0.1,q0.2.2.2,q0.1,0):=fun q hq=>by rw[hσb] at hq;obtain⟨q0,h1,h2⟩:=List.mem_map.1 hq;exact⟨q0,h1,h2.symm⟩
 have rkb:Ff false e' (DT xs.length) (Az s.ck) σb [] e'.z:=⟨nb,BP,fun d hd=>(BX d hd).elim,fun d hd=>(by cases hd),fun q hq=>by
  obtain⟨q0,h3,rfl⟩:=memb q hq;obtain⟨ob,h4,_⟩:=Hg hpP (show(q0.1,q0.2.1,q0.2.2.1,q0.2.2.2)∈τ from h3);obtain⟨ee,h5,h6,h7,_⟩:=k1.live _ _ _ h4;exact h7,fun _ h=>h,fun _ h=> .inl h⟩
 have OT:=rkb.rel Et.hr;have fzE:=(rkb.frz Et.hr).un;rw[EI] at OT;have ownE:∀b,AQ (eN σb e' e'.z) b->AQ e' b:=fun b ho=>by obtain⟨q,_,h⟩:=Km ho;exact h.own
 have sz1:((A6 w L).putObj (w.heap.size+1) (.loop Lx)).heap.size=w.heap.size+2:=by rw[DV,Ii]
 have szE:w.heap.size+2<=(W'.putObj (w.heap.size+1) (.loop Lx)).heap.size:=by have:=Et.ext.size;rw[Ii] at this;exact this
 have sameE:∀b,b<w.heap.size+2->¬AQ e0 b->(W'.putObj (w.heap.size+1) (.loop Lx)).heap[b]?=((A6 w L).putObj (w.heap.size+1) (.loop Lx)).heap[b]?:=fun b hb ho=>by
  by_cases Al:b=w.heap.size+1
  ·subst Al;rw[World.putObj_heap_same Aa,World.putObj_heap_same (by rw[Ii];omega)]
  rw[Fa Al,Fa Al];exact Cm.same b (by rw[Ii];exact hb) Al ho
 have own0':∀b,¬AQ ep b->¬AQ e0 b:=fun b h ho=>h (NY b ho);have E2:AB ((A6 w L).putObj (w.heap.size+1) (.loop Lx)) ep (Az s.ck) (W'.putObj (w.heap.size+1) (.loop Lx)) (eN σb e' e'.z) (Az s.ck):=by
  refine⟨by rw[sz1];exact szE,fun _ h=>h,fun b hb hu=>fzE b (Et.ext.un b (by rw[Ii];rw[sz1] at hb;exact hb) (fz0 b hu)),fun b hb hu=>sameE b (by rw[sz1] at hb;exact hb) (own0' b hu.2),fun id Au AP hg=>?_⟩;obtain⟨gi,a1,ga,ee,hm,h6,rfl⟩:=Gm AP;obtain⟨q0,h3,h4⟩:=memb _ hm;cases h4
  obtain⟨ob,h7,_⟩:=Hg BP hm;obtain⟨ee2,h8,h9,_⟩:=Et.hr.live _ _ _ h7;rw[h6] at h8;cases h8;obtain⟨ee0,m1,m2,m3,m4⟩:=Et.ext.ent _ ee h6 (by rw[h9];exact Nat.zero_lt_one);rw[FH] at m1;obtain⟨gj,aj,gaj,eej,XY,C8,rfl⟩:=Gm m1;have C9:=CR.bw hτ.n1 XY;have F1:=CR.bw hτ.n1 (show(q0.1,q0.2.1,q0.2.2.1,q0.2.2.2)∈τ from h3);rw[C9] at F1;cases F1
  have Ll:=(hτ0 q0 h3).2;obtain⟨ob2,On,_⟩:=Hg hpP (show(q0.1,q0.2.1,q0.2.2.1,q0.2.2.2)∈τ from h3);obtain⟨ee3,Nn,WT,_⟩:=k1.live _ _ _ On;rw[C8] at Nn;cases Nn;exact⟨eej,by rw[Ll];exact C8,WT,m3,m4⟩
 obtain⟨k3,k4⟩:=k1.zwr (w':=(A6 w L).putObj (w.heap.size+1) (.loop Lx)) DV (fun b hb=>Fa vz4);have wE:∀X,BS ⟨C.P,C.N,(A6 w L).putObj (w.heap.size+1) (.loop Lx),ep,none,[J3 w.heap.size],X⟩ ⟨s.tm,JV,s.ck⟩ ({a with defers:=[J3 w.heap.size]++a.defers}:Act) (W'.putObj (w.heap.size+1) (.loop Lx)):=fun X=>by
  refine⟨by rw[RK];rfl,has,⟨Et.os,Et.tape,Et.output,by show((A6 w L).putObj (w.heap.size+1) (.loop Lx)).heap.size<=_;rw[sz1];exact szE,fun b hb ho=>?_,Et.drawn⟩,eN σb e' e'.z,OT,⟨Et.z.trans e0z,fun b hb=>?_,?_,fun b hb=>?_⟩,fun t=>((hv t).ext (k2.trans k4)).ext E2⟩
  ·exact sameE b (by have h:b<((A6 w L).putObj (w.heap.size+1) (.loop Lx)).heap.size:=hb;rw[sz1] at h;exact h) (own0' b ho)
  ·show b<((A6 w L).putObj (w.heap.size+1) (.loop Lx)).heap.size;rw[DV];exact zlt b hb
  ·have FF:∀id Au,(eN σb e' e'.z) id=some Au->Az 1 Au.g->Az s.ck Au.g:=fun id Au AP _=>OT.gen id Au AP;exact⟨E2.size,fun g hg=>by
    by_cases HI:0<s.ck
    ·exact tL hg HI
    exact absurd (AK.ext.gs g hg) xx1,E2.un,E2.same,fun id Au AP hg=>E2.ent id Au AP (FF id Au AP hg)⟩
  rcases Et.own b (ownE b hb) with h|h
  ·refine .inl ?_;show((A6 w L).putObj (w.heap.size+1) (.loop Lx)).heap.size<=b;rw[DV];exact h
  exact .inr (NY b h)
 have WX:Cn ⟨C.P,C.N,(A6 w L).putObj (w.heap.size+1) (.loop Lx),ep,none,[J3 w.heap.size],fun _ _=>False⟩ T:=⟨hC.ty,((hC.gl.mono AK.ext.size AK.ext.un AK.ext.same).mono k2.size k2.un k2.same).mono k4.size k4.un k4.same⟩;refine wpIn_mono (hc _ _ _ _ WX _ _ (wE _)) ?_;rintro ex a' w' (⟨s',E0,hq⟩|⟨_,hf⟩)
 ·cases ex<;>first|exact hq.elim|skip
  rw[Nw] at E0;exact .inr ⟨rfl,Nx _ _ (Wy hC.ty AK hr.frm (fun b hb=>⟨h1.own_lt hb,h1.own_nz hb⟩) E0 hq)⟩
 exact hf.elim
end
open Go Go.Great
theorem yF {t:Nat} {l:List (List Int)} (L:List Nat):(∀e∈BI t l,∀c∈e.cells,Cu false L c)=True:=US fun r=> .inl rfl
attribute [go_sem] yF
section
variable {C:Cx} {T:AE}
theorem VR.nil_inv {w:World} {e:An} {G:Nat->Prop} {v:Value} (h:VR w (UE e) e G (.sl [] true) v):∃a,v= .slice a 0 0:=by obtain⟨a,cap,rfl,_,hc⟩:=h.slice_cap;rw[hc rfl];exact⟨a,rfl⟩
theorem PL {c:Code} {Q:Exit->St->Prop} {s:St} (nid bid gb t k j:Nat) {cs:List AV} (hk:0<k) (hb:s.hp.get bid=some (gb, .box cs)) (hj:cs.getD j .bad= .sl [] true) (hn:s.hp.get nid=none)
  (h:BD C c Q ⟨s.tm,(bid,some (gb, .box (cs.set j (.l nid s.ck 0 0))))::(nid,some (s.ck, .own t k []))::s.hp,s.ck+1⟩):BD C c Q s:=by
 intro a w hr;refine h a w ?_;obtain⟨e,h1,AK,hv⟩:=hr.body;have p:Bt C e (Az s.ck) s.ck s.hp w:=⟨h1,AK,hr.frm,by simp[Az]⟩;have Bj:bid≠nid:=by rintro rfl;rw[hn] at hb;cases hb
 have Co:j<cs.length:=by
  by_cases Co:j<cs.length
  .exact Co
  rw[gE,List.getElem?_eq_none oM] at hj;cases hj
 have vJ:∃av,∀(ee:EE) b c (vs:Array Value) t,e bid=some ee->ee.blk=some (b,c)->w.heap[b]?=some (.cells vs t (0,0))->vs.getD j undef= .slice av 0 0:=by
  obtain⟨ee,he,_,_,Dl⟩:=h1.live _ _ _ hb;obtain⟨_,_,b,c',vs,t',BX,EI,eS,T7⟩:=Dl;have e1:cs[j]= .sl [] true:=by rw[gE,gG Co] at hj;exact hj
  have:=T7 j Co;rw[e1] at this;obtain⟨av,Hr⟩:=this.nil_inv;refine⟨av,fun ee1 b1 c1 vs1 t1 h1 h2 h3=>?_⟩;rw[he] at h1;cases h1;rw[BX] at h2;cases h2;rw[EI] at h3;cases h3;exact Hr
 obtain⟨av,tK⟩:=vJ;have AI:=MH (P:=True) (v:= .l nid s.ck 0 0) (xv:= .slice av 0 0) p (CX.refl w) (did:=nid) (ee:=⟨s.ck,none,k,0⟩) rfl (fun b c hb=>by cases hb) (ob:= .own t k []) ⟨rfl,rfl,hk,fun i hi=>vy6,fun i hi=>vy6,rfl⟩
  (.l _ _ _ _ _ (.inr rfl) rfl fun ee he _=>by
   rw[Hq] at he;cases he;exact⟨lR _,fun _=>⟨rfl,rfl,av,rfl⟩⟩)
 obtain⟨nx,w',e',q1,q2,q3,q4,q5,q6⟩:=AI;cases q1
 have C3:VR w (UE e') e' (gadd (Az s.ck) s.ck) (.l nid s.ck 0 0) (.slice av 0 0):=by
  rcases q6 with ⟨xv,h3,h4⟩|⟨h3,_⟩
  .cases h3;exact h4
  cases h3
 obtain⟨eb,Xo,FD,fl,Dl⟩:=q2.live bid gb (.box cs) (by rw[List.cons_append,List.nil_append,Hp.get_cons_other _ _ Bj];exact hb);obtain⟨Ua,BP,b,c',vs,t',BX,EI,eS,T7⟩:=Dl;have gg:gadd (Az s.ck) s.ck=Az (s.ck+1):=I1 _;have Hr:vs.getD j undef= .slice av 0 0:=by
  have e1:cs[j]= .sl [] true:=by rw[gE,gG Co] at hj;exact hj
  obtain⟨ee,he,H8,_,tR⟩:=h1.live _ _ _ hb;obtain⟨ee1,m1,m2,m3,m4⟩:=q3.ent bid eb Xo (by rw[FD,<-H8];exact h1.gen _ _ he);obtain⟨C2,_⟩:=tR;rw[he] at m1;cases m1;rcases m4 with ⟨m4,m5⟩|m4
  .exact tK _ b c' vs t' he (m5.trans BX) EI
  omega
 rw[gg] at q2 q3 q4 T7 C3;have BE:AU w e' (Az (s.ck+1)) ((bid,some (gb, .box (cs.set j (.l nid s.ck 0 0))))::(nid,some (s.ck, .own t k []))::s.hp):=by
  refine q2.step (fun i=>i=bid) (AB.refl _ _ _) rfl (fun i hi=>⟨rfl,Hp.get_cons_other _ _ hi⟩) (fun _ _ _ _ _ _ _=>⟨rfl,fun _ _ h=>⟨rfl,h⟩⟩) (fun i hi hn=>?_) (fun i g' ob hi hg=>?_) (fun i ee b1 c1 hi he BP=>?_) q2.kl q2.ko q2.kk
  .subst hi;rw[Hp.get_cons_same] at hn;cases hn
  .subst hi;rw[Hp.get_cons_same] at hg;cases hg
   refine⟨eb,Xo,FD,by rw[<-FD];exact q2.gen _ _ Xo,Ua,fun i hi=>?_,b,c',vs,t',BX,EI,by simpa using eS,fun i hi=>?_⟩
   .rw[List.getElem_set];split
    .rfl
    exact BP _ _
   have Ar:i<cs.length:=vv5;rw[List.getElem_set];split
   .next AF=>subst AF;rw[Hr];exact C3
   exact T7 i Ar
  exact⟨q2.lt _ _ _ _ he BP,q2.nz _ _ _ _ he BP,fun i' Au c2 AP CO=>by rw[hi] at*;exact q2.inj _ _ _ _ _ _ _ AP he CO BP⟩
 exact⟨hr.defers,hr.size,hr.frm,e',BE,q4,fun t=>(hv t).ext q3⟩
theorem CL {P:Program} {T:AE} {f:FuncId} {g:Nat} {hp:Hp} {vs:List AV} {K:AV->List Up->List Nat->Prop} {rc:AV} (τ σ:Nm) (keep:Bool) {fV hp1:Hp} {as1:List AV} (h:Ag P T f fV as1 hp1 rc)
  (e1:A7 true τ hp=fV) (e2:vs.map (Bw true τ hp)=as1) (EY:(τ.map (·.1)).Nodup) (EZ:(τ.map (·.2.2.1)).Nodup) (hg:∀q∈τ,q.2.1=0) (hP:A9 true τ hp τ) (hs:Jx τ hp vs)
  (hd:∀d∈AT true τ hp τ++vs.flatMap (Bl true τ hp),lk τ d=none)
  (Fo:(σ.map (·.1)).Nodup) (HE:(σ.map (·.2.2.1)).Nodup) (IA:∀q∈σ,(q.2.2.2=0/\(q.2.2.1,0,q.1,q.2.1)∈τ)\/(q.2.2.2=1/\q.2.1=g))
  (Xl:A9 false σ hp1 σ) (Xm:AT false σ hp1 σ=[]) (OU:B7 false σ hp1 rc) (OV:Bl false σ hp1 rc=[])
  (JY:LR keep (Em τ σ (AT true τ hp τ++vs.flatMap (Bl true τ hp)) keep) (A7 false σ hp1)) (Ih:FA keep (Em τ σ (AT true τ hp τ++vs.flatMap (Bl true τ hp)) keep) (Bw false σ hp1 rc))
  (hK:K (Bw false σ hp1 rc) (A7 false σ hp1++drops ((Em τ σ (AT true τ hp τ++vs.flatMap (Bl true τ hp)) keep).filter fun i=>!(σ.map (·.1)).contains i)) (τ.map (·.2.2.1)++(AT true τ hp τ++vs.flatMap (Bl true τ hp)))):IR P T f g hp vs K:=
 TE τ σ keep EY EZ hg hP hs hd (by rw[e1,e2];exact h) Fo HE IA Xl Xm OU OV JY Ih hK
theorem kB {τ:Nm} {hp:Hp} {tm:List (Nat×AV)} {p1 p2 d:Nat}:∀{tmB:List (Nat×AV)},(∀q∈tmB,q.1≠p1/\q.1≠p2/\q.1≠d/\q.2=Bw false τ hp (AC tm q.1)/\B7 false τ hp (AC tm q.1)/\Bl false τ hp (AC tm q.1)=[])->
  ∀t,AC tmB t= .bad\/(t≠p1/\t≠p2/\t≠d/\AC tmB t=Bw false τ hp (AC tm t)/\B7 false τ hp (AC tm t)/\∀d∈Bl false τ hp (AC tm t),False)
 |[],_,_=> .inl rfl|(i,x)::l,h,t=>by
  simp only[AC];by_cases hi:i=t
  .subst hi;rw[iP rfl];obtain⟨h1,h2,h3,h4,h5,h6⟩:=h _ mS;exact .inr ⟨h1,h2,h3,h4,h5,fun d hd=>by rw[h6] at hd;cases hd⟩
  rw[iN hi];exact kB (fun q hq=>h q (mC _ hq)) t
theorem Pj {s:St} {hp':Hp} (σ:Nm) (EY:(σ.map (·.1)).Nodup) (EZ:(σ.map (·.2.2.1)).Nodup) (hg:∀q∈σ,q.2.1=0/\q.2.2.1=q.1/\q.2.2.2=0) (hP:A9 true σ s.hp σ)
  (hd:∀d∈AT true σ s.hp σ,lk σ d=none) (he:A7 true σ s.hp=hp'):PI hp' .normal s:=
 ⟨σ,AT true σ s.hp σ,⟨EY,EZ⟩,hg,hP,fun _ h=>h,hd,he⟩
theorem nU (τ:Nm) (DT:Nat->Hp) (tmB:List (Nat×AV)) (fn:Func) {JV:Hp} {hp':Hp} {r:AV} {fb:FuncId} {id p1 p2 d:Nat} {g:Operand} {assign body c:Code} {s:St} {xs:List Int} {Q:Exit->St->Prop}
  (hC:Cn C T) (DU:C.rd=none) (KC:C.df=[]) (FE:VH C.P fb)
  (C4:xs.length<=9223372036854775807) (hg:s.ev g= .fn fb [.P [IS xs]]) (hp:p1<C.N/\p2<C.N/\d<C.N/\p1≠p2/\d≠p1/\d≠p2)
  (Xi:∀(l:Nat) (tm:Array Value) (w:World) (K:Act->World->Prop),K {tmps:=tm.setIfInBounds d (tm.getD p2 undef),defers:=[]} w->assign.wpIn (Gp (some l)) 0 C.P (Exit.then K fun _ _ _=>False) {tmps:=tm,defers:=[]} w)
  (hτ1:(τ.map (·.1)).Nodup) (hτ2:(τ.map (·.2.2.1)).Nodup) (hτ0:∀q∈τ,q.2.1=0/\q.1=q.2.2.1) (hpP:A9 false τ s.hp τ) (hpR:AT false τ s.hp τ=[]) (h0:A7 false τ s.hp=DT 0)
  (OZ:∀q∈tmB,q.1≠p1/\q.1≠p2/\q.1≠d/\q.2=Bw false τ s.hp (AC s.tm q.1)/\B7 false τ s.hp (AC s.tm q.1)/\Bl false τ s.hp (AC s.tm q.1)=[])
  (BP:A9 false (τ.map fun q=>(q.1,q.2.2.2,q.1,0)) (DT xs.length) (τ.map fun q=>(q.1,q.2.2.2,q.1,0))) (BX:AT false (τ.map fun q=>(q.1,q.2.2.2,q.1,0)) (DT xs.length) (τ.map fun q=>(q.1,q.2.2.2,q.1,0))=[])
  (EI:A7 false (τ.map fun q=>(q.1,q.2.2.2,q.1,0)) (DT xs.length)=JV)
  (Nx:∀a' w',Kg C.P fn C.w0 C.e0 hp' r a' w'->C.esc a' w')
  (Mw:∀i,i<xs.length->∀(w:World) (e:An) (rd:Option Nat) (X:Act->World->Prop),Cn ⟨C.P,C.N,w,e,rd,[],X⟩ T->
   BD ⟨C.P,C.N,w,e,rd,[],X⟩ body (PI (DT (i+1))) ⟨(d,I (xs.getD (xs.length - 1 - i) 0))::(p1,I ((xs.length:Int) - 1 - i))::(p2,I (xs.getD (xs.length - 1 - i) 0))::tmB,DT i,1⟩)
  (hc:∀(w:World) (e:An) (df:List Deferred) (X:Act->World->Prop),Cn ⟨C.P,C.N,w,e,none,df,X⟩ T->BD ⟨C.P,C.N,w,e,none,df,X⟩ c (PH T fn.results.toList hp' r) ⟨s.tm,JV,s.ck⟩):
  Q6 C (.block id (.rangeFunc g #[p1,p2] assign body)) c Q s:=
 nT hC DU KC FE C4 hg hp.1 hp.2.1 hp.2.2.1 hp.2.2.2.1 hp.2.2.2.2.1 hp.2.2.2.2.2 Xi τ ⟨hτ1,hτ2⟩ hτ0 hpP (fun d hd=>by rw[hpR] at hd;cases hd) DT h0 tmB (kB OZ) Mw BP
  (fun d hd=>by rw[BX] at hd;cases hd) EI fn hp' r Nx hc
theorem nC {P:Program} {id d p2:Nat} {ty:TypeId} {pos:String} {after:Array Edge} (l:Nat) (tm:Array Value) (w:World) (K:Act->World->Prop) (h:K {tmps:=tm.setIfInBounds d (tm.getD p2 undef),defers:=[]} w):
  (Code.region id #[{dst:=some d,op:= .assign (.tmp p2),type:=ty,pos:=pos,after:=after,guard:=none}] false).wpIn (Gp (some l)) 0 P (Exit.then K fun _ _ _=>False) {tmps:=tm,defers:=[]} w:=by
 refine wpIn_region_lit (l:=[{dst:=some d,op:= .assign (.tmp p2),type:=ty,pos:=pos,after:=after,guard:=none}]) ?_;unfold wpListIn;rw[iP (N0 rfl _)];refine⟨fun _ _=>trivial,?_⟩;rw[Oper.semAt_eq _ _ _ vx3];exact h
end
open Go Go.Great
def eZ (z:Nat->Prop):An:=⟨fun _=>none,z,fun _=>none⟩
theorem Oh {z:Nat->Prop} {b:Nat}:¬AQ (eZ z) b:=by rintro(⟨_,_,_,h,_⟩|⟨_,_,h,_⟩)<;>cases h
theorem Na {z:Nat->Prop} {b:Nat}:UE (eZ z) b↔¬z b:=⟨fun h=>h.1,fun h=>⟨h,Oh⟩⟩
abbrev cZ (P:Program) (N:Nat) (w:World) (z:Nat->Prop):Cx:=⟨P,N,w,eZ z,none,[],fun _ _=>False⟩
def MJ (hp:Hp):Prop:=∀id,hp.get id=none
theorem QY {w:World} {z:Nat->Prop} {G:Nat->Prop} {hp:Hp} (hn:MJ hp):AU w (eZ z) G hp:=by
 refine⟨fun _ _=>rfl,fun id g ob h=>?_,fun id Br ee Au b c c' h=>?_,fun id ee b c h=>?_,fun id ee b c h=>?_,fun b B c h=>?_,fun _ _=>rfl,fun b B c h=>?_⟩
 .rw[hn id] at h;cases h
 all_goals cases h
theorem BS.toZ {C:Cx} {s:St} {a:Act} {w:World} (hr:BS C s a w) (hn:MJ s.hp) (KC:C.df=[]):BS (cZ C.P C.N w C.e0.z) s a w:=by
 obtain⟨e,h1,ln,hv⟩:=hr.body;have hm:∀id,e.m id=none:=fun id=>h1.dead id (hn id);have no:∀b,¬AQ e b:=by
  rintro b (⟨id,ee,c,h,_⟩|⟨B,c,_,id,ee,c',h,_⟩)
  .rw[show e.m id=none from hm id] at h;cases h
  rw[show e.m id=none from hm id] at h;cases h
 have x:AB w e (Az s.ck) w (eZ C.e0.z) (Az s.ck):=⟨lR _,fun _ h=>h,fun b _ hu=>Na.2 (by rw[<-ln.zeq];exact hu.1),fun _ _ _=>rfl,fun id Au h _=>nomatch h⟩;refine⟨hr.defers.trans KC,hr.size,⟨rfl,rfl,rfl,lR _,fun _ _ _=>rfl,lR _⟩,eZ C.e0.z,QY hn,
  ⟨rfl,fun b hb=>tL (ln.zlt b hb) hr.frm.size,⟨lR _,fun g h=>ln.ext.gs g h,fun _ _ h=>h,fun _ _ _=>rfl,fun id Au h _=>nomatch h⟩,fun b hb=>(Oh hb).elim⟩,fun t=>(hv t).ext x⟩
abbrev JT:=Option Nat->World->(Nat->Prop)->Prop
def Tn (P:Program) (l:Nat) (J:JT) (xs:List AV):Prop:=
 ∀i W U v,i<xs.length->J (some i) W U->(∀b,W.heap.size<=b->U b)->(∀W U,VD W U (xs.getD i .bad) v)->
  YieldAt Fence.wide 0 P l #[v] W (fun en W'=>∃b:Bool,en= .returned (.bool b)/\∃U',W.heap.size<=W'.heap.size/\(∀b,b<W.heap.size->U b->U' b/\W'.heap[b]?=W.heap[b]?)/\(∀b,W'.heap.size<=b->U' b)/\J (if b then some (i+1) else none) W' U')
def PF (J:JT):Prop:=∀i W W' U,J i W U->CX W W'->J i W' U
def Tj (P:Program) (T:AE) (fb:FuncId) (caps xs:List AV):Prop:=
 Enters P fb/\∀(l:Nat) (vs:Array Value) (J:JT) (W0:World) (U0:Nat->Prop),caps.length=vs.size->(∀i (h:i<caps.length),VD W0 U0 caps[i] (vs.getD i undef))->Gg T W0 U0->(∀b,W0.heap.size<=b->U0 b)->J (some 0) W0 U0->
  PF J->Tn P l J xs->
  CallsIn Fence.wide 0 P fb (#[.func (.yield l) #[] #[]]++vs) W0 (fun en W'=>(∃v,en= .returned v)/\∃U,J (some xs.length) W' U\/J none W' U)
section
variable {P:Program} {T:AE} {N:Nat} {J:JT}
def Pt (P:Program) (T:AE) (N:Nat) (J:JT) (s:St) (i:Option Nat) (a:Act) (w:World):Prop:=
 MJ s.hp/\∃z:Nat->Prop,(∀b,z b->b<w.heap.size)/\J i w (UE (eZ z))/\Gg T w (UE (eZ z))/\BS (cZ P N w z) s a w
def G9 (P:Program) (T:AE) (N:Nat) (J:JT) (c:Code) (Q:Exit->St->Option Nat->Prop) (s:St) (i:Option Nat):Prop:=
 ∀a w,Pt P T N J s i a w->c.wpIn Fence.wide 0 P (fun ex a' w'=>∃s' i',Pt P T N J s' i' a' w'/\Q ex s' i') a w
def aq (next:St->Option Nat->Prop) (Q:Exit->St->Option Nat->Prop):Exit->St->Option Nat->Prop
 | .normal,s,i=>next s i|e,s,i=>Q e s i
def ap (id:Nat) (Q:Exit->St->Option Nat->Prop):Exit->St->Option Nat->Prop
 | .exit Br,s,i=>if Br=id then Q .normal s i else Q (.exit Br) s i|e,s,i=>Q e s i
theorem Pt.grown (hJ:PF J) {s':St} {i:Option Nat} {a':Act} {w w':World} {z:Nat->Prop} (hz:∀b,z b->b<w.heap.size) (hj:J i w (UE (eZ z))) (hg:Gg T w (UE (eZ z))) (h1:BS (cZ P N w z) s' a' w') (h2:MJ s'.hp):Pt P T N J s' i a' w':=by have f:=h1.frm;have g:CX w w':=⟨f.os,f.tape,f.output,f.size,fun b hb=>f.same b hb Oh,f.drawn⟩;exact⟨h2,z,fun b hb=>tL (hz b hb) g.size,hJ _ _ _ _ hj g,hg.mono g.size (fun _ _ h=>h) (fun b hb _=>g.same b hb),h1.toZ h2 rfl⟩
theorem ME (hT:B4 P T) (hJ:PF J) {c:Code} {Q:Exit->St->Option Nat->Prop} {s:St} {i:Option Nat} (h:∀w z,Cn (⟨P,N,w,eZ z,none,[],fun _ _=>False⟩:Cx) T->BD (⟨P,N,w,eZ z,none,[],fun _ _=>False⟩:Cx) c (fun ex s'=>MJ s'.hp/\Q ex s' i) s):G9 P T N J c Q s i:=by
 rintro a w ⟨hn,z,hz,hj,hg,hr⟩;refine wpIn_mono (h w z ⟨hT,hg⟩ a w hr) ?_;rintro ex a' w' (⟨s',h1,h2,h3⟩|⟨_,hf⟩)
 .exact⟨s',i, .grown hJ hz hj hg h1 h2,h3⟩
 exact hf.elim
theorem MF {x y:Code} {Q:Exit->St->Option Nat->Prop} {s:St} {i:Option Nat} (h:G9 P T N J x (aq (G9 P T N J y Q) Q) s i):G9 P T N J (.seq x y) Q s i:=by intro a w hr;refine wpIn_seq (wpIn_mono (h a w hr) ?_);rintro e a' w' ⟨s',i',h1,h2⟩;cases e<;>first|exact h2 a' w' h1|exact⟨s',i',h1,h2⟩
theorem UQ {Q:Exit->St->Option Nat->Prop} {s:St} {i:Option Nat} (h:Q .normal s i):G9 P T N J .skip Q s i:=fun _ _ hr=>wpIn_skip ⟨s,i,hr,h⟩
theorem yk {Q:Exit->St->Option Nat->Prop} {s:St} {i:Option Nat} (h:Q .ret s i):G9 P T N J .ret Q s i:=fun _ _ hr=>wpIn_ret ⟨s,i,hr,h⟩
theorem YM {id:Nat} {Q:Exit->St->Option Nat->Prop} {s:St} {i:Option Nat} (h:Q (.exit id) s i):G9 P T N J (.exit id) Q s i:=fun _ _ hr=>wpIn_exit ⟨s,i,hr,h⟩
theorem SK {id:Nat} {c:Code} {Q:Exit->St->Option Nat->Prop} {s:St} {i:Option Nat} (h:G9 P T N J c (ap id Q) s i):G9 P T N J (.block id c) Q s i:=by
 intro a w hr;refine wpIn_block (wpIn_mono (h a w hr) ?_);rintro e a' w' ⟨s',i',h1,h2⟩;cases e with
 |exit Br=>
  simp only[Exit.inBlock,ap] at h2 ⊢;by_cases hid:Br=id
  .rw[iP hid] at h2 ⊢;exact⟨s',i',h1,h2⟩
  rw[iN hid] at h2 ⊢;exact⟨s',i',h1,h2⟩
 |_=>exact⟨s',i',h1,h2⟩
theorem O6 {c:Operand} {x y:Code} {Q:Exit->St->Option Nat->Prop} {s:St} {i:Option Nat} (b:Bool) (hc:s.ev c= .lit (.bool b)) (ht:b=true->G9 P T N J x Q s i) (hf:b=false->G9 P T N J y Q s i):G9 P T N J (.cond c x y) Q s i:=by
 intro a w hr;have Mu:=hr;obtain⟨_,z,_,_,_,hrel⟩:=Mu;obtain⟨e,_,_,hv⟩:=hrel.body;have:=Me (s:=s) hv c;rw[hc] at this;obtain⟨he,_⟩:=this.lit_inv;refine wpIn_cond he ?_;cases b
 .exact hf rfl a w hr
 exact ht rfl a w hr
def SX:AV->Bool
 | .lit _| .P _=>true|_=>false
def wk:List (Nat×AV)->List (Nat×AV)->Prop
 |[],_=>True|(t,v)::l,tm=>AC tm t=v/\SX v=true/\wk l tm
theorem kO:∀{l tm:List (Nat×AV)},wk l tm->∀t,AC l t= .bad\/(AC l t=AC tm t/\SX (AC tm t)=true)
 |[],_,_,t=> .inl rfl|(t',v)::l,tm,h,t=>by
  simp only[AC];by_cases ht:t'=t
  .subst ht;rw[iP rfl,h.1];exact .inr ⟨rfl,h.2.1⟩
  rw[iN ht];exact kO h.2.2 t
theorem Pt.weak {s:St} {tm:List (Nat×AV)} {i:Option Nat} {a:Act} {w:World} (h:Pt P T N J s i a w) (hw:wk tm s.tm):Pt P T N J ⟨tm,[],1⟩ i a w:=by
 obtain⟨hn,z,hz,hj,hg,hr⟩:=h;obtain⟨e,h1,ln,hv⟩:=(hr.toZ hn rfl).body;refine⟨fun _=>rfl,z,hz,hj,hg,hr.defers,hr.size,hr.frm,eZ z,QY (fun _=>rfl),
  ⟨rfl,fun b hb=>hz b hb,AB.refl _ _ _,fun b hb=>(Oh hb).elim⟩,fun t=>?_⟩
 have Yx:=hv t;show VR w _ _ _ (AC tm t) _;rcases kO hw t with h|⟨h,hp⟩
 .rw[h];exact .dat _ _ (.bad _)
 rw[h];generalize AC s.tm t=av at Yx hp;have D2:∀b,UE e b->UE (eZ z) b:=fun b hu=>Na.2 (by have:=ln.zeq;have h:e.z=z:=this;rw[<-h];exact hu.1);cases av with
 |lit v=>obtain⟨h,h'⟩:=Yx.lit_inv;rw[h];exact .dat _ _ (.lit _ h')
 |P cs=>exact .dat _ _ (Yx.ptI_inv.mono (lR _) (fun b _ hu=>D2 b hu) (fun _ _ _=>rfl))|_=>cases hp
theorem hM {ι:Type} {c:Code} {Q:Exit->St->Option Nat->Prop} {s:St} {i:Option Nat} (tm:ι->List (Nat×AV)) (n:ι->Option Nat) (ok:ι->Prop) (m:ι->Nat) (k0:ι) (h0:ok k0) (hi:i=n k0) (hw:wk (tm k0) s.tm)
  (round:∀k,ok k->G9 P T N J c (aq (fun s' i'=>∃k',ok k'/\m k'<m k/\i'=n k'/\wk (tm k') s'.tm) Q) ⟨tm k,[],1⟩ (n k)):G9 P T N J (.loop c) Q s i:=by
 intro a w hr;obtain⟨I,hI⟩:∃I:ι->Act->World->Prop,I=fun k a w=>ok k/\Pt P T N J ⟨tm k,[],1⟩ (n k) a w:=⟨_,rfl⟩;have hex:∃μ:Act->World->Nat,∀a w,(∃k,I k a w)->(∃k,I k a w/\m k=μ a w)/\∀k,I k a w->μ a w<=m k:=by
  have h1:∀a w,∃q,(∃k,I k a w)->(∃k,I k a w/\m k=q)/\∀k,I k a w->q<=m k:=by
   intro a w;by_cases h:∃k,I k a w
   .obtain⟨k,hk⟩:=h;obtain⟨q,⟨k',h1,h2⟩,h3⟩:=least (fun q=>∃k,I k a w/\m k=q) (m k) ⟨k,hk,rfl⟩;exact⟨q,fun _=>⟨⟨k',h1,h2⟩,fun k hk=>h3 _ ⟨k,hk,rfl⟩⟩⟩
   exact⟨0,fun h'=>absurd h' h⟩
  exact⟨fun a w=>Classical.choose (h1 a w),fun a w=>Classical.choose_spec (h1 a w)⟩
 obtain⟨μ,hμ⟩:=hex;refine wpIn_loop (fun a w=>∃k,I k a w) μ ⟨k0,by rw[hI];exact⟨h0,hi ▸ hr.weak hw⟩⟩ ?_;intro a w hk;obtain⟨⟨k,Bi,hm⟩,_⟩:=hμ a w hk;have Ch:=Bi;rw[hI] at Ch;refine wpIn_mono (round k Ch.1 a w Ch.2) ?_;rintro e a' w' ⟨s',i',h1,h2⟩;cases e with
 |normal=>
  obtain⟨k',q1,q2,q3,q4⟩:=h2;have Qb:I k' a' w':=by rw[hI];exact⟨q1,q3 ▸ h1.weak q4⟩
  refine⟨⟨k',Qb⟩,?_⟩;have:=(hμ a' w' ⟨k',Qb⟩).2 k' Qb;omega
 |_=>exact⟨s',i',h1,h2⟩
theorem Z3 {F:Fence} {n:Nat} {ops:Array Oper} {Q:Exit->Act->World->Prop} {Ae:List Oper}:
  ∀{l:List Oper} {a:Act} {w:World},wpListIn F n P ops (Exit.then (wpListIn F n P ops Q Ae) Q) l a w->wpListIn F n P ops Q (l++Ae) a w
 |[],a,w,h=>h|o::l,a,w,h=>by
  unfold wpListIn at h;show wpListIn F n P ops Q (o::(l++Ae)) a w;unfold wpListIn;split at h
  .rename_i hw;rw[iP hw];have h2:o.wpIn F n P a w (wpListIn F n P ops (Exit.then (wpListIn F n P ops Q Ae) Q) l) Q:=by
    refine⟨h.1,?_⟩;have h3:=h.2;generalize (o.semAt F.round a.eval).run P w=r at h3 ⊢;cases r with
    |ok x w'=>cases x<;>exact h3
    |halt x w'=>cases x<;>exact h3
   exact Oper.wpIn_mono (fun a w h=>Z3 h) h2
  rename_i hw;rw[iN hw];exact⟨h.1,Z3 h.2⟩
def Tl (av:AV):Prop:=(∃v,av= .lit v)\/∃cs,av= .agg cs/\∀c∈cs,SJ c
theorem mZ {w:World} {U:Nat->Prop} {e:An} {G:Nat->Prop} {av:AV} {v:Value} (hl:Tl av) (h:VR w U e G av v) (w':World) (U':Nat->Prop):VD w' U' av v:=by
 rcases hl with ⟨v',rfl⟩|⟨cs,rfl,hc⟩
 .obtain⟨h1,h2⟩:=h.lit_inv;rw[h1];exact .lit _ h2
 obtain⟨vs,rfl,hl,q1,q2⟩:=h.agg_inv;refine .agg _ _ hl q1 fun i hi=>?_;have h1:=hc _ (gM hi);have h2:=q2 i hi;generalize cs[i]=c at h1 h2;cases c with
 |lit v'=>obtain⟨h3,h4⟩:=h2.lit_inv;rw[h3];exact .lit _ h4
 |_=>exact h1.elim
theorem Qha {a:Act} {w:World} {dst:Option Tmp} {type:TypeId} {pos:String} {after:Array Edge} {guard:Option (Nat×Bool)} {x y:Operand} {ts:Array TypeId} {l fn:Nat} {v:Value} {tmps:Array Value} {asg bd:Code} (h:a.eval x= .func (.yield l) #[] #[]) (h1:a.eval y=v) (hy:(Instr.yield l #[v]).run P w= .ok (.round l fn tmps asg bd) w):
  (execOp a.eval ⟨dst, .call {callee:= .value x,args:=#[y],argTypes:=ts},type,pos,after,guard⟩).run P w= .ok (.round l fn tmps asg bd) w:=by
 simp[execOp,resolve,invoke,Deferred.ofValue,h,h1,hy]
theorem yl (hT:B4 P T) (hJ:PF J) {l:Nat} {xs:List AV} (hx:∀i,i<xs.length->Tl (xs.getD i .bad)) (YG:Tn P l J xs) {id:Nat} {pre post:List Oper} {dst:Option Tmp} {x y:Operand} {ts:Array TypeId} {type:TypeId} {pos:String} {after:Array Edge} {Q:Exit->St->Option Nat->Prop} {s:St} {i:Nat}
  (hd:((pre++⟨dst, .call {callee:= .value x,args:=#[y],argTypes:=ts},type,pos,after,none⟩::post).all fun o=>decide (o.dst.getD 0<N))=true)
  (h:∀w z,Cn (cZ P N w z) T->∀K:St->Prop,(∀s':St,MJ s'.hp/\s'.ev x= .lit (.func (.yield l) #[] #[])/\i<xs.length/\s'.ev y=xs.getD i .bad/\(∀b:Bool,∀w z,Cn (cZ P N w z) T->∀K:St->Prop,(∀s'':St,MJ s''.hp/\Q .normal s'' (if b then some (i+1) else none)->K s'')->
    DX P T (pre++⟨dst, .call {callee:= .value x,args:=#[y],argTypes:=ts},type,pos,after,none⟩::post) post (s'.put dst (.lit (.bool b)) []) K)->K s')->DX P T (pre++⟨dst, .call {callee:= .value x,args:=#[y],argTypes:=ts},type,pos,after,none⟩::post) pre s K):
  G9 P T N J (.region id (pre++⟨dst, .call {callee:= .value x,args:=#[y],argTypes:=ts},type,pos,after,none⟩::post).toArray false) Q s (some i):=by
 obtain⟨yo,Qy⟩:∃yo:Oper,yo=⟨dst, .call {callee:= .value x,args:=#[y],argTypes:=ts},type,pos,after,none⟩:=⟨_,rfl⟩
 rw[<-Qy] at hd h ⊢;have Hx:yo.dst=dst:=by rw[Qy]
 rw[List.all_eq_true] at hd;have Ix:∀o∈pre++yo::post,o.dst.getD 0<N:=fun o ho=>by simpa using hd o ho
 rintro a w ⟨hn,z,hz,hj,hg,hr⟩;refine wpIn_region_lit (Z3 ?_);refine Tw (C:=cZ P N w z) (T:=T) ⟨hT,hg⟩ _ ?_ pre (fun o ho=>Ix o (by simp[ho])) s a w hr (h w z ⟨hT,hg⟩ _ fun _ h=>h);rintro s' a' w' h1 ⟨IG,q1,q2,q3,q4⟩;obtain⟨_,z',NN,Ah,HB,E0⟩:=Pt.grown (J:=J) hJ hz hj hg h1 IG;obtain⟨e,wB,ln,hv⟩:=E0.body;have hf:=Me (s:=s') hv x;rw[q1] at hf;obtain⟨hf,_⟩:=hf.lit_inv;have UN:=Me (s:=s') hv y;rw[q3] at UN;have hU:∀b,w'.heap.size<=b->UE (eZ z') b:=fun b hb=>Na.2 fun h=>by have:=NN b h;omega
 obtain⟨fn,tmps,asg,bd,xE,DU⟩:=YG i w' _ _ q2 Ah hU (mZ (hx i q2) UN);show wpListIn Fence.wide 0 P _ _ (yo::post) a' w';unfold wpListIn;rw[iP (N0 (by rw[Qy]) _)];refine⟨fun _ _=>trivial,?_⟩;rw[Oper.semAt_eq _ _ _ (by rw[Qy];intro c h;cases h),Qy,Qha hf rfl xE,<-Qy,Oper.uponIn_round];refine⟨fun h=>vx0,DU.mono ?_⟩;rintro en W' ⟨b,rfl,U',k1,k2,k3,k4⟩;have hm:∀id,e.m id=none:=fun id=>wB.dead id (IG id);have noe:∀b,¬AQ e b:=by
  rintro b (⟨id,ee,c,h,_⟩|⟨B,c,_,id,ee,c',h,_⟩)
  ·rw[show e.m id=none from hm id] at h;cases h
  rw[show e.m id=none from hm id] at h;cases h
 have Lp:e.z=z':=ln.zeq;obtain⟨z2,HK⟩:∃z2:Nat->Prop,z2=fun b=>¬U' b/\b<W'.heap.size:=⟨_,rfl⟩;have YI:UE (eZ z2)=U':=by
  funext b
  refine propext (Na.trans ⟨fun h=>?_,fun h=>?_⟩)
  ·rw[HK] at h;by_cases hb:b<W'.heap.size
   ·exact Classical.byContradiction fun hu=>h ⟨hu,hb⟩
   exact k3 b oM
  rw[HK];exact fun h'=>h'.1 h
 have x:AB w' e (Az s'.ck) W' (eZ z2) (Az s'.ck):=⟨k1,fun _ h=>h,fun b hb hu=>by rw[YI];exact(k2 b hb (Na.2 (by rw[<-Lp];exact hu.1))).1,fun b hb hu=>(k2 b hb (Na.2 (by rw[<-Lp];exact hu.1))).2,fun id Au h _=>nomatch h⟩;have gF:∀b,z2 b->b<W'.heap.size:=fun b hb=>by rw[HK] at hb;exact hb.2
 have F3:Gg T W' (UE (eZ z2)):=HB.mono k1 (fun b hb hu=>by rw[YI];exact(k2 b hb hu).1) (fun b hb hu=>(k2 b hb hu).2);have FF:∀g,Az 1 g->Az s'.ck g:=ln.ext.gs;have r2:BS (cZ P N W' z2) s' a' W':=⟨E0.defers,E0.size,⟨rfl,rfl,rfl,lR _,fun _ _ _=>rfl,lR _⟩,eZ z2,QY IG,
  ⟨rfl,gF,⟨lR _,FF,fun _ _ h=>h,fun _ _ _=>rfl,fun id Au h _=>nomatch h⟩,fun b hb=>(Oh hb).elim⟩,fun t=>(hv t).ext x⟩
 have ul:yo.dst.getD 0<N:=by simpa using hd yo sM
 have r3:BS (cZ P N W' z2) (s'.put dst (.lit (.bool b)) []) (a'.put dst (.bool b)) W':=by obtain⟨e2,g1,g2,g3⟩:=r2.body;have xw:=AB.wide W' e2 (Az s'.ck) s'.ck;rw[I1] at xw;exact QN (C:=cZ P N W' z2) r2 g3 (by rw[<-Hx];exact ul) (by rw[<-I1];exact g1.wide) xw (by rw[<-I1];exact g2.wide _) r2.frm (.dat _ _ (.lit _ rfl))
 show wpListIn Fence.wide 0 P _ _ post (a'.put yo.dst (.bool b)) W';rw[Hx];refine Tw (C:=cZ P N W' z2) (T:=T) ⟨hT,F3⟩ _ ?_ post (fun o ho=>Ix o (by simp[ho])) _ _ _ r3 (q4 b W' z2 ⟨hT,F3⟩ _ fun _ h=>h);rintro s'' a'' w'' g1 ⟨g2,g3⟩;exact⟨s'',_, .grown hJ gF (by rw[YI];exact k4) F3 g1 g2,g3⟩
theorem ym (hT:B4 P T) (hJ:PF J) {l:Nat} {xs:List AV} (hx:∀i,i<xs.length->Tl (xs.getD i .bad)) (YG:Tn P l J xs) {id:Nat} {ops:List Oper} (k:Nat) {dst:Option Tmp} {x y:Operand} {ts:Array TypeId} {type:TypeId} {pos:String} {after:Array Edge} {Q:Exit->St->Option Nat->Prop} {s:St} {i:Nat}
  (hk:ops=ops.take k++⟨dst, .call {callee:= .value x,args:=#[y],argTypes:=ts},type,pos,after,none⟩::ops.drop (k+1)) (hd:(ops.all fun o=>decide (o.dst.getD 0<N))=true)
  (h:∀K:St->Prop,(∀s':St,MJ s'.hp/\s'.ev x= .lit (.func (.yield l) #[] #[])/\i<xs.length/\s'.ev y=xs.getD i .bad/\(∀b:Bool,∀K:St->Prop,(∀s'':St,MJ s''.hp/\Q .normal s'' (if b then some (i+1) else none)->K s'')->
    DX P T ops (ops.drop (k+1)) (s'.put dst (.lit (.bool b)) []) K)->K s')->DX P T ops (ops.take k) s K):
  G9 P T N J (.region id ops.toArray false) Q s (some i):=by
 have:=yl (N:=N) (Q:=Q) (id:=id) (s:=s) (i:=i) hT hJ hx YG (pre:=ops.take k) (post:=ops.drop (k+1)) (dst:=dst) (x:=x) (y:=y) (ts:=ts) (type:=type) (pos:=pos) (after:=after);rw[<-hk] at this;exact this hd fun w z hC K hK=>h K fun s' h'=>hK s' ⟨h'.1,h'.2.1,h'.2.2.1,h'.2.2.2.1,fun b w z hC K hK=>h'.2.2.2.2 b K hK⟩
theorem lP (hT:B4 P T) {fb:FuncId} {fn:Func} {body:Code} (hf:P.funcs[fb]?=some fn) (FN:(fn.name== "runtime.NumGoroutine")=false) (hb:fn.body=some body) (E1:fn.results=#[]) (hn:fn.ntmps=N) (hN:2<=N) {cs xs:List AV}
  (h:∀l J,PF J->Tn P l J xs->G9 P T N J body (fun ex _ i=>(ex= .normal\/ex= .ret)/\(i=some xs.length\/i=none)) ⟨[(0, .lit (.func (.yield l) #[] #[])),(1, .P cs)],[],1⟩ (some 0)):Tj P T fb [.P cs] xs:=by
 refine⟨⟨fn,hf,FN,by rw[hb];rfl⟩,?_⟩;intro l vs J W0 U0 hl hv hg tO hj hJ hY;refine callsIn_of_wp (F:=Fence.wide) hf hb trivial ?_;have Yw:vs.size=1:=by simpa using hl.symm
 obtain⟨p,rfl⟩:∃p,vs=#[p]:=by
  refine⟨vs.getD 0 undef,Array.ext (by simp[Yw]) fun i hi Ar=>?_⟩;have CH:i=0:=by simp at Ar;exact Ar
  subst CH;simp[gA,hi]
 have hp:VD W0 U0 (.P cs) p:=by simpa using hv 0 sM
 obtain⟨z,hz⟩:∃z:Nat->Prop,z=fun b=>¬U0 b/\b<W0.heap.size:=⟨_,rfl⟩;have YJ:UE (eZ z)=U0:=by
  funext b
  refine propext (Na.trans ⟨fun h=>?_,fun h=>?_⟩)
  ·rw[hz] at h;by_cases hb:b<W0.heap.size
   ·exact Classical.byContradiction fun hu=>h ⟨hu,hb⟩
   exact tO b oM
  rw[hz];exact fun h'=>h'.1 h
 have G8:∀b,z b->b<W0.heap.size:=fun b hb=>by rw[hz] at hb;exact hb.2
 have e2:#[Value.func (.yield l) #[] #[]]++#[p]=#[Value.func (.yield l) #[] #[],p]:=rfl
 rw[e2,hn];refine wpIn_mono (h l J hJ hY _ W0 ⟨fun _=>rfl,z,G8,by rw[YJ];exact hj,by rw[YJ];exact hg,rfl,vv2,⟨rfl,rfl,rfl,lR _,fun _ _ _=>rfl,lR _⟩,eZ z,QY (fun _=>rfl),⟨rfl,G8,AB.refl _ _ _,fun b hb=>(Oh hb).elim⟩,fun t=>?_⟩) ?_
 ·show VR _ _ _ _ (AC [(0,AV.lit (.func (.yield l) #[] #[])),(1, .P cs)] t) _
  simp only[AC];by_cases h0:0=t
  ·subst h0;rw[iP rfl,gA,Array.getElem?_append_left sM];exact .dat _ _ (.lit _ rfl)
  rw[iN h0];by_cases h1:1=t
  ·subst h1;rw[iP rfl,gA,Array.getElem?_append_left sM,YJ];exact .dat _ _ hp
  rw[iN h1];exact .dat _ _ (.bad _)
 rintro ex a' w' ⟨s',i',wy,hex,hi⟩;obtain⟨_,z',_,Ah,_,E0⟩:=wy;have hd:a'.defers=[]:=E0.defers;have Qiu:∃U,J (some xs.length) w' U\/J none w' U:=⟨_,by rcases hi with rfl|rfl;exact .inl Ah;exact .inr Ah⟩;rcases hex with rfl|rfl
 ·exact⟨hd, .tuple #[],by simp[results,E1],⟨_,rfl⟩,Qiu⟩
 exact⟨hd, .tuple #[],by simp[results,E1],⟨_,rfl⟩,Qiu⟩
end
open Go Go.Great
theorem AB.trans1 {w1 w2 w3:World} {e0 e1 e2:An} {G2 G3:Nat->Prop} (h:AB w1 e0 (Az 1) w2 e1 G2) (h':AB w2 e1 (Az 1) w3 e2 G3):AB w1 e0 (Az 1) w3 e2 G3:=by
 refine⟨Nat.le_trans h.size h'.size,h'.gs,fun b hb hu=>h'.un b (tL hb h.size) (h.un b hb hu),fun b hb hu=>(h'.same b (tL hb h.size) (h.un b hb hu)).trans (h.same b hb hu),fun id Au he hg=>?_⟩;obtain⟨ee,k1,k2,k3,k4⟩:=h'.ent id Au he hg;obtain⟨ee0,m1,m2,m3,m4⟩:=h.ent id ee k1 (by rw[k2];exact hg);refine⟨ee0,m1,m2.trans k2,m3.trans k3,?_⟩;rcases m4 with ⟨m4,m5⟩|m4<;>rcases k4 with ⟨k4,k5⟩|k4
 .exact .inl ⟨m4.trans k4,m5.trans k5⟩
 .exact .inr oM
 .exact .inr oM
 exact .inr oM
structure LY (P:Program) (N:Nat) (w1:World) (e0:An) (L:Loop) (l:Nat) (rd:Option Nat) (s:St) (a:Act) (W:World) (e':An):Prop where
 rel:BS ⟨P,N,W,e',rd,[],fun _ _=>False⟩ s a W
 hr:AU W e' (Az s.ck) s.hp
 ext:AB w1 e0 (Az 1) W e' (Az s.ck)
 z:e'.z=e0.z
 own:∀b,AQ e' b->w1.heap.size<=b\/AQ e0 b
 os:W.os=w1.os
 tape:W.tape=w1.tape
 output:W.output=w1.output
 same:∀b,b<w1.heap.size->b≠l->¬AQ e0 b->W.heap[b]?=w1.heap[b]?
 rec_:W.heap[l]?=some (.loop L)
 drawn:w1.drawn<=W.drawn
section
variable {P:Program} {N:Nat} {T:AE} {w1 W:World} {e0 e':An} {L:Loop} {l:Nat} {rd:Option Nat} {s:St} {a:Act}
theorem mX {C:Cx} {s':St} {a':Act} {W':World} {e1:An} (hP:C.P=P) (hN:C.N=N) (DU:C.rd=rd) (KC:C.df=[]) (hd:a'.defers=C.df) (hs:a'.tmps.size=C.N) (Be:C.w0.heap.size<=W'.heap.size) (h1:AU W' e1 (Az s'.ck) s'.hp) (AK:Ew C W' e1 (Az s'.ck))
  (hv:∀t,VR W' (UE e1) e1 (Az s'.ck) (AC s'.tm t) (a'.tmps.getD t undef)):BS ⟨P,N,W',e1,rd,[],fun _ _=>False⟩ s' a' W':=by
 subst hP hN DU;refine⟨hd.trans KC,hs,⟨rfl,rfl,rfl,lR _,fun _ _ _=>rfl,lR _⟩,e1,h1,⟨rfl,fun b hb=>?_,⟨lR _,fun g h=>AK.ext.gs g h,fun _ _ h=>h,fun _ _ _=>rfl,fun id Au h _=>⟨Au,h,rfl,rfl, .inl ⟨rfl,rfl⟩⟩⟩,fun _ h=> .inr h⟩,hv⟩;have CO:e1.z b:=hb;rw[AK.zeq] at CO;exact tL (AK.zlt b CO) Be
theorem LY.step (hT:B4 P T) (KF:Gg T w1 (UE e0)) (h:LY P N w1 e0 L l rd s a W e') (hz:e0.z l) (G8:∀b,e0.z b->b<w1.heap.size) {c:Code} {Q:Exit->St->Prop}
  (hc:∀(w:World) (e:An) (rd:Option Nat) (X:Act->World->Prop),Cn ⟨P,N,w,e,rd,[],X⟩ T->BD ⟨P,N,w,e,rd,[],X⟩ c Q s):
  c.wpIn (Gp rd) 0 P (fun ex a' W'=>∃s' e'',LY P N w1 e0 L l rd s' a' W' e''/\Q ex s'/\AB W e' (Az 1) W' e'' (Az s'.ck)) a W:=by
 have WW:Cn ⟨P,N,W,e',rd,[],fun _ _=>False⟩ T:=⟨hT,KF.mono h.ext.size (fun b hb hu=>h.ext.un b hb hu) (fun b hb hu=>h.ext.same b hb hu)⟩;refine wpIn_mono (hc W e' rd _ WW a W h.rel) ?_;intro ex a' W' Sp;obtain⟨s',hr,hq⟩:=Sp.resolve_right fun h=>h.2;obtain⟨e1,BJ,AK,hv⟩:=hr.body;refine⟨s',e1,⟨mX (C:=⟨P,N,W,e',rd,[],fun _ _=>False⟩) rfl rfl rfl rfl hr.defers hr.size hr.frm.size BJ AK hv,BJ,h.ext.trans1 AK.ext,AK.zeq.trans h.z,fun b ho=>?_,hr.frm.os.trans h.os,hr.frm.tape.trans h.tape,hr.frm.output.trans h.output,fun b hb Al ho=>?_,?_,Nat.le_trans h.drawn hr.frm.drawn⟩,hq,AK.ext⟩
 .rcases AK.mine b ho with h4|h4
  .exact .inl (Nat.le_trans h.ext.size h4)
  exact h.own b h4
 .refine(hr.frm.same b (tL hb h.ext.size) fun HF=>?_).trans (h.same b hb Al ho);rcases h.own b HF with h4|h4
  .omega
  exact ho h4
 have Aa:l<W.heap.size:=tL (G8 l hz) h.ext.size;exact(hr.frm.same l Aa fun ho=>h.hr.own_nz ho (by rw[h.z];exact hz)).trans h.rec_
theorem LY.zwr {W':World} {L':Loop} (h:LY P N w1 e0 L l rd s a W e') (hz:e0.z l) (hs:W'.heap.size=W.heap.size) (hh:∀b,b≠l->W'.heap[b]?=W.heap[b]?) (hl:W'.heap[l]?=some (.loop L'))
  (h1:W'.os=W.os) (h2:W'.tape=W.tape) (h3:W'.output=W.output) (hd:W.drawn<=W'.drawn):LY P N w1 e0 L' l rd s a W' e':=by
 have JP:e'.z l:=by rw[h.z];exact hz
 have XF:∀b,¬e'.z b->W'.heap[b]?=W.heap[b]?:=fun b hb=>hh b (by rintro rfl;exact hb JP);obtain⟨k1,k2⟩:=h.hr.zwr hs XF;obtain⟨e1,g1,g2,g3⟩:=h.rel.body;obtain⟨k3,k4⟩:=g1.zwr hs (fun b hb=>XF b (by rw[show e'.z=e1.z from g2.zeq.symm];exact hb));refine⟨⟨h.rel.defers,h.rel.size,⟨rfl,rfl,rfl,lR _,fun _ _ _=>rfl,lR _⟩,e1,k3,⟨g2.zeq,fun b hb=>by show b<W'.heap.size;rw[hs];exact g2.zlt b hb,⟨lR _,g2.ext.gs,fun b hb hu=>g2.ext.un b (by rw[hs] at hb;exact hb) hu,fun _ _ _=>rfl,g2.ext.ent⟩,fun b hb=>?_⟩,fun t=>(g3 t).ext k4⟩,
  k1,⟨by rw[hs];exact h.ext.size,h.ext.gs,h.ext.un,fun b hb hu=>(XF b ?_).trans (h.ext.same b hb hu),h.ext.ent⟩,h.z,h.own,h1.trans h.os,h2.trans h.tape,h3.trans h.output,fun b hb Al ho=>(hh b Al).trans (h.same b hb Al ho),hl,Nat.le_trans h.drawn hd⟩
 .rcases g2.mine b hb with h4|h4
  .exact .inl (by show W'.heap.size<=b;rw[hs];exact h4)
  exact .inr h4
 rw[h.z];exact hu.1
def VP (hp':Hp) (s:St):Prop:=∃(σ:Nm) (D:List Nat),CR σ/\(∀q∈σ,q.2.1=0/\q.2.2.1=q.1/\q.2.2.2=0)/\A9 true σ s.hp σ/\(∀d∈AT true σ s.hp σ,d∈D)/\(∀d∈D,lk σ d=none)/\A7 true σ s.hp=hp'
theorem LY.end_ {hp2:Hp} (h:LY P N w1 e0 L l rd s a W e') (hq:VP hp2 s):∃e'',Rd w1 e0 L l hp2 W e''/\∀b,b<W.heap.size->UE e' b->UE e'' b:=by
 obtain⟨σ,D,q1,q2,q3,q4,q5,q6⟩:=hq;have rk:Ff true e' s.hp (Az 1) σ D e'.z:=⟨q1,q3,q4,q5,fun q hq=>by rw[(q2 q hq).1];exact Nat.zero_lt_one,fun _ h=>h,fun _ h=> .inl h⟩;have BE:=rk.rel h.hr;have fz:=rk.frz h.hr;have L0:∀b,AQ (eN σ e' e'.z) b->AQ e' b:=fun b ho=>by obtain⟨q,_,h⟩:=Km ho;exact h.own
 rw[q6] at BE;refine⟨eN σ e' e'.z,⟨BE,⟨h.ext.size,fun _ h=>h,fun b hb hu=>fz.un b (h.ext.un b hb hu),h.ext.same,fun id Au AP hg=>?_⟩,h.z,fun b ho=>h.own b (L0 b ho),h.os,h.tape,h.output,h.same,h.rec_,h.drawn⟩,fun b _ hu=>fz.un b hu⟩;obtain⟨gi,a,ga,ee,hm,h6,rfl⟩:=Gm AP;obtain⟨h7,h8,h9⟩:=q2 _ hm;simp only at h7 h8 h9;subst h7 h8 h9;obtain⟨ob,C8,_⟩:=Hg q3 hm;obtain⟨ee2,C9,F1,_⟩:=h.hr.live _ _ _ C8;rw[h6] at C9;cases C9;obtain⟨ee0,k1,k2,k3,k4⟩:=h.ext.ent a ee h6 vk8;exact⟨ee0,k1,k2.trans F1,k3,k4⟩
theorem Rd.grow {hp:Hp} {W':World} (h:Rd w1 e0 L l hp W e') (hz:e0.z l) (G8:∀b,e0.z b->b<w1.heap.size) (x:CX W W'):Rd w1 e0 L l hp W' e':=by obtain⟨k1,k2⟩:=h.hr.zmore (w':=W') (z':=e'.z) (fun _ h=>h) (fun _ _ h=>h) x.size x.same;refine⟨k1,h.ext.trans k2,h.z,h.own,x.os.trans h.os,x.tape.trans h.tape,x.output.trans h.output,fun b hb Al ho=>(x.same b (tL hb h.ext.size)).trans (h.same b hb Al ho),(x.same l (tL (G8 l hz) h.ext.size)).trans h.rec_,Nat.le_trans h.drawn x.drawn⟩
def ay (stop:Bool) (hp1 Je:Hp):Exit->St->Prop
 | .normal,s=>stop=false/\VP hp1 s| .ret,s=>stop=true/\VP Je s|_,_=>False
theorem QbH {w w':World} {e e':An} {G:Nat->Prop} {av:AV} {v:Value} (hp:SX av=true) (h:VR w (UE e) e G av v) (hs:w.heap.size<=w'.heap.size) (hU:∀b,b<w.heap.size->UE e b->UE e' b) (hh:∀b,b<w.heap.size->UE e b->w'.heap[b]?=w.heap[b]?):VD w' (UE e') av v:=by
 cases av with
 |lit v'=>obtain⟨h1,h2⟩:=h.lit_inv;rw[h1];exact .lit _ h2
 |P cs=>exact h.ptI_inv.mono hs hU hh|_=>cases hp
theorem nV {C:Cx} (hC:Cn C T) (DU:C.rd=none) (KC:C.df=[]) {fb:FuncId} {caps xs:List AV} (hit:Tj C.P T fb caps xs) (H5:∀i (h:i<caps.length),SX caps[i]=true) {id p1:Nat} {g:Operand} {assign body c:Code} {s:St} {Q:Exit->St->Prop}
  (hg:s.ev g= .fn fb caps) (hp1:p1<C.N)
  (τ:Nm) (hτ:CR τ) (hτ0:∀q∈τ,q.2.1=0/\q.1=q.2.2.1) (hpP:A9 false τ s.hp τ) (hpR:∀d∈AT false τ s.hp τ,False) (DT:Nat->Hp) (Je:Hp) (h0:A7 false τ s.hp=DT 0)
  (tmB:List (Nat×AV)) (OZ:∀t,AC tmB t= .bad\/(t≠p1/\AC tmB t=Bw false τ s.hp (AC s.tm t)/\B7 false τ s.hp (AC s.tm t)/\∀d∈Bl false τ s.hp (AC s.tm t),False))
  (sp:Nat->Bool)
  (Mw:∀i,i<xs.length->∀(w:World) (e:An) (rd:Option Nat) (X:Act->World->Prop),Cn ⟨C.P,C.N,w,e,rd,[],X⟩ T->
   BD ⟨C.P,C.N,w,e,rd,[],X⟩ assign (fun ex s1=>ex= .normal/\∀(w:World) (e:An) (rd:Option Nat) (X:Act->World->Prop),Cn ⟨C.P,C.N,w,e,rd,[],X⟩ T->BD ⟨C.P,C.N,w,e,rd,[],X⟩ body (ay (sp i) (DT (i+1)) Je) s1) ⟨(p1,xs.getD i .bad)::tmB,DT i,1⟩)
  {JV So:Hp} (BP:A9 false (τ.map fun q=>(q.1,q.2.2.2,q.1,0)) (DT xs.length) (τ.map fun q=>(q.1,q.2.2.2,q.1,0))) (BX:∀d∈AT false (τ.map fun q=>(q.1,q.2.2.2,q.1,0)) (DT xs.length) (τ.map fun q=>(q.1,q.2.2.2,q.1,0)),False)
  (EI:A7 false (τ.map fun q=>(q.1,q.2.2.2,q.1,0)) (DT xs.length)=JV)
  (Gx:A9 false (τ.map fun q=>(q.1,q.2.2.2,q.1,0)) Je (τ.map fun q=>(q.1,q.2.2.2,q.1,0))) (Fp:∀d∈AT false (τ.map fun q=>(q.1,q.2.2.2,q.1,0)) Je (τ.map fun q=>(q.1,q.2.2.2,q.1,0)),False)
  (IJ:A7 false (τ.map fun q=>(q.1,q.2.2.2,q.1,0)) Je=So)
  (fn:Func) (hp':Hp) (r:AV) (Nx:∀a' w',Kg C.P fn C.w0 C.e0 hp' r a' w'->C.esc a' w')
  (hc:(∀k,k<xs.length->sp k=false)->∀(w:World) (e:An) (df:List Deferred) (X:Act->World->Prop),Cn ⟨C.P,C.N,w,e,none,df,X⟩ T->BD ⟨C.P,C.N,w,e,none,df,X⟩ c (PH T fn.results.toList hp' r) ⟨s.tm,JV,s.ck⟩)
  (Xu:(∃k,k<xs.length/\sp k=true)->PH T fn.results.toList hp' r .ret ⟨s.tm,So,s.ck⟩):
  Q6 C (.block id (.rangeFunc g #[p1] assign body)) c Q s:=by
 intro a w hr;rw[DU,cU];obtain⟨e,h1,AK,hv⟩:=hr.body;have RK:a.defers=[]:=hr.defers.trans KC;have has:a.tmps.size=C.N:=hr.size;have H7:=Me (s:=s) hv g;rw[hg] at H7;obtain⟨vs,heq,EL,FO⟩:=Rq H7;refine wpIn_block (wpIn_rangeFunc ?_);intro Mh _;obtain⟨L,hL⟩:∃L:Loop,L={state:= .ready,pending:=none,fn:=Mh,tmps:=a.tmps,params:=#[p1],assign,body,defers:=w.heap.size}:=⟨_,rfl⟩
 obtain⟨Ld,W4⟩:∃Ld:Loop,Ld={L with state:= .done,pending:=some .ret}:=⟨_,rfl⟩;obtain⟨ep,Nw⟩:∃ep,ep=Kq e (fun b=>e.z b\/b=w.heap.size\/b=w.heap.size+1):=⟨_,rfl⟩;obtain⟨k1,k2⟩:=h1.zmore (w':=A6 w L) (z':=fun b=>e.z b\/b=w.heap.size\/b=w.heap.size+1) (fun b hb=> .inl hb) (fun b hb hz=>hz.elim (fun h=>h) oM) (by rw[Ii];omega) (fun b hb=>YS w L hb);rw[<-Nw] at k1 k2;have epz:ep.z=fun b=>e.z b\/b=w.heap.size\/b=w.heap.size+1:=by rw[Nw];rfl
 have zlt:∀b,ep.z b->b<(A6 w L).heap.size:=fun b hb=>by
  rw[epz] at hb;rw[Ii];rcases hb with hb|hb
  ·rw[AK.zeq] at hb;have:=AK.zlt b hb;have:=hr.frm.size;omega
  omega
 have rk:Ff false ep s.hp (Az 1) τ [] ep.z:=⟨hτ,hpP,fun d hd=>(hpR d hd).elim,fun d hd=>(by cases hd),fun q hq=>by rw[(hτ0 q hq).1];exact Nat.zero_lt_one,fun _ h=>h,fun _ h=> .inl h⟩;obtain⟨e0,FH⟩:∃e0,e0=eN τ ep ep.z:=⟨_,rfl⟩;have r0:=rk.rel k1;have fz0:=(rk.frz k1).un;rw[h0] at r0;rw[<-FH] at r0 fz0;have e0z:e0.z=ep.z:=by rw[FH];rfl
 have NY:∀b,AQ e0 b->AQ ep b:=fun b ho=>by rw[FH] at ho;obtain⟨q,_,h⟩:=Km ho;exact h.own
 have zl:e0.z (w.heap.size+1):=by rw[e0z,epz];exact .inr (.inr rfl)
 have zlt0:∀b,e0.z b->b<(A6 w L).heap.size:=by rw[e0z];exact zlt
 have R3:Gg T (A6 w L) (UE e0):=(hC.gl.mono AK.ext.size AK.ext.un AK.ext.same).mono k2.size (fun b hb hu=>fz0 b (k2.un b hb hu)) k2.same;have U7:Rd (A6 w L) e0 L (w.heap.size+1) (DT 0) (A6 w L) e0:=⟨r0,AB.refl _ _ _,rfl,fun _ h=> .inr h,rfl,rfl,rfl,fun _ _ _ _=>rfl,io w L,lR _⟩;have tmE:∀t,VR (A6 w L) (UE e0) e0 (Az 1) (AC tmB t) (if t≠p1 then a.tmps.getD t undef else undef):=fun t=>by
  rcases OZ t with h|⟨h2,h5,h6,h7⟩
  ·rw[h];exact .dat _ _ (.bad _)
  rw[iP h2,h5,FH];exact rk.vrt k1 ((hv t).ext k2) h6 fun d hd=>(h7 d hd).elim
 have tail:∀(Qp X6:Hp) (L2 Lx:Loop) (W':World) (e':An),Rd (A6 w L) e0 L2 (w.heap.size+1) Qp W' e'->
   A9 false (τ.map fun q=>(q.1,q.2.2.2,q.1,0)) Qp (τ.map fun q=>(q.1,q.2.2.2,q.1,0))->(∀d∈AT false (τ.map fun q=>(q.1,q.2.2.2,q.1,0)) Qp (τ.map fun q=>(q.1,q.2.2.2,q.1,0)),False)->A7 false (τ.map fun q=>(q.1,q.2.2.2,q.1,0)) Qp=X6->
   ∀X,BS ⟨C.P,C.N,(A6 w L).putObj (w.heap.size+1) (.loop Lx),ep,none,[J3 w.heap.size],X⟩ ⟨s.tm,X6,s.ck⟩ ({a with defers:=[J3 w.heap.size]++a.defers}:Act) (W'.putObj (w.heap.size+1) (.loop Lx)):=by
  intro Qp X6 L2 Lx W' e' Cm BP BX EI X;have Aa:w.heap.size+1<W'.heap.size:=(Array.getElem?_eq_some_iff.1 Cm.rec_).1;have Et:=Cm.zwr (W':=W'.putObj (w.heap.size+1) (.loop Lx)) (L':=Lx) zl DV (fun b hb=>Fa hb) (World.putObj_heap_same Aa) rfl rfl rfl;obtain⟨σb,hσb⟩:∃σb:Nm,σb=τ.map fun q=>(q.1,q.2.2.2,q.1,0):=⟨_,rfl⟩;rw[<-hσb] at BP BX EI;have nb:CR σb:=by
   rw[hσb];refine⟨?_,?_⟩
   ·rw[List.map_map];exact hτ.n1
   rw[List.map_map];exact hτ.n1
  have memb:∀q∈σb,∃q0∈τ,q=(q0.1,q0.2.2.2,q0.1,0):=fun q hq=>by rw[hσb] at hq;obtain⟨q0,h1,h2⟩:=List.mem_map.1 hq;exact⟨q0,h1,h2.symm⟩
  have rkb:Ff false e' Qp (Az s.ck) σb [] e'.z:=⟨nb,BP,fun d hd=>(BX d hd).elim,fun d hd=>(by cases hd),fun q hq=>by
   obtain⟨q0,h3,rfl⟩:=memb q hq;obtain⟨ob,h4,_⟩:=Hg hpP (show(q0.1,q0.2.1,q0.2.2.1,q0.2.2.2)∈τ from h3);obtain⟨ee,h5,h6,h7,_⟩:=k1.live _ _ _ h4;exact h7,fun _ h=>h,fun _ h=> .inl h⟩
  have OT:=rkb.rel Et.hr;have fzE:=(rkb.frz Et.hr).un;rw[EI] at OT;have ownE:∀b,AQ (eN σb e' e'.z) b->AQ e' b:=fun b ho=>by obtain⟨q,_,h⟩:=Km ho;exact h.own
  have sz1:((A6 w L).putObj (w.heap.size+1) (.loop Lx)).heap.size=w.heap.size+2:=by rw[DV,Ii]
  have szE:w.heap.size+2<=(W'.putObj (w.heap.size+1) (.loop Lx)).heap.size:=by have:=Et.ext.size;rw[Ii] at this;exact this
  have sameE:∀b,b<w.heap.size+2->¬AQ e0 b->(W'.putObj (w.heap.size+1) (.loop Lx)).heap[b]?=((A6 w L).putObj (w.heap.size+1) (.loop Lx)).heap[b]?:=fun b hb ho=>by
   by_cases Al:b=w.heap.size+1
   ·subst Al;rw[World.putObj_heap_same Aa,World.putObj_heap_same (by rw[Ii];omega)]
   rw[Fa Al,Fa Al];exact Cm.same b (by rw[Ii];exact hb) Al ho
  have own0':∀b,¬AQ ep b->¬AQ e0 b:=fun b h ho=>h (NY b ho);have E2:AB ((A6 w L).putObj (w.heap.size+1) (.loop Lx)) ep (Az s.ck) (W'.putObj (w.heap.size+1) (.loop Lx)) (eN σb e' e'.z) (Az s.ck):=by
   refine⟨by rw[sz1];exact szE,fun _ h=>h,fun b hb hu=>fzE b (Et.ext.un b (by rw[Ii];rw[sz1] at hb;exact hb) (fz0 b hu)),fun b hb hu=>sameE b (by rw[sz1] at hb;exact hb) (own0' b hu.2),fun id Au AP hg=>?_⟩;obtain⟨gi,a1,ga,ee,hm,h6,rfl⟩:=Gm AP;obtain⟨q0,h3,h4⟩:=memb _ hm;cases h4
   obtain⟨ob,h7,_⟩:=Hg BP hm;obtain⟨ee2,h8,h9,_⟩:=Et.hr.live _ _ _ h7;rw[h6] at h8;cases h8;obtain⟨ee0,m1,m2,m3,m4⟩:=Et.ext.ent _ ee h6 (by rw[h9];exact Nat.zero_lt_one);rw[FH] at m1;obtain⟨gj,aj,gaj,eej,XY,C8,rfl⟩:=Gm m1;have C9:=CR.bw hτ.n1 XY;have F1:=CR.bw hτ.n1 (show(q0.1,q0.2.1,q0.2.2.1,q0.2.2.2)∈τ from h3);rw[C9] at F1;cases F1
   have Ll:=(hτ0 q0 h3).2;obtain⟨ob2,On,_⟩:=Hg hpP (show(q0.1,q0.2.1,q0.2.2.1,q0.2.2.2)∈τ from h3);obtain⟨ee3,Nn,WT,_⟩:=k1.live _ _ _ On;rw[C8] at Nn;cases Nn;exact⟨eej,by rw[Ll];exact C8,WT,m3,m4⟩
  obtain⟨k3,k4⟩:=k1.zwr (w':=(A6 w L).putObj (w.heap.size+1) (.loop Lx)) DV (fun b hb=>Fa vz4);refine⟨by rw[RK];rfl,has,⟨Et.os,Et.tape,Et.output,by show((A6 w L).putObj (w.heap.size+1) (.loop Lx)).heap.size<=_;rw[sz1];exact szE,fun b hb ho=>?_,Et.drawn⟩,eN σb e' e'.z,OT,⟨Et.z.trans e0z,fun b hb=>?_,?_,fun b hb=>?_⟩,fun t=>((hv t).ext (k2.trans k4)).ext E2⟩
  ·exact sameE b (by have h:b<((A6 w L).putObj (w.heap.size+1) (.loop Lx)).heap.size:=hb;rw[sz1] at h;exact h) (own0' b ho)
  ·show b<((A6 w L).putObj (w.heap.size+1) (.loop Lx)).heap.size;rw[DV];exact zlt b hb
  ·have FF:∀id Au,(eN σb e' e'.z) id=some Au->Az 1 Au.g->Az s.ck Au.g:=fun id Au AP _=>OT.gen id Au AP;exact⟨E2.size,fun g hg=>by
    by_cases HI:0<s.ck
    ·exact tL hg HI
    exact absurd (AK.ext.gs g hg) xx1,E2.un,E2.same,fun id Au AP hg=>E2.ent id Au AP (FF id Au AP hg)⟩
  rcases Et.own b (ownE b hb) with h|h
  ·refine .inl ?_;show((A6 w L).putObj (w.heap.size+1) (.loop Lx)).heap.size<=b;rw[DV];exact h
  exact .inr (NY b h)
 have WX:∀Lx,Cn ⟨C.P,C.N,(A6 w L).putObj (w.heap.size+1) (.loop Lx),ep,none,[J3 w.heap.size],fun _ _=>False⟩ T:=fun Lx=>by obtain⟨k3,k4⟩:=k1.zwr (w':=(A6 w L).putObj (w.heap.size+1) (.loop Lx)) DV (fun b hb=>Fa vz4);exact⟨hC.ty,((hC.gl.mono AK.ext.size AK.ext.un AK.ext.same).mono k2.size k2.un k2.same).mono k4.size k4.un k4.same⟩
 obtain⟨J,Qc⟩:∃J:JT,J=fun i W U=>match i with
  |some i=>(∃e',Rd (A6 w L) e0 L (w.heap.size+1) (DT i) W e'/\∀b,U b->UE e' b)/\∀k,k<i->sp k=false|none=>(∃e',Rd (A6 w L) e0 Ld (w.heap.size+1) Je W e'/\∀b,U b->UE e' b)/\∃k,k<xs.length/\sp k=true:=⟨_,rfl⟩
 refine⟨w.heap.size+1,[J3 w.heap.size],A6 w L,{target:= .fn (.func fb) vs,args:=#[.func (.yield (w.heap.size+1)) #[] #[]]},A6 w L,fb,
  #[.func (.yield (w.heap.size+1)) #[] #[]]++vs,A6 w L,?_,?_,fun _ _=>trivial,?_,fun h=>vx0,?_⟩
 ·have:=run_enterLoop_outer (P:=C.P) (w:=w) Mh a.tmps #[p1] assign body
  rw[hL];exact this
 ·simp only[resolve,heq];simp[go_sem]
 ·obtain⟨fn1,OC,OD,OE⟩:=hit.1;simp only[invoke,callFunc,Sem.run_bind,Sem.run_pure,Result.andThen_ok,run_program,OC,OD,OE,Bool.false_eq_true,if_false]
 refine(hit.2 (w.heap.size+1) vs J (A6 w L) (UE e0) EL (fun i hi=>QbH (H5 i hi) (FO i hi) k2.size (fun b hb hu=>fz0 b (k2.un b hb hu)) k2.same) R3 (fun b hb=>⟨fun hz=>by have:=zlt0 b hz;omega,fun ho=>by have:=r0.own_lt ho;omega⟩)
  (by rw[Qc];exact⟨⟨e0,U7,fun _ h=>h⟩,fun k hk=>absurd hk (nZ _)⟩) ?_ ?_).mono ?_
 ·intro i W W' U hj hg;rw[Qc] at hj ⊢;cases i with
  |some i=>obtain⟨⟨e',m1,m2⟩,m3⟩:=hj;exact⟨⟨e',m1.grow zl zlt0 hg,m2⟩,m3⟩
  |none=>obtain⟨⟨e',m1,m2⟩,m3⟩:=hj;exact⟨⟨e',m1.grow zl zlt0 hg,m2⟩,m3⟩
 ·intro i W U v hi hj hUb xe;rw[Qc] at hj;obtain⟨⟨e',Cm,hU⟩,CP⟩:=hj;have hy:=run_yield (P:=C.P) (args:=#[v]) Cm.rec_ (by rw[hL];rfl)
  refine⟨Mh,a.tmps.setIfInBounds p1 v,assign,body,by rw[hy,hL];simp,roundIn_of_wpIn trivial ?_⟩;have Aa:w.heap.size+1<W.heap.size:=(Array.getElem?_eq_some_iff.1 Cm.rec_).1;have AM:LY C.P C.N (A6 w L) e0 L (w.heap.size+1) (some (w.heap.size+1)) ⟨(p1,xs.getD i .bad)::tmB,DT i,1⟩ {tmps:=a.tmps.setIfInBounds p1 v,defers:=[]} W e':=by
   refine⟨⟨rfl,by simp[has],⟨rfl,rfl,rfl,lR _,fun _ _ _=>rfl,lR _⟩,e',Cm.hr,⟨rfl,fun b hb=>?_,AB.refl _ _ _,fun _ h=> .inr h⟩,fun t=>?_⟩,Cm.hr,Cm.ext,Cm.z,Cm.own,Cm.os,Cm.tape,Cm.output,Cm.same,Cm.rec_,Cm.drawn⟩
   ·have CO:e'.z b:=hb;rw[Cm.z] at CO;exact tL (zlt0 b CO) Cm.ext.size
   simp only[AC];by_cases ht:p1=t
   ·subst ht;rw[iP rfl,gA,Array.getElem?_setIfInBounds_self_of_lt (by rw[has];exact hp1)];exact .dat _ _ (xe W (UE e'))
   rw[iN ht,gA,Array.getElem?_setIfInBounds_ne ht,<-gA];have:=(tmE t).ext Cm.ext;rw[iP (Ne.symm ht)] at this;exact this
  refine wpIn_mono (AM.step hC.ty R3 zl zlt0 (Mw i hi)) ?_;rintro ex a1 W1 ⟨s1,e1,JX,⟨rfl,tS⟩,G7⟩;have XW:w.heap.size+1<W1.heap.size:=(Array.getElem?_eq_some_iff.1 JX.rec_).1;refine⟨_,run_beginRound JX.rec_ (by rw[hL]),?_⟩;have Ub:=JX.zwr (W':=W1.putObj (w.heap.size+1) (.loop {L with state:= .busy})) (L':={L with state:= .busy}) zl DV (fun b hb=>Fa hb) (World.putObj_heap_same XW) rfl rfl rfl (lR _);refine wpIn_mono (Ub.step hC.ty R3 zl zlt0 tS) ?_;rintro ex a3 W3 ⟨s3,e3,Sy,KM,Yz⟩;have OM:w.heap.size+1<W3.heap.size:=(Array.getElem?_eq_some_iff.1 Sy.rec_).1;have UF:W.heap.size<=W3.heap.size:=Nat.le_trans G7.size (by have:=Yz.size;rw[DV] at this;exact this);have Bj:∀{e2:An} b,e2.z=e0.z->UE e2 b->b≠w.heap.size+1:=fun b hz hu hb=>hu.1 (by rw[hz,hb];exact zl);have old:∀b,b<W.heap.size->U b->UE e3 b/\∀o,(W3.putObj (w.heap.size+1) o).heap[b]?=W.heap[b]?:=fun b hb hu=>by have u1:=G7.un b hb (hU b hu);have b1:b<W1.heap.size:=tL hb G7.size;have n1:=Bj b JX.z u1;have u3:=Yz.un b (by rw[DV];exact b1) u1;refine⟨u3,fun o=>(Fa n1).trans ((Yz.same b (by rw[DV];exact b1) u1).trans ((Fa n1).trans (G7.same b hb (hU b hu))))⟩
  have big:∀{hp:Hp} {e4:An} (L':Loop),Rd (A6 w L) e0 L' (w.heap.size+1) hp W3 e4->∀b,W3.heap.size<=b->UE e4 b:=fun L' h4 b hb=>⟨fun hz=>by rw[h4.z] at hz;have:=zlt0 b hz;have:=h4.ext.size;omega,fun ho=>by have:=h4.hr.own_lt ho;omega⟩;cases ex with
  |normal=>
   obtain⟨q1,q2⟩:=KM;obtain⟨e4,Ss,Yu⟩:=Sy.end_ q2;refine⟨_,_,run_endRound none Sy.rec_,true,rfl,UE e4,by rw[DV];exact UF,fun b hb hu=>⟨Yu b (tL hb UF) (old b hb hu).1,(old b hb hu).2 _⟩,fun b hb=>big _ Ss b (by rw[DV] at hb;exact hb),?_⟩;rw[Qc];refine⟨⟨e4,Ss.zwr zl DV (fun b hb=>Fa hb) ?_ rfl rfl rfl,fun _ h=>h⟩,fun k hk=>?_⟩
   ·rw[World.putObj_heap_same OM,hL];rfl
   by_cases Mn:k=i
   ·rw[Mn];exact q1
   exact CP k oM
  |ret=>obtain⟨q1,q2⟩:=KM;obtain⟨e4,Ss,Yu⟩:=Sy.end_ q2;refine⟨_,_,run_endRound (some .ret) Sy.rec_,false,rfl,UE e4,by rw[DV];exact UF,fun b hb hu=>⟨Yu b (tL hb UF) (old b hb hu).1,(old b hb hu).2 _⟩,fun b hb=>big _ Ss b (by rw[DV] at hb;exact hb),?_⟩;rw[Qc];refine⟨⟨e4,Ss.zwr zl DV (fun b hb=>Fa hb) ?_ rfl rfl rfl,fun _ h=>h⟩,i,hi,q1⟩;rw[World.putObj_heap_same OM,W4,hL];rfl
  |_=>exact KM.elim
 rintro en W' ⟨⟨v,rfl⟩,U,hj⟩;rw[Qc] at hj;rcases hj with ⟨⟨e',Cm,_⟩,CP⟩|⟨⟨e',Cm,_⟩,xA⟩
 ·obtain⟨Lx,RE⟩:∃Lx:Loop,Lx={L with state:= .exhausted}:=⟨_,rfl⟩;have AJ:=run_endLoop (P:=C.P) Cm.rec_ (by rw[hL];simp);rw[<-RE,show L.pending=none by rw[hL]] at AJ;refine⟨none,_,AJ,?_⟩;show c.wpIn Fence.wide 0 C.P _ _ _;refine wpIn_mono (hc CP _ _ _ _ (WX Lx) _ _ (tail _ _ L Lx W' e' Cm BP BX EI _)) ?_;rintro ex a' w' (⟨s',E0,hq⟩|⟨_,hf⟩)
  ·cases ex<;>first|exact hq.elim|skip
   rw[Nw] at E0;exact .inr ⟨rfl,Nx _ _ (Wy hC.ty AK hr.frm (fun b hb=>⟨h1.own_lt hb,h1.own_nz hb⟩) E0 hq)⟩
  exact hf.elim
 obtain⟨Lx,RE⟩:∃Lx:Loop,Lx={Ld with state:= .exhausted}:=⟨_,rfl⟩;have AJ:=run_endLoop (P:=C.P) Cm.rec_ (by rw[W4];simp);rw[<-RE,show Ld.pending=some .ret by rw[W4]] at AJ;refine⟨some .ret,_,AJ,wpIn_ret ?_⟩;have E0:=tail _ _ Ld Lx W' e' Cm Gx Fp IJ (fun _ _=>False);rw[Nw] at E0;exact .inr ⟨rfl,Nx _ _ (Wy hC.ty AK hr.frm (fun b hb=>⟨h1.own_lt hb,h1.own_nz hb⟩) E0 (Xu xA))⟩
theorem Qge {τ:Nm} {s:St} {p1:Nat} {tmB:List (Nat×AV)} (h:∀q∈tmB,q.1≠p1/\q.2=Bw false τ s.hp (AC s.tm q.1)/\B7 false τ s.hp (AC s.tm q.1)/\Bl false τ s.hp (AC s.tm q.1)=[]):
  ∀t,AC tmB t= .bad\/(t≠p1/\AC tmB t=Bw false τ s.hp (AC s.tm t)/\B7 false τ s.hp (AC s.tm t)/\∀d∈Bl false τ s.hp (AC s.tm t),False):=by
 intro t;induction tmB with
 |nil=>exact .inl rfl|cons q l ih=>
  simp only[AC];by_cases ht:q.1=t
  .rw[iP ht];obtain⟨h1,h2,h3,h4⟩:=h q mS;rw[ht] at h1 h2 h3 h4;exact .inr ⟨h1,h2,h3,fun d hd=>by rw[h4] at hd;cases hd⟩
  rw[iN ht];exact ih fun q hq=>h q (mC _ hq)
theorem nW {C:Cx} (τ:Nm) (LB Je:Hp) (tmB:List (Nat×AV)) (fn:Func) {JV So:Hp} {hp':Hp} {r:AV} {fb:FuncId} {caps xs:List AV} {id p1:Nat} {g:Operand} {assign body c:Code} {s:St} {Q:Exit->St->Prop}
  (hC:Cn C T) (DU:C.rd=none) (KC:C.df=[]) (hit:Tj C.P T fb caps xs) (H5:(caps.all SX)=true) (hg:s.ev g= .fn fb caps) (hp1:p1<C.N)
  (hτ1:(τ.map (·.1)).Nodup) (hτ2:(τ.map (·.2.2.1)).Nodup) (hτ0:∀q∈τ,q.2.1=0/\q.1=q.2.2.1) (hpP:A9 false τ s.hp τ) (hpR:AT false τ s.hp τ=[]) (h0:A7 false τ s.hp=LB)
  (OZ:∀q∈tmB,q.1≠p1/\q.2=Bw false τ s.hp (AC s.tm q.1)/\B7 false τ s.hp (AC s.tm q.1)/\Bl false τ s.hp (AC s.tm q.1)=[])
  (BP:A9 false (τ.map fun q=>(q.1,q.2.2.2,q.1,0)) LB (τ.map fun q=>(q.1,q.2.2.2,q.1,0))) (BX:AT false (τ.map fun q=>(q.1,q.2.2.2,q.1,0)) LB (τ.map fun q=>(q.1,q.2.2.2,q.1,0))=[])
  (EI:A7 false (τ.map fun q=>(q.1,q.2.2.2,q.1,0)) LB=JV)
  (Gx:A9 false (τ.map fun q=>(q.1,q.2.2.2,q.1,0)) Je (τ.map fun q=>(q.1,q.2.2.2,q.1,0))) (Fp:AT false (τ.map fun q=>(q.1,q.2.2.2,q.1,0)) Je (τ.map fun q=>(q.1,q.2.2.2,q.1,0))=[])
  (IJ:A7 false (τ.map fun q=>(q.1,q.2.2.2,q.1,0)) Je=So)
  (Nx:∀a' w',Kg C.P fn C.w0 C.e0 hp' r a' w'->C.esc a' w') (sp:Nat->Bool)
  (Mw:∀i,i<xs.length->∀(w:World) (e:An) (rd:Option Nat) (X:Act->World->Prop),Cn ⟨C.P,C.N,w,e,rd,[],X⟩ T->
   BD ⟨C.P,C.N,w,e,rd,[],X⟩ assign (fun ex s1=>ex= .normal/\∀(w:World) (e:An) (rd:Option Nat) (X:Act->World->Prop),Cn ⟨C.P,C.N,w,e,rd,[],X⟩ T->BD ⟨C.P,C.N,w,e,rd,[],X⟩ body (ay (sp i) LB Je) s1) ⟨(p1,xs.getD i .bad)::tmB,LB,1⟩)
  (hc:(∀k,k<xs.length->sp k=false)->∀(w:World) (e:An) (df:List Deferred) (X:Act->World->Prop),Cn ⟨C.P,C.N,w,e,none,df,X⟩ T->BD ⟨C.P,C.N,w,e,none,df,X⟩ c (PH T fn.results.toList hp' r) ⟨s.tm,JV,s.ck⟩)
  (Xu:(∃k,k<xs.length/\sp k=true)->PH T fn.results.toList hp' r .ret ⟨s.tm,So,s.ck⟩):
  Q6 C (.block id (.rangeFunc g #[p1] assign body)) c Q s:=
 nV hC DU KC hit (fun i h=>List.all_eq_true.1 H5 _ (gM h)) hg hp1 τ ⟨hτ1,hτ2⟩ hτ0 hpP (fun d hd=>by rw[hpR] at hd;cases hd) (fun _=>LB) Je h0 tmB (Qge OZ) sp Mw BP (fun d hd=>by rw[BX] at hd;cases hd) EI Gx (fun d hd=>by rw[Fp] at hd;cases hd) IJ fn hp' r Nx hc Xu
end
end Go.Sym
namespace Go.Proofs.YtfcgkbinohibcaaGreatDoor
open Go Go.Sym Go.Proofs.Tryz
def HZ (v:Vw) (k:Int):Nat:=if QD v k=true then(HN k).toNat+1 else 0
def P2 (v:Vw) (k:Int) (n:Nat):List Dh:=(List.range n).map (VA v k)
def Ee (v:Vw):Nat->List Dh
 |0=>[]|j+1=>Ee v j++P2 v (3+j) (HZ v (3+j))
theorem WI (v:Vw) (k:Int) (n:Nat):(P2 v k n).length=n:=by simp[P2]
theorem dA (v:Vw) (j:Nat):(Ee v (j+1)).length=(Ee v j).length+HZ v (3+j):=by rw[Ee,aL,WI]
theorem dB (v:Vw) (j:Nat):∀d,∃r,Ee v (j+d)=Ee v j++r
 |0=>⟨[],sM⟩|d+1=>by obtain⟨r,h⟩:=dB v j d;exact⟨r++P2 v (3+(j+d:Nat)) (HZ v (3+(j+d:Nat))),by rw[<-Nat.add_assoc,Ee,h,List.append_assoc]⟩
theorem qY (v:Vw) {j m:Nat} (hj:j<4) (hm:m<HZ v (3+j)):(Ee v j).length+m<(Ee v 4).length/\(Ee v 4).getD ((Ee v j).length+m) default=VA v (3+j) m:=by
 obtain⟨r,h⟩:=dB v (j+1) (4 - (j+1));have h2:Ee v 4=Ee v j++P2 v (3+j) (HZ v (3+j))++r:=by rw[show j+1+(4 - (j+1))=4 by omega] at h;exact h
 rw[h2];refine⟨by rw[aL,aL,WI];omega,?_⟩;rw[List.append_assoc,gE,List.getElem?_append_right oM,List.getElem?_append_left (by rw[WI];omega)];have e:(Ee v j).length+m - (Ee v j).length=m:=oM;rw[e];simp[P2,hm]
theorem Qes (l:List Dh) (i:Nat) (h:i<(Eu l).length):Tl ((Eu l).getD i .bad):=by
 have h':i<l.length:=by simpa[Eu] using h
 rw[SY h'];refine .inr ⟨_,rfl,fun c hc=>?_⟩;simp only[List.mem_cons,List.not_mem_nil,or_false] at hc;rcases hc with rfl|rfl|rfl<;>trivial
theorem qH (v:Vw) (ht:v.tx=[]\/v.tx.length=10):Tj prog Ad 170 [.P [I v.dv,I v.kd,I v.bg,S (strOf v.tx)]] (Eu (Ee v 4)):=by
 refine lP (N:=27) HP func170 xv4 rfl rfl ntmps170 dM ?_;intro l J hJ hY;repeat first|refine MF ?_|refine UQ ?_|refine SK ?_
 refine ME HP hJ fun w z hC=>?_;refine uR ?_;intro K hK;refine uH ?_;refine hK _ ⟨fun _=>rfl,?_⟩;clear hK K hC w z;refine SK ?_;refine hM (fun j:Nat=>[(0, .lit (.func (.yield l) #[] #[])),(1, .P [I v.dv,I v.kd,I v.bg,S (strOf v.tx)]),(3,I (3+(j:Int)))]) (fun j=>some (Ee v j).length) (fun j=>j<=4) (fun j=>4 - j) 0 (zL _) rfl ⟨rfl,rfl,rfl,rfl,rfl,rfl,trivial⟩ ?_
 intro j hj;refine MF (MF ?_);refine ME HP hJ fun w z hC=>?_;refine uR ?_;intro K hK;refine uH ?_;refine hK _ ⟨fun _=>rfl,?_⟩;clear hK K hC w z;by_cases h4:j<4
 ·refine O6 true (congrArg (fun b=>AV.lit (.bool b)) (dT oM)) (fun _=>UQ ?_) (fun h=>vx0);refine MF (SK (MF ?_));refine ME HP hJ fun w z hC=>?_;refine uR ?_;intro K hK;refine uH ?_;refine hK _ ⟨fun _=>rfl,?_⟩;clear hK K hC w z;refine SK ?_;refine hM (fun m:Nat=>[(0, .lit (.func (.yield l) #[] #[])),(1, .P [I v.dv,I v.kd,I v.bg,S (strOf v.tx)]),(3,I (3+(j:Int))),(4,I (m:Int))]) (fun m=>some ((Ee v j).length+m)) (fun m=>m<=HZ v (3+j)) (fun m=>HZ v (3+j) - m) 0 (zL _) rfl ⟨rfl,rfl,rfl,rfl,rfl,rfl,rfl,rfl,trivial⟩ ?_
  intro m hm;have Qh4:HZ v (3+(j:Int))<=10:=by
   unfold HZ HN;split
   ·split<;>decide
   omega
  refine MF (MF ?_);by_cases Aa:m<HZ v (3+j)
  ·have Ls:QD v (3+j)=true:=by
    unfold HZ at Aa;split at Aa
    ·assumption
    omega
   have XZ:(m:Int)<=HN (3+j):=by
    unfold HZ at Aa;rw[iP Ls] at Aa;have:0<=HN (3+(j:Int)):=by unfold HN;split<;>omega
    omega
   have d0:decide ((m:Int)<=HN (3+j))=true:=dT XZ;have hc:=iz v (3+j);rw[Ls] at hc;refine ME HP hJ fun w z hC=>?_;refine uR ?_;intro K hK;refine xy0 (Y3 _) ?_;first|refine Ap @d0 ?_|exact Aq @d0
   refine xy0 hc ?_;refine uH ?_;refine hK _ ⟨fun _=>rfl,?_⟩;clear hK K hC w z;refine O6 true rfl (fun _=>UQ ?_) (fun h=>vx0);refine MF (SK (MF ?_));obtain⟨T5,tJ⟩:=qY v h4 Aa;have Mz:=QgZ v (3+j) m (fun h3 TY=>by
    have hm9:(m:Int)<=9:=by
     have:HN (3+(j:Int))<=9:=by unfold HN;split<;>omega
     omega
    have wV:v.tx≠[]:=by unfold QD at Ls;rw[iN h3,iN TY] at Ls;simp at Ls;exact Ls.2
    rcases ht with h|h
    ·exact absurd h wV
    omega) (by rcases ht with h|h<;>simp[h])
   refine ym HP hJ (Qes _) hY 5 rfl rfl ?_;intro K hK;simp only[List.take_succ_cons,List.take_zero];refine uS ?_;refine xy0 Mz ?_;refine uH ?_;refine hK _ ⟨fun _=>rfl,rfl,by rw[QQ];exact T5,by rw[SY T5,tJ];rfl,fun b K hK=>?_⟩;simp only[List.drop_succ_cons,List.drop_zero];refine uS ?_;refine uH ?_;refine hK _ ⟨fun _=>rfl,?_⟩;clear hK K;cases b with
   |true=>refine O6 false rfl (fun h=>vx0) (fun _=>UQ ?_);refine ME HP hJ fun w z hC=>?_;refine uR ?_;intro K hK;refine uH ?_;refine hK _ ⟨fun _=>rfl,?_⟩;clear hK K hC w z;exact⟨m+1,Aa,oM,rfl,rfl,rfl,rfl,rfl,rfl,rfl,congrArg I oM,rfl,trivial⟩|false=>refine O6 true rfl (fun _=>yk ?_) (fun h=>vx0);exact⟨.inr rfl, .inr rfl⟩
  have Us:m=HZ v (3+j):=oM;cases Ls:QD v (3+j) with
  |false=>
   have HD:m=0:=by rw[Us,HZ,iN (by rw[Ls];decide)]
   have d0:decide ((m:Int)<=HN (3+j))=true:=dT (by
    have:0<=HN (3+(j:Int)):=by unfold HN;split<;>omega
    omega)
   have hc:=iz v (3+j);rw[Ls] at hc;refine ME HP hJ fun w z hC=>?_;refine uR ?_;intro K hK;refine xy0 (Y3 _) ?_;first|refine Ap @d0 ?_|exact Aq @d0
   refine xy0 hc ?_;refine uH ?_;refine hK _ ⟨fun _=>rfl,?_⟩;clear hK K hC w z;refine O6 false rfl (fun h=>vx0) (fun _=>YM ?_);refine ME HP hJ fun w z hC=>?_;refine uR ?_;intro K hK;refine uH ?_;refine hK _ ⟨fun _=>rfl,?_⟩;clear hK K hC w z;exact⟨j+1,oM,oM,by rw[dA,Us],rfl,rfl,rfl,rfl,congrArg I oM,rfl,trivial⟩
  |true=>
   have d0:decide ((m:Int)<=HN (3+j))=false:=dF (by
    have:0<=HN (3+(j:Int)):=by unfold HN;split<;>omega
    rw[Us,HZ,iP Ls];omega)
   refine ME HP hJ fun w z hC=>?_;refine uR ?_;intro K hK;refine xy0 (Y3 _) ?_;first|refine Ap @d0 ?_|exact Aq @d0
   refine uH ?_;refine hK _ ⟨fun _=>rfl,?_⟩;clear hK K hC w z;refine O6 false rfl (fun h=>vx0) (fun _=>YM ?_);refine ME HP hJ fun w z hC=>?_;refine uR ?_;intro K hK;refine uH ?_;refine hK _ ⟨fun _=>rfl,?_⟩;clear hK K hC w z;exact⟨j+1,oM,oM,by rw[dA,Us],rfl,rfl,rfl,rfl,congrArg I oM,rfl,trivial⟩
 have vk:j=4:=oM;subst vk;refine O6 false (congrArg (fun b=>AV.lit (.bool b)) (dF oM)) (fun h=>vx0) (fun _=>YM ?_);exact⟨.inl rfl, .inl (by rw[QQ])⟩
theorem QgU (v:Vw):Ag prog Ad 123 [] [v.av] [] (.fn 170 [.P [I v.dv,I v.kd,I v.bg,S (strOf v.tx)]]):=by refine Am func123 ntmps123 ?_;intro w e X hC;exact xz5
def Gk (v:Vw) (r:Dh):Int×Bool:=if r=Kb v then(0,true) else if r∈Ee v 4 then(1,true) else(0,false)
theorem jy (a b:Dh):(decide (a.dv=b.dv)&&(a.sn==b.sn&&(decide (a.rd=b.rd)&&true)))=decide (a=b):=by obtain⟨a1,a2,a3⟩:=a;obtain⟨b1,b2,b3⟩:=b;rw[Bool.eq_iff_iff];simp
theorem pK (y:Ly) (p:Pl) (pl:List T3) (r:Dh) (d:Nat) (h:K5 y p) (hd:d<y.D.length) (hr:r.dv=d) (EK:pl.length<=1000) (ht:(E8 y p pl d).tx=[]\/(E8 y p pl d).tx.length=10):
  Ag prog Ad 69 [] [y.av,p.av, .sl (Ai pl) false,r.av] [] (.tup [I (Gk (E8 y p pl d) r).1,B (Gk (E8 y p pl d) r).2]):=by
 have Fm:=y5 y p pl d h hd EK;obtain⟨e1,e2,e3,e4⟩:=h.at_ d hd;have g1:=By hd;have g2:=BF e3;have hn:=h.n;have hs:=h.sl;generalize E8 y p pl d=v at*;have OW:=kN v;have uv:=QgU v;have IC:=qH v ht;obtain⟨rdv,rsn,rrd⟩:=r;simp only at hr;subst hr;generalize M9 y d=n at*;generalize Og y d=k at*;generalize y.D.getD d default=x at*;generalize p.Q.getD n []=sw at*;have d0:=uDf ((d:Int)<0);have d1:=uDf ((y.D.length:Int)<=(d:Int));have d2:=uDf ((n:Int)<0);have d3:=uDf ((p.Q.length:Int)<=(n:Int));have d4:=uDf ((k:Int)<0);have d5:=uDf ((sw.length:Int)<=(k:Int));refine VS (T:=Ad) HP func69 rfl xv4 (by simp[ntmps69]) ?_;intro w e X hX hC;rw[ntmps69];simp only[QU,List.zipIdx,List.map];refine Bg (uI @d0 @d1) ?_;refine xq8 @g1 ?_;refine xq1 (uI @g1 (uI @e1 (uI @e2 (uI @g2 (uI @d2 (uI @d3 (uI @d4 @d5))))))) ?_;refine uF ?_;refine uR ?_;refine xy2 Fm ?_;refine uE ?_;intro K hK;refine xz0 OW ?_;have hq:=jy ⟨d,rsn,rrd⟩ (Kb v);simp only at hq;simp only[hq];refine hK _ ?_;clear hK K;refine GF (fun c=>?_) (fun c=>?_)
 .rw[Gk,iP c];refine xz4 ?_;rw[show f69.results.toList=[.cell 8 3, .cell 9 4] from rfl];exact Bm
 refine BQ ?_;refine aY ?_;refine xz1 uv ?_;first|refine uS ?_|exact uX
 refine nW [(107,0,107,3),(108,0,108,4),(109,0,109,5)] ([(107,some (0, .box [I d,B rsn,S (strOf rrd)])),(108,some (0, .box [I 0])),(109,some (0, .box [B false]))]) ([(107,some (0, .box [I d,B rsn,S (strOf rrd)])),(108,some (0, .box [I 1])),(109,some (0, .box [B true]))]) [(7, .p 107 0 0 0 0),(8, .p 108 0 0 0 0),(9, .p 109 0 0 0 0)] f69 hC rfl rfl (IC) rfl rfl (by dsimp only;decide) ?_ ?_ ?_ ?_ ?_ ?_ ?_ ?_ ?_ rfl ?_ ?_ rfl hX (fun i=>decide ((Ee v 4).getD i default=⟨d,rsn,rrd⟩)) ?_ ?_ ?_;(iterate 11 (focus (first|exact trivial|rfl|omega|(simp only[go_sem,seval,A9,AT,BR,BM,A7,BZ,List.map_cons,List.map_nil,List.mem_cons,List.not_mem_nil,forall_eq_or_imp,forall_eq,and_true,List.append_nil,List.append_assoc]<;>first|trivial|rfl|(simp;done)|omega)|(simp;done))))
 .clear hX hC;intro i hi w e rd X hC;have Ar:i<(Ee v 4).length:=by rw[QQ] at hi;exact hi
  have hg:=SY Ar;have hq:=jy ((Ee v 4).getD i default) ⟨d,rsn,rrd⟩;generalize (Ee v 4).getD i default=z at*;simp only at hq;rw[hg];refine uR ?_;intro K hK;refine uH ?_;refine hK _ ⟨rfl,?_⟩;clear hK K hC;intro w e rd X hC;refine Bg @hq ?_;refine GF (fun c2=>?_) (fun c2=>?_)
  .refine uZ ?_;refine Ay ⟨dT c2,?_⟩;show PI _ .normal _;refine Pj [(107,0,107,0),(108,0,108,0),(109,0,109,0)] ?_ ?_ ?_ ?_ ?_ ?_;(iterate 5 (focus (first|exact trivial|rfl|exact fun _ _=>rfl|(simp only[go_sem,seval,A9,AT,BR,BM,A7,BZ,List.map_cons,List.map_nil,List.mem_cons,List.not_mem_nil,forall_eq_or_imp,forall_eq,and_true,List.append_nil,List.append_assoc]<;>first|trivial|rfl|(simp;done)|omega)|(simp;done))));(simp only[go_sem,seval,A9,AT,BR,BM,A7,BZ,List.map_cons,List.map_nil,List.mem_cons,List.not_mem_nil,forall_eq_or_imp,forall_eq,and_true,List.append_nil,List.append_assoc])
  refine uW ?_;refine⟨dF c2,?_⟩;show PI _ .normal _;refine Pj [(107,0,107,0),(108,0,108,0),(109,0,109,0)] ?_ ?_ ?_ ?_ ?_ ?_;(iterate 5 (focus (first|exact trivial|rfl|exact fun _ _=>rfl|(simp only[go_sem,seval,A9,AT,BR,BM,A7,BZ,List.map_cons,List.map_nil,List.mem_cons,List.not_mem_nil,forall_eq_or_imp,forall_eq,and_true,List.append_nil,List.append_assoc]<;>first|trivial|rfl|(simp;done)|omega)|(simp;done))));(simp only[go_sem,seval,A9,AT,BR,BM,A7,BZ,List.map_cons,List.map_nil,List.mem_cons,List.not_mem_nil,forall_eq_or_imp,forall_eq,and_true,List.append_nil,List.append_assoc])
 .clear hX hC;intro CP w e df X hC;have FN:¬(⟨d,rsn,rrd⟩:Dh)∈Ee v 4:=fun hm=>by obtain⟨i,hi,he⟩:=List.getElem_of_mem hm;have:=oF (CP i (by rw[QQ];exact hi));rw[gE,gG hi] at this;exact this he
  rw[Gk,iN c,iN FN];refine xw8 ?_;rw[show f69.results.toList=[.cell 8 3, .cell 9 4] from rfl];exact Bm
 rintro⟨i,hi,hb⟩;have Ar:i<(Ee v 4).length:=by rw[QQ] at hi;exact hi
 have he:=oT hb;have hm:(⟨d,rsn,rrd⟩:Dh)∈Ee v 4:=by rw[<-he,gE,gG Ar];exact gM Ar
 rw[Gk,iN c,iP hm];simp only[go_sem,seval,A9,AT,BR,BM,A7,BZ,List.map_cons,List.map_nil,List.mem_cons,List.not_mem_nil,forall_eq_or_imp,forall_eq,and_true,List.append_nil,List.append_assoc];show ∃σ D,IT _ f69.results.toList σ D _ _ _;rw[show f69.results.toList=[.cell 8 3, .cell 9 4] from rfl];exact Bm
theorem Kt (kd:Int):Ag prog Ad 85 [] [I kd] [] (B (AN kd)):=by
 refine Am func85 ntmps85 ?_;intro w e X hC;refine uA ?_;by_cases c1:1<=kd
 .have d1:decide (1<=kd)=true:=dT c1;refine xz9 @d1 ?_;try rfl
  simp only[go_sem,seval,AN,d1,Bool.true_and]
 have d1:decide (1<=kd)=false:=dF c1;refine xz9 @d1 ?_;try rfl
 simp only[go_sem,seval,AN,d1,Bool.false_and]
theorem Zz (fs:List Int) (k:Nat) (hn:fs.length<=1000):Ag prog Ad 274 [] [IS fs,I k] [] (I (fs.getD k 0)):=by
 refine Am func274 ntmps274 ?_;intro w e X hC;refine xy1 (fun h=>?_) (fun h=>?_)
 .refine xz3 ?_;try rfl
  rw[gE,List.getElem?_eq_none oM];rfl
 have Aa:k<fs.length:=oM;refine Bg (Ao Aa) ?_;exact uP
def NZ (s:List Int) (k:Nat) (f:Int):Nat:=
 if f=1\/s.getD (k+1) 0≠0 then k
 else if f=2/\k+2<s.length/\s.getD (k+2) 0=0 then k+2 else k+1
theorem Qe5 (s:List Int) (k:Nat) (f:Int) (hs:s.length<=1000) (hk:k+1<s.length):Ag prog Ad 273 [] [IS s,I k,I f] [] (I (NZ s k f)):=by
 have e1:(k:Int)+1=((k+1:Nat):Int):=oM;have e2:(k:Int)+2=((k+2:Nat):Int):=oM;refine Am func273 ntmps273 ?_;intro w e X hC;refine uA ?_;by_cases c1:f=1
 .have d1:decide (f=1)=true:=dT c1;refine xq3 @d1 ?_;try rfl
  rw[NZ,iP (.inl c1)];rfl
 have d1:decide (f=1)=false:=dF c1;by_cases c2:s.getD (k+1) 0=0
 .have d2:decide (¬s.getD (k+1) 0=0)=false:=dF (fun h=>h c2);have c2':¬(f=1\/s.getD (k+1) 0≠0):=fun h=>h.elim c1 (fun h=>h c2);by_cases c3:f=2
  .have d3:decide (f=2)=true:=dT c3;by_cases c4:k+2<s.length
   .have d4:=uDt (((k+2:Nat):Int)<s.length);refine IB (uI @d1 (uI @d2 (uI @d3 (uI @d4 (uI @e1 (uI @e2 (uI (Ao hk) (Ao c4)))))))) ?_;refine GF (fun c5=>?_) (fun c5=>?_)
    .refine xz3 ?_;try rfl
     rw[NZ,iN c2',iP ⟨c3,c4,c5⟩];rfl
    refine xz3 ?_;try rfl
    rw[NZ,iN c2',iN (fun h=>c5 h.2.2)];rfl
   have d4:=uDf (((k+2:Nat):Int)<s.length);refine xq3 (uI @d1 (uI @d2 (uI @d3 (uI @d4 (uI @e1 (uI @e2 (Ao hk))))))) ?_;try rfl
   rw[NZ,iN c2',iN (fun h=>c4 h.2.1)];rfl
  have d3:decide (f=2)=false:=dF c3;refine xq3 (uI @d1 (uI @d2 (uI @d3 (uI @e1 (uI @e2 (Ao hk)))))) ?_;try rfl
  rw[NZ,iN c2',iN (fun h=>c3 h.1)];rfl
 have d2:decide (¬s.getD (k+1) 0=0)=true:=dT c2;refine xq3 (uI @d1 (uI @d2 (uI @e1 (Ao hk)))) ?_;try rfl
 rw[NZ,iP (.inr c2)];rfl
theorem jT (s:List Int) (hn:s.length<=1000):Ag prog Ad 272 [] [IS s] [] (I (GP s)):=by
 refine Am func272 ntmps272 ?_;intro w e X hC;refine xy4 ?_;refine Aw (fun i:Nat×Nat=>⟨[(3,I ((s.take i.2).count 0:Nat)),(6,IS s),(7,I s.length),(8,I i.2)],[],i.1⟩) (fun i=>i.2<=s.length) (fun i=>s.length - i.2) (_,0) (zL _) (Af) ?_;rintro⟨ck,i⟩ hi;simp only at hi;have hc:(s.take i).count 0<=i:=Nat.le_trans List.count_le_length vv2;refine xy1 (fun h=>?_) (fun h=>?_)
 .have Aa:i<s.length:=oM;have e1:=b9 Aa;generalize (s.take i).count 0=c at*;refine Bg (Ao Aa) ?_;refine uW ?_;refine Aj _ rfl (fun e'=>?_) (fun e'=>?_)
  .rw[iP e'] at e1;refine uZ ?_;refine⟨(_,i+1),uO,uO, .of (lR _) Cb (AS @e1)⟩
  rw[iN e'] at e1;refine uZ ?_;refine⟨(_,i+1),uO,uO, .of (lR _) Cb (AS @e1)⟩
 refine At ?_;have Ar:i=s.length:=oM;subst Ar;refine xz3 ?_;try rfl
 rw[List.take_length];rfl
theorem DE (tm:Array Value) (i j:Nat) (v:Value):(tm.setIfInBounds i v).getD j undef=if i=j/\i<tm.size then v else tm.getD j undef:=by
 rw[gA,gA,Array.getElem?_setIfInBounds];by_cases h:i=j
 .subst h;by_cases h2:i<tm.size
  .simp[h2]
  simp[h2]
 simp[h]
section
variable {P:Program} {ops:Array Oper} {Q:Exit->Act->World->Prop} {a:Act} {w w':World} {Ae:List Oper} {o:Oper} {v:Value}
theorem HQ (hg:o.guard=none) (hd:∀c,o.op≠ .defer c) (h:(execOp a.eval o).run P w= .ok (.value v) w') (hn:wpListIn Fence.wide 0 P ops Q Ae (a.put o.dst v) w'):wpListIn Fence.wide 0 P ops Q (o::Ae) a w:=by unfold wpListIn;rw[iP (N0 hg _)];refine⟨fun _ _=>trivial,?_⟩;rw[Oper.semAt_eq _ _ _ hd,h,Oper.uponIn_value];exact hn
end
section
variable {P:Program} {a:Act} {w:World} {dst:Option Tmp} {type:TypeId} {pos:String} {after:Array Edge} {guard:Option (Nat×Bool)}
theorem Tg {x:Operand} {v:Value} (h:a.eval x=v):(execOp a.eval ⟨dst, .move x,type,pos,after,guard⟩).run P w= .ok (.value v) w:=by subst h;rfl
theorem kX {x:Operand} {v:Value} (h:a.eval x=v):(execOp a.eval ⟨dst, .assign x,type,pos,after,guard⟩).run P w= .ok (.value v) w:=by subst h;rfl
theorem Z5 {t:TypeId} {x:Operand} {v0 v:Value} (h:a.eval x=v0) (hl:(Instr.loadAt t v0).run P w= .ok v w):(execOp a.eval ⟨dst, .load t x,type,pos,after,guard⟩).run P w= .ok (.value v) w:=by subst h;exact(GL _ _).trans (by rw[hl];rfl)
theorem Qg6 {t:TypeId} {x y:Operand} {v0 v1 v:Value} (h:a.eval x=v0) (h1:a.eval y=v1) (hl:(Instr.indexAt t v0 v1).run P w= .ok v w):(execOp a.eval ⟨dst, .indexAddr t x y,type,pos,after,guard⟩).run P w= .ok (.value v) w:=by subst h h1;exact(GL _ _).trans (by rw[hl];rfl)
theorem Qg7 {t:TypeId} {x:Operand} {v0 v:Value} (h:a.eval x=v0) (hl:∀ty,(Builtin.len_ #[t] ty #[v0]).run P w= .ok v w):(execOp a.eval ⟨dst, .call {callee:= .builtin .len,args:=#[x],argTypes:=#[t]},type,pos,after,guard⟩).run P w= .ok (.value v) w:=by
 subst h;have e1:(execOp a.eval ⟨dst, .call {callee:= .builtin .len,args:=#[x],argTypes:=#[t]},type,pos,after,guard⟩).run P w=((Builtin.len_ #[t] type #[a.eval x]).run P w).andThen fun v w=> .ok (.value v) w:=by simp[execOp,resolve,invoke,builtin]
 rw[e1,hl];rfl
theorem kY {x y:Operand} {m n:Int} {t u:TypeId} (h:a.eval x= .int .i64 m) (h1:a.eval y= .int .i64 n) (hb:-9223372036854775808<=m - n/\m - n<=9223372036854775807):(execOp a.eval ⟨dst, .binOp .sub t x y u,type,pos,after,guard⟩).run P w= .ok (.value (.int .i64 (m - n))) w:=by simp[execOp,h,h1,eqGuard,binOp,Op.intArith,wrap_i64 hb]
theorem Qg5 {x y:Operand} {m n:Int} {t u:TypeId} (h:a.eval x= .int .i64 m) (h1:a.eval y= .int .i64 n):(execOp a.eval ⟨dst, .binOp .geq t x y u,type,pos,after,guard⟩).run P w= .ok (.value (.bool (decide (n<=m)))) w:=by simp[execOp,h,h1,eqGuard,binOp,Op.intCmp]
theorem Qg9 {x y z:Operand} {ts:Array TypeId} {l fn:Nat} {v1 v2:Value} {tmps:Array Value} {asg bd:Code} (h:a.eval x= .func (.yield l) #[] #[]) (h1:a.eval y=v1) (h2:a.eval z=v2) (hy:(Instr.yield l #[v1,v2]).run P w= .ok (.round l fn tmps asg bd) w):
  (execOp a.eval ⟨dst, .call {callee:= .value x,args:=#[y,z],argTypes:=ts},type,pos,after,guard⟩).run P w= .ok (.round l fn tmps asg bd) w:=by
 simp[execOp,resolve,invoke,Deferred.ofValue,h,h1,h2,hy]
theorem Qg8 {x:Operand} {b:Bool} {t:TypeId} (h:a.eval x= .bool b):(execOp a.eval ⟨dst, .unOp .not t x,type,pos,after,guard⟩).run P w= .ok (.value (.bool (!b))) w:=by simp[execOp,h,Op.unary]
end
theorem oo:VH prog 269:=by
 refine⟨⟨f269,func269,xv4,xv4⟩,?_⟩;intro l bx off xs J W0 C4 eD hJ Mw;have fg:=HP.fits (t:=22) dM;have Ui:=HP.fits (t:=3) dM;obtain⟨d22,Ys,ue⟩:=fg.under;have uf:d22= .slice 3:=ue;subst uf;have rd:∀i W,J i W->∃sv,(Instr.loadAt 22 (.pointer (some ⟨bx,off,none⟩))).run prog W= .ok sv W/\(∀ty,(Builtin.len_ #[22] ty #[sv]).run prog W= .ok (.int .i64 xs.length) W)/\
   ∀j,j<xs.length->∃av,(Instr.indexAt 22 sv (.int .i64 (j:Nat))).run prog W= .ok av W/\(Instr.loadAt 3 av).run prog W= .ok (.int .i64 (xs.getD j 0)) W:=by
  intro i W RC;obtain⟨U,tv⟩:=hJ i W RC;obtain⟨b,o,f,hp,hU,hb,hc,h1,hv⟩:=tv.ptI_inv;cases hp
  have hl:=Va fg W bx off f fun j hj=>hc j (show j<1 from hj);have HJ:=hv 0 sM;refine⟨f 0,?_,?_,?_⟩
  ·rw[hl];rfl
  ·intro ty;rcases HJ.sl_inv with ⟨h0,a,ha⟩|⟨sb,so,cap,k,g,ha,_⟩
   ·have Ry:As xs=[]:=h0;have:xs.length=0:=by rw[<-HL xs,Ry];rfl
    have BV:f 0= .slice a 0 0:=ha;rw[BV,this];simp[Builtin.len_,run_underlying Ys,goInt]
   have BV:f 0= .slice (some ⟨sb,so,none⟩) (As xs).length cap:=ha;rw[BV,HL];simp[Builtin.len_,run_underlying Ys,goInt]
  intro j hj;rcases HJ.sl_inv with ⟨h0,a,ha⟩|⟨sb,so,cap,k,g,ha,hU2,hsb,h3,h4,_,Ck,hk,RR,Cq,NJ⟩
  ·have Ry:As xs=[]:=h0;have:xs.length=0:=by rw[<-HL xs,Ry];rfl
   omega
  have BV:f 0= .slice (some ⟨sb,so,none⟩) (As xs).length cap:=ha;have Co:j<(As xs).length:=by rw[HL];exact hj
  have GV:(As xs)[j].cells=[I (xs.getD j 0)]:=by have:=Ao hj;rw[gE,gG Co] at this;have e2:(As xs)[j]=I (xs.getD j 0):=this;rw[e2];rfl
  have Bi:k=1:=by have:=hk j Co;rw[GV] at this;simpa using this.symm
  subst Bi;refine⟨.pointer (some ⟨sb,so+(j:Int).toNat*(tl Ad 3).size,none⟩),?_,?_⟩
  ·rw[BV];exact Zu Ys Ui sb so _ cap .i64 (j:Nat) oM oM W
  have IE:=Va Ui W sb (so+(j:Int).toNat*(tl Ad 3).size) (fun m=>g (j*1+m)) fun m hm=>by
   have HD:m=0:=by have:m<1:=hm;omega
   subst HD;have:=RR j oM;have e3:so+(j:Int).toNat*(tl Ad 3).size+0=so+j:=by simp[show(tl Ad 3).size=1 from rfl]
   rw[e3,this];simp
  rw[IE];have hg:=NJ j Co 0 (by rw[GV];simp);have:(As xs)[j].cells[0]'(by rw[GV];simp)=I (xs.getD j 0):=by simp only[GV,List.getElem_cons_zero]
  rw[this] at hg;have HB:g (j*1+0)= .int .i64 (xs.getD j 0):=(VR.dat (e:=⟨fun _=>none,fun _=>False,fun _=>none⟩) (G:=fun _=>True) _ _ (hg.mono (U':=UE ⟨fun _=>none,fun _=>False,fun _=>none⟩) (lR _) (fun _ _ _=>⟨id,fun ho=>by
   rcases ho with ⟨_,_,_,h,_⟩|⟨_,_,h,_⟩<;>cases h⟩) fun _ _ _=>rfl)).lit_inv.1
  show Result.ok (g (j*1+0)) W=_;rw[HB]
 refine callsIn_of_wp (F:=Fence.wide) func269 xv4 trivial ?_;obtain⟨Y,hY⟩:∃Y:Value,Y= .func (.yield l) #[] #[]:=⟨_,rfl⟩
 obtain⟨Pt,eG⟩:∃Pt:Value,Pt= .pointer (some ⟨bx,off,none⟩):=⟨_,rfl⟩;rw[<-eG] at rd;rw[<-hY,<-eG];have T0:(#[Y,Pt]++Array.replicate (f269.ntmps - #[Y,Pt].size) undef).size=19/\(#[Y,Pt]++Array.replicate (f269.ntmps - #[Y,Pt].size) undef).getD 0 undef=Y/\(#[Y,Pt]++Array.replicate (f269.ntmps - #[Y,Pt].size) undef).getD 1 undef=Pt:=by rw[ntmps269];refine⟨sM,?_,?_⟩<;>rw[gA,Array.getElem?_append_left sM]<;>rfl
 generalize (#[Y,Pt]++Array.replicate (f269.ntmps - #[Y,Pt].size) undef)=tm at T0
 obtain⟨t1,t2,t3⟩:=T0;have nd:∀{op:Op} {c:Call},op≠ .defer c->op≠ .defer c:=fun h=>h;refine wpIn_seq (wpIn_region_lit ?_);obtain⟨sv,q1,q2,q3⟩:=rd 0 W0 eD;refine HQ rfl vx3 (Z5 (v0:=Pt) t3 q1) ?_;refine HQ rfl vx3 (Qg7 (v0:=sv) xv0 q2) ?_;refine HQ rfl vx3 (kY (m:=xs.length) (n:=1) xv0 rfl oM) ?_;refine HQ rfl vx3 (kX (v:= .int .i64 ((xs.length:Int) - 1)) xv0) ?_;show(Code.block _ _).wpIn Fence.wide 0 prog _ _ _;refine wpIn_block (wpIn_loop (fun a W=>∃i,i<=xs.length/\J i W/\a.defers=[]/\a.tmps.size=19/\a.tmps.getD 0 undef=Y/\a.tmps.getD 1 undef=Pt/\a.tmps.getD 3 undef= .int .i64 ((xs.length:Int) - 1 - i))
  (fun a _=>match a.tmps.getD 3 undef with| .int _ n=>(n+1).toNat|_=>0) ⟨0,zL _,eD,rfl,?_,?_,?_,?_⟩ ?_)
 ·simp[Act.put,t1]
 ·simp only[Act.put,DE,t2];rfl
 ·simp only[Act.put,DE,t3];rfl
 ·simp[Act.put,DE,t1]
 rintro a W ⟨i,hi,RC,hd,s1,s2,s3,s4⟩;clear t1 t2 t3;refine wpIn_seq (wpIn_seq (wpIn_region_lit ?_));refine HQ rfl vx3 (Tg s4) ?_;refine HQ rfl vx3 (Qg5 (m:=(xs.length:Int) - 1 - i) (n:=0) vv0 rfl) ?_;by_cases Aa:i<xs.length
 ·refine wpIn_cond_true ?_ (wpIn_skip ?_)
  ·simp only[Act.put,Act.eval,DE,Array.size_setIfInBounds,s1,s2,s3,s4,Nat.reduceEqDiff,Nat.reduceLT,false_and,true_and,and_self,if_false,if_true,reduceIte];exact congrArg Value.bool vv2
  refine wpIn_seq (wpIn_block (wpIn_seq (wpIn_region_lit ?_)));obtain⟨sv,q1,q2,q3⟩:=rd i W RC;obtain⟨av,q4,q5⟩:=q3 (xs.length - 1 - i) oM;have ei:((xs.length - 1 - i:Nat):Int)=(xs.length:Int) - 1 - i:=oM;rw[ei] at q4;refine HQ rfl vx3 (Tg (v:=Y) vv0) ?_;refine HQ rfl vx3 (Tg (v:= .int .i64 ((xs.length:Int) - 1 - i)) vv0) ?_;refine HQ rfl vx3 (Z5 (v0:=Pt) vv0 q1) ?_;refine HQ rfl vx3 (Tg (v:= .int .i64 ((xs.length:Int) - 1 - i)) vv0) ?_;refine HQ rfl vx3 (Qg6 (v0:=sv) vv0 vv0 q4) ?_;refine HQ rfl vx3 (Z5 (v0:=av) vv0 q5) ?_;obtain⟨fn,tmps,asg,bd,hy,hr⟩:=Mw i W Aa RC;unfold wpListIn;rw[iP (N0 rfl _)];refine⟨fun _ _=>trivial,?_⟩;rw[Oper.semAt_eq _ _ _ vx3,Qg9 (l:=l) (v1:= .int .i64 ((xs.length:Int) - 1 - i)) (v2:= .int .i64 (xs.getD (xs.length - 1 - i) 0)) (by rw[<-hY];simp[Act.put,Act.eval,DE,s1]) vv0 vv0 hy,Oper.uponIn_round];refine⟨fun h=>vx0,hr.mono ?_⟩;rintro en W' ⟨rfl,ta⟩;refine HQ rfl vx3 (Qg8 (b:=true) vv0) ?_;refine wpIn_cond_false (by simp only[Act.put,Act.eval,DE,Array.size_setIfInBounds,s1,s2,s3,s4,Nat.reduceEqDiff,Nat.reduceLT,false_and,true_and,and_self,if_false,if_true,reduceIte,Bool.not_true]) (wpIn_skip ?_);refine wpIn_region_lit ?_;refine HQ rfl vx3 (Tg (v:= .int .i64 ((xs.length:Int) - 1 - i)) vv0) ?_;refine HQ rfl vx3 (kY (m:=(xs.length:Int) - 1 - i) (n:=1) vv0 rfl oM) ?_;refine HQ rfl vx3 (kX (v:= .int .i64 ((xs.length:Int) - 1 - i - 1)) vv0) ?_;simp only[Exit.then];refine And.intro (Exists.intro (i+1) ?_) ?_
  ·refine And.intro oM (And.intro ta (And.intro ?_ (And.intro ?_ (And.intro ?_ (And.intro ?_ ?_)))))
   ·simp only[Act.put];exact hd
   ·simp only[Act.put,Act.eval,DE,Array.size_setIfInBounds,s1,s2,s3,s4,Nat.reduceEqDiff,Nat.reduceLT,false_and,true_and,and_self,if_false,if_true,reduceIte]
   ·simp only[Act.put,Act.eval,DE,Array.size_setIfInBounds,s1,s2,s3,s4,Nat.reduceEqDiff,Nat.reduceLT,false_and,true_and,and_self,if_false,if_true,reduceIte]
   ·simp only[Act.put,Act.eval,DE,Array.size_setIfInBounds,s1,s2,s3,s4,Nat.reduceEqDiff,Nat.reduceLT,false_and,true_and,and_self,if_false,if_true,reduceIte]
   simp only[Act.put,Act.eval,DE,Array.size_setIfInBounds,s1,s2,s3,s4,Nat.reduceEqDiff,Nat.reduceLT,false_and,true_and,and_self,if_false,if_true,reduceIte];exact congrArg (Value.int .i64) oM
  simp only[Act.put,Act.eval,DE,Array.size_setIfInBounds,s1,s2,s3,s4,Nat.reduceEqDiff,Nat.reduceLT,false_and,true_and,and_self,if_false,if_true,reduceIte];omega
 have Ar:i=xs.length:=oM;subst Ar;refine wpIn_cond_false ?_ (wpIn_exit ?_)
 ·simp only[Act.put,Act.eval,DE,Array.size_setIfInBounds,s1,s2,s3,s4,Nat.reduceEqDiff,Nat.reduceLT,false_and,true_and,and_self,if_false,if_true,reduceIte];exact congrArg Value.bool vv2
 simp only[Exit.then,Exit.inBlock,if_true];have E1:f269.results=#[]:=rfl
 exact⟨hd, .tuple #[],by simp[results,E1],⟨_,rfl⟩,RC⟩
end Go.Proofs.YtfcgkbinohibcaaGreatDoor
namespace Go.Plant
def BO:List Int->List Int->Bool->List Int×Int
 |[],_,_=>([],0)|b::r,fs,op=>
  if b=0 then(0::(BO r (fs.drop 1) op).1,(BO r (fs.drop 1) op).2)
  else if r=[] then(if op=true/\fs.getD 0 0≠1 then([0],b) else([b],0))
  else if fs.getD 0 0=1\/r.getD 0 0≠0 then(b::(BO r (fs.drop 1) op).1,(BO r (fs.drop 1) op).2)
  else if fs.getD 0 0=2/\1<r.length/\r.getD 1 0=0 then(0::((BO r (fs.drop 1) op).1.set 1 b),(BO r (fs.drop 1) op).2)
  else(0::((BO r (fs.drop 1) op).1.set 0 b),(BO r (fs.drop 1) op).2)
theorem Tp (s fs:List Int) (op:Bool):(BO s fs op).1.length=s.length:=by
 induction s generalizing fs with
 |nil=>rfl|cons b r ih=>
  rw[BO];split
  .simp[ih]
  split
  .next h=>subst h;split<;>rfl
  split
  .simp[ih]
  split<;>simp[ih]
theorem N6 (r fs:List Int) (op:Bool):BO (0::r) fs op=(0::(BO r (fs.drop 1) op).1,(BO r (fs.drop 1) op).2):=by rw[BO,iP rfl]
theorem TW {r:List Int} (h:r≠[]) (h0:r.getD 0 0=0):∃t,r=0::t:=by
 cases r with
 |nil=>exact absurd rfl h|cons a t=>exact⟨t,by simp at h0;rw[h0]⟩
def nz (s:List Int):List Int:=s.filter fun x=>decide (x≠0)
@[simp] theorem Qim:nz []=[]:=rfl
@[simp] theorem NU (s:List Int):nz (0::s)=nz s:=rfl
theorem Pe {b:Int} (h:b≠0) (s:List Int):nz (b::s)=b::nz s:=by simp[nz,h]
theorem Qap (s t:List Int):nz (s++t)=nz s++nz t:=by simp[nz]
theorem m8 (s fs:List Int) (op:Bool):nz (BO s fs op).1++nz [(BO s fs op).2]=nz s:=by
 induction s generalizing fs with
 |nil=>rfl|cons b r ih=>
  by_cases hb:b=0
  .subst hb;rw[N6];simp only[NU];exact ih _
  rw[BO,iN hb];split
  .next h=>
   subst h;split
   .rfl
   simp[nz,hb]
  next hr=>
  split
  .rw[Pe hb,Pe hb,List.cons_append,ih]
  next h1=>
  have h0:r.getD 0 0=0:=Decidable.byContradiction fun h=>h1 (.inr h);obtain⟨t,rfl⟩:=TW hr h0;split
  .next h2=>
   have ht:t≠[]:=by intro h;subst h;simp at h2
   obtain⟨u,rfl⟩:=TW ht (by simpa using h2.2.2);have:=ih (fs.drop 1);rw[N6,N6] at this ⊢;simp only[NU] at this;simp only[List.set_cons_succ,List.set_cons_zero,NU,Pe hb,List.cons_append];rw[this]
  have:=ih (fs.drop 1);rw[N6] at this ⊢;simp only[NU] at this;simp only[List.set_cons_zero,NU,Pe hb,List.cons_append];rw[this]
theorem m7 (s fs:List Int) (op:Bool) (h:s.getD 0 0=0):(BO s fs op).1.getD 0 0=0:=by
 cases s with
 |nil=>rfl|cons b r=>simp at h;subst h;rw[N6];rfl
theorem aC (s fs:List Int) (op:Bool):
  (BO s fs op).2=if op=true/\fs.getD (s.length - 1) 0≠1 then s.getD (s.length - 1) 0 else 0:=by
 induction s generalizing fs with
 |nil=>simp[BO]|cons b r ih=>
  have hd:r≠[]->(fs.drop 1).getD (r.length - 1) 0=fs.getD ((b::r).length - 1) 0/\r.getD (r.length - 1) 0=(b::r).getD ((b::r).length - 1) 0:=by intro hr;have:0<r.length:=List.length_pos_iff.mpr hr;have e:(b::r).length - 1=(r.length - 1)+1:=vv2;rw[e];exact⟨by simp[gE,Nat.add_comm],by simp[gE]⟩
  by_cases hr:r=[]
  .subst hr;by_cases hb:b=0
   .subst hb;simp[BO]
   rw[BO,iN hb,iP rfl];simp only[List.length_cons,List.length_nil,List.getD_cons_zero];by_cases hc:op=true/\fs.getD 0 0≠1
   .rw[iP hc];simp only[Nat.zero_add,Nat.sub_self,List.getD_cons_zero];rw[iP hc]
   rw[iN hc];simp only[Nat.zero_add,Nat.sub_self];rw[iN hc]
  have:=ih (fs.drop 1);rw[(hd hr).1,(hd hr).2] at this;rw[BO];simp only[iN hr];split
  .exact this
  split
  .exact this
  split<;>exact this
def LP (l:List Int) (i j:Nat):List Int:=(l.set i (l.getD j 0)).set j (l.getD i 0)
def Pv (s:List Int) (k:Nat) (f:Int):Nat:=
 if f=1\/s.getD (k+1) 0≠0 then k
 else if f=2/\k+2<s.length/\s.getD (k+2) 0=0 then k+2 else k+1
def HO (s fs:List Int) (op:Bool) (k:Nat) (o:List Int×Int):List Int×Int:=
 if s.getD k 0=0 then o
 else if k+1<s.length then(LP o.1 k (Pv s k (fs.getD k 0)),o.2)
 else if op=true/\fs.getD k 0≠1 then(o.1.set k 0,s.getD k 0)
 else o
def Ik (s fs:List Int) (op:Bool):Nat->List Int×Int
 |0=>(s,0)|c+1=>HO s fs op (s.length - 1 - c) (Ik s fs op c)
theorem Qfg (l:List Int) (i:Nat):LP l i i=l:=by
 unfold LP;by_cases h:i<l.length
 .simp[gE,gG h]
 rw[List.set_eq_of_length_le vy0,List.set_eq_of_length_le oM]
theorem ZA (a b:List Int) (i:Nat) (x:Int):(a++b).set (a.length+i) x=a++b.set i x:=by
 rw[List.set_append_right _ _ oM];congr 2
 omega
theorem Rx (a b:List Int) (i:Nat):(a++b).getD (a.length+i) 0=b.getD i 0:=by simp[gE,List.getElem?_append_right]
theorem kp (a b:List Int) (i j:Nat):LP (a++b) (a.length+i) (a.length+j)=a++LP b i j:=by simp only[LP,Rx,ZA]
theorem QeJ (a s fs:List Int) (op:Bool) (b:Int) (r:List Int) (hs:s=a++b::r) (o:Int)
  (A:List Int) (hA:A=(BO r (fs.drop (a.length+1)) op).1) (ho:o=(BO r (fs.drop (a.length+1)) op).2):
  HO s fs op a.length (a++b::A,o)=(a++(BO (b::r) (fs.drop a.length) op).1,(BO (b::r) (fs.drop a.length) op).2):=by
 have e0:s.getD a.length 0=b:=by rw[hs];simpa using Rx a (b::r) 0
 have e1:s.getD (a.length+1) 0=r.getD 0 0:=by rw[hs];simpa using Rx a (b::r) 1
 have e2:s.getD (a.length+2) 0=r.getD 1 0:=by rw[hs];simpa using Rx a (b::r) 2
 have el:s.length=a.length+1+r.length:=by rw[hs];simp;omega
 have ef:(fs.drop a.length).getD 0 0=fs.getD a.length 0:=by simp[gE]
 have ed:(fs.drop a.length).drop 1=fs.drop (a.length+1):=sM;rw[BO,ed,<-hA,<-ho,ef];unfold HO;rw[e0];by_cases hb:b=0
 .subst hb;rw[iP rfl,iP rfl]
 rw[iN hb,iN hb];by_cases hr:r=[]
 .subst hr;have:A=[]:=by rw[hA];rfl
  subst this;have:o=0:=by rw[ho];rfl
  subst this;rw[iN (by simp at el;omega),iP rfl];split
  .have:=ZA a [b] 0 0;simp only[Nat.add_zero,List.set_cons_zero] at this;simp only[this]
  rfl
 have hl:0<r.length:=List.length_pos_iff.mpr hr;rw[iP oM,iN hr];unfold Pv;rw[e1,e2,el];by_cases h1:fs.getD a.length 0=1\/r.getD 0 0≠0
 .rw[iP h1,iP h1,Qfg]
 rw[iN h1,iN h1];have h0:r.getD 0 0=0:=Decidable.byContradiction fun h=>h1 (.inr h);obtain⟨t,rfl⟩:=TW hr h0;rw[N6] at hA;by_cases h2:fs.getD a.length 0=2/\1<(0::t).length/\(0::t).getD 1 0=0
 .have ht:t≠[]:=by intro h;subst h;simp at h2
  obtain⟨u,rfl⟩:=TW ht (by simpa using h2.2.2);rw[N6] at hA;rw[iP (by refine⟨h2.1,?_,h2.2.2⟩;have:=h2.2.1;omega),iP h2];have:=kp a (b::A) 0 2;simp only[Nat.add_zero] at this;rw[this,hA];simp[LP]
 rw[iN (by intro h;exact h2 ⟨h.1,by have:=h.2.1;omega,h.2.2⟩),iN h2];have:=kp a (b::A) 0 1;simp only[Nat.add_zero] at this;rw[this,hA];simp[LP]
theorem QeI (s fs:List Int) (op:Bool) (c:Nat) (hc:c<=s.length):
  Ik s fs op c=(s.take (s.length - c)++(BO (s.drop (s.length - c)) (fs.drop (s.length - c)) op).1,(BO (s.drop (s.length - c)) (fs.drop (s.length - c)) op).2):=by
 induction c with
 |zero=>simp[Ik,BO]|succ c ih=>
  have hk:s.length - 1 - c<s.length:=oM;have e1:s.length - c=(s.length - 1 - c)+1:=oM;have e2:s.length - (c+1)=s.length - 1 - c:=oM;rw[Ik,ih oM,e1,e2];generalize Ia:s.length - 1 - c=k at*;have hs:s=s.take k++s[k]::s.drop (k+1):=by rw[<-List.drop_eq_getElem_cons hk,List.take_append_drop]
  have Aa:(s.take k).length=k:=vv2;have ht:s.take (k+1)=s.take k++[s[k]]:=by rw[List.take_add_one];simp[hk]
  have:=QeJ (s.take k) s fs op s[k] (s.drop (k+1)) hs (BO (s.drop (k+1)) (fs.drop ((s.take k).length+1)) op).2 _ rfl rfl;rw[Aa,<-List.drop_eq_getElem_cons hk] at this;rw[ht,List.append_assoc];exact this
theorem QeH (s fs:List Int) (op:Bool):Ik s fs op s.length=BO s fs op:=by rw[QeI _ _ _ _ (lR _)];simp
end Go.Plant
namespace Go.Proofs.YtfcgkbinohibcaaGreatDoor
open Go Go.Sym Go.Proofs.Tryz
open Go.Plant
theorem bF (s:List Int) (h0:0<s.length) (hs:s.length<=1000):Ag prog Ad 183 [] [IS s] [(100,some (1, .own 3 1 (As s)))] (.l 100 1 0 s.length):=by refine Am func183 ntmps183 ?_;intro w e X hC;refine uZ ?_;refine xk1 ?_;rw[show f183.results.toList=[.tmp 2] from rfl];(refine DB [(100,1,105,4)] D4 sM sM sM Bp Bp Bp ?_ ?_;all_goals (first|refine Fb ?_|exact Fc|skip))
theorem QeK {s fs:List Int} {op:Bool} {k:Nat} {o:List Int×Int}:(HO s fs op k o).1.length=o.1.length:=by
 unfold HO;split
 .rfl
 split
 .simp[LP]
 split<;>simp
theorem jN {s fs:List Int} {op:Bool}:∀c,(Ik s fs op c).1.length=s.length
 |0=>rfl|c+1=>by rw[Ik,QeK,jN c]
theorem Qf9 (s:List Int) (k:Nat) (f:Int):NZ s k f=Pv s k f:=rfl
theorem Qga {s:List Int} {k:Nat} {f:Int} (h:k+1<s.length):Pv s k f<s.length:=by
 unfold Pv;split
 .omega
 split<;>omega
theorem QeL (s fs:List Int) (op:Bool) (h0:0<s.length) (hn:fs.length<=1000) (hs:s.length<=1000):
  Ag prog Ad 254 [] [IS s,IS fs,B op] [(100,some (1, .own 3 1 (As (BO s fs op).1)))] (.tup [.l 100 1 0 s.length,I (BO s fs op).2]):=by
 refine Am func254 ntmps254 ?_;intro w e X hC;refine xz8 ?_;intro K hK;refine CL [] [(113,4,100,1)] false ((bF s h0 hs)) Bz Bz Ab Ab Ab Ab Ab Ab Ab Ab Ab Ab Ab Ab Ab Ab Ab ?_;refine DM ?_;refine hK _ ?_;clear hK K;refine uZ ?_;have ei:(s.length:Int) - 1=((s.length:Int) - 1 - ((0:Nat):Int)):=oM;refine uW ?_;refine Aw (fun i:Nat×Nat×Nat=>⟨[(0,IS s),(1,IS fs),(2,B op),(8, .l 113 i.2.2 0 s.length),(9,I (Ik s fs op i.2.1).2),(10,I ((s.length:Int) - 1 - i.2.1))],(113,some (i.2.2, .own 3 1 (As (Ik s fs op i.2.1).1)))::[],i.1⟩) (fun i=>i.2.1<=s.length) (fun i=>s.length - i.2.1) (_,0,_) (zL _) (.of (lR _) (by repeat first|exact AX.nil|refine Jq ?_|(refine AX.cons ?_ ?_;(focus (simp only[go_sem,seval,-Int.reduceNatCast',Ik];done)))) (by repeat first|exact BA.nil|refine Jr ?_|(refine BA.cons ?_ ?_;(focus (simp only[go_sem,seval,-Int.reduceNatCast',<-ei,Ik];done))))) ?_;rintro⟨ck,c,g⟩ hc;simp only at hc;have Gq:=jN (s:=s) (fs:=fs) (op:=op) c;have e1:Ik s fs op (c+1)=HO s fs op (s.length - 1 - c) (Ik s fs op c):=rfl;have efin:c=s.length->Ik s fs op c=BO s fs op:=fun h=>by subst h;exact QeH s fs op
 generalize e9:Ik s fs op c=o at*;refine xy1 (fun h=>?_) (fun h=>?_)
 .have Aa:c<s.length:=oM;obtain⟨k,hk⟩:∃k,k=s.length - 1 - c:=⟨_,rfl⟩;have Ia:(s.length:Int) - 1 - c=k:=oM;have A3:k<s.length:=oM;have e3:(k:Int) - 1=(s.length:Int) - 1 - ((c+1:Nat):Int):=oM;rw[<-hk] at e1;simp only[Ia];by_cases c1:s.getD k 0=0
  .have e2:HO s fs op k o=o:=iP c1;have d1:decide (s.getD k 0=0)=true:=dT c1;refine xq5 (uI (Ao A3) @d1) ?_;refine⟨(_,c+1,g),uO,uO, .of (lR _) (Ax (uI @e1 @e2)) (AS (uI @e1 (uI @e2 @e3)))⟩
  have d1:decide (s.getD k 0=0)=false:=dF c1;by_cases c2:k+1<s.length
  .have e2:HO s fs op k o=(LP o.1 k (Pv s k (fs.getD k 0)),o.2):=by rw[HO,iN c1,iP c2]
   have d2:=uDt ((k:Int)<(s.length:Int) - 1);have ht:=Qga (f:=fs.getD k 0) c2;have Ih:=Qe5 s k (fs.getD k 0) hs c2;rw[Qf9] at Ih;generalize e7:Pv s k (fs.getD k 0)=to at*;have JZ:to<o.1.length:=oM;have OI:k<o.1.length:=oM;refine IB (uI (Ao A3) (uI @d1 @d2)) ?_;refine uR ?_;intro K hK;refine xz0 ((Zz fs k hn)) ?_;refine xz0 Ih ?_;refine hK _ ?_;clear hK K;refine xq2 (uI (Ao JZ) (uI (Ao OI) @Gq)) ?_;refine J8 ?_;refine uW ?_;have e2':HO s fs op k o=((o.1.set k (o.1.getD to 0)).set to (o.1.getD k 0),o.2):=e2;refine⟨(_,c+1,g),uO,uO, .of (lR _) (Ax (uI @e1 @e2')) (AS (uI @e1 (uI @e2' @e3)))⟩
  have d2:=uDf ((k:Int)<(s.length:Int) - 1);cases op with
  |false=>
   have e2:HO s fs false k o=o:=by rw[HO,iN c1,iN c2,iN sM]
   refine xq5 (uI (Ao A3) (uI @d1 @d2)) ?_;refine⟨(_,c+1,g),uO,uO, .of (lR _) (Ax (uI @e1 @e2)) (AS (uI @e1 (uI @e2 @e3)))⟩
  |true=>
   by_cases c3:fs.getD k 0=1
   .have e2:HO s fs true k o=o:=by rw[HO,iN c1,iN c2,iN (fun h=>h.2 c3)]
    have d3:decide (¬fs.getD k 0=1)=false:=dF (fun h=>h c3);refine IB (uI (Ao A3) (uI @d1 @d2)) ?_;refine uR ?_;intro K hK;refine xz0 ((Zz fs k hn)) ?_;first|refine Ap @d3 ?_|exact Aq @d3
    refine hK _ ?_;clear hK K;refine J8 ?_;refine uW ?_;refine⟨(_,c+1,g),uO,uO, .of (lR _) (Ax (uI @e1 @e2)) (AS (uI @e1 (uI @e2 @e3)))⟩
   have e2:HO s fs true k o=(o.1.set k 0,s.getD k 0):=by rw[HO,iN c1,iN c2,iP ⟨rfl,c3⟩]
   have d3:decide (¬fs.getD k 0=1)=true:=dT c3;have OI:k<o.1.length:=oM;refine IB (uI (Ao A3) (uI @d1 @d2)) ?_;refine uR ?_;intro K hK;refine xz0 ((Zz fs k hn)) ?_;first|refine Ap @d3 ?_|exact Aq @d3
   refine hK _ ?_;clear hK K;refine xq5 (uI (Ao A3) @Gq) ?_;refine⟨(_,c+1,g),uO,uO, .of (lR _) (Ax (uI @e1 @e2)) (AS (uI @e1 (uI @e2 @e3)))⟩
 refine At ?_;have Hu:c=s.length:=oM;have e2:=efin Hu;subst e2;refine xz4 ?_;rw[show f254.results.toList=[.tmp 6, .tmp 7] from rfl];(refine DB [(100,1,113,g)] D4 sM sM sM Bp Bp Bp ?_ ?_;all_goals (first|refine Fb ?_|exact Fc|skip))
theorem oq (xs:List Int):Ag prog Ad 250 [] [IS xs] [] (.fn 269 [.P [IS xs]]):=by refine Am func250 ntmps250 ?_;intro w e X hC;exact xz5
theorem ii (x:Nd) (c:Int) (hx:x.ex.length<=1000):Ag prog Ad 116 [] [x.av,I c] [] (B (CM x c)):=by
 refine Am func116 ntmps116 ?_;intro w e X hC;refine uA ?_;have wM (h:x.kd=7):AN x.kd=false:=by rw[AN,h];rfl
 cases c1:AN x.kd with
 |true=>
  have n7:¬x.kd=7:=fun h=>by have:=wM h;rw[c1] at this;cases this
  have e1:CM x c=if c=-1 then decide (¬x.kd=5) else decide (0<=c)&&decide (c<x.ex.length):=by rw[CM,iN n7,c1,iN sM]
  refine uR ?_;intro K hK;refine xz0 ((Kt x.kd)) ?_;first|refine Ap @c1 ?_|exact Aq @c1
  refine hK _ ?_;clear hK K;refine uT ?_;by_cases c2:c=-1
  .have d2:decide (c=-1)=true:=dT c2;have d3:=uDf (0<=c);refine xz9 (uI @d2 @d3) ?_;try rfl
   simp only[go_sem,seval,e1,iP c2,decide_not]
  have d2:decide (c=-1)=false:=dF c2;rw[iN c2] at e1;by_cases c3:0<=c
  .have d3:decide (0<=c)=true:=dT c3;by_cases c4:c<x.ex.length
   .have d4:decide (c<(x.ex.length:Int))=true:=dT c4;refine xz9 (uI @d2 (uI @d3 @d4)) ?_;try rfl
    rw[e1,d3,d4];rfl
   have d4:decide (c<(x.ex.length:Int))=false:=dF c4;refine xz9 (uI @d2 (uI @d3 @d4)) ?_;try rfl
   rw[e1,d3,d4];rfl
  have d3:decide (0<=c)=false:=dF c3;refine xz9 (uI @d2 @d3) ?_;try rfl
  rw[e1,d3];rfl
 |false=>
  refine uR ?_;intro K hK;refine xz0 ((Kt x.kd)) ?_;first|refine Ap @c1 ?_|exact Aq @c1
  refine hK _ ?_;clear hK K;refine uF ?_;by_cases c2:x.kd=7
  .have d2:decide (x.kd=7)=true:=dT c2;have e1:CM x c=(decide (0<=c)&&decide (c<=40)):=by rw[CM,iP c2]
   by_cases c3:0<=c
   .have d3:decide (0<=c)=true:=dT c3;refine xq3 (uI @d2 @d3) ?_;try rfl
    rw[e1,d3];rfl
   have d3:decide (0<=c)=false:=dF c3;refine xq3 (uI @d2 @d3) ?_;try rfl
   rw[e1,d3];rfl
  have d2:decide (x.kd=7)=false:=dF c2;have e1:CM x c=decide (c=0):=by rw[CM,iN c2,c1,iP rfl]
  refine xq3 @d2 ?_;try rfl
  exact Aq @e1
def DK {α:Type} (p:α->Bool) (l:List α):Int:=match l.findIdx? p with|some i=>i|none=>-1
theorem Kr {α:Type} {p:α->Bool} {l:List α} {d:α} {i:Nat} (hi:i<l.length) (h:∀j,j<i->p (l.getD j d)=false) (h2:p (l.getD i d)=true):DK p l=i:=by
 have e1:l.findIdx? p=some i:=by rw[List.findIdx?_eq_some_iff_getElem];refine⟨hi,by simpa[hi] using h2,fun j Ah=>?_⟩;have GX:j<l.length:=oM;simpa[GX] using h j Ah
 rw[DK,e1]
theorem Lf {α:Type} {p:α->Bool} {l:List α} {d:α} (h:∀j,j<l.length->p (l.getD j d)=false):DK p l=-1:=by
 have e1:l.findIdx? p=none:=by rw[List.findIdx?_eq_none_iff];intro x hx;obtain⟨j,Ah,rfl⟩:=List.getElem_of_mem hx;simpa[Ah] using h j oM
 rw[DK,e1]
theorem IK {α:Type} {p:α->Bool} {l:List α}:decide (0<=DK p l)=l.any p:=by
 unfold DK;cases h:l.findIdx? p with
 |none=>
  have:l.any p=false:=by rw[List.findIdx?_eq_none_iff] at h;rw[List.any_eq_false];exact fun x hx=>by simpa using h x hx
  rw[this];rfl
 |some i=>
  have:l.any p=true:=by rw[List.findIdx?_eq_some_iff_getElem] at h;obtain⟨hi,h1,_⟩:=h;exact List.any_eq_true.2 ⟨_,gM hi,h1⟩
  rw[this];simp
theorem gV (l:List Int) (x:Int) (hl:l.length<=1000):Ag prog Ad 149 [] [IS l,I x] [] (I (DK (fun y=>decide (x=y)) l)):=by
 refine Am func149 ntmps149 ?_;intro w e X hC;refine xy4 ?_;refine Aw (fun i:Nat×Nat=>⟨[(1,I x),(0,IS l),(6,IS l),(7,I l.length),(8,I i.2)],[],i.1⟩) (fun i=>i.2<=l.length/\∀j,j<i.2->(fun y=>decide (x=y)) (l.getD j 0)=false) (fun i=>l.length - i.2) (_,0) ⟨zL _,fun j hj=>absurd hj (nZ _)⟩ (Af) ?_;rintro⟨ck,i⟩ ⟨hi,hj⟩;simp only at hi hj;refine xy1 (fun h=>?_) (fun h=>?_)
 .have Aa:i<l.length:=oM
  skip
  cases c1:(fun y=>decide (x=y)) (l.getD i 0) with
  |true=>
   have e1:=Kr (p:=(fun y=>decide (x=y))) (d:=0) Aa hj c1;have d1:=c1;simp only at d1;refine Bg (uI (Ao Aa) @d1) ?_;refine xq4 ?_;try rfl
   exact Aq @e1
  |false=>
   have d1:=c1;simp only at d1;refine Bg (uI (Ao Aa) @d1) ?_;refine xy9 ?_;refine⟨(_,i+1),⟨uO,fun j Ah=>?_⟩,uO,Af⟩;by_cases AF:j=i
   .subst AF;exact c1
   exact hj j vv6
 refine At ?_;have e1:=Lf (l:=l) (p:=(fun y=>decide (x=y))) fun j h=>hj j oM;refine xz3 ?_;try rfl
 exact Aq @e1
theorem TH (l:List Int) (x:Int) (hl:l.length<=1000):Ag prog Ad 87 [] [IS l,I x] [] (B (l.any (fun y=>decide (x=y)))):=by
 refine Am func87 ntmps87 ?_;intro w e X hC;refine xw4 ((gV l x hl)) ?_;try rfl
 exact Aq @IK
def CD (x y:T3):Bool:=decide (x.a=y.a)&&(decide (x.b=y.b)&&(decide (x.c=y.c)&&true))
theorem Wx {x y:T3}:CD x y=true↔x=y:=by
 cases x;cases y
 simp[CD]
theorem xL (l:List T3) (x:T3) (hl:l.length<=1000):Ag prog Ad 282 [] [.sl (Ai l) false,x.av] [] (I (DK (fun y:T3=>CD x y) l)):=by
 refine Am func282 ntmps282 ?_;intro w e X hC;refine xy4 ?_;refine Aw (fun i:Nat×Nat=>⟨[(3, .p 103 1 0 0 0),(0, .sl (Ai l) false),(6, .sl (Ai l) false),(7,I l.length),(8,I i.2)],(103,some (1, .box [I x.a,I x.b,I x.c]))::[],i.1⟩) (fun i=>i.2<=l.length/\∀j,j<i.2->(fun y:T3=>CD x y) (l.getD j default)=false) (fun i=>l.length - i.2) (_,0) ⟨zL _,fun j hj=>absurd hj (nZ _)⟩ (Af) ?_;rintro⟨ck,i⟩ ⟨hi,hj⟩;simp only at hi hj;refine xy1 (fun h=>?_) (fun h=>?_)
 .have Aa:i<l.length:=oM
  skip
  cases c1:(fun y:T3=>CD x y) (l.getD i default) with
  |true=>
   have e1:=Kr (p:=(fun y:T3=>CD x y)) (d:=default) Aa hj c1;have d1:=c1;simp only[CD] at d1;refine uA ?_;refine xq1 (uI (By Aa) @d1) ?_;refine xq4 ?_;try rfl
   exact Aq @e1
  |false=>
   have d1:=c1;simp only[CD] at d1;refine uA ?_;refine xq1 (uI (By Aa) @d1) ?_;refine xy9 ?_;refine⟨(_,i+1),⟨uO,fun j Ah=>?_⟩,uO,Af⟩;by_cases AF:j=i
   .subst AF;exact c1
   exact hj j vv6
 refine At ?_;have e1:=Lf (l:=l) (p:=(fun y:T3=>CD x y)) fun j h=>hj j oM;refine xz3 ?_;try rfl
 exact Aq @e1
theorem bW (l:List T3) (x:T3) (hl:l.length<=1000):Ag prog Ad 268 [] [.sl (Ai l) false,x.av] [] (B (l.any (fun y:T3=>CD x y))):=by
 refine Am func268 ntmps268 ?_;intro w e X hC;refine xw4 ((xL l x hl)) ?_;try rfl
 exact Aq @IK
theorem xK (l:List T3) (x:T3) (hl:l.length<=1000):Ag prog Ad 240 [] [.sl (Ai l) false,x.av] [] (I (DK (fun y:T3=>CD x y) l)):=by
 refine Am func240 ntmps240 ?_;intro w e X hC;refine xy4 ?_;refine Aw (fun i:Nat×Nat=>⟨[(3, .p 103 1 0 0 0),(0, .sl (Ai l) false),(6, .sl (Ai l) false),(7,I l.length),(8,I i.2)],(103,some (1, .box [I x.a,I x.b,I x.c]))::[],i.1⟩) (fun i=>i.2<=l.length/\∀j,j<i.2->(fun y:T3=>CD x y) (l.getD j default)=false) (fun i=>l.length - i.2) (_,0) ⟨zL _,fun j hj=>absurd hj (nZ _)⟩ (Af) ?_;rintro⟨ck,i⟩ ⟨hi,hj⟩;simp only at hi hj;refine xy1 (fun h=>?_) (fun h=>?_)
 .have Aa:i<l.length:=oM
  skip
  cases c1:(fun y:T3=>CD x y) (l.getD i default) with
  |true=>
   have e1:=Kr (p:=(fun y:T3=>CD x y)) (d:=default) Aa hj c1;have d1:=c1;simp only[CD] at d1;refine uA ?_;refine xq1 (uI (By Aa) @d1) ?_;refine xq4 ?_;try rfl
   exact Aq @e1
  |false=>
   have d1:=c1;simp only[CD] at d1;refine uA ?_;refine xq1 (uI (By Aa) @d1) ?_;refine xy9 ?_;refine⟨(_,i+1),⟨uO,fun j Ah=>?_⟩,uO,Af⟩;by_cases AF:j=i
   .subst AF;exact c1
   exact hj j vv6
 refine At ?_;have e1:=Lf (l:=l) (p:=(fun y:T3=>CD x y)) fun j h=>hj j oM;refine xz3 ?_;try rfl
 exact Aq @e1
theorem pI (l:List T3) (x:T3) (hl:l.length<=1000):Ag prog Ad 188 [] [.sl (Ai l) false,x.av] [] (B (l.any (fun y:T3=>CD x y))):=by
 refine Am func188 ntmps188 ?_;intro w e X hC;refine xw4 ((xK l x hl)) ?_;try rfl
 exact Aq @IK
theorem Fs {α:Type} {l:List α} {i:Nat} {d:α} (h:i<l.length):l.getD i d∈l:=by rw[gE,gG h];exact gM h
theorem yf (l:List Int) (k:Nat) (cs:List AV) (p:Int->Bool) (hl:l.length<=1000) (hk:∀y∈l,Ag prog Ad k [] [I y, .P cs] [] (B (p y))):Ag prog Ad 255 [] [IS l, .fn k [.P cs]] [] (I (DK p l)):=by
 refine Am func255 ntmps255 ?_;intro w e X hC;refine xy4 ?_;refine Aw (fun i:Nat×Nat=>⟨[(1, .fn k [.P cs]),(0,IS l),(6,IS l),(7,I l.length),(8,I i.2)],[],i.1⟩) (fun i=>i.2<=l.length/\∀j,j<i.2->p (l.getD j 0)=false) (fun i=>l.length - i.2) (_,0) ⟨zL _,fun j hj=>absurd hj (nZ _)⟩ (Af) ?_;rintro⟨ck,i⟩ ⟨hi,hj⟩;simp only at hi hj;refine xy1 (fun h=>?_) (fun h=>?_)
 .have Aa:i<l.length:=oM;have Bk:=hk (l.getD i 0) (Fs Aa);cases c1:p (l.getD i 0) with
  |true=>
   have e1:=Kr (p:=p) (d:=0) Aa hj c1;rw[c1] at Bk;refine xw0 (Ao Aa) Bk ?_;refine xq4 ?_;try rfl
   exact Aq @e1
  |false=>
   rw[c1] at Bk;refine xw0 (Ao Aa) Bk ?_;refine xy9 ?_;refine⟨(_,i+1),⟨uO,fun j Ah=>?_⟩,uO,Af⟩;by_cases AF:j=i
   .subst AF;exact c1
   exact hj j vv6
 refine At ?_;have e1:=Lf (l:=l) (p:=p) fun j h=>hj j oM;refine xz3 ?_;try rfl
 exact Aq @e1
theorem yd (l:List T3) (k:Nat) (cs:List AV) (p:T3->Bool) (hl:l.length<=1000) (hk:∀y∈l,Ag prog Ad k [] [y.av, .P cs] [] (B (p y))):Ag prog Ad 165 [] [.sl (Ai l) false, .fn k [.P cs]] [] (I (DK p l)):=by
 refine Am func165 ntmps165 ?_;intro w e X hC;refine xy4 ?_;refine Aw (fun i:Nat×Nat=>⟨[(1, .fn k [.P cs]),(0, .sl (Ai l) false),(6, .sl (Ai l) false),(7,I l.length),(8,I i.2)],[],i.1⟩) (fun i=>i.2<=l.length/\∀j,j<i.2->p (l.getD j default)=false) (fun i=>l.length - i.2) (_,0) ⟨zL _,fun j hj=>absurd hj (nZ _)⟩ (Af) ?_;rintro⟨ck,i⟩ ⟨hi,hj⟩;simp only at hi hj;refine xy1 (fun h=>?_) (fun h=>?_)
 .have Aa:i<l.length:=oM;have Bk:=hk (l.getD i default) (Fs Aa);cases c1:p (l.getD i default) with
  |true=>
   have e1:=Kr (p:=p) (d:=default) Aa hj c1;rw[c1] at Bk;refine xw0 (By Aa) Bk ?_;refine xq4 ?_;try rfl
   exact Aq @e1
  |false=>
   rw[c1] at Bk;refine xw0 (By Aa) Bk ?_;refine xy9 ?_;refine⟨(_,i+1),⟨uO,fun j Ah=>?_⟩,uO,Af⟩;by_cases AF:j=i
   .subst AF;exact c1
   exact hj j vv6
 refine At ?_;have e1:=Lf (l:=l) (p:=p) fun j h=>hj j oM;refine xz3 ?_;try rfl
 exact Aq @e1
theorem Qif (l:List T3) (k:Nat) (cs:List AV) (p:T3->Bool) (hl:l.length<=1000) (hk:∀y∈l,Ag prog Ad k [] [y.av, .P cs] [] (B (p y))):Ag prog Ad 117 [] [.sl (Ai l) false, .fn k [.P cs]] [] (B (l.any p)):=by
 refine Am func117 ntmps117 ?_;intro w e X hC;refine xw4 ((yd l k cs p hl hk)) ?_;try rfl
 exact Aq @IK
theorem yi (l:List T3) (k:Nat) (p:T3->Bool) (hl:l.length<=1000) (hk:∀y∈l,Ag prog Ad k [] [y.av] [] (B (p y))):Ag prog Ad 258 [] [.sl (Ai l) false, .fn k []] [] (I (DK p l)):=by
 refine Am func258 ntmps258 ?_;intro w e X hC;refine xy4 ?_;refine Aw (fun i:Nat×Nat=>⟨[(1, .fn k []),(0, .sl (Ai l) false),(6, .sl (Ai l) false),(7,I l.length),(8,I i.2)],[],i.1⟩) (fun i=>i.2<=l.length/\∀j,j<i.2->p (l.getD j default)=false) (fun i=>l.length - i.2) (_,0) ⟨zL _,fun j hj=>absurd hj (nZ _)⟩ (Af) ?_;rintro⟨ck,i⟩ ⟨hi,hj⟩;simp only at hi hj;refine xy1 (fun h=>?_) (fun h=>?_)
 .have Aa:i<l.length:=oM;have Bk:=hk (l.getD i default) (Fs Aa);cases c1:p (l.getD i default) with
  |true=>
   have e1:=Kr (p:=p) (d:=default) Aa hj c1;rw[c1] at Bk;refine xw0 (By Aa) Bk ?_;refine xq4 ?_;try rfl
   exact Aq @e1
  |false=>
   rw[c1] at Bk;refine xw0 (By Aa) Bk ?_;refine xy9 ?_;refine⟨(_,i+1),⟨uO,fun j Ah=>?_⟩,uO,Af⟩;by_cases AF:j=i
   .subst AF;exact c1
   exact hj j vv6
 refine At ?_;have e1:=Lf (l:=l) (p:=p) fun j h=>hj j oM;refine xz3 ?_;try rfl
 exact Aq @e1
theorem yh (l:List Nd) (k:Nat) (cs:List AV) (p:Nd->Bool) (hl:l.length<=1000) (hk:∀y∈l,Ag prog Ad k [] [y.av, .P cs] [] (B (p y))):Ag prog Ad 189 [] [.sl (AA l) false, .fn k [.P cs]] [] (I (DK p l)):=by
 refine Am func189 ntmps189 ?_;intro w e X hC;refine xy4 ?_;refine Aw (fun i:Nat×Nat=>⟨[(1, .fn k [.P cs]),(0, .sl (AA l) false),(6, .sl (AA l) false),(7,I l.length),(8,I i.2)],[],i.1⟩) (fun i=>i.2<=l.length/\∀j,j<i.2->p (l.getD j default)=false) (fun i=>l.length - i.2) (_,0) ⟨zL _,fun j hj=>absurd hj (nZ _)⟩ (Af) ?_;rintro⟨ck,i⟩ ⟨hi,hj⟩;simp only at hi hj;refine xy1 (fun h=>?_) (fun h=>?_)
 .have Aa:i<l.length:=oM;have Bk:=hk (l.getD i default) (Fs Aa);cases c1:p (l.getD i default) with
  |true=>
   have e1:=Kr (p:=p) (d:=default) Aa hj c1;rw[c1] at Bk;refine xw0 (AG Aa) Bk ?_;refine xq4 ?_;try rfl
   exact Aq @e1
  |false=>
   rw[c1] at Bk;refine xw0 (AG Aa) Bk ?_;refine xy9 ?_;refine⟨(_,i+1),⟨uO,fun j Ah=>?_⟩,uO,Af⟩;by_cases AF:j=i
   .subst AF;exact c1
   exact hj j vv6
 refine At ?_;have e1:=Lf (l:=l) (p:=p) fun j h=>hj j oM;refine xz3 ?_;try rfl
 exact Aq @e1
theorem yg (l:List Nd) (k:Nat) (p:Nd->Bool) (hl:l.length<=1000) (hk:∀y∈l,Ag prog Ad k [] [y.av] [] (B (p y))):Ag prog Ad 189 [] [.sl (AA l) false, .fn k []] [] (I (DK p l)):=by
 refine Am func189 ntmps189 ?_;intro w e X hC;refine xy4 ?_;refine Aw (fun i:Nat×Nat=>⟨[(1, .fn k []),(0, .sl (AA l) false),(6, .sl (AA l) false),(7,I l.length),(8,I i.2)],[],i.1⟩) (fun i=>i.2<=l.length/\∀j,j<i.2->p (l.getD j default)=false) (fun i=>l.length - i.2) (_,0) ⟨zL _,fun j hj=>absurd hj (nZ _)⟩ (Af) ?_;rintro⟨ck,i⟩ ⟨hi,hj⟩;simp only at hi hj;refine xy1 (fun h=>?_) (fun h=>?_)
 .have Aa:i<l.length:=oM;have Bk:=hk (l.getD i default) (Fs Aa);cases c1:p (l.getD i default) with
  |true=>
   have e1:=Kr (p:=p) (d:=default) Aa hj c1;rw[c1] at Bk;refine xw0 (AG Aa) Bk ?_;refine xq4 ?_;try rfl
   exact Aq @e1
  |false=>
   rw[c1] at Bk;refine xw0 (AG Aa) Bk ?_;refine xy9 ?_;refine⟨(_,i+1),⟨uO,fun j Ah=>?_⟩,uO,Af⟩;by_cases AF:j=i
   .subst AF;exact c1
   exact hj j vv6
 refine At ?_;have e1:=Lf (l:=l) (p:=p) fun j h=>hj j oM;refine xz3 ?_;try rfl
 exact Aq @e1
theorem pO (l:List Nd) (k:Nat) (p:Nd->Bool) (hl:l.length<=1000) (hk:∀y∈l,Ag prog Ad k [] [y.av] [] (B (p y))):Ag prog Ad 147 [] [.sl (AA l) false, .fn k []] [] (B (l.any p)):=by
 refine Am func147 ntmps147 ?_;intro w e X hC;refine xw4 ((yg l k p hl hk)) ?_;try rfl
 exact Aq @IK
abbrev Df (y:Ly) (ord:List Int):List AV:=[.sl (AA y.U) false, .sl (Ai y.D) false,IS ord]
def IQ (x:Nd) (sl bin:List Int) (c:Int) (fs:List T3) (n:Nat):Int:=
 if x.kd=7 then(if bin.any (fun y=>decide (c=y))=true then 0 else -1)
 else if AN x.kd=false then -1
 else if sl.getD (x.ln.toNat - 1) 0=0\/fs.any (fun y=>CD ⟨1,n,x.ln - 1⟩ y)=true then -1 else c
theorem QgV (y:Ly) (p:Pl) (ord:List Int) (c:Int) (fs:List T3) (n:Nat) (hp:FB y.U p) (hf:fs.length<=1000) (hn:n<y.U.length):
  Ag prog Ad 249 [] [.P (Df y ord),p.av,I n,I c, .sl (Ai fs) false] [] (I (IQ (y.U.getD n default) (p.Q.getD n []) (p.R.getD n []) c fs n)):=by
 have C4:=hp.xl;have Dm:n<p.Q.length:=vk4;have Ut:n<p.R.length:=by rw[hp.bl];exact hn
 have Ej:=hp.row n hn;have Al:=hp.bin n hn;have AK:=hp.ln n hn;have AM:=hp.st n hn;generalize e2:y.U.getD n default=x at*;generalize e3:p.Q.getD n []=sl at*;generalize e4:p.R.getD n []=bin at*;refine Am func249 ntmps249 ?_;intro w e X hC;iterate 2 refine Ac (uI (AG hn) @e2) ?_
 by_cases c1:x.kd=7
 .have d1:decide (x.kd=7)=true:=dT c1;refine IB @d1 ?_;cases c2:bin.any (fun y=>decide (c=y)) with
  |true=>
   have e1:IQ x sl bin c fs n=0:=by rw[IQ,iP c1,iP c2]
   refine Av (uI (BF Ut) @e4) ?_;intro K hK;refine xy0 ((TH bin c oM)) ?_;first|refine Ap @c2 ?_|exact Aq @c2
   refine uH ?_;refine hK _ ?_;clear hK K;refine xq4 ?_;try rfl
   exact Aq @e1
  |false=>
   have e1:IQ x sl bin c fs n=-1:=by rw[IQ,iP c1,iN (by simp[c2])]
   refine Av (uI (BF Ut) @e4) ?_;intro K hK;refine xy0 ((TH bin c oM)) ?_;first|refine Ap @c2 ?_|exact Aq @c2
   refine uH ?_;refine hK _ ?_;clear hK K;refine xy9 ?_;refine uJ ?_;try rfl
   exact Aq @e1
 have d1:decide (x.kd=7)=false:=dF c1;refine IB @d1 ?_;cases c2:AN x.kd with
 |false=>
  have e1:IQ x sl bin c fs n=-1:=by rw[IQ,iN c1,iP c2]
  refine uR ?_;intro K hK;refine xz0 ((Kt x.kd)) ?_;first|refine Ap @c2 ?_|exact Aq @c2
  refine hK _ ?_;clear hK K;refine xq4 ?_;try rfl
  exact Aq @e1
 |true=>
  have BH:=AM c2;obtain⟨q,hq⟩:∃q,q=x.ln.toNat - 1:=⟨_,rfl⟩;have UA:x.ln - 1=(q:Int):=oM;have Ya:q<sl.length:=oM;have e1:IQ x sl bin c fs n=if sl.getD q 0=0\/fs.any (fun y=>CD ⟨1,n,q⟩ y)=true then -1 else c:=by rw[IQ,iN c1,iN (by simp[c2]),<-hq,UA]
  refine uR ?_;intro K hK;refine xz0 ((Kt x.kd)) ?_;first|refine Ap @c2 ?_|exact Aq @c2
  refine hK _ ?_;clear hK K;refine uF ?_;refine Ac @UA ?_;by_cases c3:sl.getD q 0=0
  .have d3:decide (sl.getD q 0=0)=true:=dT c3;rw[iP (.inl c3)] at e1;refine xz2 (uI (BF Dm) (uI @e3 (uI (Ao Ya) @d3))) ?_;refine xq4 ?_;try rfl
   exact Aq @e1
  have d3:decide (sl.getD q 0=0)=false:=dF c3;cases c4:fs.any (fun y=>CD ⟨1,n,q⟩ y) with
  |true=>
   rw[iP (.inr c4)] at e1;refine Av (uI (BF Dm) (uI @e3 (uI (Ao Ya) @d3))) ?_;intro K hK;refine xy0 ((bW fs ⟨1,n,q⟩ hf)) ?_;first|refine Ap @c4 ?_|exact Aq @c4
   refine uH ?_;refine hK _ ?_;clear hK K;refine xq4 ?_;try rfl
   exact Aq @e1
  |false=>
   rw[iN (fun h=>h.elim c3 (fun h=>by rw[c4] at h;cases h))] at e1;refine Av (uI (BF Dm) (uI @e3 (uI (Ao Ya) @d3))) ?_;intro K hK;refine xy0 ((bW fs ⟨1,n,q⟩ hf)) ?_;first|refine Ap @c4 ?_|exact Aq @c4
   refine uH ?_;refine hK _ ?_;clear hK K;refine xy9 ?_;refine uJ ?_;try rfl
   exact Aq @e1
abbrev U (n:Nat):AV:= .lit (.int .u64 (n:Int))
def tz:Nat->Nat->Nat
 |0,_=>0|f+1,S=>if S % 2=1 then 0 else 1+tz f (S / 2)
theorem kI:∀f S,tz f S<=f
 |0,_=>lR _|f+1,S=>by have:=kI f (S / 2);rw[tz];split<;>omega
def MX (S:Int):Int:=Vg .u64 (IntKind.u64.wrap (Tr .u64 S (IntKind.u64.wrap (0 - S))*285870213051353865)) 58
theorem QgL:((List.range 2048).all fun S=>decide (S=0)||(decide (0<=MX S)&&(decide (MX S<64)&&decide (L8.getD (MX S).toNat 0=(tz 11 S:Int)))))=true:=kR
theorem QgM {S:Nat} (h:S<2048) (h0:S≠0):0<=MX S/\MX S<64/\L8.getD (MX S).toNat 0=(tz 11 S:Int):=by
 have:=List.all_eq_true.1 QgL S (List.mem_range.2 h);simp only[Bool.or_eq_true,Bool.and_eq_true,decide_eq_true_eq] at this;rcases this with h|h
 .exact absurd h h0
 exact h
theorem sG:JE Ad.gl 3=some (L8.map fun n=>AV.lit (.int .u8 n)):=rfl
theorem cg:L8.length=64:=rfl
theorem p7 {l:List Int} {k:Nat} (h:k<l.length):(List.drop k (l.map fun n=>AV.lit (.int .u8 n))).getD 0 .bad= .lit (.int .u8 (l.getD k 0)):=by simp[gE,h]
theorem QgK (S:Nat) (h:S<2048) (h0:S≠0):Ag prog Ad 271 [] [U S] [] (I (tz 11 S)):=by
 obtain⟨z1,z2,z3⟩:=QgM h h0;have d1:=uDf ((S:Int)=0);have ez:Vg .u64 (IntKind.u64.wrap (Tr .u64 S (IntKind.u64.wrap (0 - S))*285870213051353865)) 58=MX S:=rfl;have Aa:(MX S).toNat<L8.length:=by rw[cg];omega
 have hw:IntKind.i64.wrap ((tz 11 S:Nat):Int)=(tz 11 S:Nat):=wrap_i64 ⟨oM,by have:=kI 11 S;omega⟩;refine Am func271 ntmps271 ?_;intro w e X hC;iterate 2 refine Ac @d1 ?_
 refine uF ?_;generalize e9:MX S=q at*;refine xz2 (uI @sG (uI @Nat.mul_one (uI @List.length_drop.{0} (uI @cg (uI @ez (uI (p7 Aa) (uI @z3 @hw))))))) ?_;exact uP
theorem kJ (S:Nat) (h:S<2048) (h0:S≠0):Ag prog Ad 252 [] [U S] [] (I (tz 11 S)):=by refine Am func252 ntmps252 ?_;intro w e X hC;refine uA ?_;refine uF ?_;refine xx9 ((QgK S h h0)) ?_;exact uP
def Cw (xs:List Nd) (W:List Int) (n m:Nat):Bool:=decide (m≠n)&&(decide (0<=W.getD m 0)&&decide ((xs.getD m default).ex.getD (W.getD m 0).toNat 0=n))
def CC (xs:List Nd) (W:List Int) (n:Nat):Nat->Nat
 |0=>0|m+1=>if Cw xs W n m=true then CC xs W n m ||| 2^m else CC xs W n m
theorem PU (xs:List Nd) (W:List Int) (n:Nat):∀m,CC xs W n m<2^m
 |0=>by simp[CC]|m+1=>by
  have ih:=PU xs W n m;rw[CC];split
  .exact Nat.or_lt_two_pow (Nat.lt_trans ih (Nat.pow_lt_pow_right oM oM)) (Nat.pow_lt_pow_right oM oM)
  exact Nat.lt_trans ih (Nat.pow_lt_pow_right oM oM)
theorem QgO:∀m:Fin 24,jU .u64 1 (m:Nat)=((2^(m:Nat):Nat):Int):=dM
theorem Vu {a:Nat} (h:a<2^64):IntKind.u64.wrap (a:Int)=a:=by simp only[IntKind.wrap,IntKind.bits,IntKind.signed,Bool.false_and,Bool.false_eq_true,false_and,if_false];omega
theorem u64_or {a b:Nat} (ha:a<2^24) (hb:b<2^24):i8 .u64 a b=((a ||| b:Nat):Int):=by show IntKind.u64.wrap ((BitVec.ofInt 64 (a:Int) ||| BitVec.ofInt 64 (b:Int)).toNat:Nat)=_;rw[BitVec.toNat_or,BitVec.ofInt_natCast,BitVec.ofInt_natCast,BitVec.toNat_ofNat,BitVec.toNat_ofNat,Nat.mod_eq_of_lt oM,Nat.mod_eq_of_lt oM];have:=Nat.or_lt_two_pow ha hb;exact Vu oM
theorem pG (y:Ly) (ord W:List Int) (n:Nat) (hy:y.U.length<=24) (hW:W.length=y.U.length) (hx:∀m,m<y.U.length->0<=W.getD m 0->W.getD m 0<(y.U.getD m default).ex.length):
  Ag prog Ad 251 [] [.P (Df y ord),IS W,I n] [] (U (CC y.U W n W.length)):=by
 refine Am func251 ntmps251 ?_;intro w e X hC;refine xy4 ?_;refine Aw (fun i:Nat×Nat=>⟨[(0, .P (Df y ord)),(2,I n),(7,U (CC y.U W n i.2)),(10,IS W),(11,I W.length),(12,I i.2)],[],i.1⟩) (fun i=>i.2<=W.length) (fun i=>W.length - i.2) (_,0) (zL _) (Af) ?_;rintro⟨ck,m⟩ hm;simp only at hm;refine xy1 (fun h=>?_) (fun h=>?_)
 .have Aa:m<W.length:=oM;have CW:m<y.U.length:=oM;have xt:=hx m CW;have e1:CC y.U W n (m+1)=if Cw y.U W n m=true then CC y.U W n m ||| 2^m else CC y.U W n m:=rfl
  have Cy:=PU y.U W n m;have hp2:2^m<=2^23:=Nat.pow_le_pow_right oM oM;have NH:=QgO ⟨m,oM⟩;have A8:=u64_or (a:=CC y.U W n m) (b:=2^m) oM oM;simp only at NH;refine Ac (Ao Aa) ?_;unfold Cw at e1;generalize W.getD m 0=v at*;generalize e2:y.U.getD m default=x at*;generalize CC y.U W n m=S at*;by_cases c1:m=n
  .have d1:decide (¬(m:Int)=n)=false:=dF oM;rw[iN (by simp[c1])] at e1;refine IB @d1 ?_;refine⟨(_,m+1),uO,uO, .of (lR _) Cb (AS @e1)⟩
  have d1:decide (¬(m:Int)=n)=true:=dT oM;by_cases c2:0<=v
  .have d2:decide (0<=v)=true:=dT c2;obtain⟨k,hk⟩:∃k,k=v.toNat:=⟨_,rfl⟩;have w9:v=(k:Int):=oM;have A3:k<x.ex.length:=by have:=xt c2;omega
   rw[<-hk] at e1;subst w9;by_cases c3:x.ex.getD k 0=n
   .have d3:decide (x.ex.getD k 0=(n:Int))=true:=dT c3;rw[iP (by simp only[dT c1,d2,d3,Bool.and_self])] at e1;refine IB (uI @d1 (uI @d2 (uI @d3 (uI (AG CW) (uI @e2 (uI (Ao A3) (uI @NH @A8))))))) ?_;refine⟨(_,m+1),uO,uO, .of (lR _) Cb (AS @e1)⟩
   have d3:decide (x.ex.getD k 0=(n:Int))=false:=dF c3;rw[iN (by simp only[d3];simp)] at e1;refine IB (uI @d1 (uI @d2 (uI @d3 (uI (AG CW) (uI @e2 (Ao A3)))))) ?_;refine⟨(_,m+1),uO,uO, .of (lR _) Cb (AS @e1)⟩
  have d2:decide (0<=v)=false:=dF c2;rw[iN (by simp only[d2];simp)] at e1;refine IB (uI @d1 @d2) ?_;refine⟨(_,m+1),uO,uO, .of (lR _) Cb (AS @e1)⟩
 refine At ?_;have ND:m=W.length:=oM;subst ND;exact xz5
theorem Qa2 (y:Ly) (p:Pl) (ord:List Int) (n:Nat) (hp:FB y.U p) (hn:n<y.U.length):Ag prog Ad 253 [] [.P (Df y ord),p.av,I n] [] (B (Dy (y.U.getD n default) (p.Q.getD n []))):=by
 have C4:=hp.xl;have Dm:n<p.Q.length:=vk4;have Ej:=hp.row n hn;have AK:=hp.ln n hn;have AM:=hp.st n hn;generalize e2:y.U.getD n default=x at*;generalize e3:p.Q.getD n []=sl at*;refine Am func253 ntmps253 ?_;intro w e X hC;refine uA ?_;cases c1:AN x.kd with
 |false=>
  have e4:Dy x sl=true:=by rw[Dy,c1];rfl
  refine Av (uI (AG hn) @e2) ?_;intro K hK;refine xy0 ((Kt x.kd)) ?_;first|refine Ap @c1 ?_|exact Aq @c1
  refine hK _ ?_;clear hK K;refine xq4 ?_;try rfl
  exact Aq @e4
 |true=>
  have DR:0<sl.length:=by have:=AM c1;omega
  have e4:Dy x sl=(decide (sl.getD 0 0=0)&&(decide (¬x.kd=5)||decide (2<=GP sl))):=by rw[Dy,c1];rfl
  have B8:GP sl<=sl.length:=List.count_le_length;refine Av (uI (AG hn) @e2) ?_;intro K hK;refine xy0 ((Kt x.kd)) ?_;first|refine Ap @c1 ?_|exact Aq @c1
  refine hK _ ?_;clear hK K;refine uF ?_;by_cases c3:x.kd=5
  .have d3:decide (x.kd=5)=true:=dT c3;by_cases c4:GP sl<2
   .have d4:=uDt ((GP sl:Int)<2);have d5:=uDf (2<=GP sl);refine Av (uI (AG hn) (uI @e2 (uI (BF Dm) (uI @e3 @d3)))) ?_;intro K hK;refine xy0 ((jT sl oM)) ?_;first|refine Ap @d4 ?_|exact Aq @d4
    refine uH ?_;refine hK _ ?_;clear hK K;refine xq4 ?_;try rfl
    exact Aq (uI @e4 (uI @d5 (uI @c3 (uI @Bool.or_self @Bool.and_false))))
   have d4:=uDf ((GP sl:Int)<2);have d5:=uDt (2<=GP sl);refine Av (uI (AG hn) (uI @e2 (uI (BF Dm) (uI @e3 @d3)))) ?_;intro K hK;refine xy0 ((jT sl oM)) ?_;first|refine Ap @d4 ?_|exact Aq @d4
   refine uH ?_;refine hK _ ?_;clear hK K;refine uF ?_;refine xz9 (uI (BF Dm) (uI @e3 (uI (Ao DR) @Int.toNat_zero))) ?_;try rfl
   exact Aq (uI @e4 (uI @d5 (uI @Bool.or_true @Bool.and_true)))
  have d3:decide (x.kd=5)=false:=dF c3;refine xz2 (uI (AG hn) (uI @e2 (uI (BF Dm) (uI @e3 @d3)))) ?_;refine uF ?_;refine xz9 (uI (BF Dm) (uI @e3 (uI (Ao DR) @Int.toNat_zero))) ?_;try rfl
  exact Aq (uI @e4 (uI @c3 (uI @Bool.true_or @Bool.and_true)))
theorem qN (y:Ly) (p:Pl) (ord:List Int) (hp:FB y.U p):Ag prog Ad 115 [] [.P (Df y ord),p.av] [] (B true):=by
 have C4:=hp.xl;have C3:=hp.sl;have Al:=hp.bl;have d1:decide (¬(p.Q.length:Int)=y.U.length)=false:=dF oM;have d2:decide (¬(p.R.length:Int)=y.U.length)=false:=dF oM;refine Am func115 ntmps115 ?_;intro w e X hC;refine uA ?_;refine DD (uI @d1 @d2) ?_;refine uF ?_;refine xy4 ?_;refine Aw (fun i:Nat×Nat=>⟨[(3, .p 103 1 0 0 0),(33, .sl (AA y.U) false),(34,I y.U.length),(35,I i.2)],(103,some (1, .box [RS p.Q,RS p.R]))::[],i.1⟩) (fun i=>i.2<=y.U.length) (fun i=>y.U.length - i.2) (_,0) (zL _) (Af) ?_;rintro⟨ck,i⟩ hi;simp only at hi;refine xy1 (fun h=>?_) (fun h=>?_)
 .have Aa:i<y.U.length:=oM;have Dm:i<p.Q.length:=oM;have Ej:=hp.row i Aa;have AK:=hp.ln i Aa;generalize e2:y.U.getD i default=x at*;generalize e3:p.Q.getD i []=sl at*;have d3:decide (¬(sl.length:Int)=x.ln)=false:=dF oM;refine Ac (uI (AG Aa) @e2) ?_;refine DD (uI (BF Dm) (uI @e3 @d3)) ?_;refine xy9 ?_;refine⟨(_,i+1),uO,uO,Af⟩
 refine At ?_;exact xz5
theorem Qb6 (f g:T3):Ag prog Ad 118 [] [g.av, .P [I f.a,I f.b,I f.c]] [] (B (decide (f.b=g.b)&&decide (f.c=g.c))):=by
 refine Am func118 ntmps118 ?_;intro w e X hC;refine uA ?_;by_cases b1:f.b=g.b
 .have d1:decide (f.b=g.b)=true:=dT b1;refine xq3 @d1 ?_;try rfl
  exact Aq (uI @d1 @Bool.true_and)
 have d1:decide (f.b=g.b)=false:=dF b1;refine xq3 @d1 ?_;try rfl
 exact Aq (uI @d1 @Bool.false_and)
theorem nt {α:Type} {p:α->Bool} {l:List α} {d:α} {i:Nat} (h:i<=l.length):(l.take i).any p=(List.range i).any fun k=>p (l.getD k d):=by
 induction i with
 |zero=>simp|succ i ih=>have hi:i<l.length:=oM;rw[List.take_add_one,gG hi,List.any_append,ih oM,List.range_succ,List.any_append];simp[hi]
theorem Qb7 (y:Ly) (ord cs:List Int) (fs:List T3) (hy:y.U.length<=1000) (Dt:cs.length<=1000) (CG:fs.length<=1000) (hex:∀n,n<y.U.length->(y.U.getD n default).ex.length<=500):
  Ag prog Ad 66 [] [.P (Df y ord),IS cs, .sl (Ai fs) false] [] (I (Hf y.U cs fs)):=by
 refine Am func66 ntmps66 ?_;intro w e X hC;refine xy1 (fun c1=>?_) (fun c1=>?_)
 .refine xz3 ?_;try rfl
  rw[Hf,iP oM];rfl
 have c1':¬(cs.length≠y.U.length):=oM;refine xy4 ?_;refine Aw (fun i:Nat×Nat=>⟨[(0, .P (Df y ord)),(2, .sl (Ai fs) false),(22,IS cs),(23,I cs.length),(24,I i.2)],[],i.1⟩) (fun i=>i.2<=cs.length/\∀j,j<i.2->CM (y.U.getD j default) (cs.getD j 0)=true) (fun i=>cs.length - i.2) (_,0) ⟨zL _,fun j hj=>absurd hj (nZ _)⟩ (Af) ?_;rintro⟨ck,i⟩ ⟨hi,hj⟩;simp only at hi hj;refine xy1 (fun h=>?_) (fun h=>?_)
 .have F4:i<cs.length:=oM;have Aa:i<y.U.length:=oM;refine Ac (Ao F4) ?_;cases c2:CM (y.U.getD i default) (cs.getD i 0) with
  |false=>
   refine Av (AG Aa) ?_;intro K hK;refine xy0 ((ii (y.U.getD i default) (cs.getD i 0) xv7)) ?_;first|refine Ap @c2 ?_|exact Aq @c2
   refine uH ?_;refine hK _ ?_;clear hK K;refine J8 ?_;refine uJ ?_;try rfl
   have:JB y.U cs=false:=by rw[JB,List.all_eq_false];exact⟨i,List.mem_range.2 F4,by rw[c2];simp⟩
   rw[Hf,iN c1',iP this];rfl
  |true=>
   refine Av (AG Aa) ?_;intro K hK;refine xy0 ((ii (y.U.getD i default) (cs.getD i 0) xv7)) ?_;first|refine Ap @c2 ?_|exact Aq @c2
   refine uH ?_;refine hK _ ?_;clear hK K;refine J8 ?_;refine⟨(_,i+1),⟨uO,fun j Ah=>?_⟩,uO,Af⟩;by_cases AF:j=i
   .subst AF;exact c2
   exact hj j vv6
 refine At ?_;have c2:JB y.U cs=true:=by rw[JB,List.all_eq_true];intro j Ah;exact hj j vk2
 have c2':¬JB y.U cs=false:=by rw[c2];simp
 clear hj hi h;refine xy1 (fun c3=>?_) (fun c3=>?_)
 .refine xz3 ?_;try rfl
  rw[Hf,iN c1',iN c2',iP oM];rfl
 have c3':¬4<fs.length:=oM;have e0:Hf y.U cs fs=if FC y.U fs≠0 then FC y.U fs else if FY fs=true then 5 else 0:=by rw[Hf,iN c1',iN c2',iN c3']
 rw[e0];refine xy4 ?_;refine Aw (fun i:Nat×Nat=>⟨[(0, .P (Df y ord)),(2, .sl (Ai fs) false),(44, .sl (Ai fs) false),(45,I fs.length),(46,I i.2)],[],i.1⟩) (fun i=>i.2<=fs.length/\FC y.U fs=FC y.U (fs.drop i.2)) (fun i=>fs.length - i.2) (_,0) ⟨zL _,rfl⟩ (Af) ?_;rintro⟨ck,i⟩ ⟨hi,hj⟩;simp only at hi hj;refine xy1 (fun h=>?_) (fun h=>?_)
 .have Aa:i<fs.length:=oM;have e5:=WC (xs:=y.U) Aa;rw[e5] at hj;generalize e3:fs.getD i default=f at*;refine Ac (uI (By Aa) @e3) ?_;by_cases k1:f.a≠1/\f.a≠2
  .have d1:decide (¬f.a=1)=true:=dT k1.1;have d2:decide (¬f.a=2)=true:=dT k1.2;have e6:Lg y.U f=4:=iP k1;rw[e6] at hj;refine xq3 (uI @d1 @d2) ?_;try rfl
   rw[hj];rfl
  have e7:Lg y.U f=if f.b<0\/(y.U.length:Int)<=f.b\/f.c<0\/(y.U.getD f.b.toNat default).ln<=f.c then 1 else 0:=iN k1
  have k2:f.a=1\/f.a=2:=oM;by_cases k3:f.b<0\/(y.U.length:Int)<=f.b\/f.c<0\/(y.U.getD f.b.toNat default).ln<=f.c
  .rw[iP k3] at e7;rw[e7] at hj;by_cases b1:f.b<0
   .rcases k2 with k2|k2
    .refine IB (uI @e3 (uI @k2 @b1)) ?_;refine DD (uI @e3 (uI @k2 @b1)) ?_;refine xq3 @b1 ?_;try rfl
     rw[hj];rfl
    refine IB (uI @e3 (uI @k2 @b1)) ?_;refine DD (uI @e3 (uI @k2 @b1)) ?_;refine xq3 @b1 ?_;try rfl
    rw[hj];rfl
   by_cases b2:(y.U.length:Int)<=f.b
   .rcases k2 with k2|k2
    .refine IB (uI @e3 (uI @k2 (uI @b1 @b2))) ?_;refine DD (uI @e3 (uI @k2 (uI @b1 @b2))) ?_;refine xq3 (uI @b1 @b2) ?_;try rfl
     rw[hj];rfl
    refine IB (uI @e3 (uI @k2 (uI @b1 @b2))) ?_;refine DD (uI @e3 (uI @k2 (uI @b1 @b2))) ?_;refine xq3 (uI @b1 @b2) ?_;try rfl
    rw[hj];rfl
   by_cases b3:f.c<0
   .rcases k2 with k2|k2
    .refine IB (uI @e3 (uI @k2 (uI @b1 (uI @b2 @b3)))) ?_;refine DD (uI @e3 (uI @k2 (uI @b1 (uI @b2 @b3)))) ?_;refine xq3 (uI @b1 (uI @b2 @b3)) ?_;try rfl
     rw[hj];rfl
    refine IB (uI @e3 (uI @k2 (uI @b1 (uI @b2 @b3)))) ?_;refine DD (uI @e3 (uI @k2 (uI @b1 (uI @b2 @b3)))) ?_;refine xq3 (uI @b1 (uI @b2 @b3)) ?_;try rfl
    rw[hj];rfl
   have b4:(y.U.getD f.b.toNat default).ln<=f.c:=oM;have Al:f.b.toNat<y.U.length:=oM;rcases k2 with k2|k2
   .refine IB (uI @e3 (uI @k2 (uI @b1 (uI @b2 (uI @b3 (uI @b4 (AG Al))))))) ?_;refine DD (uI @e3 (uI @k2 (uI @b1 (uI @b2 (uI @b3 (uI @b4 (AG Al))))))) ?_;refine xq3 (uI @b1 (uI @b2 (uI @b3 (uI @b4 (AG Al))))) ?_;try rfl
    rw[hj];rfl
   refine IB (uI @e3 (uI @k2 (uI @b1 (uI @b2 (uI @b3 (uI @b4 (AG Al))))))) ?_;refine DD (uI @e3 (uI @k2 (uI @b1 (uI @b2 (uI @b3 (uI @b4 (AG Al))))))) ?_;refine xq3 (uI @b1 (uI @b2 (uI @b3 (uI @b4 (AG Al))))) ?_;try rfl
   rw[hj];rfl
  rw[iN k3] at e7;rw[e7] at hj;have b1:¬f.b<0:=fun h=>k3 (.inl h);have b2:¬(y.U.length:Int)<=f.b:=fun h=>k3 (.inr (.inl h));have b3:¬f.c<0:=fun h=>k3 (.inr (.inr (.inl h)));have b4:¬(y.U.getD f.b.toNat default).ln<=f.c:=fun h=>k3 (.inr (.inr (.inr h)));have Al:f.b.toNat<y.U.length:=oM;rcases k2 with k2|k2
  .refine IB (uI @e3 (uI @k2 (uI @b1 (uI @b2 (uI @b3 (uI @b4 (AG Al))))))) ?_;refine DD (uI @e3 (uI @k2 (uI @b1 (uI @b2 (uI @b3 (uI @b4 (AG Al))))))) ?_;refine IB (uI @b1 (uI @b2 (uI @b3 (uI @b4 (AG Al))))) ?_;refine⟨(_,i+1),⟨uO,xv8⟩,uO,Af⟩
  refine IB (uI @e3 (uI @k2 (uI @b1 (uI @b2 (uI @b3 (uI @b4 (AG Al))))))) ?_;refine DD (uI @e3 (uI @k2 (uI @b1 (uI @b2 (uI @b3 (uI @b4 (AG Al))))))) ?_;refine IB (uI @b1 (uI @b2 (uI @b3 (uI @b4 (AG Al))))) ?_;refine⟨(_,i+1),⟨uO,xv8⟩,uO,Af⟩
 refine At ?_;have JL:¬FC y.U fs≠0:=by rw[hj,List.drop_eq_nil_of_le oM];simp[FC]
 rw[iN JL];clear hj hi h;refine xy4 ?_;refine Aw (fun i:Nat×Nat=>⟨[(2, .sl (Ai fs) false),(95, .sl (Ai fs) false),(96,I fs.length),(97,I i.2)],[],i.1⟩) (fun i=>i.2<=fs.length/\∀j,j<i.2->((List.range j).any fun k=>decide ((fs.getD j default).b=(fs.getD k default).b)&&decide ((fs.getD j default).c=(fs.getD k default).c))=false) (fun i=>fs.length - i.2) (_,0) ⟨zL _,fun j hj=>absurd hj (nZ _)⟩ (Af) ?_;rintro⟨ck,i⟩ ⟨hi,hj⟩;simp only at hi hj;refine xy1 (fun h=>?_) (fun h=>?_)
 .have Aa:i<fs.length:=oM;have hlen:(fs.take i).length=i:=vv9;have Ns:=Qif (fs.take i) 118 [I (fs.getD i default).a,I (fs.getD i default).b,I (fs.getD i default).c] (fun g=>decide ((fs.getD i default).b=g.b)&&decide ((fs.getD i default).c=g.c)) oM (fun g _=>Qb6 (fs.getD i default) g);rw[nt (d:=default) oM] at Ns;have XO:=hj;refine Ac (By Aa) ?_;cases c4:(List.range i).any fun k=>decide ((fs.getD i default).b=(fs.getD k default).b)&&decide ((fs.getD i default).c=(fs.getD k default).c) with
  |true=>
   rw[c4] at Ns;have hd:FY fs=true:=by rw[FY,List.any_eq_true];exact⟨i,List.mem_range.2 Aa,c4⟩
   refine Av @S6 ?_;refine xy7 Ns ?_;refine J8 ?_;refine uJ ?_;try rfl
   rw[hd];rfl
  |false=>
   rw[c4] at Ns;refine Av @S6 ?_;refine xy7 Ns ?_;refine J8 ?_;refine⟨(_,i+1),⟨uO,fun j Ah=>?_⟩,uO,Af⟩;by_cases AF:j=i
   .subst AF;exact c4
   exact hj j vv6
 refine At ?_;have hd:FY fs=false:=by rw[FY,List.any_eq_false];intro j Ah;rw[hj j vk2];simp
 refine xz3 ?_;try rfl
 rw[hd];rfl
def Fe (xs:List Nd) (p:Pl) (cs:List Int) (fs:List T3) (n:Nat):List Int:=(List.range n).map fun i=>IQ (xs.getD i default) (p.Q.getD i []) (p.R.getD i []) (cs.getD i 0) fs i
theorem kQ (xs:List Nd) (p:Pl) (cs:List Int) (fs:List T3) (n:Nat):(Fe xs p cs fs n).length=n:=by simp[Fe]
theorem Qg0 (xs:List Nd) (p:Pl) (cs:List Int) (fs:List T3) (n:Nat):Fe xs p cs fs (n+1)=Fe xs p cs fs n++[IQ (xs.getD n default) (p.Q.getD n []) (p.R.getD n []) (cs.getD n 0) fs n]:=by simp[Fe,List.range_succ]
theorem kP {xs:List Nd} {p:Pl} {cs:List Int} {fs:List T3} {n m:Nat} (h:m<n):(Fe xs p cs fs n).getD m 0=IQ (xs.getD m default) (p.Q.getD m []) (p.R.getD m []) (cs.getD m 0) fs m:=by simp[Fe,gE,h]
def El (n:Nat):List Int:=List.replicate n (-1)
theorem iI (n:Nat):El (n+1)=El n++[-1]:=by simp[El,List.replicate_succ']
theorem QG (n:Nat):(El n).length=n:=by simp[El]
def Il (W:List Int):Nat->Nat->List Int->List Int
 |0,_,lv=>lv|f+1,S,lv=>if S=0 then lv else Il W f (S &&& (S - 1)) (lv.set (tz 11 S) (W.getD (tz 11 S) 0))
def Ey (x:Nd) (sl:List Int) (w l:Int):Bool:=decide (x.kd=5)&&(decide (0<=w)&&(decide (l<0)&&decide (sl.getD 0 0=0)))
def IZ (xs:List Nd) (p:Pl) (W:List Int) (n:Nat) (s:List Int×List Int):List Int×List Int:=
 let x:=xs.getD n default
 let sl:=p.Q.getD n []
 let ar:=Ey x sl (W.getD n 0) (s.1.getD n 0)
 let lv:=if ar=true then s.1.set n 0 else s.1
 let S:=CC xs W n W.length
 if AN x.kd=false then(Il W S S lv,s.2)
 else if S≠0/\Dy x sl=true/\ar=false then(lv.set (tz 11 S) (W.getD (tz 11 S) 0),s.2.set n (tz 11 S))
 else(lv,s.2)
def C7 (xs:List Nd) (p:Pl) (W ord:List Int):Nat->List Int×List Int
 |0=>(El xs.length,El xs.length)|c+1=>IZ xs p W (ord.getD (ord.length - 1 - c) 0).toNat (C7 xs p W ord c)
def H0 (xs:List Nd) (p:Pl) (W ord:List Int):List Int×List Int:=C7 xs p W ord ord.length
theorem ZV (W:List Int):∀f S lv,(Il W f S lv).length=lv.length
 |0,_,_=>rfl|f+1,S,lv=>by
  rw[Il];split
  .rfl
  rw[ZV W f];simp
theorem WE {xs:List Nd} {p:Pl} {W:List Int} {n:Nat} {s:List Int×List Int}:(IZ xs p W n s).1.length=s.1.length/\(IZ xs p W n s).2.length=s.2.length:=by
 unfold IZ;simp only;have:(if Ey (xs.getD n default) (p.Q.getD n []) (W.getD n 0) (s.1.getD n 0)=true then s.1.set n 0 else s.1).length=s.1.length:=by split<;>simp
 split
 .exact⟨(ZV _ _ _ _).trans this,rfl⟩
 split
 .exact⟨by simpa using this,sM⟩
 exact⟨this,rfl⟩
theorem Rp {xs:List Nd} {p:Pl} {W ord:List Int}:∀c,(C7 xs p W ord c).1.length=xs.length/\(C7 xs p W ord c).2.length=xs.length
 |0=>⟨QG _,QG _⟩|c+1=>by have:=Rp (xs:=xs) (p:=p) (W:=W) (ord:=ord) c;rw[C7];exact⟨WE.1.trans this.1,WE.2.trans this.2⟩
theorem ZX:∀{f S k:Nat},S≠0->S<2^k->k<=f->tz f S<k
 |0,S,k,h0,h,hk=>by have:k=0:=oM;subst this;simp at h;omega|f+1,S,k,h0,h,hk=>by
  have Ck:k≠0:=by rintro rfl;simp at h;omega
  obtain⟨k',rfl⟩:∃k',k=k'+1:=⟨k - 1,oM⟩;rw[tz];split
  .omega
  have:=ZX (f:=f) (S:=S / 2) (k:=k') oM (by rw[Nat.pow_succ] at h;omega) oM;omega
theorem u64_and {a b:Nat} (ha:a<2^24) (hb:b<2^24):Tr .u64 a b=((a &&& b:Nat):Int):=by show IntKind.u64.wrap ((BitVec.ofInt 64 (a:Int) &&& BitVec.ofInt 64 (b:Int)).toNat:Nat)=_;rw[BitVec.toNat_and,BitVec.ofInt_natCast,BitVec.ofInt_natCast,BitVec.toNat_ofNat,BitVec.toNat_ofNat,Nat.mod_eq_of_lt oM,Nat.mod_eq_of_lt oM];have:a &&& b<=a:=Nat.and_le_left;exact Vu oM
theorem qV (y:Ly) (p:Pl) (ord cs:List Int) (fs:List T3) (hp:FB y.U p) (hN:y.U.length<=11) (hc:cs.length=y.U.length) (hf:fs.length<=1000)
  (hx:∀m,m<y.U.length->0<=(Fe y.U p cs fs y.U.length).getD m 0->(Fe y.U p cs fs y.U.length).getD m 0<(y.U.getD m default).ex.length)
  (AR:ord.length<=1000) (Sn:∀i,i<ord.length->0<=ord.getD i 0/\ord.getD i 0<y.U.length):
  Ag prog Ad 210 [] [.P (Df y ord),p.av,IS cs, .sl (Ai fs) false] [] (.agg [IS (H0 y.U p (Fe y.U p cs fs y.U.length) ord).1,IS (H0 y.U p (Fe y.U p cs fs y.U.length) ord).2]):=by
 have C4:=hp.xl;refine VS (T:=Ad) HP func210 rfl xv4 (by simp[ntmps210]) ?_;intro w e X hX hC;rw[ntmps210];simp only[QU,List.zipIdx,List.map];iterate 3 refine uA ?_
 refine PL 301 109 4 3 1 0 dM rfl rfl rfl ?_;first|refine uS ?_|exact uX
 refine PL 302 109 4 3 1 1 dM rfl rfl rfl ?_;first|refine uS ?_|exact uX
 refine PL 303 110 5 3 1 0 dM rfl rfl rfl ?_;first|refine uS ?_|exact uX
 refine xy4 ?_;refine Aw (fun i:Nat×Nat=>⟨[(2,IS cs),(3, .sl (Ai fs) false),(4, .p 104 1 0 0 0),(5, .p 105 2 0 0 0),(8, .p 108 3 0 0 0),(9, .p 109 4 0 0 0),(10, .p 110 5 0 0 0),(23,I y.U.length),(24,I i.2)],
  (109,some (4, .box [.l 301 6 0 i.2, .l 302 7 0 i.2]))::(110,some (5, .box [.l 303 8 0 i.2]))::(301,some (6, .own 3 1 (As (El i.2))))::(302,some (7, .own 3 1 (As (El i.2))))::(303,some (8, .own 3 1 (As (Fe y.U p cs fs i.2))))::
  (108,some (3, .box [.sl [] true, .sl [] true]))::(105,some (2, .box [RS p.Q,RS p.R]))::(104,some (1, .box [.P (Df y ord)]))::[],i.1⟩) (fun i=>i.2<=y.U.length) (fun i=>y.U.length - i.2) (_,0) (zL _) (Af) ?_
 rintro⟨ck,i⟩ hi;simp only at hi;have Dc:=QG i;have LD:=kQ y.U p cs fs i;have e1:=iI i;have e2:=Qg0 y.U p cs fs i;have efi:i=y.U.length->Fe y.U p cs fs i=Fe y.U p cs fs y.U.length/\El i=El y.U.length:=fun h=>by rw[h];exact⟨rfl,rfl⟩
 generalize e8:El i=ng at*;generalize e9:Fe y.U p cs fs i=wn at*;refine xy1 (fun h=>?_) (fun h=>?_)
 .have Aa:i<y.U.length:=oM;have F4:i<cs.length:=oM;refine uA ?_;refine xq2 @Dc ?_;refine CK (uI @LD (Ao F4)) ?_;intro K hK;refine xy0 ((QgV y p ord (cs.getD i 0) fs i hp hf Aa)) ?_;first|refine Ap @LD ?_|exact Aq @LD
  refine uH ?_;refine hK _ ?_;clear hK K;refine uZ ?_;refine⟨(_,i+1),uO,uO, .of (lR _) (Ax (uI @e1 @e2)) A4⟩
 refine At ?_;have Ar:i=y.U.length:=oM;obtain⟨rfl,rfl⟩:=efi Ar;subst Ar;clear hi h e1 e2 efi Dc;generalize e9:Fe y.U p cs fs y.U.length=W at*;refine L3 (s':=⟨[(4, .p 104 1 0 0 0),(5, .p 105 2 0 0 0),(8, .p 108 3 0 0 0),(9, .p 109 4 0 0 0),(10, .p 110 5 0 0 0)],
  (109,some (4, .box [.l 301 6 0 y.U.length, .l 302 7 0 y.U.length]))::(110,some (5, .box [IS W]))::(301,some (6, .own 3 1 (As (El y.U.length))))::(302,some (7, .own 3 1 (As (El y.U.length))))::
  (108,some (3, .box [.sl [] false, .sl [] false]))::(105,some (2, .box [RS p.Q,RS p.R]))::(104,some (1, .box [.P (Df y ord)]))::[],_⟩) (Af) ?_
 refine aY ?_;refine xz1 ((oq ord)) ?_;first|refine uS ?_|exact uX
 refine nU [(109,0,109,4),(301,0,301,6),(302,0,302,7),(110,0,110,5),(105,0,105,2),(104,0,104,1),(108,0,108,3)] (fun i=>[(109,some (0, .box [.l 301 0 0 y.U.length, .l 302 0 0 y.U.length])),(301,some (0, .own 3 1 (As (C7 y.U p W ord i).1))),(302,some (0, .own 3 1 (As (C7 y.U p W ord i).2))),(110,some (0, .box [IS W])),(105,some (0, .box [RS p.Q,RS p.R])),(104,some (0, .box [.P (Df y ord)])),(108,some (0, .box [.sl [] false, .sl [] false]))]) [(4, .p 104 0 0 0 0),(5, .p 105 0 0 0 0),(9, .p 109 0 0 0 0),(10, .p 110 0 0 0 0)] f210 hC rfl rfl oo ?_ rfl (by dsimp only;decide) (fun l tm w K h=>nC l tm w K h) ?_ ?_ ?_ ?_ ?_ ?_ ?_ ?_ ?_ rfl hX ?_ ?_;(iterate 6 (focus (first|exact trivial|rfl|omega|(simp only[go_sem,seval,A9,AT,BR,BM,A7,BZ,List.map_cons,List.map_nil,List.mem_cons,List.not_mem_nil,forall_eq_or_imp,forall_eq,and_true,List.append_nil,List.append_assoc]<;>first|trivial|rfl|(simp;done)|omega)|(simp;done))));(focus (first|exact trivial|rfl|omega|(simp only[go_sem,seval,A9,AT,BR,BM,A7,BZ,List.map_cons,List.map_nil,List.mem_cons,List.not_mem_nil,forall_eq_or_imp,forall_eq,and_true,List.append_nil,List.append_assoc,C7]<;>first|trivial|rfl|(simp;done)|omega)|(simp;done)));(iterate 3 (focus (first|exact trivial|rfl|omega|(simp only[go_sem,seval,A9,AT,BR,BM,A7,BZ,List.map_cons,List.map_nil,List.mem_cons,List.not_mem_nil,forall_eq_or_imp,forall_eq,and_true,List.append_nil,List.append_assoc]<;>first|trivial|rfl|(simp;done)|omega)|(simp;done))))
 .clear hX hC;intro i hi w e rd X hC;have ho:=Sn (ord.length - 1 - i) oM;have e1:C7 y.U p W ord (i+1)=IZ y.U p W (ord.getD (ord.length - 1 - i) 0).toNat (C7 y.U p W ord i):=rfl;have hl:=Rp (xs:=y.U) (p:=p) (W:=W) (ord:=ord) i;obtain⟨n,hn⟩:∃n:Nat,n=(ord.getD (ord.length - 1 - i) 0).toNat:=⟨_,rfl⟩;have Ei:ord.getD (ord.length - 1 - i) 0=(n:Int):=oM;have Dc:n<y.U.length:=oM;rw[<-hn] at e1;simp only[Ei];clear Ei hn ho;generalize C7 y.U p W ord i=st at*;generalize C7 y.U p W ord (i+1)=Cs at*;obtain⟨lv,en⟩:=st;obtain⟨BH,FL⟩:=hl;simp only at BH FL;have Dm:n<p.Q.length:=by rw[hp.sl];exact Dc
  have Lz:n<W.length:=oM;have Si:n<lv.length:=oM;have Ej:=hp.row n Dc;have AK:=hp.ln n Dc;have AM:=hp.st n Dc;have Sm:=Qa2 y p ord n hp Dc;have eW:=pG y ord W n oM LD (fun m hm h0=>hx m hm h0);have TZ:=PU y.U W n W.length;rw[LD] at TZ eW;unfold IZ at e1;simp only[LD] at e1;generalize e2:y.U.getD n default=x at*;generalize e3:p.Q.getD n []=sl at*;generalize e4:W.getD n 0=wn at*;generalize e5:lv.getD n 0=ln at*;generalize e6:CC y.U W n y.U.length=S at*;have tj:S<2^11:=tL TZ (Nat.pow_le_pow_right oM oM);refine uW ?_;refine CE (fun q:Nat=>⟨[(4, .p 104 0 0 0 0),(5, .p 105 0 0 0 0),(9, .p 109 0 0 0 0),(10, .p 110 0 0 0 0),(13,I n),(14,B (Ey x sl wn ln))],(109,some (0, .box [.l 301 0 0 y.U.length, .l 302 0 0 y.U.length]))::(301,some (0, .own 3 1 (As lv)))::(302,some (0, .own 3 1 (As en)))::(110,some (0, .box [IS W]))::(105,some (0, .box [RS p.Q,RS p.R]))::(104,some (0, .box [.P (Df y ord)]))::(108,some (0, .box [.sl [] false, .sl [] false]))::[],q⟩) (fun _=>True) ?_ ?_
  .unfold Ey;by_cases a1:x.kd=5
   .have d1:decide (x.kd=5)=true:=dT a1;have DR:0<sl.length:=by have:=AM (by rw[AN,a1];rfl);omega
    by_cases a2:0<=wn
    .have d2:decide (0<=wn)=true:=dT a2;by_cases a3:ln<0
     .have d3:decide (ln<0)=true:=dT a3;refine xz2 (uI (AG Dc) (uI @e2 (uI @d1 (uI (Ao Lz) (uI @e4 (uI @d2 (uI (Ao Si) (uI @e5 (uI @BH (uI @d3 (uI (BF Dm) (uI @e3 (uI (Ao DR) @Int.toNat_zero))))))))))))) ?_;refine⟨_,trivial, .of (lR _) Cb (AS (uI @d1 (uI @d2 (uI @d3 @Bool.true_and))))⟩
     have d3:decide (ln<0)=false:=dF a3;refine xz2 (uI (AG Dc) (uI @e2 (uI @d1 (uI (Ao Lz) (uI @e4 (uI @d2 (uI (Ao Si) (uI @e5 (uI @BH @d3))))))))) ?_;refine⟨_,trivial, .of (lR _) Cb (AS (uI @d1 (uI @d2 (uI @d3 (uI @Bool.true_and @Bool.false_and)))))⟩
    have d2:decide (0<=wn)=false:=dF a2;refine xz2 (uI (AG Dc) (uI @e2 (uI @d1 (uI (Ao Lz) (uI @e4 @d2))))) ?_;refine⟨_,trivial, .of (lR _) Cb (AS (uI @d1 (uI @d2 (uI @Bool.true_and @Bool.false_and))))⟩
   have d1:decide (x.kd=5)=false:=dF a1;refine xz2 (uI (AG Dc) (uI @e2 @d1)) ?_;refine⟨_,trivial, .of (lR _) Cb (AS (uI @d1 @Bool.false_and))⟩
  intro ck _;generalize Ey x sl wn ln=ar at*;generalize e7:(if ar=true then lv.set n 0 else lv)=lv1 at*;have IE:lv1.length=y.U.length:=by rw[<-e7];split<;>simp[BH]
  refine A5 ?_;refine CE (fun q:Nat=>⟨[(4, .p 104 0 0 0 0),(5, .p 105 0 0 0 0),(9, .p 109 0 0 0 0),(10, .p 110 0 0 0 0),(13,I n),(14,B ar)],(109,some (0, .box [.l 301 0 0 y.U.length, .l 302 0 0 y.U.length]))::(301,some (0, .own 3 1 (As lv1)))::(302,some (0, .own 3 1 (As en)))::(110,some (0, .box [IS W]))::(105,some (0, .box [RS p.Q,RS p.R]))::(104,some (0, .box [.P (Df y ord)]))::(108,some (0, .box [.sl [] false, .sl [] false]))::[],q⟩) (fun _=>True) ?_ ?_
  .cases ar with
   |true=>rw[iP rfl] at e7;refine IB @BH ?_;refine⟨_,trivial, .of (lR _) (Ax @e7) A4⟩|false=>rw[iN sM] at e7;refine J8 ?_;refine uW ?_;refine⟨_,trivial, .of (lR _) (Ax @e7) A4⟩
  intro ck _;refine xx9 eW ?_;cases c1:AN x.kd with
  |false=>
   rw[iP c1] at e1;refine Av (uI (AG Dc) @e2) ?_;intro K hK;refine xy0 ((Kt x.kd)) ?_;first|refine Ap @c1 ?_|exact Aq @c1
   refine hK _ ?_;clear hK K;refine uT ?_;refine uW ?_;refine Aw (fun q:Nat×Nat×List Int×Nat=>⟨[(4, .p 104 0 0 0 0),(5, .p 105 0 0 0 0),(9, .p 109 0 0 0 0),(10, .p 110 0 0 0 0),(13,I n),(15,U q.2.1)],(109,some (0, .box [.l 301 0 0 y.U.length, .l 302 0 0 y.U.length]))::(301,some (0, .own 3 1 (As q.2.2.1)))::(302,some (0, .own 3 1 (As en)))::(110,some (0, .box [IS W]))::(105,some (0, .box [RS p.Q,RS p.R]))::(104,some (0, .box [.P (Df y ord)]))::(108,some (0, .box [.sl [] false, .sl [] false]))::[],q.1⟩)
    (fun q=>q.2.1<2^y.U.length/\q.2.1<=q.2.2.2/\Il W q.2.2.2 q.2.1 q.2.2.1=Il W S S lv1/\q.2.2.1.length=y.U.length) (fun q=>q.2.1) (_,S,lv1,S) ⟨TZ,lR _,rfl,IE⟩ (Af) ?_
   rintro⟨ck,S',YU,f⟩ ⟨g1,g2,g3,g4⟩;simp only at g1 g2 g3 g4;have W8:S'<2^11:=tL g1 (Nat.pow_le_pow_right oM oM);refine xy1 (fun h=>?_) (fun h=>?_)
   .have h0:S'≠0:=oM;have hm:=ZX (f:=11) h0 g1 hN;have Yr:=kJ S' W8 h0;obtain⟨f',rfl⟩:∃f',f=f'+1:=⟨f - 1,oM⟩;rw[Il,iN h0] at g3;generalize tz 11 S'=m at*;have X1:m<W.length:=oM;have Gw:m<YU.length:=oM;have Ym:IntKind.u64.wrap ((S':Int) - 1)=((S' - 1:Nat):Int):=by have:=Vu (a:=S' - 1) oM;rw[<-this];congr 1;omega
    have hand:=u64_and (a:=S') (b:=S' - 1) oM oM;refine xx9 Yr ?_;refine xq2 (uI (Ao X1) (uI (Ao Gw) @g4)) ?_;refine Bg (uI @Ym @hand) ?_;have hle:S' &&& (S' - 1)<=S' - 1:=Nat.and_le_right;refine⟨(_,S' &&& (S' - 1),YU.set m (W.getD m 0),f'),⟨uO,uO,g3,by simp only[List.length_set];exact g4⟩,uO,Af⟩
   refine At ?_;have h0:S'=0:=oM;subst h0;have e8:YU=Il W S S lv1:=by
    rw[<-g3];cases f with
    |zero=>rfl|succ f=>rw[Il,iP rfl]
   rw[<-e8] at e1;refine Pj [(109,0,109,0),(301,0,301,0),(302,0,302,0),(110,0,110,0),(105,0,105,0),(104,0,104,0),(108,0,108,0)] ?_ ?_ ?_ ?_ ?_ ?_;(iterate 5 (focus (first|exact trivial|rfl|exact fun _ _=>rfl|(simp only[go_sem,seval,A9,AT,BR,BM,A7,BZ,List.map_cons,List.map_nil,List.mem_cons,List.not_mem_nil,forall_eq_or_imp,forall_eq,and_true,List.append_nil,List.append_assoc,e1]<;>first|trivial|rfl|(simp;done)|omega)|(simp;done))));(simp only[go_sem,seval,A9,AT,BR,BM,A7,BZ,List.map_cons,List.map_nil,List.mem_cons,List.not_mem_nil,forall_eq_or_imp,forall_eq,and_true,List.append_nil,List.append_assoc,e1])
  |true=>
   rw[iN (by simp[c1])] at e1;refine Av (uI (AG Dc) @e2) ?_;intro K hK;refine xy0 ((Kt x.kd)) ?_;first|refine Ap @c1 ?_|exact Aq @c1
   refine hK _ ?_;clear hK K;refine uF ?_;by_cases s1:S=0
   .have d1:decide (¬(S:Int)=0)=false:=dF oM;rw[iN (fun h=>h.1 s1)] at e1;refine xz2 @d1 ?_;refine xq9 ?_;refine Pj [(109,0,109,0),(301,0,301,0),(302,0,302,0),(110,0,110,0),(105,0,105,0),(104,0,104,0),(108,0,108,0)] ?_ ?_ ?_ ?_ ?_ ?_;(iterate 5 (focus (first|exact trivial|rfl|exact fun _ _=>rfl|(simp only[go_sem,seval,A9,AT,BR,BM,A7,BZ,List.map_cons,List.map_nil,List.mem_cons,List.not_mem_nil,forall_eq_or_imp,forall_eq,and_true,List.append_nil,List.append_assoc,e1]<;>first|trivial|rfl|(simp;done)|omega)|(simp;done))));(simp only[go_sem,seval,A9,AT,BR,BM,A7,BZ,List.map_cons,List.map_nil,List.mem_cons,List.not_mem_nil,forall_eq_or_imp,forall_eq,and_true,List.append_nil,List.append_assoc,e1])
   have d1:decide (¬(S:Int)=0)=true:=dT oM;cases s2:Dy x sl with
   |false=>rw[iN (fun h=>by rw[s2] at h;cases h.2.1)] at e1;rw[s2] at Sm;refine Av @d1 ?_;refine xy2 Sm ?_;refine xq9 ?_;refine Pj [(109,0,109,0),(301,0,301,0),(302,0,302,0),(110,0,110,0),(105,0,105,0),(104,0,104,0),(108,0,108,0)] ?_ ?_ ?_ ?_ ?_ ?_;(iterate 5 (focus (first|exact trivial|rfl|exact fun _ _=>rfl|(simp only[go_sem,seval,A9,AT,BR,BM,A7,BZ,List.map_cons,List.map_nil,List.mem_cons,List.not_mem_nil,forall_eq_or_imp,forall_eq,and_true,List.append_nil,List.append_assoc,e1]<;>first|trivial|rfl|(simp;done)|omega)|(simp;done))));(simp only[go_sem,seval,A9,AT,BR,BM,A7,BZ,List.map_cons,List.map_nil,List.mem_cons,List.not_mem_nil,forall_eq_or_imp,forall_eq,and_true,List.append_nil,List.append_assoc,e1])
   |true=>
    rw[s2] at Sm;cases ar with
    |true=>rw[iN (fun h=>by cases h.2.2)] at e1;refine Av @d1 ?_;refine xy2 Sm ?_;refine xq9 ?_;refine Pj [(109,0,109,0),(301,0,301,0),(302,0,302,0),(110,0,110,0),(105,0,105,0),(104,0,104,0),(108,0,108,0)] ?_ ?_ ?_ ?_ ?_ ?_;(iterate 5 (focus (first|exact trivial|rfl|exact fun _ _=>rfl|(simp only[go_sem,seval,A9,AT,BR,BM,A7,BZ,List.map_cons,List.map_nil,List.mem_cons,List.not_mem_nil,forall_eq_or_imp,forall_eq,and_true,List.append_nil,List.append_assoc,e1]<;>first|trivial|rfl|(simp;done)|omega)|(simp;done))));(simp only[go_sem,seval,A9,AT,BR,BM,A7,BZ,List.map_cons,List.map_nil,List.mem_cons,List.not_mem_nil,forall_eq_or_imp,forall_eq,and_true,List.append_nil,List.append_assoc,e1])
    |false=>rw[iP ⟨s1,s2,rfl⟩] at e1;have hm:=ZX (f:=11) s1 TZ hN;have Yr:=kJ S tj s1;generalize tz 11 S=m at*;have X1:m<W.length:=oM;have Gw:m<lv1.length:=oM;refine Av @d1 ?_;refine xy2 Sm ?_;refine uT ?_;refine xx9 Yr ?_;refine xq2 (uI (Ao X1) (uI (Ao Gw) (uI @IE @FL))) ?_;refine uW ?_;refine Pj [(109,0,109,0),(301,0,301,0),(302,0,302,0),(110,0,110,0),(105,0,105,0),(104,0,104,0),(108,0,108,0)] ?_ ?_ ?_ ?_ ?_ ?_;(iterate 5 (focus (first|exact trivial|rfl|exact fun _ _=>rfl|(simp only[go_sem,seval,A9,AT,BR,BM,A7,BZ,List.map_cons,List.map_nil,List.mem_cons,List.not_mem_nil,forall_eq_or_imp,forall_eq,and_true,List.append_nil,List.append_assoc,e1]<;>first|trivial|rfl|(simp;done)|omega)|(simp;done))));(simp only[go_sem,seval,A9,AT,BR,BM,A7,BZ,List.map_cons,List.map_nil,List.mem_cons,List.not_mem_nil,forall_eq_or_imp,forall_eq,and_true,List.append_nil,List.append_assoc,e1])
 clear hX hC;intro w e df X hC;have Dv:=Rp (xs:=y.U) (p:=p) (W:=W) (ord:=ord) ord.length;refine xw8 ?_;rw[show f210.results.toList=[.cell 8 97] from rfl];first|refine MZ (uI @Dv.1 @Dv.2) ?_|exact MY (uI @Dv.1 @Dv.2)
 rfl
theorem ci (l:List (List Int)) (hl:l.length<=1000) (h3:∀i,i<l.length->(l.getD i []).length<=1000):Ag prog Ad 135 [] [RS l] [(100,some (1, .own 22 1 (BI 3 l)))] (.l 100 1 0 l.length):=by
 refine Am func135 ntmps135 ?_;intro w e X hC;refine xy4 ?_;refine Aw (fun i:Nat×Nat×Nat=>⟨[(3, .l 103 i.2.2 0 i.2.1),(6,RS l),(7,I l.length),(8,I i.2.1)],(103,some (i.2.2, .own 22 1 (BI 3 (l.take i.2.1))))::[],i.1⟩) (fun i=>i.2.1<=l.length) (fun i=>l.length - i.2.1) (_,0,_) (zL _) (.of (lR _) Cb A4) ?_;rintro⟨ck,i,g⟩ hi;simp only at hi;refine xy1 (fun h=>?_) (fun h=>?_)
 .have Aa:i<l.length:=oM;have e1:=Jp (d:=[]) Aa;have Ej:=h3 i Aa;have Dd:(l.take i).length=i:=vv2;generalize e2:l.getD i []=r at*;generalize l.take i=o at*;refine Bg (uI (BF Aa) (uI @e2 @Dd)) ?_;refine⟨(_,i+1,g),uO,uO, .of (lR _) (Ax @e1) A4⟩
 refine At ?_;have Ar:i=l.length:=oM;subst Ar;simp only[List.take_length];refine xz4 ?_;rw[show f135.results.toList=[.tmp 2] from rfl];(refine DB [(100,1,103,g)] D4 sM sM sM Bp Bp Bp ?_ ?_;all_goals (first|refine Fb ?_|exact Fc|skip))
theorem bE (p:Pl) (h1:p.Q.length<=1000) (h2:p.R.length<=1000) (h3:∀i,i<p.Q.length->(p.Q.getD i []).length<=1000) (h4:∀i,i<p.R.length->(p.R.getD i []).length<=1000):
  Ag prog Ad 77 [] [p.av] (jg p) (jh p):=by
 refine Am func77 ntmps77 ?_;intro w e X hC;refine uZ ?_;refine uD ?_;intro K hK;refine CL [] [(105,5,100,1)] false ((ci p.Q h1 h3)) Bz Bz Ab Ab Ab Ab Ab Ab Ab Ab Ab Ab Ab Ab Ab Ab Ab ?_;refine DM ?_;refine CL [] [(108,8,100,1)] false ((ci p.R h2 h4)) Bz Bz Ab Ab Ab Ab Ab Ab Ab Ab Ab Ab Ab Ab Ab Ab Ab ?_;refine xq7 ?_;refine hK _ ?_;clear hK K;refine Ay ?_;rw[show f77.results.toList=[.cell 2 36] from rfl];(refine DB [(100,1,105,5),(101,1,108,8)] D4 sM sM sM Bp Bp Bp ?_ ?_;all_goals (first|refine Fb ?_|exact Fc|skip))
theorem Qe6 (b y:Int):Ag prog Ad 213 [] [I y, .P [I b]] [] (B (decide (y=b))):=by refine Am func213 ntmps213 ?_;intro w e X hC;exact xz5
theorem Qe7 (m:T3):Ag prog Ad 216 [] [m.av] [] (B (decide (m.b=m.c))):=by refine Am func216 ntmps216 ?_;intro w e X hC;exact xz5
open Go.Plant
theorem qi (y:Ly) (p:Pl) (ord:List Int) (fs:List T3) (n:Nat) (op:Bool) (hp:FB y.U p) (hf:N3 y.U fs) (hn:n<y.U.length) (h0:0<(p.Q.getD n []).length):
  Ag prog Ad 211 [] [.P (Df y ord),p.av,I n, .sl (Ai fs) false,B op] [(100,some (1, .own 3 1 (As (BO (p.Q.getD n []) (DW fs n (y.U.getD n default).ln.toNat) op).1)))]
   (.tup [.l 100 1 0 (p.Q.getD n []).length,I (BO (p.Q.getD n []) (DW fs n (y.U.getD n default).ln.toNat) op).2]):=by
 have C4:=hp.xl;have Dm:n<p.Q.length:=vk4;have Ej:=hp.row n hn;have AK:=hp.ln n hn;have Dv:=hf.len;have uN:=fun i hi=>hf.ok i hi n hn;generalize e2:y.U.getD n default=x at*;generalize e3:p.Q.getD n []=sl at*;obtain⟨q,hq⟩:∃q:Nat,q=x.ln.toNat:=⟨_,rfl⟩;have UA:x.ln=(q:Int):=oM;rw[<-hq];refine Am func211 ntmps211 ?_;intro w e X hC;refine Bg (uI (AG hn) (uI @e2 @UA)) ?_;refine uW ?_;refine Aw (fun i:Nat×Nat×Nat=>⟨[(0, .P (Df y ord)),(2,I n),(4,B op),(6, .p 106 1 0 0 0),(12, .l 124 i.2.2 0 q),(25, .sl (Ai fs) false),(26,I fs.length),(27,I i.2.1)],(124,some (i.2.2, .own 3 1 (As (Fg fs n q i.2.1))))::(106,some (1, .box [RS p.Q,RS p.R]))::[],i.1⟩) (fun i=>i.2.1<=fs.length) (fun i=>fs.length - i.2.1) (_,0,_) (zL _) (.of (lR _) (by repeat first|exact AX.nil|refine Jq ?_|(refine AX.cons ?_ ?_;(focus (simp only[go_sem,seval,-Int.reduceNatCast',Fg,Int.toNat_natCast];done)))) (by repeat first|exact BA.nil|refine Jr ?_|(refine BA.cons ?_ ?_;(focus (simp only[go_sem,seval,-Int.reduceNatCast',Int.toNat_natCast];done))))) ?_;rintro⟨ck,i,g⟩ hi;simp only at hi;have Gq:=Q5 fs n q i;have e1:Fg fs n q (i+1)=M3 fs n i (Fg fs n q i):=rfl;have e9:DW fs n q=Fg fs n q fs.length:=rfl;have efin:i=fs.length->Fg fs n q i=DW fs n q:=fun h=>by subst h;rfl
 generalize Fg fs n q i=o at*;refine xy1 (fun h=>?_) (fun h=>?_)
 .have Aa:i<fs.length:=oM;have Xy:=uN i Aa;unfold M3 at e1;generalize e5:fs.getD i default=f at*;refine Ac (uI (By Aa) @e5) ?_;by_cases c1:f.b=n
  .have d1:decide (f.b=(n:Int))=true:=dT c1;obtain⟨c2,c3⟩:=Xy c1;rw[iP c1] at e1;obtain⟨k,hk⟩:∃k:Nat,k=f.c.toNat:=⟨_,rfl⟩;have Ia:f.c=(k:Int):=oM;rw[<-hk] at e1;have A3:k<o.length:=oM;refine IB (uI @d1 (uI @Ia @Gq)) ?_;refine⟨(_,i+1,g),uO,uO, .of (lR _) (Ax @e1) A4⟩
  have d1:decide (f.b=(n:Int))=false:=dF c1;rw[iN c1] at e1;refine IB @d1 ?_;refine⟨(_,i+1,g),uO,uO, .of (lR _) (Ax @e1) A4⟩
 refine At ?_;have e6:=efin oM;subst e6;refine Av (uI (BF Dm) @e3) ?_;intro K hK;refine⟨oM,?_⟩;refine CL [] [(149,ck+8,100,1)] true ((QeL sl (DW fs n q) op h0 oM oM)) Bz Bz Ab Ab Ab Ab Ab Ab Ab Ab Ab Ab Ab Ab Ab Ab Ab ?_;refine DM ?_;refine hK _ ?_;clear hK K;refine Ay ?_;rw[show f211.results.toList=[.tmp 10, .tmp 11] from rfl];(refine DB [(100,1,149,ck+8)] D4 sM sM sM Bp Bp Bp ?_ ?_;all_goals (first|refine Fb ?_|exact Fc|skip))
theorem gQ {α:Type} (p:α->Bool) (l:List α) (d:α):(DK p l=-1/\l.filter (fun y=>!p y)=l)\/
  ∃i:Nat,DK p l=i/\i<l.length/\(l.take (i+1)).filter (fun y=>!p y)=l.take i:=by
 unfold DK;cases h:l.findIdx? p with
 |none=>refine .inl ⟨rfl,?_⟩;rw[List.findIdx?_eq_none_iff] at h;rw[List.filter_eq_self];intro a ha;simp[h a ha]|some i=>rw[List.findIdx?_eq_some_iff_getElem] at h;obtain⟨hi,h1,h2⟩:=h;refine .inr ⟨i,rfl,hi,?_⟩;rw[List.take_add_one,List.filter_append,gG hi];simp only[Option.toList_some,List.filter_cons,h1,Bool.not_true,Bool.false_eq_true,if_false,List.filter_nil,List.append_nil];rw[List.filter_eq_self];intro a ha;obtain⟨j,hj,rfl⟩:=List.getElem_of_mem ha;simp only[List.length_take] at hj;have:=h2 j oM;simpa using this
theorem cW {α:Type} {q:α->Bool} {l:List α} {j:Nat} {d:α} (h:j<l.length):(l.take (j+1)).filter q=(l.take j).filter q++if q (l.getD j d)=true then[l.getD j d] else[]:=by
 rw[List.take_add_one,List.filter_append,gG h];have:l.getD j d=l[j]:=by simp[h]
 rw[this];simp only[Option.toList_some,List.filter_cons,List.filter_nil]
theorem jR {α:Type} {o:List α} {i:Nat} {x:α} (h:i<o.length):(o.set i x).take (i+1)=o.take i++[x]:=by rw[List.take_add_one,List.take_set_of_le (lR _)];simp[h]
theorem dV {α:Type} {o:List α} {i k:Nat} {x d:α} (h:i≠k):(o.set i x).getD k d=o.getD k d:=by simp only[gE];rw[List.getElem?_set_ne h]
theorem pS (l:List Int) (k:Nat) (cs:List AV) (p:Int->Bool) (hl:l.length<=1000) (hk:∀y∈l,Ag prog Ad k [] [I y, .P cs] [] (B (p y))):
  Ag prog Ad 212 [(0,some (0, .own 3 1 (As l)))] [.l 0 0 0 l.length, .fn k [.P cs]] [(100,some (1, .own 3 1 (As (l.filter fun y=>!p y))))] (.l 100 1 0 (l.filter fun y=>!p y).length):=by
 refine Am func212 ntmps212 ?_;intro w e X hC;refine uA ?_;refine uR ?_;intro K hK;refine JA (rc:=I (DK p l)) ?_ ?_ ?_ ?_ ?_ ?_;(focus (first|exact trivial|(simp only[go_sem,seval,]<;>trivial)));(focus (simp only[go_sem,seval,];exact(yf l k cs p hl hk)));(focus (first|exact trivial|(simp only[go_sem,seval,]<;>trivial)));(focus (first|exact trivial|(simp only[go_sem,seval,]<;>trivial)));(focus (first|exact trivial|(simp only[go_sem,seval,]<;>trivial)));first|refine uS ?_|exact uX
 refine hK _ ?_;clear hK K;rcases gQ p l 0 with ⟨e1,e2⟩|⟨i0,e1,h1,e2⟩
 .rw[e1,e2];refine J8 ?_;refine Ay ?_;rw[show f212.results.toList=[.tmp 4] from rfl];(refine DB [(100,1,0,0)] D4 sM sM sM Bp Bp Bp ?_ ?_;all_goals (first|refine Fb ?_|exact Fc|skip))
 rw[e1];refine J8 ?_;refine uW ?_;refine Aw (fun i:Nat×Nat×Nat×List Int=>⟨[(0, .l 0 0 0 l.length),(1, .fn k [.P cs]),(5,I i.2.2.1),(6,I i.2.1)],(0,some (0, .own 3 1 (As i.2.2.2)))::[],i.1⟩) (fun i=>i.2.1<=l.length/\i.2.2.1<i.2.1/\i.2.2.2.length=l.length/\i.2.2.2.take i.2.2.1=(l.take i.2.1).filter (fun y=>!p y)/\∀k,i.2.1<=k->i.2.2.2.getD k 0=l.getD k 0) (fun i=>l.length - i.2.1) (_,i0+1,i0,l) ⟨uO,uO,rfl,e2.symm,fun _ _=>rfl⟩ (Af) ?_;rintro⟨ck,j,i,o⟩ ⟨hi,Da,AR,he,ho⟩;simp only at hi Da AR he ho;refine xy1 (fun h=>?_) (fun h=>?_)
 .have Aa:j<l.length:=oM;have e3:=cW (q:=fun y=>!p y) (d:=0) Aa;have hj:=ho j (lR _);have Bk:=hk (l.getD j 0) (Fs Aa);generalize e4:l.getD j 0=x at*;have JO:j<o.length:=oM;cases c1:p x with
  |true=>rw[c1] at Bk;simp only[c1,Bool.not_true,Bool.false_eq_true,if_false,List.append_nil] at e3;refine IB (uI (Ao JO) (uI @hj @AR)) ?_;refine xx9 Bk ?_;refine xy9 ?_;refine⟨(_,j+1,i,o),⟨uO,uO,AR,by simp only[e3];exact he,fun k h=>ho k (by simp only at h;omega)⟩,uO,Af⟩|false=>rw[c1] at Bk;simp only[c1,Bool.not_false,if_true] at e3;refine IB (uI (Ao JO) (uI @hj @AR)) ?_;refine xx9 Bk ?_;refine uT ?_;refine Bg @AR ?_;refine⟨(_,j+1,i+1,o.set i x),⟨uO,uO,by simp only[List.length_set];exact AR,by simp only;rw[e3,jR oM,he],fun k h=>by simp only at h ⊢;rw[dV oM];exact ho k oM⟩,uO,Af⟩
 refine At ?_;have e5:o.take i=l.filter (fun y=>!p y):=by rw[he,List.take_of_length_le oM]
 have e6:(l.filter (fun y=>!p y)).length=i:=by rw[<-e5,List.length_take];omega
 have e7:(o.take i).length+(l.length - i)=l.length:=vv9;have e8:(o.take i).take i=o.take i:=by rw[List.take_take,Nat.min_self]
 have e9:(o.take i++List.replicate (l.length - i) 0).take i=l.filter (fun y=>!p y):=by rw[List.take_append_of_le_length vv9,e8,e5]
 refine Bg (uI @O5 @e7) ?_;rw[xT,O5,e9];rw[e6];refine Ay ?_;rw[show f212.results.toList=[.tmp 4] from rfl];(refine DB [(100,1,0,ck+10)] D4 sM sM sM Bp Bp Bp ?_ ?_;all_goals (first|refine Fb ?_|exact Fc|skip))
theorem pT (l:List T3) (k:Nat) (p:T3->Bool) (hl:l.length<=1000) (hk:∀y∈l,Ag prog Ad k [] [y.av] [] (B (p y))):
  Ag prog Ad 215 [(0,some (0, .own 107 3 (Ai l)))] [.l 0 0 0 l.length, .fn k []] [(100,some (1, .own 107 3 (Ai (l.filter fun y=>!p y))))] (.l 100 1 0 (l.filter fun y=>!p y).length):=by
 refine Am func215 ntmps215 ?_;intro w e X hC;refine uA ?_;refine uR ?_;intro K hK;refine JA (rc:=I (DK p l)) ?_ ?_ ?_ ?_ ?_ ?_;(focus (first|exact trivial|(simp only[go_sem,seval,]<;>trivial)));(focus (simp only[go_sem,seval,];exact(yi l k p hl hk)));(focus (first|exact trivial|(simp only[go_sem,seval,]<;>trivial)));(focus (first|exact trivial|(simp only[go_sem,seval,]<;>trivial)));(focus (first|exact trivial|(simp only[go_sem,seval,]<;>trivial)));first|refine uS ?_|exact uX
 refine hK _ ?_;clear hK K;rcases gQ p l default with ⟨e1,e2⟩|⟨i0,e1,h1,e2⟩
 .rw[e1,e2];refine J8 ?_;refine Ay ?_;rw[show Tryz.f215.results.toList=[.tmp 4] from rfl];(refine DB [(100,1,0,0)] D4 sM sM sM Bp Bp Bp ?_ ?_;all_goals (first|refine Fb ?_|exact Fc|skip))
 rw[e1];refine J8 ?_;refine uW ?_;refine Aw (fun i:Nat×Nat×Nat×List T3=>⟨[(0, .l 0 0 0 l.length),(1, .fn k []),(5,I i.2.2.1),(6,I i.2.1)],(0,some (0, .own 107 3 (Ai i.2.2.2)))::[],i.1⟩) (fun i=>i.2.1<=l.length/\i.2.2.1<i.2.1/\i.2.2.2.length=l.length/\i.2.2.2.take i.2.2.1=(l.take i.2.1).filter (fun y=>!p y)/\∀k,i.2.1<=k->i.2.2.2.getD k default=l.getD k default) (fun i=>l.length - i.2.1) (_,i0+1,i0,l) ⟨uO,uO,rfl,e2.symm,fun _ _=>rfl⟩ (Af) ?_;rintro⟨ck,j,i,o⟩ ⟨hi,Da,AR,he,ho⟩;simp only at hi Da AR he ho;refine xy1 (fun h=>?_) (fun h=>?_)
 .have Aa:j<l.length:=oM;have e3:=cW (q:=fun y=>!p y) (d:=default) Aa;have hj:=ho j (lR _);have Bk:=hk (l.getD j default) (Fs Aa);generalize e4:l.getD j default=x at*;have JO:j<o.length:=oM;cases c1:p x with
  |true=>rw[c1] at Bk;simp only[c1,Bool.not_true,Bool.false_eq_true,if_false,List.append_nil] at e3;refine IB (uI (By JO) (uI @hj @AR)) ?_;refine xx9 Bk ?_;refine xy9 ?_;refine⟨(_,j+1,i,o),⟨uO,uO,AR,by simp only[e3];exact he,fun k h=>ho k (by simp only at h;omega)⟩,uO,Af⟩|false=>rw[c1] at Bk;simp only[c1,Bool.not_false,if_true] at e3;refine IB (uI (By JO) (uI @hj @AR)) ?_;refine xx9 Bk ?_;refine uT ?_;refine Bg @AR ?_;refine⟨(_,j+1,i+1,o.set i x),⟨uO,uO,by simp only[List.length_set];exact AR,by simp only;rw[e3,jR oM,he],fun k h=>by simp only at h ⊢;rw[dV oM];exact ho k oM⟩,uO,Af⟩
 refine At ?_;have e5:o.take i=l.filter (fun y=>!p y):=by rw[he,List.take_of_length_le oM]
 have e6:(l.filter (fun y=>!p y)).length=i:=by rw[<-e5,List.length_take];omega
 have e7:(o.take i).length+(l.length - i)=l.length:=vv9;have e8:(o.take i).take i=o.take i:=by rw[List.take_take,Nat.min_self]
 have e9:∀r:List AV,(Ai (o.take i)++r).take i=Ai (l.filter (fun y=>!p y)):=fun r=>by rw[List.take_append_of_le_length (by rw[ku,List.length_take];omega),S6,e8,e5]
 refine Bg (uI @S6 @e7) ?_;rw[e9];rw[e6];refine Ay ?_;rw[show Tryz.f215.results.toList=[.tmp 4] from rfl];(refine DB [(100,1,0,ck+10)] D4 sM sM sM Bp Bp Bp ?_ ?_;all_goals (first|refine Fb ?_|exact Fc|skip))
theorem Pb (x:Int):Ag prog Ad 233 [] [I x] [] (B false):=by
 refine Am func233 ntmps233 ?_;intro w e X hC;refine xz3 ?_;try rfl
 try simp
theorem zN (x:Int):Ag prog Ad 275 [] [I x] [] (B false):=by
 refine Am func275 ntmps275 ?_;intro w e X hC;refine xz3 ?_;try rfl
 try simp
theorem yS (x y:Int):Ag prog Ad 196 [] [I x,I y] [] (B (decide (x<y))):=by refine Am func196 ntmps196 ?_;intro w e X hC;refine uA ?_;refine xx9 ((Pb x)) ?_;exact uP
theorem QeV (s:Nat):Vg .u64 (s:Int) 1=((s / 2:Nat):Int):=by show(s:Int).fdiv (2^(min 1 64))=_;rw[Int.fdiv_eq_ediv_of_nonneg _ dM];show(s:Int) / 2=_;omega
def FX (l:List Int) (x:Int):Nat:=(l.takeWhile (fun y=>decide (y<x))).length
theorem pM (l:List Int) (x:Int):FX l x<=l.length:=by
 have h:(l.takeWhile (fun y=>decide (y<x))).length+(l.dropWhile (fun y=>decide (y<x))).length=l.length:=by rw[<-aL,List.takeWhile_append_dropWhile]
 unfold FX;omega
theorem Qh8:∀{l:List Int} {x:Int} {k:Nat},k<=l.length->(∀j,j<k->l.getD j 0<x)->(∀j,k<=j->j<l.length->x<=l.getD j 0)->FX l x=k
 |[],x,k,h,_,_=>by have:k=0:=vy0;subst this;rfl|y::l,x,0,_,_,h=>by
  have:¬y<x:=by have:=h 0 (lR _) sM;simp at this;omega
  simp[FX,this]
 |y::l,x,k+1,h,h1,h2=>by
  have hy:y<x:=by simpa using h1 0 oM
  have ih:=Qh8 (l:=l) (x:=x) (k:=k) vy0 (fun j hj=>by simpa using h1 (j+1) oM) (fun j hj hl=>by simpa using h2 (j+1) oM xx2);simp only[FX] at ih;simp only[FX,List.takeWhile_cons,hy,decide_true,if_true,List.length_cons,ih]
theorem jX {l:List Int} (h:l.Pairwise (·<=·)) {i j:Nat} (Da:i<=j) (hj:j<l.length):l.getD i 0<=l.getD j 0:=by
 rcases Nat.lt_or_eq_of_le Da with h1|h1
 .have:=List.pairwise_iff_getElem.1 h i j oM hj h1;simpa[show i<l.length by omega,hj] using this
 subst h1;exact Int.le_refl _
theorem QeR (l:List Int) (x:Int) (hl:l.length<=1000) (hs:l.Pairwise (·<=·)):
  Ag prog Ad 256 [] [IS l,I x] [] (.tup [I (FX l x),B (decide (FX l x<l.length)&&decide (l.getD (FX l x) 0=x))]):=by
 refine Am func256 ntmps256 ?_;intro w e X hC;refine xy4 ?_;refine Aw (fun i:Nat×Nat×Nat=>⟨[(0,IS l),(1,I x),(6,I l.length),(7,I i.2.1),(8,I i.2.2)],[],i.1⟩) (fun i=>i.2.1<=i.2.2/\i.2.2<=l.length/\(∀j,j<i.2.1->l.getD j 0<x)/\∀j,i.2.2<=j->j<l.length->x<=l.getD j 0) (fun i=>i.2.2 - i.2.1) (_,0,l.length) ⟨zL _,lR _,fun j hj=>absurd hj (nZ _),fun j h1 h2=>by simp only at h1;omega⟩ (Af) ?_;rintro⟨ck,a,b⟩ ⟨KA,Al,h1,h2⟩;simp only at KA Al h1 h2;refine xy1 (fun h=>?_) (fun h=>?_)
 .obtain⟨m,hm⟩:∃m,m=(a+b) / 2:=⟨_,rfl⟩;have Aa:m<l.length:=oM;have e1:IntKind.u64.wrap ((a:Int)+b)=((a+b:Nat):Int):=by rw[show(a:Int)+b=((a+b:Nat):Int) by omega];exact Vu oM
  have e2:=QeV (a+b);rw[<-hm] at e2;have e3:IntKind.i64.wrap (m:Int)=m:=by rw[IntKind.wrap_i64];omega
  refine Ac (uI @e1 (uI @e2 @e3)) ?_;refine Av (Ao Aa) ?_;refine xy7 ((yS (l.getD m 0) x)) ?_;refine GF (fun c1=>?_) (fun c1=>?_)
  .refine uZ ?_;refine⟨(_,m+1,b),⟨uO,uO,fun j hj=>?_,h2⟩,uO,Af⟩;have:=jX hs (show j<=m by simp only at hj;omega) Aa;omega
  refine uZ ?_;refine⟨(_,a,m),⟨uO,uO,h1,fun j hj hl=>?_⟩,uO,Af⟩;have:=jX hs (show m<=j from hj) hl;omega
 refine At ?_;have Qg:b=a:=oM;subst Qg;have e1:=Qh8 Al h1 h2;rw[e1];by_cases c1:b<l.length
 .have d1:=uDt ((b:Int)<l.length);have d2:decide (b<l.length)=true:=dT c1;rw[d2];cases c2:decide (l.getD b 0=x) with
  |true=>
   refine xz2 (uI @d1 (uI @c2 (Ao c1))) ?_;refine uW ?_;refine Ay ?_;rw[show f256.results.toList=[.tmp 4, .tmp 5] from rfl];first|refine Bn ?_|exact Bm
   rfl
  |false=>
   refine Av (uI @d1 (uI @c2 (Ao c1))) ?_;refine xy7 ((zN (l.getD b 0))) ?_;refine uW ?_;refine Ay ?_;rw[show f256.results.toList=[.tmp 4, .tmp 5] from rfl];first|refine Bn ?_|exact Bm
   rfl
 have d1:=uDf ((b:Int)<l.length);have d2:decide (b<l.length)=false:=dF c1;rw[d2,Bool.false_and];refine Bg @d1 ?_;refine Ay ?_;rw[show f256.results.toList=[.tmp 4, .tmp 5] from rfl];exact Bm
end Go.Proofs.YtfcgkbinohibcaaGreatDoor
