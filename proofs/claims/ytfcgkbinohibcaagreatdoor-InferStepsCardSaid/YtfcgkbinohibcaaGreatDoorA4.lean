/- Lemmas towards inferSteps_card: no conditions of their own. -/
import Derived.Test.YtfcgkbinohibcaaGreatDoorA3
import Derived.Below
set_option linter.all false
namespace Go.Sym
open Go Go.Great Go.RowKit
theorem oV(l:List UInt8):(strOf l).data.toList=l:=by simp[strOf]
theorem Ip(l:List UInt8):(strOf l).size=l.length:=by simp[strOf,ByteArray.size]
def aN(l:List UInt8):List AV:=l.map Kk
theorem afV(l:List UInt8):(aN l).length=l.length:=by simp[aN]
def auv{l:List UInt8}:∀y∈aN l,y.cells.length=1:=by intro y hy;simp only[aN,A2]at hy;obtain⟨b,_,rfl⟩:=hy;rfl
def apH(l:List UInt8):PE (aN l):=by
 intro y hy c hc;simp only[aN,A2]at hy;obtain⟨b,_,rfl⟩:=hy;simp only[Kk,AV.cells,iT]at hc;subst hc
 trivial
theorem M5:∀(l:List UInt8),bytesOf (aN l)=some l
 |[]=>rfl|b::l=>by have ih:=M5 l;simp only[aN,b_,Kk]at ih ⊢;simp[bytesOf,Kk,ih]
def h_{l:List UInt8}{i:Nat}{n:Int}(h0:0<=n)(h1:n<256):(aN l).set i (.lit (.int .u8 n))=aN (l.set i (UInt8.ofNat n.toNat)):=by
 have e:AV.lit (.int .u8 n)=Kk (UInt8.ofNat n.toNat):=by
  have:(UInt8.ofNat n.toNat).toNat=n.toNat:=xF;simp only[Kk,this];congr 2
  omega
 rw[e,aN,aN,Hv]
def acb{w:World}{e:bQ}{U:Nat->Prop}{G:Nat->Prop}{vs:List Value}{pk:Array Value}(hlen:(vs.map AV.lit).length=pk.size)(RZ:∀i (h:i<(vs.map AV.lit).length),VR w U e G (vs.map AV.lit)[i] (pk.getD i undef)):pk=vs.toArray:=by
 apply Array.ext
 .simpa using hlen.symm
 intro i h1 h2;have hi:i<(vs.map AV.lit).length:=oM;have:=RZ i hi;simp only[nw]at this;have:=this.VI.1;rw[gA,LS h1]at this;simpa using this
def abY{w w':World}{e:bQ}(hr:cH w e (rM 1) [])(hb:Below w.heap.size w w'):cH w' e (rM 2) []/\Z7 w e (rM 1) w' e (rM 2):=by
 have hd:∀id,e id=none:=fun id=>hr.dead id rfl;constructor
 .constructor
  .exact fun id _=>hd id
  .intro id g ob h;cases h
  .intro id qJ ee SV b c c' h;rw[hd id]at h;cases h
  .intro id ee b c h;rw[hd id]at h;cases h
  .intro id ee b c h;rw[hd id]at h;cases h
  .intro b B c hk;obtain⟨h1,h2,h3⟩:=hr.kl b B c hk;exact⟨tL h1 hb.size,tL h2 hb.size,h3⟩
  .exact hr.ko
  exact hr.kk
 refine Z7.mk' hb.size (fun g hg=>tL hg oM) rfl (fun _ _ h=>h) (fun b PP _=>hb.block b PP) ?_;intro id ee h _;rw[hd id]at h;cases h
def ajI{P:Program}{T:vp}{f:FuncId}(Em:Enters P f){vs:List Value}{r:AV}(h:∀(w:World) (U:Nat->Prop),XO T w U->Calls P f vs.toArray w fun en w'=>∃v,en=.returned v/\(∀U',VD w' U' r v)/\Below w.heap.size w w'/\w.drawn<=w'.drawn):UB P T f [] (vs.map AV.lit) [] r:=by
 refine⟨Em,fun w e pk hr hz hg hlen RZ=>?_⟩;obtain rfl:=acb hlen RZ;refine(h w (UE e) hg).mono ?_;rintro en w' ⟨v,rfl,hv,hb,eS⟩;obtain⟨h1,h2⟩:=abY hr hb;exact⟨v,e,rfl,h1,.rC _ _ (hv _),h2,rfl,fun b hb=>.inr hb,⟨hb.os,hb.tape,hb.output,hb.size,fun b PP _=>hb.block b PP,eS⟩⟩
attribute [go_sem] oV Ip afV M5
end Go.Sym
namespace Go.Proofs.YtfcgkbinohibcaaGreatDoor
open Go Go.Sym Go.Proofs.Tryz
namespace Sc
def aqU(a b c:Int):UB prog J9 161 [] [.agg [I a,I b,I c]] [] (B (decide (0<=a/\a<=9/\1<=b/\b<=999/\0<=c/\c<=999999))):=by
 refine MD func161 ntmps161 ?_;intro w e X hC;by_cases h0:¬(0<=a)
 .have d0:decide (0<=a)=false:=dF h0;refine xT @d0 ?_;try rfl
  have hh:¬(0<=a/\a<=9/\1<=b/\b<=999/\0<=c/\c<=999999):=oM;exact an @hh
 replace h0:=P5.1 h0;have d0:decide (0<=a)=true:=dT h0;by_cases h1:¬(a<=9)
 .have d1:decide (a<=9)=false:=dF h1;refine xT (uI @d0 @d1) ?_;try rfl
  have hh:¬(0<=a/\a<=9/\1<=b/\b<=999/\0<=c/\c<=999999):=oM;exact an @hh
 replace h1:=P5.1 h1;have d1:decide (a<=9)=true:=dT h1;by_cases h2:¬(1<=b)
 .have d2:decide (1<=b)=false:=dF h2;refine xT (uI @d0 (uI @d1 @d2)) ?_;try rfl
  have hh:¬(0<=a/\a<=9/\1<=b/\b<=999/\0<=c/\c<=999999):=oM;exact an @hh
 replace h2:=P5.1 h2;have d2:decide (1<=b)=true:=dT h2;by_cases h3:¬(b<=999)
 .have d3:decide (b<=999)=false:=dF h3;refine xT (uI @d0 (uI @d1 (uI @d2 @d3))) ?_;try rfl
  have hh:¬(0<=a/\a<=9/\1<=b/\b<=999/\0<=c/\c<=999999):=oM;exact an @hh
 replace h3:=P5.1 h3;have d3:decide (b<=999)=true:=dT h3;by_cases h4:¬(0<=c)
 .have d4:decide (0<=c)=false:=dF h4;refine xT (uI @d0 (uI @d1 (uI @d2 (uI @d3 @d4)))) ?_;try rfl
  have hh:¬(0<=a/\a<=9/\1<=b/\b<=999/\0<=c/\c<=999999):=oM;exact an @hh
 replace h4:=P5.1 h4;have d4:decide (0<=c)=true:=dT h4;by_cases h5:¬(c<=999999)
 .have d5:decide (c<=999999)=false:=dF h5;refine xT (uI @d0 (uI @d1 (uI @d2 (uI @d3 (uI @d4 @d5))))) ?_;try rfl
  have hh:¬(0<=a/\a<=9/\1<=b/\b<=999/\0<=c/\c<=999999):=oM;exact an @hh
 replace h5:=P5.1 h5;have d5:decide (c<=999999)=true:=dT h5;refine xT (uI @d0 (uI @d1 (uI @d2 (uI @d3 (uI @d4 @d5))))) ?_;try rfl
 have hh:(0<=a/\a<=9/\1<=b/\b<=999/\0<=c/\c<=999999):=oM;exact an (uI @hh @be)
def amW(a b c:Int):UB prog J9 217 [] [.agg [I a,I b,I c]] [] (B (decide (0<=a/\a<=9/\1<=b/\b<=999/\0<=c/\c<=999999))):=by
 refine MD func217 ntmps217 ?_;intro w e X hC;by_cases h0:¬(0<=a)
 .have d0:decide (0<=a)=false:=dF h0;refine xT @d0 ?_;try rfl
  have hh:¬(0<=a/\a<=9/\1<=b/\b<=999/\0<=c/\c<=999999):=oM;exact an @hh
 replace h0:=P5.1 h0;have d0:decide (0<=a)=true:=dT h0;by_cases h1:¬(a<=9)
 .have d1:decide (a<=9)=false:=dF h1;refine xT (uI @d0 @d1) ?_;try rfl
  have hh:¬(0<=a/\a<=9/\1<=b/\b<=999/\0<=c/\c<=999999):=oM;exact an @hh
 replace h1:=P5.1 h1;have d1:decide (a<=9)=true:=dT h1;by_cases h2:¬(1<=b)
 .have d2:decide (1<=b)=false:=dF h2;refine xT (uI @d0 (uI @d1 @d2)) ?_;try rfl
  have hh:¬(0<=a/\a<=9/\1<=b/\b<=999/\0<=c/\c<=999999):=oM;exact an @hh
 replace h2:=P5.1 h2;have d2:decide (1<=b)=true:=dT h2;by_cases h3:¬(b<=999)
 .have d3:decide (b<=999)=false:=dF h3;refine xT (uI @d0 (uI @d1 (uI @d2 @d3))) ?_;try rfl
  have hh:¬(0<=a/\a<=9/\1<=b/\b<=999/\0<=c/\c<=999999):=oM;exact an @hh
 replace h3:=P5.1 h3;have d3:decide (b<=999)=true:=dT h3;by_cases h4:¬(0<=c)
 .have d4:decide (0<=c)=false:=dF h4;refine xT (uI @d0 (uI @d1 (uI @d2 (uI @d3 @d4)))) ?_;try rfl
  have hh:¬(0<=a/\a<=9/\1<=b/\b<=999/\0<=c/\c<=999999):=oM;exact an @hh
 replace h4:=P5.1 h4;have d4:decide (0<=c)=true:=dT h4;by_cases h5:¬(c<1000000)
 .have d5:decide (c<1000000)=false:=dF h5;refine xT (uI @d0 (uI @d1 (uI @d2 (uI @d3 (uI @d4 @d5))))) ?_;try rfl
  have hh:¬(0<=a/\a<=9/\1<=b/\b<=999/\0<=c/\c<=999999):=oM;exact an @hh
 replace h5:=P5.1 h5;have d5:decide (c<1000000)=true:=dT h5;refine xT (uI @d0 (uI @d1 (uI @d2 (uI @d3 (uI @d4 @d5))))) ?_;try rfl
 have hh:(0<=a/\a<=9/\1<=b/\b<=999/\0<=c/\c<=999999):=oM;exact an (uI @hh @be)
def abR(a b c:Int)(ha:0<=a/\a<=9)(hb:0<=b/\b<=999)(hc:0<=c/\c<=999999):UB prog J9 163 [] [.agg [I a,I b,I c]] [] (I ((a*1000+b)*1000000+c)):=by refine MD func163 ntmps163 ?_;intro w e X hC;exact Et
def aaO(a b c:Int)(ha:0<=a/\a<=9)(hb:0<=b/\b<=999)(hc:0<=c/\c<=999999):UB prog J9 218 [] [.agg [I a,I b,I c]] [] (I ((a*1000+b)*1000000+c)):=by refine MD func218 ntmps218 ?_;intro w e X hC;exact Et
end Sc
end Go.Proofs.YtfcgkbinohibcaaGreatDoor
