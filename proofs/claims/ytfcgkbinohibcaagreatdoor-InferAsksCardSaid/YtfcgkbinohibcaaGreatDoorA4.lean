/- Lemmas towards inferAsks_card: no conditions of their own. -/
import Derived.Test.YtfcgkbinohibcaaGreatDoorA3
import Derived.Below
set_option linter.all false
namespace Go.Sym
open Go Go.Great Go.RowKit
theorem S3 (l:List UInt8):(strOf l).data.toList=l:=by simp[strOf]
theorem S4 (l:List UInt8):(strOf l).size=l.length:=by simp[strOf,ByteArray.size]
def Ea (l:List UInt8):List AV:=l.map Dr
theorem Qjm (l:List UInt8):(Ea l).length=l.length:=by simp[Ea]
theorem Qhp {l:List UInt8}:∀y∈Ea l,y.cells.length=1:=by intro y hy;simp only[Ea,List.mem_map] at hy;obtain⟨b,_,rfl⟩:=hy;rfl
theorem mI (l:List UInt8):PE (Ea l):=by
 intro y hy c hc;simp only[Ea,List.mem_map] at hy;obtain⟨b,_,rfl⟩:=hy;simp only[Dr,AV.cells,List.mem_singleton] at hc;subst hc
 trivial
theorem Wh:∀(l:List UInt8),bytesOf (Ea l)=some l
 |[]=>rfl|b::l=>by have ih:=Wh l;simp only[Ea,List.map_cons,Dr] at ih ⊢;simp[bytesOf,Dr,ih]
theorem bt {l:List UInt8} {i:Nat} {n:Int} (h0:0<=n) (h1:n<256):(Ea l).set i (.lit (.int .u8 n))=Ea (l.set i (UInt8.ofNat n.toNat)):=by
 have e:AV.lit (.int .u8 n)=Dr (UInt8.ofNat n.toNat):=by
  have:(UInt8.ofNat n.toNat).toNat=n.toNat:=vv2;simp only[Dr,this];congr 2
  omega
 rw[e,Ea,Ea,List.map_set]
theorem yX {w:World} {e:An} {U:Nat->Prop} {G:Nat->Prop} {vs:List Value} {vals:Array Value} (hlen:(vs.map AV.lit).length=vals.size)
  (Iv:∀i (h:i<(vs.map AV.lit).length),VR w U e G (vs.map AV.lit)[i] (vals.getD i undef)):vals=vs.toArray:=by
 apply Array.ext
 .simpa using hlen.symm
 intro i h1 h2;have hi:i<(vs.map AV.lit).length:=oM;have:=Iv i hi;simp only[List.getElem_map] at this;have:=this.lit_inv.1;rw[gA,Array.getElem?_eq_getElem h1] at this;simpa using this
theorem Qah {w w':World} {e:An} (hr:AU w e (Az 1) []) (hb:Below w.heap.size w w'):AU w' e (Az 2) []/\AB w e (Az 1) w' e (Az 2):=by
 have hd:∀id,e id=none:=fun id=>hr.dead id rfl;constructor
 .constructor
  .exact fun id _=>hd id
  .intro id g ob h;cases h
  .intro id Br ee Au b c c' h;rw[hd id] at h;cases h
  .intro id ee b c h;rw[hd id] at h;cases h
  .intro id ee b c h;rw[hd id] at h;cases h
  .intro b B c hk;obtain⟨h1,h2,h3⟩:=hr.kl b B c hk;exact⟨tL h1 hb.size,tL h2 hb.size,h3⟩
  .exact hr.ko
  exact hr.kk
 refine AB.mk' hb.size (fun g hg=>tL hg oM) rfl (fun _ _ h=>h) (fun b Aa _=>hb.block b Aa) ?_;intro id ee h _;rw[hd id] at h;cases h
theorem QeP {P:Program} {T:AE} {f:FuncId} (Du:Enters P f) {vs:List Value} {r:AV}
  (h:∀(w:World) (U:Nat->Prop),Gg T w U->Calls P f vs.toArray w fun en w'=>∃v,en= .returned v/\(∀U',VD w' U' r v)/\Below w.heap.size w w'/\w.drawn<=w'.drawn):Ag P T f [] (vs.map AV.lit) [] r:=by
 refine⟨Du,fun w e vals hr hz hg hlen Iv=>?_⟩;obtain rfl:=yX hlen Iv;refine(h w (UE e) hg).mono ?_;rintro en w' ⟨v,rfl,hv,hb,Nv⟩;obtain⟨h1,h2⟩:=Qah hr hb;exact⟨v,e,rfl,h1, .dat _ _ (hv _),h2,rfl,fun b hb=> .inr hb,⟨hb.os,hb.tape,hb.output,hb.size,fun b Aa _=>hb.block b Aa,Nv⟩⟩
attribute [go_sem] S3 S4 Qjm Wh
end Go.Sym
namespace Go.Proofs.YtfcgkbinohibcaaGreatDoor
open Go Go.Sym Go.Proofs.Tryz
namespace Sc
theorem QeE (a b c:Int):Ag prog Ad 161 [] [.agg [I a,I b,I c]] [] (B (decide (0<=a/\a<=9/\1<=b/\b<=999/\0<=c/\c<=999999))):=by
 refine Am func161 ntmps161 ?_;intro w e X hC;by_cases h0:¬(0<=a)
 .have d0:decide (0<=a)=false:=dF h0;refine xz9 @d0 ?_;try rfl
  have hh:¬(0<=a/\a<=9/\1<=b/\b<=999/\0<=c/\c<=999999):=oM;exact Aq @hh
 replace h0:=Decidable.not_not.1 h0;have d0:decide (0<=a)=true:=dT h0;by_cases h1:¬(a<=9)
 .have d1:decide (a<=9)=false:=dF h1;refine xz9 (uI @d0 @d1) ?_;try rfl
  have hh:¬(0<=a/\a<=9/\1<=b/\b<=999/\0<=c/\c<=999999):=oM;exact Aq @hh
 replace h1:=Decidable.not_not.1 h1;have d1:decide (a<=9)=true:=dT h1;by_cases h2:¬(1<=b)
 .have d2:decide (1<=b)=false:=dF h2;refine xz9 (uI @d0 (uI @d1 @d2)) ?_;try rfl
  have hh:¬(0<=a/\a<=9/\1<=b/\b<=999/\0<=c/\c<=999999):=oM;exact Aq @hh
 replace h2:=Decidable.not_not.1 h2;have d2:decide (1<=b)=true:=dT h2;by_cases h3:¬(b<=999)
 .have d3:decide (b<=999)=false:=dF h3;refine xz9 (uI @d0 (uI @d1 (uI @d2 @d3))) ?_;try rfl
  have hh:¬(0<=a/\a<=9/\1<=b/\b<=999/\0<=c/\c<=999999):=oM;exact Aq @hh
 replace h3:=Decidable.not_not.1 h3;have d3:decide (b<=999)=true:=dT h3;by_cases h4:¬(0<=c)
 .have d4:decide (0<=c)=false:=dF h4;refine xz9 (uI @d0 (uI @d1 (uI @d2 (uI @d3 @d4)))) ?_;try rfl
  have hh:¬(0<=a/\a<=9/\1<=b/\b<=999/\0<=c/\c<=999999):=oM;exact Aq @hh
 replace h4:=Decidable.not_not.1 h4;have d4:decide (0<=c)=true:=dT h4;by_cases h5:¬(c<=999999)
 .have d5:decide (c<=999999)=false:=dF h5;refine xz9 (uI @d0 (uI @d1 (uI @d2 (uI @d3 (uI @d4 @d5))))) ?_;try rfl
  have hh:¬(0<=a/\a<=9/\1<=b/\b<=999/\0<=c/\c<=999999):=oM;exact Aq @hh
 replace h5:=Decidable.not_not.1 h5;have d5:decide (c<=999999)=true:=dT h5;refine xz9 (uI @d0 (uI @d1 (uI @d2 (uI @d3 (uI @d4 @d5))))) ?_;try rfl
 have hh:(0<=a/\a<=9/\1<=b/\b<=999/\0<=c/\c<=999999):=oM;exact Aq (uI @hh @and_self)
theorem QbZ (a b c:Int):Ag prog Ad 217 [] [.agg [I a,I b,I c]] [] (B (decide (0<=a/\a<=9/\1<=b/\b<=999/\0<=c/\c<=999999))):=by
 refine Am func217 ntmps217 ?_;intro w e X hC;by_cases h0:¬(0<=a)
 .have d0:decide (0<=a)=false:=dF h0;refine xz9 @d0 ?_;try rfl
  have hh:¬(0<=a/\a<=9/\1<=b/\b<=999/\0<=c/\c<=999999):=oM;exact Aq @hh
 replace h0:=Decidable.not_not.1 h0;have d0:decide (0<=a)=true:=dT h0;by_cases h1:¬(a<=9)
 .have d1:decide (a<=9)=false:=dF h1;refine xz9 (uI @d0 @d1) ?_;try rfl
  have hh:¬(0<=a/\a<=9/\1<=b/\b<=999/\0<=c/\c<=999999):=oM;exact Aq @hh
 replace h1:=Decidable.not_not.1 h1;have d1:decide (a<=9)=true:=dT h1;by_cases h2:¬(1<=b)
 .have d2:decide (1<=b)=false:=dF h2;refine xz9 (uI @d0 (uI @d1 @d2)) ?_;try rfl
  have hh:¬(0<=a/\a<=9/\1<=b/\b<=999/\0<=c/\c<=999999):=oM;exact Aq @hh
 replace h2:=Decidable.not_not.1 h2;have d2:decide (1<=b)=true:=dT h2;by_cases h3:¬(b<=999)
 .have d3:decide (b<=999)=false:=dF h3;refine xz9 (uI @d0 (uI @d1 (uI @d2 @d3))) ?_;try rfl
  have hh:¬(0<=a/\a<=9/\1<=b/\b<=999/\0<=c/\c<=999999):=oM;exact Aq @hh
 replace h3:=Decidable.not_not.1 h3;have d3:decide (b<=999)=true:=dT h3;by_cases h4:¬(0<=c)
 .have d4:decide (0<=c)=false:=dF h4;refine xz9 (uI @d0 (uI @d1 (uI @d2 (uI @d3 @d4)))) ?_;try rfl
  have hh:¬(0<=a/\a<=9/\1<=b/\b<=999/\0<=c/\c<=999999):=oM;exact Aq @hh
 replace h4:=Decidable.not_not.1 h4;have d4:decide (0<=c)=true:=dT h4;by_cases h5:¬(c<1000000)
 .have d5:decide (c<1000000)=false:=dF h5;refine xz9 (uI @d0 (uI @d1 (uI @d2 (uI @d3 (uI @d4 @d5))))) ?_;try rfl
  have hh:¬(0<=a/\a<=9/\1<=b/\b<=999/\0<=c/\c<=999999):=oM;exact Aq @hh
 replace h5:=Decidable.not_not.1 h5;have d5:decide (c<1000000)=true:=dT h5;refine xz9 (uI @d0 (uI @d1 (uI @d2 (uI @d3 (uI @d4 @d5))))) ?_;try rfl
 have hh:(0<=a/\a<=9/\1<=b/\b<=999/\0<=c/\c<=999999):=oM;exact Aq (uI @hh @and_self)
theorem Qen (a b c:Int) (ha:0<=a/\a<=9) (hb:0<=b/\b<=999) (hc:0<=c/\c<=999999):Ag prog Ad 163 [] [.agg [I a,I b,I c]] [] (I ((a*1000+b)*1000000+c)):=by refine Am func163 ntmps163 ?_;intro w e X hC;exact xz5
theorem QbJ (a b c:Int) (ha:0<=a/\a<=9) (hb:0<=b/\b<=999) (hc:0<=c/\c<=999999):Ag prog Ad 218 [] [.agg [I a,I b,I c]] [] (I ((a*1000+b)*1000000+c)):=by refine Am func218 ntmps218 ?_;intro w e X hC;exact xz5
end Sc
end Go.Proofs.YtfcgkbinohibcaaGreatDoor
