/- Lemmas towards inferSteps_card: no conditions of their own. -/
import Derived.Test.YtfcgkbinohibcaaGreatDoorA8
import Derived.Shelf.SlSortCmp.WholeK
import Derived.Ground.SlsfProg
import Derived.Test.YtfcgkbinohibcaaGreatDoorProg
set_option linter.all false
namespace Go.Proofs
open Go.Shelf
def Tryz.aor:Go.Shelf.Ren:=⟨fun|6=>136|15=>151|14=>180|28=>199|29=>200|20=>225|21=>226|22=>227|23=>228|24=>229|25=>230|26=>231|27=>232|46=>263|47=>242|48=>243|49=>264|50=>265|57=>281|n=>n,fun|22=>31|24=>63|25=>198|3=>3|39=>210|0=>0|53=>240|55=>242|4=>4|46=>234|45=>233|50=>43|5=>5|9=>9|66=>267|70=>271|76=>291|77=>292|n=>n,fun|n=>n⟩
def Tryz.agH:Go.Proofs.SlLaysF0.n6 prog Tryz.aor:={
 mixed:=kR
 f6:=⟨f136.name,dM,func136.trans (rD some kR)⟩
 f14:=⟨f180.name,dM,func180.trans (rD some kR)⟩
 f15:=func151.trans (rD some kR)
 f20:=⟨f225.name,dM,func225.trans (rD some kR)⟩
 f21:=⟨f226.name,dM,func226.trans (rD some kR)⟩
 f22:=⟨f227.name,dM,func227.trans (rD some kR)⟩
 f23:=⟨f228.name,dM,func228.trans (rD some kR)⟩
 f24:=⟨f229.name,dM,func229.trans (rD some kR)⟩
 f25:=⟨f230.name,dM,func230.trans (rD some kR)⟩
 f26:=⟨f231.name,dM,func231.trans (rD some kR)⟩
 f27:=⟨f232.name,dM,func232.trans (rD some kR)⟩
 f28:=func199.trans (rD some kR)
 f29:=func200.trans (rD some kR)
 f46:=⟨f263.name,dM,func263.trans (rD some kR)⟩
 f47:=func242.trans (rD some kR)
 f48:=func243.trans (rD some kR)
 f49:=⟨f264.name,dM,func264.trans (rD some kR)⟩
 f50:=⟨f265.name,dM,func265.trans (rD some kR)⟩
 f57:=⟨f281.name,dM,func281.trans (rD some kR)⟩
 t0:=underlying0
 a0:=isAgg0
 z0:=sizeOf0
 v0:=zeroValue0
 t3:=underlying3
 a3:=isAgg3
 z3:=sizeOf3
 v3:=zeroValue3
 t4:=underlying4
 a4:=isAgg4
 z4:=sizeOf4
 v4:=zeroValue4
 t5:=underlying5
 a5:=isAgg5
 z5:=sizeOf5
 v5:=zeroValue5
 t9:=underlying9
 a9:=isAgg9
 z9:=sizeOf9
 v9:=zeroValue9
 t22:=underlying31
 a22:=isAgg31
 z22:=sizeOf31
 v22:=zeroValue31
 t25:=underlying198
 a25:=isAgg198
 z25:=sizeOf198
 v25:=zeroValue198
 t39:=underlying210
 a39:=isAgg210
 z39:=sizeOf210
 v39:=zeroValue210
 t45:=underlying233
 a45:=isAgg233
 z45:=sizeOf233
 v45:=zeroValue233
 t46:=underlying234
 a46:=isAgg234
 z46:=sizeOf234
 v46:=zeroValue234
 t50:=underlying43
 a50:=isAgg43
 z50:=sizeOf43
 v50:=zeroValue43
 t53:=underlying240
 a53:=isAgg240
 z53:=sizeOf240
 v53:=zeroValue240
 t55:=underlying242
 a55:=isAgg242
 z55:=sizeOf242
 v55:=zeroValue242
 t66:=underlying267
 a66:=isAgg267
 z66:=sizeOf267
 v66:=zeroValue267
 t70:=underlying271
 a70:=isAgg271
 z70:=sizeOf271
 v70:=zeroValue271
 t76:=underlying291
 a76:=isAgg291
 z76:=sizeOf291
 v76:=zeroValue291
 t77:=underlying292
 a77:=isAgg292
 z77:=sizeOf292
 v77:=zeroValue292}
def Tryz.anE:Go.Shelf.Ren:=⟨fun|6=>92|15=>151|14=>153|28=>199|29=>200|20=>201|21=>202|22=>203|23=>204|24=>205|25=>206|26=>207|27=>208|46=>246|47=>242|48=>243|49=>247|50=>248|57=>267|n=>n,fun|22=>74|24=>77|25=>140|3=>3|39=>210|0=>0|53=>240|55=>242|4=>4|46=>234|45=>233|50=>43|5=>5|9=>9|66=>267|70=>271|76=>291|77=>292|n=>n,fun|n=>n⟩
def Tryz.adq:Go.Proofs.SlLaysF0.n6 prog Tryz.anE:={
 mixed:=kR
 f6:=⟨f92.name,dM,func92.trans (rD some kR)⟩
 f14:=⟨f153.name,dM,func153.trans (rD some kR)⟩
 f15:=func151.trans (rD some kR)
 f20:=⟨f201.name,dM,func201.trans (rD some kR)⟩
 f21:=⟨f202.name,dM,func202.trans (rD some kR)⟩
 f22:=⟨f203.name,dM,func203.trans (rD some kR)⟩
 f23:=⟨f204.name,dM,func204.trans (rD some kR)⟩
 f24:=⟨f205.name,dM,func205.trans (rD some kR)⟩
 f25:=⟨f206.name,dM,func206.trans (rD some kR)⟩
 f26:=⟨f207.name,dM,func207.trans (rD some kR)⟩
 f27:=⟨f208.name,dM,func208.trans (rD some kR)⟩
 f28:=func199.trans (rD some kR)
 f29:=func200.trans (rD some kR)
 f46:=⟨Tryz.f246.name,dM,func246.trans (rD some kR)⟩
 f47:=func242.trans (rD some kR)
 f48:=func243.trans (rD some kR)
 f49:=⟨f247.name,dM,func247.trans (rD some kR)⟩
 f50:=⟨f248.name,dM,func248.trans (rD some kR)⟩
 f57:=⟨f267.name,dM,func267.trans (rD some kR)⟩
 t0:=underlying0
 a0:=isAgg0
 z0:=sizeOf0
 v0:=zeroValue0
 t3:=underlying3
 a3:=isAgg3
 z3:=sizeOf3
 v3:=zeroValue3
 t4:=underlying4
 a4:=isAgg4
 z4:=sizeOf4
 v4:=zeroValue4
 t5:=underlying5
 a5:=isAgg5
 z5:=sizeOf5
 v5:=zeroValue5
 t9:=underlying9
 a9:=isAgg9
 z9:=sizeOf9
 v9:=zeroValue9
 t22:=underlying74
 a22:=isAgg74
 z22:=sizeOf74
 v22:=zeroValue74
 t25:=underlying140
 a25:=isAgg140
 z25:=sizeOf140
 v25:=zeroValue140
 t39:=underlying210
 a39:=isAgg210
 z39:=sizeOf210
 v39:=zeroValue210
 t45:=underlying233
 a45:=isAgg233
 z45:=sizeOf233
 v45:=zeroValue233
 t46:=underlying234
 a46:=isAgg234
 z46:=sizeOf234
 v46:=zeroValue234
 t50:=underlying43
 a50:=isAgg43
 z50:=sizeOf43
 v50:=zeroValue43
 t53:=underlying240
 a53:=isAgg240
 z53:=sizeOf240
 v53:=zeroValue240
 t55:=underlying242
 a55:=isAgg242
 z55:=sizeOf242
 v55:=zeroValue242
 t66:=underlying267
 a66:=isAgg267
 z66:=sizeOf267
 v66:=zeroValue267
 t70:=underlying271
 a70:=isAgg271
 z70:=sizeOf271
 v70:=zeroValue271
 t76:=underlying291
 a76:=isAgg291
 z76:=sizeOf291
 v76:=zeroValue291
 t77:=underlying292
 a77:=isAgg292
 z77:=sizeOf292
 v77:=zeroValue292}
end Go.Proofs
namespace Go.Proofs.YtfcgkbinohibcaaGreatDoor
open Go Go.Sym Go.Proofs.Tryz
open Go.Inf Go.Sort
theorem arG:SWO (ltOf fun a b:J'=>cmpL (qN a.pl) (qN b.pl)):=by
 have e:∀a b:J',ltOf (fun a b:J'=>cmpL (qN a.pl) (qN b.pl)) a b=W9 (qN a.pl) (qN b.pl):=fun a b=>by unfold ltOf;rw[VY,t7,VS]
 refine⟨fun x=>by rw[e];exact Ax _,fun x y z h1 h2=>by rw[e]at*;exact yZ h1 h2,fun x y z h1 h2=>?_⟩;rw[e]at*;cases h3:W9 (qN x.pl) (qN z.pl)with
 |false=>rfl|true=>
  cases h4:W9 (qN y.pl) (qN x.pl)with
  |true=>have:=yZ h4 h3;rw[h2]at this;cases this
  |false=>have:=Fu h1 h4;rw[this]at h3;rw[h2]at h3;cases h3
def aqM(G G':List J')(h0:G≠[])(hG:∀x∈G,Gm x.pl)(hl:G.length<=1000000)(hp:G'.Perm G)(hs:G'.Pairwise fun a b=>W9 (qN a.pl) (qN b.pl)=true):
  UB prog J9 136 [(0,some (0,.own 63 3 (wF G)))] [.l 0 0 0 G.length,.fn 137 []] [(0,some (0,.own 63 3 (wF G')))] (.F1 []):=
 xQ (T:=J9) Go.Proofs.Tryz.agH rfl ⟨f136,func136,vz,vz⟩ (enters_of func137 kR rfl) dM isAgg63 sizeOf63
  (fun x:J'=>[I x.us,RS x.sl,RS x.bn]) (fun x=>⟨rfl,fun c hc=>by
   simp only[rX,AY,xN]at hc;rcases hc with rfl|rfl|rfl<;>trivial⟩) (fun x=>Gm x.pl) (fun a b=>cmpL (qN a.pl) (qN b.pl)) arG (fun x y hx hy=>alW x y hx hy) G G' h0 hG hl hp (hs.imp fun h=>(VS _ _).2 h)
def OE(Na:Int)(G G':List J')(h0:G≠[])(hG:∀x∈G,Gm x.pl)(hl:G.length<=1000000)(hp:G'.Perm G)(hs:G'.Pairwise fun a b=>W9 (qN a.pl) (qN b.pl)=true):
  UB prog J9 78 (UO G) [.p 0 0 0 0 0,I Na] [(0,some (0,.box [.Ic 1 0,.l 2 0 0 G.length])),(1,some (0,.ms (jA 0 G))),(2,some (0,.own 63 3 (wF G')))] (.agg [I Na,.l 2 0 0 G.length]):=by
 have h1:=aqM G G' h0 hG hl hp hs;have dW:G'.length=G.length:=hp.length_eq;unfold UO;refine MD func78 ntmps78 ?_;intro w e X hC;refine BL ?_;intro K hK;refine PZ [(0,0,2,0)] [(2,0,0,0)] false (h1) iw iw p6 p6 p6 p6 p6 p6 p6 p6 p6 p6 p6 p6 p6 p6 p6 ?_;refine x8 ?_;refine hK _ ?_;clear hK K;refine WE ?_;rw[show f78.results.toList=[.cell 4 33] from rfl];(refine Me [(0,0,0,0),(1,0,1,0),(2,0,2,0)] Px sM sM sM ?_ ?_ ?_ ?_ ?_;(iterate 3 (focus (first|exact trivial|(simp only[go_sem,e_,FT,Dg,N_,Lf,rZ]<;>first|trivial|(simp;done)))));all_goals (try simp only[go_sem,e_,FT,Dg,N_,Lf,rZ,yO,Ds]));all_goals rfl
open Go.Plant Go.Inf
def VA(stp:Pl->List T3->Pl)(cst:Pl->Int×Bool)(Na:Int)(cs:List Int)(G:List iM)(h:iM):List iM:=ZG (stp h.2) cst h.1 Na ([]::ext KY (Na-h.1).toNat (eC cs h.2) []) G
def zz(stp:Pl->List T3->Pl)(cst:Pl->Int×Bool)(Na:Int)(cs:List Int)(hs:List iM):List iM:=hs.foldl (VA stp cst Na cs) []
abbrev ZM:AV:=(UZ.mk 0 []).av
def LA{hs:List iM}{i:Nat}(h:i<hs.length):(wF (hs.map Z')).getD i .bad=(Z' (hs.getD i (0,⟨[],[]⟩))).av:=by
 rw[Pa A6];congr 1
 simp[gE,h]
section
variable{plc:List AV}{cs:List Int}{Na:Int}{kf:Nat}{cp:List (List AV)}{stp:Pl->List T3->Pl}{cst:Pl->Int×Bool}{Gd:Pl->Prop}
def vH(hs:List iM)(jJ:hs.length<=1000)(NY:∀h∈hs,UB prog J9 120 [] [.P plc,h.2.av,IS cs] [] (.sl (YA (eC cs h.2)) false))(ap9:∀h∈hs,∀G,(∀x∈G,Gd x.2)->G.length<=41->UB prog J9 119 (Dk plc cs Na kf cp G) [.p 0 0 0 0 0,(Z' h).av,.sl (YA (eC cs h.2)) false,.sl [] false] (Dk plc cs Na kf cp (VA stp cst Na cs G h)) (.F1 []))(pT:∀h∈hs,∀G,(∀x∈G,Gd x.2)->G.length<=41->(∀x∈VA stp cst Na cs G h,Gd x.2)/\(VA stp cst Na cs G h).length<=41)(DF:∀q,Gd q->Gm q)(r:AV)(hr:(zz stp cst Na cs hs=[]/\r=.F1 [ZM,I 11])\/(40<(zz stp cst Na cs hs).length/\r=.F1 [ZM,I 2])\/
   (zz stp cst Na cs hs≠[]/\(zz stp cst Na cs hs).length<=40/\∃L:List iM,L.Perm (zz stp cst Na cs hs)/\(L.Pairwise fun a b=>W9 (qN a.2) (qN b.2)=true)/\r=.F1 [(UZ.mk Na (L.map Z')).av,I 0])):
  UB prog J9 67 [] [.P plc,(UZ.mk Na (hs.map Z')).av,IS cs,.fn kf (JS cp)] [] r:=by
 refine MD func67 ntmps67 ?_;intro w e X hC;refine uZ ?_;refine wG 301 116 6 63 3 1 dM rfl rfl rfl ?_;refine uW ?_;refine PV (fun i:Nat×Nat×List iM=>⟨[(0,.P plc),(2,IS cs),(5,.p 105 1 0 0 0),(8,.p 108 2 0 0 0),(9,I 0),(10,.p 116 6 0 0 0),(11,.p 124 15 0 0 0),(26,.sl (wF (hs.map Z')) false),(27,I hs.length),(28,I i.2.1)],(124,some (15,.box [.P plc,.p 116 6 0 0 0,IS cs,I Na,.fn kf (JS cp)]))::(116,some (6,.box [.Ic 114 4,.l 301 21 0 i.2.2.length]))::(114,some (4,.ms (jA 0 (i.2.2.map Z'))))::(301,some (21,.own 63 3 (wF (i.2.2.map Z'))))::(108,some (2,.box [I 0,.sl [] true]))::(105,some (1,.box [I Na,.sl (wF (hs.map Z')) false]))::[],i.1⟩)
  (fun i=>i.2.1<=hs.length/\zz stp cst Na cs hs=(hs.drop i.2.1).foldl (VA stp cst Na cs) i.2.2/\(∀x∈i.2.2,Gd x.2)/\i.2.2.length<=41) (fun i=>hs.length - i.2.1) (_,0,[]) ⟨zL _,rfl,(fun x hx=>ZY),zL _⟩ (ch) ?_
 rintro⟨ck,i,Gi⟩ ⟨hi,Ik,dt,fe⟩;simp only at hi Ik dt fe;refine C0 ?_ ?_<;>intro c
 .have PP:i<hs.length:=oM;have hg:=LA PP;have hm:hs.getD i (0,⟨[],[]⟩)∈hs:=Ug PP _;have eX:hs.drop i=hs.getD i (0,⟨[],[]⟩)::hs.drop (i+1):=by rw[Pv PP,gE,gG PP];rfl
  rw[eX,Xi]at Ik;have w1:=NY _ hm;have w2:=ap9 _ hm Gi dt fe;obtain⟨Ei,qC⟩:=pT _ hm Gi dt fe;generalize hs.getD i (0,⟨[],[]⟩)=h at*;generalize VA stp cst Na cs Gi h=Gn at*;unfold Dk at w2;obtain⟨hu,JW⟩:=h;simp only[Z']at hg w2;refine aH @hg ?_;refine uD ?_;intro K hK;refine uH ?_;refine cP w1 ?_;refine Qd ?_;refine PZ [(0,0,124,15),(1,0,116,6),(2,0,114,4),(3,0,301,21)] [(124,15,0,0),(116,6,1,0),(114,4,2,0),(301,21,3,0)] false (w2) iw iw p6 p6 p6 p6 p6 p6 p6 p6 p6 p6 p6 p6 p6 p6 p6 ?_;refine x8 ?_;refine hK _ ?_;clear hK K;refine uZ ?_;refine⟨(_,i+1,Gn),⟨uO,Ik,Ei,qC⟩,uO,ch⟩
 refine El ?_;have Wd:i=hs.length:=oM;rw[Wd,wz,LJ]at Ik;rw[Ik]at hr;refine C0 ?_ ?_<;>intro c0
 .have ZL:Gi=[]:=Ha oM;rcases hr with ⟨_,rfl⟩|⟨h,_⟩|⟨h,_⟩
  .refine WE ?_;rw[show f67.results.toList=[.cell 8 33,.tmp 9] from rfl];first|refine jW ?_|exact W5
   rfl
  .omega
  exact absurd ZL h
 refine C0 ?_ ?_<;>intro c1
 .rcases hr with ⟨h,_⟩|⟨_,rfl⟩|⟨_,h,_⟩
  .rw[h]at c0;simp at c0
  .refine WE ?_;rw[show f67.results.toList=[.cell 8 33,.tmp 9] from rfl];first|refine jW ?_|exact W5
   rfl
  omega
 rcases hr with ⟨h,_⟩|⟨h,_⟩|⟨SO,hle,L,dU,Qy,rfl⟩
 .rw[h]at c0;simp at c0
 .omega
 have wb:=OE Na (Gi.map Z') (L.map Z') (by simpa using SO) (fun x hx=>by
  obtain⟨z,hz,rfl⟩:=A2.1 hx;exact DF _ (dt z hz)) xF (dU.map _) H_
 have Y7:L.length=Gi.length:=dU.length_eq;unfold UO at wb;refine uR ?_;intro K hK;refine uH ?_;refine PZ [(0,0,116,6),(1,0,114,4),(2,0,301,21)] [(116,6,0,0),(114,4,1,0),(301,21,2,0)] false (wb) iw iw p6 p6 p6 p6 p6 p6 p6 p6 p6 p6 p6 p6 p6 p6 p6 ?_;refine x8 ?_;refine hK _ ?_;clear hK K;refine A_ ?_;rw[show f67.results.toList=[.cell 8 33,.tmp 9] from rfl];exact W5
end
open Go.Plant Go.Inf
def MV(of:Pl->Pl×Bool)(G:List iM)(h:iM):List iM:=if(of h.2).2=true then Inf.Bb G (h.1,(of h.2).1) else G
def wL(of:Pl->Pl×Bool)(hs:List iM):List iM:=hs.foldl (MV of) []
section
variable{Na:Int}{kf:Nat}{cp:List (List AV)}{of:Pl->Pl×Bool}{Gd:Pl->Prop}
def du(hs:List iM)(jJ:hs.length<=900)(EO:∀h∈hs,UB prog J9 kf [] (h.2.av::JS cp) [] (.F1 [(of h.2).1.av,B (of h.2).2]))(Fs:∀h∈hs,(of h.2).2=true->Gd (of h.2).1)(SX:∀q,Gd q->BP q)(sU:∀a b,Gd a->Gd b->Pu (qN a)=Pu (qN b)->a=b)(r:AV)(hr:(wL of hs=[]/\r=.F1 [ZM,I 11])\/
   (wL of hs≠[]/\∃L:List iM,L.Perm (wL of hs)/\(L.Pairwise fun a b=>W9 (qN a.2) (qN b.2)=true)/\r=.F1 [(UZ.mk Na (L.map Z')).av,I 0])):
  UB prog J9 80 [] [(UZ.mk Na (hs.map Z')).av,.fn kf (JS cp)] [] r:=by
 refine MD func80 ntmps80 ?_;intro w e X hC;refine uZ ?_;refine wG 301 106 6 63 3 1 dM rfl rfl rfl ?_;refine uW ?_;refine PV (fun i:Nat×Nat×List iM=>⟨[(1,.fn kf (JS cp)),(2,.p 102 1 0 0 0),(4,.p 104 2 0 0 0),(5,I 0),(6,.p 106 6 0 0 0),(14,.sl (wF (hs.map Z')) false),(15,I hs.length),(16,I i.2.1)],(106,some (6,.box [.Ic 111 4,.l 301 12 0 i.2.2.length]))::(111,some (4,.ms (jA 0 (i.2.2.map Z'))))::(301,some (12,.own 63 3 (wF (i.2.2.map Z'))))::(104,some (2,.box [I 0,.sl [] true]))::(102,some (1,.box [I Na,.sl (wF (hs.map Z')) false]))::[],i.1⟩)
  (fun i=>i.2.1<=hs.length/\wL of hs=(hs.drop i.2.1).foldl (MV of) i.2.2/\(∀x∈i.2.2,Gd x.2)/\i.2.2.length<=i.2.1) (fun i=>hs.length - i.2.1) (_,0,[]) ⟨zL _,rfl,(fun x hx=>ZY),zL _⟩ (ch) ?_
 rintro⟨ck,i,Gi⟩ ⟨hi,Ik,dt,fe⟩;simp only at hi Ik dt fe;refine C0 ?_ ?_<;>intro c
 .have PP:i<hs.length:=oM;have hg:=LA PP;have hm:hs.getD i (0,⟨[],[]⟩)∈hs:=Ug PP _;have eX:hs.drop i=hs.getD i (0,⟨[],[]⟩)::hs.drop (i+1):=by rw[Pv PP,gE,gG PP];rfl
  rw[eX,Xi]at Ik;have w1:=EO _ hm;have oB:=Fs _ hm;have jf:MV of Gi (hs.getD i (0,⟨[],[]⟩))=if(of (hs.getD i (0,⟨[],[]⟩)).2).2=true then Inf.Bb Gi ((hs.getD i (0,⟨[],[]⟩)).1,(of (hs.getD i (0,⟨[],[]⟩)).2).1) else Gi:=rfl
  rw[jf]at Ik;clear jf;generalize hs.getD i (0,⟨[],[]⟩)=h at*;obtain⟨hu,JW⟩:=h;simp only[Z']at hg w1 oB Ik;generalize of JW=qo at*;obtain⟨q,o⟩:=qo;simp only at w1 oB Ik;cases o with
  |false=>rw[iN dM]at Ik;refine aH @hg ?_;refine uR ?_;intro K hK;refine PZ [] [] false (w1) iw iw p6 p6 p6 p6 p6 p6 p6 p6 p6 p6 p6 p6 p6 p6 p6 ?_;refine x8 ?_;refine hK _ ?_;clear hK K;refine uZ ?_;refine UN ?_;refine⟨(_,i+1,Gi),⟨uO,Ik,dt,uO⟩,uO,ch⟩|true=>
   rw[iP rfl]at Ik;have oB:=oB rfl;have w2:=Oh q hu Gi (SX _ oB) (fun x hx e=>sU _ _ (dt x hx) oB e) oM;have Ei:∀x∈Inf.Bb Gi (hu,q),Gd x.2:=fun x hx=>by
    rcases bu hx with e|⟨z,hz,e⟩
    .rw[e];exact oB
    rw[<-e];exact dt z hz
   have qC:=wQ Gi (hu,q);unfold UO at w2;generalize Inf.Bb Gi (hu,q)=Gn at*;refine aH @hg ?_;refine uR ?_;intro K hK;refine PZ [] [] false (w1) iw iw p6 p6 p6 p6 p6 p6 p6 p6 p6 p6 p6 p6 p6 p6 p6 ?_;refine x8 ?_;refine hK _ ?_;clear hK K;refine uZ ?_;refine uT ?_;refine uR ?_;intro K hK;refine uH ?_;refine PZ [(0,0,106,6),(1,0,111,4),(2,0,301,12)] [(106,6,0,0),(111,4,1,0),(301,12,2,0)] false (w2) iw iw p6 p6 p6 p6 p6 p6 p6 p6 p6 p6 p6 p6 p6 p6 p6 ?_;refine x8 ?_;refine hK _ ?_;clear hK K;refine uZ ?_;refine⟨(_,i+1,Gn),⟨uO,Ik,Ei,uO⟩,uO,ch⟩
 refine El ?_;have Wd:i=hs.length:=oM;rw[Wd,wz,LJ]at Ik;rw[Ik]at hr;refine C0 ?_ ?_<;>intro c0
 .have ZL:Gi=[]:=Ha oM;rcases hr with ⟨_,rfl⟩|⟨h,_⟩
  .refine WE ?_;rw[show f80.results.toList=[.cell 4 33,.tmp 5] from rfl];first|refine jW ?_|exact W5
   rfl
  exact absurd ZL h
 rcases hr with ⟨h,_⟩|⟨SO,L,dU,Qy,rfl⟩
 .rw[h]at c0;simp at c0
 have wb:=OE Na (Gi.map Z') (L.map Z') (by simpa using SO) (fun x hx=>by
  obtain⟨z,hz,rfl⟩:=A2.1 hx;exact(SX _ (dt z hz)).ky) xF (dU.map _) H_
 have Y7:L.length=Gi.length:=dU.length_eq;unfold UO at wb;refine uR ?_;intro K hK;refine uH ?_;refine PZ [(0,0,106,6),(1,0,111,4),(2,0,301,12)] [(106,6,0,0),(111,4,1,0),(301,12,2,0)] false (wb) iw iw p6 p6 p6 p6 p6 p6 p6 p6 p6 p6 p6 p6 p6 p6 p6 ?_;refine x8 ?_;refine hK _ ?_;clear hK K;refine A_ ?_;rw[show f80.results.toList=[.cell 4 33,.tmp 5] from rfl];exact W5
end
def pX(n:Nat):List AV:=List.replicate n (.sl [] true)
theorem atA(n:Nat):(pX n).length=n:=by simp[pX]
theorem abP(n:Nat):pX n++[.sl [] true]=pX (n+1):=by simp[pX,Be]
def acK{f:AV->Prop}(n:Nat)(h:f (.sl [] true)):(∀e∈pX n,∀c∈e.cells,f c)=True:=by refine Ie fun e he c hc=>?_;obtain rfl:=(List.mem_replicate.1 he).2;rw[show(AV.sl [] true).cells=[.sl [] true] from rfl,iT]at hc;rw[hc];exact h
def aoh{f:AV->AV}{v:AV}(n:Nat)(h:f (.sl [] true)=v):(pX n).map (cK f)=List.replicate n v:=by rw[pX,List.map_replicate];congr 1
def af4(n:Nat):List.replicate n (AV.sl [] false)=Vu (List.replicate n []):=by simp[Vu,tk]
theorem aci(k n:Nat)(hp:Hp):(pX n).map (cK (fz k hp))=Vu (List.replicate n []):=by rw[aoh n (bJ k hp [] true),af4]
theorem ahK(k n:Nat)(hp:Hp):(∀e∈pX n,∀c∈e.cells,Xa k hp c)=True:=acK n (by cases k<;>trivial)
attribute [go_sem] atA abP aci ahK
def bA(xs:List Nd)(k:Nat):Pl:=⟨(List.range k).map fun i=>List.replicate (xs.getD i default).ln.toNat 0,List.replicate k []⟩
def si(xs:List Nd)(k:Nat):(bA xs (k+1)).Q=(bA xs k).Q++[List.replicate (xs.getD k default).ln.toNat 0]:=by simp[bA,RM]
def cU(xs:List Nd)(k:Nat):(bA xs k).Q.length=k/\(bA xs k).R.length=k:=by simp[bA]
def MH(y:Ly):Pl:=if NP y=0 then bA y.U y.U.length else⟨[],[]⟩
def nN(y:Ly)(hs:UQ y)(Sn:NP y=0->0<y.U.length):UB prog J9 72 [] [y.av] [] (.F1 [(MH y).av,I (NP y)]):=by
 have h1:=SS y hs;have hE:MH y=_:=MH.eq_1 y;have fo:=fun h:NP y=0=>fun i hi=>(⟨(EF (Le h i hi)).1,(EF (Le h i hi)).2.1⟩:0<=(y.U.getD i default).ln/\(y.U.getD i default).ln<=8);have hN:=hs.n;generalize MH y=r at*;generalize NP y=v at*;refine MD func72 ntmps72 ?_;intro w e X hC;refine uA ?_;refine yX h1 ?_;refine C0 ?_ ?_<;>intro c
 .rw[iN c]at hE;subst hE;refine WE ?_;rw[show f72.results.toList=[.cell 2 36,.tmp 3] from rfl];first|refine jW ?_|exact W5
  rfl
 have c':=BX c;rw[iP c']at hE;replace fo:=fo c';replace Sn:=Sn c';subst hE;refine EP ?_;refine PV (fun q:Nat×Nat×Az=>⟨[(1,.p 101 1 0 0 0),(2,.p 102 2 0 0 0),(5,.p 105 9 0 0 0),(15,.sl (H4 y.U) false),(16,I y.U.length),(17,I q.2.1)],
  (105,some (9,.box [Zd q.2.1 (.l 127 q.2.2.1 0 q.2.1),Zd q.2.1 (.l 132 q.2.2.2 0 q.2.1)]))::(127,KA q.2.1 (q.2.2.1,.own 22 1 (PG 3 (bA y.U q.2.1).Q)))::(132,KA q.2.1 (q.2.2.2,.own 22 1 (pX q.2.1)))::(102,some (2,.box [.sl [] true,.sl [] true]))::(101,some (1,.box (r8 y)))::[],q.1⟩)
  (fun q=>q.2.1<=y.U.length) (fun q=>y.U.length-q.2.1) (_,0,0,0) (zL _) (ch) ?_
 rintro⟨ck,i,g1,g2⟩ hi;simp only at hi;obtain⟨S0,-⟩:=cU y.U i;have e1:=si y.U i;refine C0 ?_ ?_<;>intro h
 .have PP:i<y.U.length:=oM;have NI:=fo i PP;generalize (bA y.U i).Q=o at*;generalize e2:y.U.getD i default=x at*;obtain⟨m,hm⟩:∃m:Nat,m=x.ln.toNat:=⟨_,rfl⟩;have Al:x.ln=(m:Int):=oM;rw[<-hm]at e1;by_cases PL:i=0
  .subst PL;simp only[W8,Hi];obtain rfl:o=[]:=EH.1 S0;refine aH (uI (bp PP) (uI @e2 @Al)) ?_;refine Va @AW ?_;exact nX (_,0+1,ck+11,ck+17) (wH (uI @e1 (uI @gY @l6)))
  simp only[G4 PL,PO PL];refine aH (uI (bp PP) (uI @e2 (uI @Al @S0))) ?_;refine Va @S0 ?_;exact nX (_,i+1,g1,g2) (wH (uI @e1 (uI @gY @l6)))
 refine El ?_;obtain rfl:i=y.U.length:=oM;have Za:y.U.length≠0:=oM;simp only[G4 Za,PO Za];refine WE ?_;rw[show f72.results.toList=[.cell 2 36,.tmp 3] from rfl];first|refine VO @S0 ?_|exact kv @S0
 rw[c'];rfl
def GG(y:Ly)(hs:UQ y)(Sn:NP y=0->0<y.U.length):UB prog J9 50 [] [y.av] [] (.F1 [(MH y).av,I (NP y)]):=by
 have h1:=qx y hs;have hE:MH y=_:=MH.eq_1 y;have fo:=fun h:NP y=0=>fun i hi=>(⟨(EF (Le h i hi)).1,(EF (Le h i hi)).2.1⟩:0<=(y.U.getD i default).ln/\(y.U.getD i default).ln<=8);have hN:=hs.n;generalize MH y=r at*;generalize NP y=v at*;refine MD func50 ntmps50 ?_;intro w e X hC;refine uA ?_;refine yX h1 ?_;refine C0 ?_ ?_<;>intro c
 .rw[iN c]at hE;subst hE;refine WE ?_;rw[show Tryz.f50.results.toList=[.cell 2 36,.tmp 3] from rfl];first|refine jW ?_|exact W5
  rfl
 have c':=BX c;rw[iP c']at hE;replace fo:=fo c';replace Sn:=Sn c';subst hE;refine EP ?_;refine PV (fun q:Nat×Nat×Az=>⟨[(1,.p 101 1 0 0 0),(2,.p 102 2 0 0 0),(5,.p 105 9 0 0 0),(6,I q.2.1)],(105,some (9,.box [Zd q.2.1 (.l 130 q.2.2.1 0 q.2.1),Zd q.2.1 (.l 134 q.2.2.2 0 q.2.1)]))::(130,KA q.2.1 (q.2.2.1,.own 22 1 (PG 3 (bA y.U q.2.1).Q)))::(134,KA q.2.1 (q.2.2.2,.own 22 1 (pX q.2.1)))::(102,some (2,.box [.sl [] true,.sl [] true]))::(101,some (1,.box (r8 y)))::[],q.1⟩)
  (fun q=>q.2.1<=y.U.length) (fun q=>y.U.length-q.2.1) (_,0,0,0) (zL _) (ch) ?_
 rintro⟨ck,i,g1,g2⟩ hi;simp only at hi;obtain⟨S0,-⟩:=cU y.U i;have e1:=si y.U i;refine C0 ?_ ?_<;>intro h
 .have PP:i<y.U.length:=oM;have NI:=fo i PP;generalize (bA y.U i).Q=o at*;generalize e2:y.U.getD i default=x at*;obtain⟨m,hm⟩:∃m:Nat,m=x.ln.toNat:=⟨_,rfl⟩;have Al:x.ln=(m:Int):=oM;rw[<-hm]at e1;by_cases PL:i=0
  .subst PL;simp only[W8,Hi];obtain rfl:o=[]:=EH.1 S0;refine Va (uI (bp PP) (uI @e2 (uI @Al @AW))) ?_;exact nX (_,0+1,ck+15,ck+19) (wH (uI @e1 (uI @gY @l6)))
  simp only[G4 PL,PO PL];refine Va (uI (bp PP) (uI @e2 (uI @Al @S0))) ?_;exact nX (_,i+1,g1,g2) (wH (uI @e1 (uI @gY @l6)))
 refine El ?_;obtain rfl:i=y.U.length:=oM;have Za:y.U.length≠0:=oM;simp only[G4 Za,PO Za];refine WE ?_;rw[show Tryz.f50.results.toList=[.cell 2 36,.tmp 3] from rfl];first|refine VO @S0 ?_|exact kv @S0
 rw[c'];rfl
open Go.Plant
def yz(p:Pl)(b:Int):Int×Int×Bool:=if b=0 then(0,0,false) else AU p b
def agJ{l:List Int}{b:Int}:OP (fun y=>decide (b=y)) l=OP (fun y=>decide (y=b)) l:=by
 have:(fun y:Int=>decide (b=y))=fun y=>decide (y=b):=by
  funext y
  by_cases h:b=y
  .subst h;rfl
  rw[dF h,dF (fun h2=>h h2.symm)]
 rw[this]
def akd{l:List Int}{b:Int}:(b∈l/\∃k:Nat,k<l.length/\OP (fun y=>decide (y=b)) l=k/\(l.findIdx? fun x=>decide (x=b))=some k)\/(b∉l/\OP (fun y=>decide (y=b)) l=-1):=by
 by_cases h:b∈l
 .refine .inl ⟨h,?_⟩;cases hf:(l.findIdx? fun x=>decide (x=b))with
  |none=>rw[n4]at hf;have:=hf b h;simp at this|some k=>have h2:=hf;rw[tV]at h2;obtain⟨h3,_⟩:=h2;exact⟨k,h3,by rw[OP,hf],rfl⟩
 refine .inr ⟨h,?_⟩;have:(l.findIdx? fun x=>decide (x=b))=none:=by rw[n4];intro x hx;simp only[mV];rintro rfl;exact h hx
 rw[OP,this]
def aaw(p:Pl)(b:Int)(h1:p.Q.length<=1000)(h2:p.R.length<=1000)(h3:∀i,i<p.Q.length->(p.Q.getD i []).length<=1000)(h4:∀i,i<p.R.length->(p.R.getD i []).length<=1000):
  UB prog J9 90 [] [p.av,I b] [] (yD (yz p b)):=by
 refine MD func90 ntmps90 ?_;intro w e X hC;refine C0 ?_ ?_<;>intro c0
 .have hE:yz p b=(0,0,false):=iP c0;rw[hE];exact Oy
 have hE:yz p b=AU p b:=iN c0;rw[hE];refine EP ?_;refine R7 p.Q.length (fun q:Az=>⟨[(1,I b),(2,.p 102 1 0 0 0),(4,.p 104 2 0 0 0),(15,RS p.Q),(16,I p.Q.length),(17,I q.2)],(102,some (1,.box (GE p)))::(104,some (2,.box [I 0,I 0]))::[],q.1⟩) (fun q=>∀j,j<q.2->b∉p.Q.getD j []) (fun j hj=>absurd hj (nZ _)) (ch) ?_;intro ck i hi hj;simp only at hj;refine C0 ?_ ?_<;>intro h
 .have PP:i<p.Q.length:=oM;have Hk:=h3 i PP;have Zw:=fun h=>eV PP h hj;have Fs:b∉p.Q.getD i []->∀j,j<i+1->b∉p.Q.getD j []:=fun h j tw=>by
   by_cases ZJ:j=i
   .subst ZJ;exact h
   exact hj j oM
  have ah2:=akd (l:=p.Q.getD i []) (b:=b);have ZH:(p.Q.findIdx? fun r=>decide (b∈r))=some i->AU p b=((i:Int),((((p.Q.getD i []).findIdx? fun x=>decide (x=b)).getD 0:Nat):Int),true):=fun h=>by rw[AU,iN c0,h]
  generalize e1:p.Q.getD i []=sl at*;have An:=TH sl b oM;rw[agJ]at An;generalize OP (fun y=>decide (y=b)) sl=ix at*;refine Bj (uI (au PP) @e1) ?_;refine yX An ?_;refine uZ ?_;rcases ah2 with ⟨hm,k,hk,rfl,hf⟩|⟨hm,rfl⟩
  .have hw:=ZH (Zw hm);rw[hf]at hw;rw[hw];refine Wc ?_ ?_<;>intro h5
   .exact Oy
   omega
  refine Wc ?_ ?_<;>intro h5
  .omega
  refine uZ ?_;refine⟨(_,i+1),⟨uO,Fs hm⟩,uO,ch⟩
 refine El ?_;obtain rfl:i=p.Q.length:=oM;have Ov:=Tm hj;have ZH:AU p b=(match p.R.findIdx? fun r=>decide (b∈r)with|some n=>((n:Int),-1,true)|none=>(0,0,false)):=by rw[AU,iN c0,Ov];rfl
 rw[ZH];refine EP ?_;refine R7 p.R.length (fun q:Az=>⟨[(1,I b),(2,.p 102 1 0 0 0),(4,.p 104 2 0 0 0),(32,RS p.R),(33,I p.R.length),(34,I q.2)],(102,some (1,.box (GE p)))::(104,some (2,.box [I 0,I 0]))::[],q.1⟩) (fun q=>∀j,j<q.2->b∉p.R.getD j []) (fun j hj=>absurd hj (nZ _)) (ch) ?_;intro ck2 i hi pO;simp only at pO;refine C0 ?_ ?_<;>intro h5
 .have PP:i<p.R.length:=oM;have Hk:=h4 i PP;have Zw:=fun h=>eV PP h pO;have Fs:b∉p.R.getD i []->∀j,j<i+1->b∉p.R.getD j []:=fun h j tw=>by
   by_cases ZJ:j=i
   .subst ZJ;exact h
   exact pO j oM
  generalize e1:p.R.getD i []=sl at*;have An:=M6 sl b oM;have wy:sl.any (fun y=>decide (b=y))=decide (b∈sl):=by
   rw[VY,X4,Vd];constructor
   .rintro⟨z,hz,h⟩;rw[Vd]at h;rw[h];exact hz
   intro h;exact⟨b,h,sM⟩
  rw[wy]at An;refine Bj (uI (au PP) @e1) ?_;refine yX An ?_;refine Wc ?_ ?_<;>intro h6
  .have:=Zw h6;rw[this];exact Oy
  refine uZ ?_;refine⟨(_,i+1),⟨uO,Fs h6⟩,uO,ch⟩
 refine El ?_;obtain rfl:i=p.R.length:=oM;rw[Tm pO];exact Oy
def Br(s:List Int)(b:Int):Bool:=!(decide (s.length=0)||(decide (¬s.getD 0 0=0)||decide (b=0)))
def abU(s:List Int)(b:Int)(hs:s.length<=1000)(h:Br s b=true):UB prog J9 140 [] [IS s,I b] [(100,some (1,.own 3 1 (tk (s.set 0 b))))] (.F1 [.l 100 1 0 s.length,B true]):=by simp only[Br,Oc,Bool.or_eq_false_iff,mV]at h;obtain⟨h0,h1,h2⟩:=h;have d0:=Vj ((s.length:Int)=0);have d1:decide (¬s.getD 0 0=0)=false:=dF h1;have d2:decide (b=0)=false:=dF h2;have RO:0<s.length:=oM;refine MD func140 ntmps140 ?_;intro w e X hC;refine uZ ?_;refine cx (uI @d0 (uI (ma RO) (uI @ic (uI @d1 @d2)))) ?_;refine uF ?_;refine uR ?_;intro K hK;refine PZ [] [(121,17,100,1)] false ((j9 s RO hs)) iw iw p6 p6 p6 p6 p6 p6 p6 p6 p6 p6 p6 p6 p6 p6 p6 ?_;refine M3 ?_;refine hK _ ?_;clear hK K;refine WE ?_;rw[show f140.results.toList=[.tmp 4,.tmp 5] from rfl];(refine Me [(100,1,121,17)] Xs sM sM sM I3 I3 I3 ?_ ?_;all_goals (first|refine UR ?_|exact Xv|skip))
def alp(s:List Int)(b:Int)(hs:s.length<=1000)(h:Br s b=false):UB prog J9 140 [] [IS s,I b] [] (.F1 [.sl [] false,B false]):=by
 simp only[Br,pv,eo,Vd]at h;refine MD func140 ntmps140 ?_;intro w e X hC;refine uZ ?_;by_cases h0:s.length=0
 .have d0:=oN ((s.length:Int)=0);refine GJ @d0 ?_;refine TD ?_;rw[show f140.results.toList=[.tmp 4,.tmp 5] from rfl];exact W5
 have d0:=Vj ((s.length:Int)=0);have RO:0<s.length:=oM;by_cases h1:s.getD 0 0=0
 .have d1:decide (¬s.getD 0 0=0)=false:=dF (fun h=>h h1);have d2:decide (b=0)=true:=dT ((h.resolve_left h0).resolve_left (fun h=>h h1));refine cx (uI @d0 (uI (ma RO) (uI @ic (uI @d1 @d2)))) ?_;refine TD ?_;rw[show f140.results.toList=[.tmp 4,.tmp 5] from rfl];exact W5
 have d1:decide (¬s.getD 0 0=0)=true:=dT h1;refine cx (uI @d0 (uI (ma RO) (uI @ic @d1))) ?_;refine TD ?_;rw[show f140.results.toList=[.tmp 4,.tmp 5] from rfl];exact W5
def pL(y:Ly)(p:Pl)(node bag:Int):Pl×Int:=
 if node<0\/y.U.length<=node\/bag<1\/40<bag then(⟨[],[]⟩,1)
 else if ¬(y.U.getD node.toNat default).kd=1 then(⟨[],[]⟩,4)
 else if(AU p bag).2.2=true then(⟨[],[]⟩,5)
 else if ¬(p.Q.getD node.toNat []).getD 0 0=0 then(⟨[],[]⟩,8)
 else(⟨p.Q.set node.toNat ((p.Q.getD node.toNat []).set 0 bag),p.R⟩,0)
theorem ak6(y:Ly)(p:Pl)(node bag:Int)(hp:Zc y.U p):UB prog J9 82 [] [y.av,p.av,I node,I bag] [] (.F1 [(pL y p node bag).1.av,I (pL y p node bag).2]):=by
 have xE:=hp.xl;have jJ:=hp.sl;have OT:=hp.bl;have IA:∀i,i<p.Q.length->(p.Q.getD i []).length<=1000:=fun i hi=>by rw[hp.sl]at hi;have:=hp.row i hi;have:=hp.ln i hi;omega
 have w6:∀i,i<p.R.length->(p.R.getD i []).length<=1000:=fun i hi=>by rw[hp.bl]at hi;have:=hp.bin i hi;omega
 have H8:=aaw p bag oM oM IA w6;have iS:=H2 p oM oM IA w6;have hE:pL y p node bag=_:=pL.eq_1 y p node bag;generalize pL y p node bag=r at*;refine MD func82 ntmps82 ?_;intro w e X hC;refine uZ ?_;cases d1:decide (node<0)with
 |true=>
  rw[iP (.inl (oT d1))]at hE;subst hE;refine GJ @d1 ?_;refine TD ?_;rw[show f82.results.toList=[.cell 8 36,.tmp 9] from rfl];first|refine jW ?_|exact W5
  rfl
 |false=>
 have g1:=oF d1;cases d2:decide ((y.U.length:Int)<=node)with
 |true=>
  rw[iP (.inr (.inl (oT d2)))]at hE;subst hE;refine GJ (uI @d1 @d2) ?_;refine TD ?_;rw[show f82.results.toList=[.cell 8 36,.tmp 9] from rfl];first|refine jW ?_|exact W5
  rfl
 |false=>
 have g2:=oF d2;cases d3:decide (bag<1)with
 |true=>
  rw[iP (.inr (.inr (.inl (oT d3))))]at hE;subst hE;refine GJ (uI @d1 (uI @d2 @d3)) ?_;refine TD ?_;rw[show f82.results.toList=[.cell 8 36,.tmp 9] from rfl];first|refine jW ?_|exact W5
  rfl
 |false=>
 have g3:=oF d3;cases d4:decide (40<bag)with
 |true=>
  rw[iP (.inr (.inr (.inr (oT d4))))]at hE;subst hE;refine GJ (uI @d1 (uI @d2 (uI @d3 @d4))) ?_;refine TD ?_;rw[show f82.results.toList=[.cell 8 36,.tmp 9] from rfl];first|refine jW ?_|exact W5
  rfl
 |false=>
 have g4:=oF d4;rw[iN (fun h=>by rcases h with h|h|h|h<;>omega)]at hE;obtain⟨m,hm⟩:∃m,m=node.toNat:=⟨_,rfl⟩;have Al:node=(m:Int):=oM;rw[<-hm]at hE;subst Al;have aJ:m<y.U.length:=oM;have wj:m<p.Q.length:=oM;have VV:=hp.st m aJ;have gk:=hp.row m aJ;have s6:=IA m wj;have hw:yz p bag=AU p bag:=iN oM;rw[hw]at H8;generalize AU p bag=wq at*;obtain⟨q1,q2,q3⟩:=wq;simp only at hE H8;generalize e2:y.U.getD m default=x at*;generalize e3:p.Q.getD m []=sl at*;refine QT (uI @d1 (uI @d2 (uI @d3 @d4))) ?_;refine Fm (uI (bp aJ) @e2) ?_ ?_<;>intro c1
 .rw[iP c1]at hE;subst hE;refine WE ?_;rw[show f82.results.toList=[.cell 8 36,.tmp 9] from rfl];first|refine jW ?_|exact W5
  rfl
 rw[iN c1]at hE;have c1':x.kd=1:=BX c1;have RO:0<sl.length:=by have:=VV (by rw[c1'];decide);omega
 refine Gk H8 ?_;refine uZ ?_;cases q3 with
 |true=>
  rw[iP rfl]at hE;subst hE;refine TD ?_;rw[show f82.results.toList=[.cell 8 36,.tmp 9] from rfl];first|refine jW ?_|exact W5
  rfl
 |false=>
 rw[iN dM]at hE;refine uF ?_;refine C0 ?_ ?_<;>intro c2
 .omega
 by_cases c3:sl.getD 0 0=0
 .rw[iN (fun h=>h c3)]at hE;subst hE;have Vv:=abU sl bag s6 (by
   simp only[Br,Oc,Bool.or_eq_false_iff,mV];exact⟨oM,fun h=>h c3,oM⟩)
  refine nF (uI (au wj) @e3) ?_;intro K hK;refine uH ?_;refine PZ [] [(162,50,100,1)] false (Vv) iw iw p6 p6 p6 p6 p6 p6 p6 p6 p6 p6 p6 p6 p6 p6 p6 ?_;refine M3 ?_;refine hK _ ?_;clear hK K;refine uZ ?_;refine uF ?_;refine uR ?_;intro K hK;have z:=@z8;refine PZ [] [(169,59,100,1),(401,59,101,1)] false (iS) (xI z) (xI z) (Kg z) (Kg z) (Kg z) (Kg z) (Kg z) (Kg z) (Kg z) (Kg z) (Kg z) (Kg z) (Kg z) (Kg z) (Kg z) (Kg z) (Kg z) ?_;refine TA z ?_;clear z;refine hK _ ?_;clear hK K;refine WE ?_;rw[show f82.results.toList=[.cell 8 36,.tmp 9] from rfl];exact W5
 rw[iP c3]at hE;subst hE;have Vv:=alp sl bag s6 (by
  simp only[Br,pv,eo,Vd];exact .inr (.inl c3))
 refine nF (uI (au wj) @e3) ?_;intro K hK;refine uH ?_;refine cP Vv ?_;refine uS ?_;refine hK _ ?_;clear hK K;refine uZ ?_;refine TD ?_;rw[show f82.results.toList=[.cell 8 36,.tmp 9] from rfl];first|refine jW ?_|exact W5
 rfl
open Go.Plant
theorem jT(y:Ly)(p:Pl)(node bag:Int)(hp:Zc y.U p):UB prog J9 51 [] [y.av,p.av,I node,I bag] [] (.F1 [(pL y p node bag).1.av,I (pL y p node bag).2]):=by
 have xE:=hp.xl;have jJ:=hp.sl;have OT:=hp.bl;have IA:∀i,i<p.Q.length->(p.Q.getD i []).length<=1000:=fun i hi=>by rw[hp.sl]at hi;have:=hp.row i hi;have:=hp.ln i hi;omega
 have w6:∀i,i<p.R.length->(p.R.getD i []).length<=1000:=fun i hi=>by rw[hp.bl]at hi;have:=hp.bin i hi;omega
 have H8:=aqY p bag oM oM IA (fun i hi=>by have:=w6 i hi;omega);have iS:=fun h=>Gt p ⟨h,oM⟩ ⟨oM,oM⟩ IA w6;have hE:pL y p node bag=_:=pL.eq_1 y p node bag;generalize pL y p node bag=r at*;refine MD func51 ntmps51 ?_;intro w e X hC;refine uZ ?_;cases d1:decide (node<0)with
 |true=>
  rw[iP (.inl (oT d1))]at hE;subst hE;refine GJ @d1 ?_;refine TD ?_;rw[show f51.results.toList=[.cell 8 36,.tmp 9] from rfl];first|refine jW ?_|exact W5
  rfl
 |false=>
 have g1:=oF d1;cases d2:decide ((y.U.length:Int)<=node)with
 |true=>
  rw[iP (.inr (.inl (oT d2)))]at hE;subst hE;refine GJ (uI @d1 @d2) ?_;refine TD ?_;rw[show f51.results.toList=[.cell 8 36,.tmp 9] from rfl];first|refine jW ?_|exact W5
  rfl
 |false=>
 have g2:=oF d2;cases d3:decide (bag<1)with
 |true=>
  rw[iP (.inr (.inr (.inl (oT d3))))]at hE;subst hE;refine GJ (uI @d1 (uI @d2 @d3)) ?_;refine TD ?_;rw[show f51.results.toList=[.cell 8 36,.tmp 9] from rfl];first|refine jW ?_|exact W5
  rfl
 |false=>
 have g3:=oF d3;cases d4:decide (40<bag)with
 |true=>
  rw[iP (.inr (.inr (.inr (oT d4))))]at hE;subst hE;refine GJ (uI @d1 (uI @d2 (uI @d3 @d4))) ?_;refine TD ?_;rw[show f51.results.toList=[.cell 8 36,.tmp 9] from rfl];first|refine jW ?_|exact W5
  rfl
 |false=>
 have g4:=oF d4;rw[iN (fun h=>by rcases h with h|h|h|h<;>omega)]at hE;obtain⟨m,hm⟩:∃m,m=node.toNat:=⟨_,rfl⟩;have Al:node=(m:Int):=oM;rw[<-hm]at hE;subst Al;have aJ:m<y.U.length:=oM;have wj:m<p.Q.length:=oM;have VV:=hp.st m aJ;have gk:=hp.row m aJ;have s6:=IA m wj;generalize AU p bag=wq at*;obtain⟨q1,q2,q3⟩:=wq;simp only at hE H8;generalize e2:y.U.getD m default=x at*;generalize e3:p.Q.getD m []=sl at*;refine QT (uI @d1 (uI @d2 (uI @d3 @d4))) ?_;refine Fm (uI (bp aJ) @e2) ?_ ?_<;>intro c1
 .rw[iP c1]at hE;subst hE;refine WE ?_;rw[show f51.results.toList=[.cell 8 36,.tmp 9] from rfl];first|refine jW ?_|exact W5
  rfl
 rw[iN c1]at hE;have c1':x.kd=1:=BX c1;have RO:0<sl.length:=by have:=VV (by rw[c1'];decide);omega
 refine Gk H8 ?_;refine uZ ?_;cases q3 with
 |true=>
  rw[iP rfl]at hE;subst hE;refine TD ?_;rw[show f51.results.toList=[.cell 8 36,.tmp 9] from rfl];first|refine jW ?_|exact W5
  rfl
 |false=>
 rw[iN dM]at hE;refine uF ?_;refine Fm (uI (au wj) (uI @e3 (uI (ma RO) @ic))) ?_ ?_<;>intro c3
 .rw[iP c3]at hE;subst hE;refine WE ?_;rw[show f51.results.toList=[.cell 8 36,.tmp 9] from rfl];first|refine jW ?_|exact W5
  rfl
 rw[iN c3]at hE;subst hE;refine uR ?_;intro K hK;have z:=@z8;refine PZ [] [(157,48,100,1),(401,48,101,1)] false ((iS oM)) (xI z) (xI z) (Kg z) (Kg z) (Kg z) (Kg z) (Kg z) (Kg z) (Kg z) (Kg z) (Kg z) (Kg z) (Kg z) (Kg z) (Kg z) (Kg z) (Kg z) ?_;refine TA z ?_;clear z;refine hK _ ?_;clear hK K;(repeat first|refine GA ?_|refine md ?_|refine lK ?_);refine ZZ hC rfl fun K hK=>?_;simp only[go_sem,Hc wj,e3,ic]
 refine uH ?_;refine hK _ ?_;clear hK K;have Ze:∀v,((PG 3 p.Q).set m v).getD m .bad=v:=fun v=>by rw[F3,iP ⟨rfl,by rw[RC];exact wj⟩]
 have SR:(sl.set 0 bag).length=sl.length:=su;refine YW (id:=157) (gi:=48) (t:=22) (k:=1) (i:=m) (rid:=162) (rg:=55) (n:=sl.length) rfl (by rw[su,RC];exact wj) (Ze _) dM ?_ ?_
 .simp only[go_sem,Kr,SR]
 simp only[go_sem,vZ,dN];refine WE ?_;rw[show f51.results.toList=[.cell 8 36,.tmp 9] from rfl];exact W5
open Go.Plant Go.Inf
def afk(y:Ly)(p:Pl)(node bag:Int)(hp:Zc y.U p):UB prog J9 81 [] [p.av,.P [.sl (H4 y.U) false,.sl (YA y.D) false],.P [I node],.P [I bag]] [] (.F1 [(pL y p node bag).1.av,B (decide ((pL y p node bag).2=0))]):=by have h1:=ak6 y p node bag hp;generalize pL y p node bag=qe at*;obtain⟨q,e⟩:=qe;simp only at h1 ⊢;refine MD func81 ntmps81 ?_;intro w e X hC;refine uZ ?_;refine VT h1 ?_;refine WE ?_;rw[show f81.results.toList=[.cell 5 36,.tmp 6] from rfl];exact W5
def pn(y:Ly)(node bag:Int)(p:Pl):Pl×Bool:=((pL y p node bag).1,decide ((pL y p node bag).2=0))
def SJ(y:Ly)(Na:Int)(hs:List iM)(n:Nat)(bag:Int){Gd:Pl->Prop}(hny:y.U.length<=1000)(hn:n<y.U.length)(hb:1<=bag/\bag<=40)(VB:(y.U.getD n default).kd=1)(jJ:hs.length<=900)(NH:∀h∈hs,Zc y.U h.2)(Fs:∀h∈hs,(pn y n bag h.2).2=true->Gd (pn y n bag h.2).1)(SX:∀q,Gd q->BP q)(sU:∀a b,Gd a->Gd b->Pu (qN a)=Pu (qN b)->a=b)(r:UZ)(e:Int)(hr:(wL (pn y n bag) hs=[]/\r=⟨0,[]⟩/\e=11)\/
   (wL (pn y n bag) hs≠[]/\∃L:List iM,L.Perm (wL (pn y n bag) hs)/\(L.Pairwise fun a b=>W9 (qN a.2) (qN b.2)=true)/\r=⟨Na,L.map Z'⟩/\e=0)):
  UB prog J9 32 [] [y.av,(UZ.mk Na (hs.map Z')).av,I n,I bag] [] (.F1 [r.av,I e]):=by
 have h1:=du (Na:=Na) (kf:=81) (cp:=[[.sl (H4 y.U) false,.sl (YA y.D) false],[I n],[I bag]]) (of:=pn y n bag) hs jJ (fun h hh=>afk y h.2 n bag (NH h hh)) Fs SX sU (.F1 [r.av,I e]) (by
  rcases hr with ⟨h1,h2,h3⟩|⟨h1,L,h2,h3,h4,h5⟩
  ·exact .inl ⟨h1,by rw[h2,h3]⟩
  exact .inr ⟨h1,L,h2,h3,by rw[h4,h5]⟩)
 have hg:=bp hn;have d0:=Vj ((n:Int)<0);have d1:=Vj ((y.U.length:Int)<=(n:Int));have d2:=Vj (bag<1);have d3:=Vj (40<bag);obtain⟨rb,rl⟩:=r;generalize y.U.getD n default=x at*;refine MD func32 ntmps32 ?_;intro w e X hC;refine NL (uI @d0 (uI @d1 (uI @d2 @d3))) ?_;refine NL (uI @hg @VB) ?_;refine uR ?_;refine Yi h1 ?_;refine WE ?_;rw[show f32.results.toList=[.cell 8 33,.tmp 9] from rfl];exact W5
open Go.Plant Go.Inf
def arn(l:List J')(k:Nat)(cs:List AV)(p:J'->Bool)(hl:l.length<=1000)(hk:∀y∈l,UB prog J9 k [] [y.av,.P cs] [] (B (p y))):UB prog J9 154 [] [.sl (wF l) false,.fn k [.P cs]] [] (I (OP p l)):=by
 refine MD func154 ntmps154 ?_;intro w e X hC;refine EP ?_;refine R7 l.length (fun i:Az=>⟨[(1,.fn k [.P cs]),(0,.sl (wF l) false),(6,.sl (wF l) false),(7,I l.length),(8,I i.2)],[],i.1⟩) (fun i=>∀j,j<i.2->p (l.getD j default)=false) (fun j hj=>absurd hj (nZ _)) (ch) ?_;intro ck i hi hj;simp only at hj;refine C0 ?_ ?_<;>intro h
 .have PP:i<l.length:=oM;have An:=hk (l.getD i default) (ka PP);cases c1:p (l.getD i default)with
  |true=>
   have e1:=jI (p:=p) (d:=default) PP hj c1;rw[c1]at An;refine cw (Pa PP) An ?_;refine eg ?_;try rfl
   exact an @e1
  |false=>
   rw[c1]at An;refine cw (Pa PP) An ?_;refine UN ?_;refine⟨(_,i+1),⟨uO,fun j tw=>?_⟩,uO,ch⟩;by_cases ZJ:j=i
   .subst ZJ;exact c1
   exact hj j DG
 refine El ?_;have e1:=A7 (l:=l) (p:=p) fun j h=>hj j oM;refine OD ?_;try rfl
 exact an @e1
def abd(l:List J')(k:Nat)(cs:List AV)(p:J'->Bool)(hl:l.length<=1000)(hk:∀y∈l,UB prog J9 k [] [y.av,.P cs] [] (B (p y))):UB prog J9 96 [] [.sl (wF l) false,.fn k [.P cs]] [] (B (l.any p)):=by
 refine MD func96 ntmps96 ?_;intro w e X hC;refine Bn ((arn l k cs p hl hk)) ?_;try rfl
 exact an @SQ
def atN(y:Ly)(x:J')(ord:List Int)(hp:Zc y.U x.pl):UB prog J9 114 [] [x.av,.P [.P (g_ y ord)]] [] (B false):=by have h1:=aaM y x.pl ord hp;obtain⟨xu,xs,xb⟩:=x;simp only[J'.pl]at h1;refine MD func114 ntmps114 ?_;intro w e X hC;refine BL ?_;intro K hK;refine PD h1 ?_;refine hK _ ?_;clear hK K;exact uP
def fO(y:Ly)(Na:Int)(hs:List iM)(Nx:UQ y)(hv:NP y=0)(hr:Yt y.U)(jJ:hs.length<=1000)(NH:∀h∈hs,Zc y.U h.2):
  UB prog J9 65 [] [y.av,(UZ.mk Na (hs.map Z')).av] [] (.F1 [.P (g_ y (WR y.U)),B true]):=by
 have h1:=aiq y Nx hv hr;have h2:=abd (hs.map Z') 114 [.P (g_ y (WR y.U))] (fun _=>false) (by simpa using jJ) (fun x hx=>by
  obtain⟨z,hz,rfl⟩:=A2.1 hx;exact atN y (Z' z) (WR y.U) (NH z hz))
 have e1:(hs.map Z').any (fun _=>false)=false:=sM;rw[e1]at h2;refine MD func65 ntmps65 ?_;intro w e X hC;refine BL ?_;refine Yi h1 ?_;refine uR ?_;intro K hK;refine PD h2 ?_;refine hK _ ?_;clear hK K;refine UN ?_;refine A_ ?_;rw[show f65.results.toList=[.tmp 4,.tmp 5] from rfl];exact W5
open Go.Plant Go.Inf
def nB(y:Ly)(Na:Int)(hs:List iM)(cs:List Int)(pl:List T3)(rs:List Uq)(Nx:UQ y)(hv:NP y=0)(hr:Yt y.U)(jJ:hs.length<=1000)(NH:∀h∈hs,Zc y.U h.2)(iS:cs.length<=1000)(hex:∀n,n<y.U.length->(y.U.getD n default).ex.length<=500)(hl:rs.length=y.D.length)(s6:rs.length<=1000)(r:UZ)(er:Int)(ha:(Zk y.U cs []≠0/\r=⟨0,[]⟩/\er=Zk y.U cs [])\/(Zk y.U cs []=0/\(∃i,i<rs.length/\(rs.getD i default).dv≠(i:Int))/\r=⟨0,[]⟩/\er=1)\/
   (Zk y.U cs []=0/\(∀i,i<rs.length->(rs.getD i default).dv=(i:Int))/\
    UB prog J9 67 [] [.P (g_ y (WR y.U)),(UZ.mk Na (hs.map Z')).av,IS cs,.fn 68 [.P [.sl (b7 rs) false],.P [.sl (H4 y.U) false,.sl (YA y.D) false],.P [.sl (YA pl) false],.P [I Na,.sl (wF (hs.map Z')) false]]] [] (.F1 [r.av,I er]))):
  UB prog J9 21 [] [y.av,(UZ.mk Na (hs.map Z')).av,IS cs,.sl (YA pl) false,.sl (b7 rs) false] [] (.F1 [r.av,I er]):=by
 have h1:=fO y Na hs Nx hv hr jJ NH;have h2:UB prog J9 66 [] [.P (g_ y (WR y.U)),IS cs,.sl [] false] [] (I (Zk y.U cs [])):=
  P2 y (WR y.U) cs [] Nx.n iS (zL _) hex
 have d0:=Vj ((rs.length:Int)≠(y.D.length:Int));obtain⟨rb,rl⟩:=r;generalize Zk y.U cs []=z at*;refine AO (T:=J9) A3 func21 rfl vz (by simp[ntmps21]) ?_;intro w e X hX hC;clear hX;rw[ntmps21];simp only[bZ,List.zipIdx,List.map];repeat ((repeat first|refine GA ?_|refine md ?_|refine lK ?_);refine ZZ hC rfl fun K hK=>?_;simp only[go_sem];(repeat ((with_reducible refine And.intro ?_ ?_);focus (((repeat' apply And.intro)<;>first|omega|(simp;done)|kernel_rfl))));refine hK _ ?_;clear hK K)
 (repeat first|refine GA ?_|refine md ?_|refine lK ?_);refine ZZ hC rfl fun K hK=>?_;simp only[go_sem]
 (repeat ((with_reducible refine And.intro ?_ ?_);focus (((repeat' apply And.intro)<;>first|omega|(simp;done)|kernel_rfl))))
 refine EY ?_ (h1) ?_ ?_ ?_ ?_;(iterate 4 (focus (first|exact trivial|(simp only[go_sem]<;>trivial))));simp only[go_sem];(repeat ((with_reducible refine And.intro ?_ ?_);focus (((repeat' apply And.intro)<;>first|omega|(simp;done)|kernel_rfl))))
 refine hK _ ?_;clear hK K;repeat ((repeat first|refine GA ?_|refine md ?_|refine lK ?_);refine ZZ hC rfl fun K hK=>?_;simp only[go_sem];(repeat ((with_reducible refine And.intro ?_ ?_);focus (((repeat' apply And.intro)<;>first|omega|(simp;done)|kernel_rfl))));refine hK _ ?_;clear hK K)
 (repeat first|refine GA ?_|refine md ?_|refine lK ?_);refine bj rfl ?_
 (repeat first|refine GA ?_|refine md ?_|refine lK ?_);refine ZZ hC rfl fun K hK=>?_;simp only[go_sem]
 refine oj ?_ (h2) ?_ ?_ ?_ ?_;(iterate 4 (focus (first|exact trivial|(simp only[go_sem]<;>trivial))));simp only[go_sem];(repeat ((with_reducible refine And.intro ?_ ?_);focus (((repeat' apply And.intro)<;>first|omega|(simp;done)|kernel_rfl))))
 refine hK _ ?_;clear hK K;repeat ((repeat first|refine GA ?_|refine md ?_|refine lK ?_);refine ZZ hC rfl fun K hK=>?_;simp only[go_sem];(repeat ((with_reducible refine And.intro ?_ ?_);focus (((repeat' apply And.intro)<;>first|omega|(simp;done)|kernel_rfl))));refine hK _ ?_;clear hK K)
 refine Wc ?_ ?_<;>intro c0
 .obtain⟨_,h3,h4⟩:z≠0/\UZ.mk rb rl=⟨0,[]⟩/\er=z:=ha.elim id fun ha=>absurd (ha.elim (·.1) (·.1)) c0;cases h3
  subst h4;repeat ((repeat first|refine GA ?_|refine md ?_|refine lK ?_);refine ZZ hC rfl fun K hK=>?_;simp only[go_sem];(repeat ((with_reducible refine And.intro ?_ ?_);focus (((repeat' apply And.intro)<;>first|omega|(simp;done)|kernel_rfl))));refine hK _ ?_;clear hK K)
  refine A_ ?_;rw[show Tryz.f21.results.toList=[.cell 10 33,.tmp 11] from rfl];first|refine jW ?_|exact W5
  rfl
 have c0:z=0:=P5.1 c0;replace ha:=ha.resolve_left fun h=>h.1 c0;repeat ((repeat first|refine GA ?_|refine md ?_|refine lK ?_);refine ZZ hC rfl fun K hK=>?_;simp only[go_sem,d0];(repeat ((with_reducible refine And.intro ?_ ?_);focus (((repeat' apply And.intro)<;>first|omega|(simp;done)|kernel_rfl))));refine hK _ ?_;clear hK K)
 (repeat first|refine GA ?_|refine md ?_|refine lK ?_);refine bj rfl ?_
 repeat ((repeat first|refine GA ?_|refine md ?_|refine lK ?_);refine ZZ hC rfl fun K hK=>?_;simp only[go_sem];(repeat ((with_reducible refine And.intro ?_ ?_);focus (((repeat' apply And.intro)<;>first|omega|(simp;done)|kernel_rfl))));refine hK _ ?_;clear hK K)
 refine uW ?_;refine R7 rs.length (fun i:Az=>⟨[(2,IS cs),(5,.p 105 1 0 0 0),(6,.p 106 2 0 0 0),(8,.p 108 3 0 0 0),(9,.p 109 4 0 0 0),(10,.p 110 5 0 0 0),(11,I 0),(12,.P (g_ y (WR y.U))),(40,.sl (b7 rs) false),(41,I rs.length),(42,I i.2)],(110,some (5,.box [I 0,.sl [] true]))::(109,some (4,.box [.sl (b7 rs) false]))::(108,some (3,.box [.sl (YA pl) false]))::(106,some (2,.box [I Na,.sl (wF (hs.map Z')) false]))::(105,some (1,.box (r8 y)))::[],i.1⟩) (fun i=>∀j,j<i.2->(rs.getD j default).dv=(j:Int)) (fun j hj=>absurd hj (nZ _)) (ch) ?_;intro ck i hi hj;simp only at hj;repeat ((repeat first|refine GA ?_|refine md ?_|refine lK ?_);refine ZZ hC rfl fun K hK=>?_;simp only[go_sem];(repeat ((with_reducible refine And.intro ?_ ?_);focus (((repeat' apply And.intro)<;>first|omega|(simp;done)|kernel_rfl))));refine hK _ ?_;clear hK K)
 refine Wc ?_ ?_<;>intro c
 .have PP:i<rs.length:=oM;have hg:=YN PP;have pO:(rs.getD i default).dv=i->∀j,j<i+1->(rs.getD j default).dv=(j:Int):=fun e j tw=>by
   by_cases ZJ:j=i
   .subst ZJ;exact e
   exact hj j oM
  have Ov:(rs.getD i default).dv≠i->UZ.mk rb rl=⟨0,[]⟩/\er=1:=fun h=>ha.elim (·.2.2) fun ha=>absurd (ha.2.1 i PP) h;generalize rs.getD i default=x at*;repeat ((repeat first|refine GA ?_|refine md ?_|refine lK ?_);refine ZZ hC rfl fun K hK=>?_;simp only[go_sem,hg];(repeat ((with_reducible refine And.intro ?_ ?_);focus (((repeat' apply And.intro)<;>first|omega|(simp;done)|kernel_rfl))));refine hK _ ?_;clear hK K)
  refine Wc ?_ ?_<;>intro c1
  .obtain⟨h3,h4⟩:=Ov c1;cases h3
   subst h4;repeat ((repeat first|refine GA ?_|refine md ?_|refine lK ?_);refine ZZ hC rfl fun K hK=>?_;simp only[go_sem];(repeat ((with_reducible refine And.intro ?_ ?_);focus (((repeat' apply And.intro)<;>first|omega|(simp;done)|kernel_rfl))));refine hK _ ?_;clear hK K)
   refine A_ ?_;rw[show Tryz.f21.results.toList=[.cell 10 33,.tmp 11] from rfl];first|refine jW ?_|exact W5
   rfl
  repeat ((repeat first|refine GA ?_|refine md ?_|refine lK ?_);refine ZZ hC rfl fun K hK=>?_;simp only[go_sem];(repeat ((with_reducible refine And.intro ?_ ?_);focus (((repeat' apply And.intro)<;>first|omega|(simp;done)|kernel_rfl))));refine hK _ ?_;clear hK K)
  refine⟨(_,i+1),⟨uO,pO (P5.1 c1)⟩,uO,ch⟩
 refine El ?_;have AS:∀j,j<rs.length->(rs.getD j default).dv=(j:Int):=fun j h=>hj j oM;have ha:=(ha.resolve_left fun h=>by
  obtain⟨k,h3,h4⟩:=h.2.1;exact h4 (AS k h3)).2.2
 (repeat first|refine GA ?_|refine md ?_|refine lK ?_);refine ZZ hC rfl fun K hK=>?_;simp only[go_sem]
 (repeat ((with_reducible refine And.intro ?_ ?_);focus (((repeat' apply And.intro)<;>first|omega|(simp;done)|kernel_rfl))))
 refine EY ?_ (ha) ?_ ?_ ?_ ?_;(iterate 4 (focus (first|exact trivial|(simp only[go_sem]<;>trivial))));simp only[go_sem];refine uH ?_;refine hK _ ?_;clear hK K;refine A_ ?_;rw[show Tryz.f21.results.toList=[.cell 10 33,.tmp 11] from rfl];exact W5
open Go.Plant Go.Inf
def Gu(l:List Int)(c:Int)(a:Nat):Nat->List T3
 |0=>[]|i+1=>Gu l c a i++[⟨0,117+c,(i:Int)*(1+gN l (a+i) 2)⟩]
theorem aoM(l:List Int)(c:Int)(a:Nat):YA (Gu l c a 0)=[]:=rfl
theorem V_(l:List Int)(c:Int)(a:Nat):∀i,(Gu l c a i).length=i
 |0=>rfl|i+1=>by rw[Gu,aL,V_ l c a i];rfl
def At(o:List T3)(i j:Nat):List T3:=if Ql (o.getD j default) (o.getD i default)=true then o.set i ⟨1,(o.getD i default).b,i⟩ else o
def R_(o:List T3)(i:Nat):Nat->List T3
 |0=>o|j+1=>At (R_ o i j) i j
def jy(o:List T3):Nat->List T3
 |0=>o|i+1=>R_ (jy o i) i i
def atG(o:List T3)(i j:Nat):(At o i j).length=o.length:=by unfold At;split<;>simp
theorem iW(o:List T3)(i:Nat):∀j,(R_ o i j).length=o.length
 |0=>rfl|j+1=>by rw[R_,atG,iW o i j]
theorem Qr(o:List T3):∀i,(jy o i).length=o.length
 |0=>rfl|i+1=>by rw[jy,iW,Qr o i]
def oL(l:List Int)(a:Nat):List T3:=jy (Gu l (gN l a 3) (a+1) 40) 40
def YK(l:List Int)(a:Nat):(oL l a).length=40:=by rw[oL,Qr,V_]
def Uw(l:List Int)(a:Nat)(hf:M2 l):UB prog J9 13 (di l a) [.p 0 0 0 0 0] (di l (a+41)) (.sl (YA (oL l a)) false):=by
 have hc:=G0 (l:=l) (a:=a) (n:=3) dM;unfold oL;refine MD func13 ntmps13 ?_;intro w e X hC;refine BL ?_;intro K hK;refine ZI rfl ((Ih l a 3 hf dM)) iO iO iO iO iO ?_;refine uS ?_;refine hK _ ?_;clear hK K;generalize gN l a 3=c0 at*;refine EP ?_;refine AJ 40 (fun i:Az=>⟨[(0,.p 0 0 0 0 0),(3,.l 103 2 0 i.2),(4,I c0),(5,I i.2)],(103,some (2,.own 92 3 (YA (Gu l c0 (a+1) i.2))))::di l (a+1+i.2),i.1⟩) (wH @aoM) ?_;intro ck i hi;refine C0 ?_ ?_<;>intro c
 .have PP:i<40:=oM;have hg:=G0 (l:=l) (a:=a+1+i) (n:=2) dM;have w1:=Ih l (a+1+i) 2 hf dM;have e1:Gu l c0 (a+1) (i+1)=Gu l c0 (a+1) i++[⟨0,117+c0,(i:Int)*(1+gN l (a+1+i) 2)⟩]:=rfl;have fo:=V_ l c0 (a+1) i;generalize gN l (a+1+i) 2=g at*;have hm:0<=(i:Int)*(1+g)/\(i:Int)*(1+g)<=80:=by have:g=0\/g=1:=oM;rcases this with h|h<;>rw[h]<;>omega
  generalize Gu l c0 (a+1) i=o at*;have bB:di l (a+1+(i+1))=di l (a+1+i+1):=rfl;refine uR ?_;intro K hK;refine uH ?_;refine ZI rfl (w1) iO iO iO iO iO ?_;refine Qd ?_;refine hK _ ?_;clear hK K;refine uZ ?_;exact nX (_,i+1) (wH (uI @e1 @bB))
 refine El ?_;have Wd:i=40:=oM;subst Wd;have bB:di l (a+1+40)=di l (a+41):=by rw[show a+1+40=a+41 by omega]
 rw[bB];have pt:=V_ l c0 (a+1) 40;generalize Gu l c0 (a+1) 40=o0 at*;refine EP ?_;refine AJ 40 (fun i:Az=>⟨[(0,.p 0 0 0 0 0),(3,.l 103 2 0 40),(6,I i.2)],(103,some (2,.own 92 3 (YA (jy o0 i.2))))::di l (a+41),i.1⟩) (ch) ?_;intro ck2 i pU;have jj:=Qr o0 i;rw[pt]at jj;refine C0 ?_ ?_<;>intro c2
 .have PP:i<40:=oM;have e1:jy o0 (i+1)=R_ (jy o0 i) i i:=rfl;generalize jy o0 i=o1 at*;refine EP ?_;refine AJ i (fun j:Az=>⟨[(0,.p 0 0 0 0 0),(3,.l 103 2 0 40),(6,I i),(7,I j.2)],(103,some (2,.own 92 3 (YA (R_ o1 i j.2))))::di l (a+41),j.1⟩) (ch) ?_;intro ck3 j hj;refine C0 ?_ ?_<;>intro c3
  .have Se:j<i:=oM;have e2:R_ o1 i (j+1)=At (R_ o1 i j) i j:=rfl;have aaX:=iW o1 i j;rw[jj]at aaX;generalize R_ o1 i j=o2 at*;unfold At at e2;have g1:=Hr (l:=o2) (i:=j) oM;have g2:=Hr (l:=o2) (i:=i) oM;generalize o2.getD j default=x1 at*;generalize o2.getD i default=x2 at*;have hq:(decide (x1.a=x2.a)&&(decide (x1.b=x2.b)&&(decide (x1.c=x2.c)&&true)))=Ql x1 x2:=rfl;cases Xd:Ql x1 x2 with
   |false=>rw[Xd]at e2 hq;rw[iN dM]at e2;refine zj (uI @g1 @g2) ?_;intro K hK;refine⟨oM,oM,oM,oM,?_⟩;simp only[hq];refine hK _ ?_;clear hK K;refine UN ?_;exact nX (_,j+1) (wH @e2)|true=>
    rw[Xd]at e2 hq;rw[iP rfl]at e2;refine zj (uI @g1 @g2) ?_;intro K hK;refine⟨oM,oM,oM,oM,?_⟩;simp only[hq];refine hK _ ?_;clear hK K;refine uT ?_;have g3:=Hr (l:=o2.set i ⟨1,x2.b,x2.c⟩) (i:=i) (by rw[su];omega);have e3:(o2.set i ⟨1,x2.b,x2.c⟩).getD i default=⟨1,x2.b,x2.c⟩:=by rw[gE,Z2 oM];rfl
    rw[e3]at g3;have e4:(o2.set i ⟨1,x2.b,x2.c⟩).set i ⟨1,x2.b,(i:Int)⟩=o2.set i ⟨1,x2.b,(i:Int)⟩:=dN _;refine nF (uI @g1 (uI @g2 @g3)) ?_;intro K hK;refine uH ?_;rw[iN (fun h:False/\False=>h.1)];simp only[WZ,e4];refine hK _ ?_;clear hK K;refine uZ ?_;exact nX (_,j+1) (wH @e2)
  refine El ?_;have jF:j=i:=oM;subst jF;refine uZ ?_;exact nX (_,j+1) (wH @e1)
 refine El ?_;have Wd:i=40:=oM;subst Wd;generalize jy o0 40=oF at*;refine WE ?_;rw[show f13.results.toList=[.tmp 2] from rfl];(refine(AK Px rfl ?_ ?_ ?_ ?_);(iterate 2 (focus (first|exact trivial|(simp only[go_sem,e_,FT]<;>trivial))));all_goals (try simp only[go_sem,e_,FT]))
open Go.Plant Go.Inf Go.Sort
structure T2 where
 a:Int
 b:Int
 deriving Inhabited
abbrev T2.av(x:T2):AV:=.agg [I x.a,I x.b]
def Gb(l:List T2):List AV:=l.map T2.av
theorem akj(l:List T2):(Gb l).length=l.length:=by simp[Gb]
def WJ{l:List T2}{i:Nat}(h:i<l.length):(Gb l).getD i .bad=(l.getD i default).av:=by simp[Gb,h]
theorem ans(l:List T2):PE (Gb l)=True:=by refine Ie fun e he c hc=>?_;simp only[Gb,A2]at he;obtain⟨x,_,rfl⟩:=he;simp only[AV.cells,rX,AY,xN]at hc;rcases hc with rfl|rfl<;>first|trivial|rfl
theorem agS{l:List T2}:(∀y∈Gb l,y.cells.length=2)=True:=by refine Ie fun e he=>?_;simp only[Gb,A2]at he;obtain⟨x,_,rfl⟩:=he;rfl
theorem aeu{l:List T2}{a:Int}{b:Int}:Gb l++[.agg [.lit (.int .i64 a),.lit (.int .i64 b)]]=Gb (l++[⟨a,b⟩]):=by simp[Gb]
attribute [go_sem] akj ans agS aeu
def cX(x y:T2):Bool:=decide (x.a=y.a)&&(decide (x.b=y.b)&&true)
def agQ(l:List T2)(x:T2)(hl:l.length<=1000):UB prog J9 152 [] [.sl (Gb l) false,x.av] [] (I (OP (fun y:T2=>cX x y) l)):=by
 refine MD func152 ntmps152 ?_;intro w e X hC;refine EP ?_;refine R7 l.length (fun i:Az=>⟨[(3,.p 103 1 0 0 0),(0,.sl (Gb l) false),(6,.sl (Gb l) false),(7,I l.length),(8,I i.2)],(103,some (1,.box [I x.a,I x.b]))::[],i.1⟩) (fun i=>∀j,j<i.2->(fun y:T2=>cX x y) (l.getD j default)=false) (fun j hj=>absurd hj (nZ _)) (ch) ?_;intro ck i hi hj;simp only at hj;refine C0 ?_ ?_<;>intro h
 .have PP:i<l.length:=oM
  skip
  cases c1:(fun y:T2=>cX x y) (l.getD i default)with
  |true=>
   have e1:=jI (p:=(fun y:T2=>cX x y)) (d:=default) PP hj c1;have d1:=c1;simp only[cX]at d1;refine uA ?_;refine mb (uI (WJ PP) @d1) ?_;refine eg ?_;try rfl
   exact an @e1
  |false=>
   have d1:=c1;simp only[cX]at d1;refine uA ?_;refine mb (uI (WJ PP) @d1) ?_;refine UN ?_;refine⟨(_,i+1),⟨uO,fun j tw=>?_⟩,uO,ch⟩;by_cases ZJ:j=i
   .subst ZJ;exact c1
   exact hj j DG
 refine El ?_;have e1:=A7 (l:=l) (p:=(fun y:T2=>cX x y)) fun j h=>hj j oM;refine OD ?_;try rfl
 exact an @e1
def aot(l:List T2)(x:T2)(hl:l.length<=1000):UB prog J9 91 [] [.sl (Gb l) false,x.av] [] (B (l.any (fun y:T2=>cX x y))):=by
 refine MD func91 ntmps91 ?_;intro w e X hC;refine Bn ((agQ l x hl)) ?_;try rfl
 exact an @SQ
def Fl:List Int->Int
 |[]=>0|x::l=>if x≠0 then x else Fl l
def acH{l:List Int}{i:Nat}(h:i<l.length):Fl (l.drop i)=if l.getD i 0≠0 then l.getD i 0 else Fl (l.drop (i+1)):=by rw[Pv h,Fl,gE,gG h];rfl
def acN(l:List Int)(hl:l.length<=1000):UB prog J9 94 [] [IS l] [] (I (Fl l)):=by
 refine MD func94 ntmps94 ?_;intro w e X hC;refine EP ?_;refine R7 l.length (fun i:Az=>⟨[(3,I 0),(6,IS l),(7,I l.length),(8,I i.2)],[],i.1⟩) (fun i=>Fl l=Fl (l.drop i.2)) rfl (ch) ?_;intro ck i hi ho;simp only at ho;refine C0 ?_ ?_<;>intro c
 .have PP:i<l.length:=oM;have hg:=ma PP;have hs:=acH PP;rw[<-ho]at hs;generalize l.getD i 0=x at*;refine Fm @hg ?_ ?_<;>intro c2
  .rw[iP c2]at hs;rw[hs];exact Et
  rw[iN c2]at hs;refine uZ ?_;refine⟨(_,i+1),⟨uO,hs⟩,uO,ch⟩
 refine El ?_;have Wd:i=l.length:=oM;rw[ho,Wd,wz,Fl];exact Et
def oz(x y:T2):Int:=Fl [x.a-y.a,x.b-y.b]
theorem aeh(x y:T2):oz x y=if x.a-y.a≠0 then x.a-y.a else if x.b-y.b≠0 then x.b-y.b else 0:=rfl
def amy:SWO (ltOf oz):=by
 have e:∀x y:T2,ltOf oz x y=decide (x.a<y.a\/(x.a=y.a/\x.b<y.b)):=fun x y=>by
  unfold ltOf;rw[VY,t7,t7,aeh];split
  .omega
  split<;>omega
 refine⟨fun x=>?_,fun x y z h1 h2=>?_,fun x y z h1 h2=>?_⟩
 .rw[e,mV];omega
 .rw[e,t7]at*;omega
 rw[e,mV]at*;omega
def vG(x:T2):Prop:=-1000000<=x.a/\x.a<=1000000/\-1000000<=x.b/\x.b<=1000000
def afs(x y:T2)(hx:vG x)(hy:vG y):UB prog J9 93 [] [x.av,y.av] [] (I (oz x y)):=by obtain⟨h1,h2,h3,h4⟩:=hx;obtain⟨h5,h6,h7,h8⟩:=hy;have wo:=acN [x.a-y.a,x.b-y.b] sM;unfold oz;refine MD func93 ntmps93 ?_;intro w e X hC;refine BL ?_;intro K hK;refine⟨oM,oM,?_⟩;refine PD wo ?_;refine hK _ ?_;clear hK K;exact uP
def alv(G G':List T2)(h0:G≠[])(hG:∀x∈G,vG x)(hl:G.length<=1000000)(hp:G'.Perm G)(hs:G'.Pairwise fun a b=>oz a b<0):
  UB prog J9 92 [(0,some (0,.own 77 2 (Gb G)))] [.l 0 0 0 G.length,.fn 93 []] [(0,some (0,.own 77 2 (Gb G')))] (.F1 []):=
 xQ (T:=J9) Go.Proofs.Tryz.adq rfl ⟨f92,func92,vz,vz⟩ (enters_of func93 kR rfl) dM isAgg77 sizeOf77
  (fun x:T2=>[I x.a,I x.b]) (fun x=>⟨rfl,fun c hc=>by
   simp only[rX,AY,xN]at hc;rcases hc with rfl|rfl<;>trivial⟩) vG oz amy (fun x y hx hy=>afs x y hx hy) G G' h0 hG hl hp hs
def GT(bag:Int)(G:List T2)(h:iM):List T2:=if(yz h.2 bag).2.2=true then(if G.any (fun y=>cX ⟨(yz h.2 bag).1,(yz h.2 bag).2.1⟩ y)=true then G else G++[⟨(yz h.2 bag).1,(yz h.2 bag).2.1⟩]) else G
def tj(bag:Int)(hs:List iM):List T2:=hs.foldl (GT bag) []
def abN(Na:Int)(hs:List iM)(bag:Int)(L:List T2)(jJ:hs.length<=900)(DF:∀h∈hs,Gm h.2)(Nx:∀h∈hs,vG ⟨(yz h.2 bag).1,(yz h.2 bag).2.1⟩)(h0:tj bag hs≠[])(hp:L.Perm (tj bag hs))(Ac:L.Pairwise fun a b=>oz a b<0):
  UB prog J9 39 [] [(UZ.mk Na (hs.map Z')).av,I bag] [] (.sl (Gb L) false):=by
 refine MD func39 ntmps39 ?_;intro w e X hC;refine EP ?_;refine PV (fun i:Nat×Nat×List T2=>⟨[(1,I bag),(2,.p 102 1 0 0 0),(5,.l 105 3 0 i.2.2.length),(11,.sl (wF (hs.map Z')) false),(12,I hs.length),(13,I i.2.1)],(105,some (3,.own 77 2 (Gb i.2.2)))::(102,some (1,.box [I Na,.sl (wF (hs.map Z')) false]))::[],i.1⟩)
  (fun i=>i.2.1<=hs.length/\tj bag hs=(hs.drop i.2.1).foldl (GT bag) i.2.2/\(∀x∈i.2.2,vG x)/\i.2.2.length<=i.2.1) (fun i=>hs.length - i.2.1) (_,0,[]) ⟨zL _,rfl,(fun x hx=>ZY),zL _⟩ (ch) ?_
 rintro⟨ck,i,Gi⟩ ⟨hi,Ik,dt,fe⟩;simp only at hi Ik dt fe;refine C0 ?_ ?_<;>intro c
 .have PP:i<hs.length:=oM;have hg:=LA PP;have hm:hs.getD i (0,⟨[],[]⟩)∈hs:=Ug PP _;have eX:hs.drop i=hs.getD i (0,⟨[],[]⟩)::hs.drop (i+1):=by rw[Pv PP,gE,gG PP];rfl
  rw[eX,Xi]at Ik;have hk:=DF _ hm;have tT:=Nx _ hm;generalize hs.getD i (0,⟨[],[]⟩)=h at*;obtain⟨hu,JW⟩:=h;have w1:=aaw JW bag hk.sl hk.bl (fun i hi=>hk.sr _ (Ug hi [])) (fun i hi=>hk.br _ (Ug hi []));have jf:∀h:iM,GT bag Gi h=if(yz h.2 bag).2.2=true then(if Gi.any (fun y=>cX ⟨(yz h.2 bag).1,(yz h.2 bag).2.1⟩ y)=true then Gi else Gi++[⟨(yz h.2 bag).1,(yz h.2 bag).2.1⟩]) else Gi:=fun h=>rfl
  rw[jf]at Ik;clear jf;simp only[Z']at hg Ik tT;generalize yz JW bag=q at*;obtain⟨qa,qb,qo⟩:=q;simp only[yD]at w1 Ik tT;cases qo with
  |false=>rw[iN dM]at Ik;refine aH @hg ?_;refine uR ?_;refine Yi w1 ?_;refine uZ ?_;refine UN ?_;refine⟨(_,i+1,Gi),⟨uO,Ik,dt,uO⟩,uO,ch⟩|true=>
   rw[iP rfl]at Ik;have w2:=aot Gi ⟨qa,qb⟩ oM;cases hc:Gi.any (fun y=>cX ⟨qa,qb⟩ y)with
   |true=>rw[hc]at w2 Ik;rw[iP rfl]at Ik;refine aH @hg ?_;refine uR ?_;refine Yi w1 ?_;refine uR ?_;intro K hK;refine PZ [] [] true (w2) iw iw p6 p6 p6 p6 p6 p6 p6 p6 p6 p6 p6 p6 p6 p6 p6 ?_;refine x8 ?_;refine hK _ ?_;clear hK K;refine UN ?_;refine⟨(_,i+1,Gi),⟨uO,Ik,dt,uO⟩,uO,ch⟩|false=>
    rw[hc]at w2 Ik;rw[iN dM]at Ik;refine aH @hg ?_;refine uR ?_;refine Yi w1 ?_;refine uR ?_;intro K hK;refine PZ [] [] true (w2) iw iw p6 p6 p6 p6 p6 p6 p6 p6 p6 p6 p6 p6 p6 p6 p6 ?_;refine x8 ?_;refine hK _ ?_;clear hK K;refine WM ?_;refine⟨(_,i+1,Gi++[⟨qa,qb⟩]),⟨uO,Ik,fun x hx=>?_,by simp only[aL,WC];omega⟩,uO,ch⟩;rcases ym.1 hx with hx|hx
    .exact dt x hx
    rw[iT.1 hx];exact tT
 refine El ?_;have Wd:i=hs.length:=oM;rw[Wd,wz,LJ]at Ik;rw[Ik]at h0 hp;have ws:=alv Gi L h0 dt oM hp Ac;have Y7:Gi.length=L.length:=hp.length_eq.symm;rw[Y7]at ws ⊢;refine uR ?_;intro K hK;refine PZ [(0,0,105,3)] [(105,3,0,0)] false (ws) iw iw p6 p6 p6 p6 p6 p6 p6 p6 p6 p6 p6 p6 p6 p6 p6 ?_;refine x8 ?_;refine hK _ ?_;clear hK K;refine WE ?_;rw[show Tryz.f39.results.toList=[.tmp 4] from rfl];exact W5
open Go.Plant Go.Inf
section
variable{A n:Nat}{y:Ly}{L:List Int}{p:Pl}
def Y9.slot(h:Y9 y p L){t:Nat}(ht:t<y.U.length){x:Int}(hx:x∈p.Q.getD t []):x=0\/x∈L:=by
 by_cases h0:x=0
 .exact .inl h0
 exact .inr (h.mem.1 (th.2 ⟨t,ht,XI _ ((H' h0).2 hx)⟩))
def Y9.akf(h:Y9 y p L){t:Nat}(ht:t<y.U.length){x:Int}(hx:x∈p.R.getD t []):x∈L:=h.mem.1 (th.2 ⟨t,ht,mO _ hx⟩)
def uV{α:Type}{l:List α}{x d:α}(h:x∈l):∃i,i<l.length/\l.getD i d=x:=by obtain⟨i,hi,e⟩:=G_ h;exact⟨i,hi,by rw[gE,gG hi,<-e];rfl⟩
def Y9.QW(hn:y.U.length<=11)(h:Y9 y p L):Gm p:=by
 have hs:=h.fp.sl;have hb:=h.fp.bl;refine⟨oM,oM,fun r hr=>?_,fun r hr=>?_⟩
 .obtain⟨i,hi,rfl⟩:=uV (d:=[]) hr;rw[h.fp.row i oM];have:=h.fp.ln i oM;omega
 obtain⟨i,hi,rfl⟩:=uV (d:=[]) hr;have:=h.fp.bin i oM;omega
def Y9.dV(hn:y.U.length<=11)(hL:mK L)(h:Y9 y p L):BP p:=by
 have hs:=h.fp.sl;have hb:=h.fp.bl;refine⟨h.QW hn,fun x hx=>?_⟩;rw[Gs]at hx;rcases ym.1 hx with hx|hx
 .obtain⟨r,hr,hx⟩:=List.mem_flatten.1 hx;obtain⟨i,hi,rfl⟩:=uV (d:=[]) hr;rcases h.slot oM hx with e|e
  .omega
  have:=hL.pos x e;omega
 obtain⟨r,hr,hx⟩:=CJ.1 hx;obtain⟨i,hi,rfl⟩:=uV (d:=[]) hr;rcases rX.1 hx with e|hx
 .have:=h.fp.bin i oM;omega
 have:=hL.pos x (h.akf oM hx);omega
def Y9.inj{a b:Pl}(hn:y.U.length<=11)(hL:mK L)(ha:Y9 y a L)(hb:Y9 y b L)(h:Pu (qN a)=Pu (qN b)):a=b:=by
 have h1:=QL (fun x hx=>((ha.dV hn hL).nn x hx).1) (fun x hx=>((hb.dV hn hL).nn x hx).1) h;have h2:a.Q.map List.length=b.Q.map List.length:=by
  refine i7 (by simp[ha.fp.sl,hb.fp.sl]) fun i h1 h2=>?_;have hi:i<y.U.length:=by rw[E3,ha.fp.sl]at h1;exact h1
  have e1:=ha.fp.row i hi;have e2:=hb.fp.row i hi;rw[gE,gG (by rw[ha.fp.sl];exact hi)]at e1;rw[gE,gG (by rw[hb.fp.sl];exact hi)]at e2;simp only[nw];exact e1.trans e2.symm
 obtain⟨h3,h4⟩:=afj h2 (ha.fp.bl.trans hb.fp.bl.symm) h1;obtain⟨a1,a2⟩:=a;obtain⟨b1,b2⟩:=b;simp only at h3 h4;rw[h3,h4]
def Yo{cs:List Int}{m:Nat}{s:List Int}{k:Nat}(hk:k<s.length){f:T3}(h:f∈Js cs m s k):(f.a=1\/f.a=2)/\f.b=m/\f.c=k/\s.getD k 0≠0:=by
 unfold Js at h;by_cases h0:s.getD k 0=0
 .rw[iP h0]at h;cases h
 rw[iN h0]at h;by_cases h1:k+1=s.length
 .rw[iP h1]at h;by_cases h2:cs.getD m 0<0
  .rw[iP h2]at h;cases h
  rw[iN h2]at h;rw[iT.1 h];exact⟨.inl rfl,rfl,rfl,h0⟩
 rw[iN h1]at h;by_cases h2:s.getD (k+1) 0≠0
 .rw[iP h2]at h;cases h
 rw[iN h2]at h;rcases rX.1 h with e|h
 .rw[e];exact⟨.inl rfl,rfl,rfl,h0⟩
 by_cases h3:k+2<s.length
 .rw[iP h3]at h;by_cases h4:s.getD (k+2) 0=0
  .rw[iP h4]at h;rw[iT.1 h];exact⟨.inr rfl,rfl,rfl,h0⟩
  rw[iN h4]at h;cases h
 rw[iN h3]at h;cases h
theorem aak{cs:List Int}{m:Nat}{s:List Int}{f:T3}:∀{K:Nat},K<=s.length->f∈Hf cs m s K->(f.a=1\/f.a=2)/\f.b=m/\∃k:Nat,f.c=k/\k<s.length
 |0,_,h=>C3|K+1,hK,h=>by
  rcases ym.1 h with h|h
  .exact aak oM h
  obtain⟨h1,h2,h3,_⟩:=Yo oM h;exact⟨h1,h2,K,h3,oM⟩
theorem rf{cs:List Int}{ss:List (List Int)}{f:T3}:∀{N:Nat},f∈YT cs ss N->(f.a=1\/f.a=2)/\∃m k:Nat,m<N/\f.b=m/\f.c=k/\k<(ss.getD m []).length
 |0,h=>C3|N+1,h=>by
  rcases ym.1 h with h|h
  .obtain⟨h1,m,k,h2,h3⟩:=rf h;exact⟨h1,m,k,oM,h3⟩
  obtain⟨h1,h2,k,h3,h4⟩:=aak (lR _) h;exact⟨h1,N,k,oM,h2,h3,h4⟩
def anG(s:List Int){k:Nat}(h:k<s.length):nz (s.take (k+1))=nz (s.take k)++(if s.getD k 0=0 then[] else[s.getD k 0]):=by
 rw[Pq h 0,an4];congr 1
 split
 .rename_i h0;rw[h0];rfl
 rename_i h0;exact O_ h0
theorem vo{cs:List Int}{m:Nat}{s:List Int}:∀{K:Nat},K<=s.length->(Hf cs m s K).length<=2*(nz (s.take K)).length
 |0,_=>zL _|K+1,hK=>by
  have h1:=vo (cs:=cs) (m:=m) (s:=s) (K:=K) oM;have h2:=jb cs m s K;rw[Hf,aL,anG s oM,aL];by_cases h0:s.getD K 0=0
  .have:Js cs m s K=[]:=by unfold Js;rw[iP h0]
   rw[this,iP h0];simp;omega
  rw[iN h0];simp;omega
theorem aaA{cs:List Int}{p:Pl}:∀{N:Nat},(YT cs p.Q N).length<=2*(Sh p N).length
 |0=>zL _|N+1=>by have h1:=aaA (cs:=cs) (p:=p) (N:=N);have h2:=vo (cs:=cs) (m:=N) (s:=p.Q.getD N []) (lR _);rw[Sy]at h2;rw[YT,aL,Sh,aL,KH,aL];omega
def Y9.anM(h:Y9 y p L)(cs:List Int):(eC cs p).length<=2*L.length:=by have:=aaA (cs:=cs) (p:=p) (N:=p.Q.length);rw[h.fp.sl]at this;rw[h.perm.length_eq]at this;unfold eC;rw[h.fp.sl];exact this
def Y9.alY(h:Y9 y p L){cs:List Int}{f:T3}(hf:f∈eC cs p):(f.a=1\/f.a=2)/\0<=f.b/\f.b<y.U.length/\0<=f.c/\f.c<(y.U.getD f.b.toNat default).ln:=by obtain⟨h1,m,k,h2,h3,h4,h5⟩:=rf hf;rw[h.fp.sl]at h2;rw[h.fp.row m h2]at h5;have:=h.fp.ln m h2;have e:f.b.toNat=m:=oM;rw[e];exact⟨h1,oM,oM,oM,oM⟩
def AH(F X:List T3):Prop:=(∀f∈X,f∈F)/\(X.Pairwise fun f g=>KY f≠KY g)/\X.length<=2
def AH.nil(F:List T3):AH F []:=⟨fun f h=>C3,.nil,zL _⟩
def AH.snoc{F sm:List T3}{f:T3}(h:AH F sm)(hf:f∈F)(ha:∀g∈sm,KY f≠KY g)(hl:sm.length<2):AH F (sm++[f]):=by
 refine⟨fun g hg=>?_,?_,kS⟩
 .rcases ym.1 hg with hg|hg
  .exact h.1 g hg
  rw[iT.1 hg];exact hf
 rw[iL];refine⟨h.2.1,zx _ _,fun a fR b hb=>?_⟩;rw[iT.1 hb];exact fun e=>ha a fR e.symm
def Y9.as6(h:Y9 y p L){cs:List Int}{X:List T3}(hX:AH (eC cs p) X):cO y.U X:=
 ⟨fun f hf=>h.alY (hX.1 f hf),hX.2.1.imp fun {f g} amG he=>amG (by unfold KY;rw[he.1,he.2])⟩
def mZ{node bag:Int}(h:(pL y p node bag).2=0):∃m:Nat,node=m/\m<y.U.length/\(1<=bag/\bag<=40)/\(y.U.getD m default).kd=1/\(p.Q.getD m []).getD 0 0=0/\(pL y p node bag).1=⟨p.Q.set m ((p.Q.getD m []).set 0 bag),p.R⟩:=by
 unfold pL at h ⊢;by_cases h1:node<0\/y.U.length<=node\/bag<1\/40<bag
 .rw[iP h1]at h;cases h
 rw[iN h1]at h ⊢;by_cases h2:¬(y.U.getD node.toNat default).kd=1
 .rw[iP h2]at h;cases h
 rw[iN h2]at h ⊢;by_cases h3:(AU p bag).2.2=true
 .rw[iP h3]at h;cases h
 rw[iN h3]at h ⊢;by_cases h4:¬(p.Q.getD node.toNat []).getD 0 0=0
 .rw[iP h4]at h;cases h
 rw[iN h4];exact⟨node.toNat,oM,oM,oM,P5.1 h2,P5.1 h4,rfl⟩
def aa7{m:Nat}{bag:Int}(hb:bag≠0)(hl:(p.Q.getD m []).length≠0)(h0:(p.Q.getD m []).getD 0 0=0)(hm:m<p.Q.length)(t:Nat):
  KH ⟨p.Q.set m ((p.Q.getD m []).set 0 bag),p.R⟩ t=if t=m then bag::KH p t else KH p t:=by
 unfold KH;simp only;by_cases e:t=m
 .subst e;rw[iP rfl,gE (l:=p.Q.set t _),Z2 hm,jw];cases hr:p.Q.getD t []with
  |nil=>rw[hr]at hl;exact absurd rfl hl|cons x r=>rw[hr]at h0;have h0:x=0:=h0;subst h0;rw[FA,Vk hb,D0,Mb]
 rw[iN e,gE (l:=p.Q.set m _),UX (fun h=>e h.symm),<-gE]
theorem oO{m:Nat}{bag:Int}(hb:bag≠0)(hl:(p.Q.getD m []).length≠0)(h0:(p.Q.getD m []).getD 0 0=0)(hm:m<p.Q.length):∀N,(Sh ⟨p.Q.set m ((p.Q.getD m []).set 0 bag),p.R⟩ N).Perm (if m<N then bag::Sh p N else Sh p N)
 |0=>.refl _|N+1=>by
  have ih:=oO hb hl h0 hm N;rw[Sh,Sh,aa7 hb hl h0 hm N];by_cases e:N=m
  .subst e;rw[iP rfl,iP oM];rw[iN oM]at ih;exact(ih.append_right _).trans List.perm_middle
  rw[iN e];by_cases e2:m<N
  .rw[iP e2]at ih;rw[iP oM];exact ih.append_right _
  rw[iN e2]at ih;rw[iN oM];exact ih.append_right _
def Y9.enter(h:Y9 y p L){node bag:Int}(he:(pL y p node bag).2=0):Y9 y (pL y p node bag).1 (bag::L):=by
 obtain⟨m,h1,h2,h3,h4,h5,h6⟩:=mZ he;rw[h6];have VV:=h.fp.st m h2 (by rw[h4];rfl);have gk:=h.fp.row m h2;have wj:m<p.Q.length:=by rw[h.fp.sl];exact h2
 refine⟨{h.fp with sl:=by simpa using h.fp.sl,row:=fun t ht=>?_},?_,h.Wh⟩
 .by_cases e:t=m
  .subst e;rw[gE,Z2 wj,jw,su];exact gk
  rw[gE,UX (fun h=>e h.symm),<-gE];exact h.fp.row t ht
 have:=oO (p:=p) (m:=m) (bag:=bag) oM oM h5 wj y.U.length;rw[iP h2]at this;exact this.trans (h.perm.cons _)
def Y9.W4(h:Y9 y p L)(hn:y.U.length<=11)(hd:AM y.U y.D=0)(jj:y.D.length<=24):Sj y p:=by
 have wE:∀j,j<y.D.length->rG y.U (y.D.getD j default)=0:=fun j hj=>by
  unfold AM at hd;split at hd
  .rename_i d hf;have:=List.find?_some hf;simp[hd]at this
  rename_i hf;rw[iq]at hf;have:=hf _ (ka (d:=default) hj);simpa using this
 refine⟨oM,by have:=h.fp.sl;omega,fun d hd=>?_⟩;have h1:=wE d hd;unfold rG at h1;split at h1
 .cases h1
 split at h1
 .cases h1
 rename_i h2;unfold pM Wr;have e:((y.D.getD d default).b.toNat:Int)=(y.D.getD d default).b:=oM;refine⟨e.symm,oM,by rw[h.fp.sl];omega,?_⟩;rw[h.fp.row _ oM];omega
def Y9.vf(h:Y9 y p L)(hL:mK L)(hf:Sj y p){d:Nat}(hd:d<y.D.length):0<=Od y p d/\Od y p d<=40:=by
 obtain⟨_,_,h3,h4⟩:=hf.at_ d hd;unfold Od;rcases h.slot (by rw[<-h.fp.sl];exact h3) (Ug h4 0)with e|e
 .omega
 have:=hL.pos _ e;omega
def ot(y:Ly)(p:Pl)(pl:List T3)(d:Nat):kP (zY y p pl d)=ME y p pl d:=by
 unfold kP zY ME;simp only;by_cases h1:Od y p d≠0
 .by_cases h2:qt y d=2
  .rw[iP ⟨h2,h1⟩,iP ⟨h1,h2⟩]
  rw[iN (fun h=>h2 h.1),iN (fun h=>h2 h.2)]
 rw[iN (fun h=>h1 h.2),iN (fun h=>h1 h.1)]
def abO(y:Ly)(p:Pl)(pl:List T3)(Na:Int)(hb:0<=Na):Gf y p pl Na (Ai y p pl)=(0,true):=by
 have key:∀d k,k+d=y.D.length->Hz y p pl Na k ((Ai y p pl).drop k) 0=(0,true):=by
  intro d;induction d with
  |zero=>intro k hk;rw[To (by rw[Ai,lY];omega)];rfl|succ d ih=>
   intro k hk;have DN:k<(Ai y p pl).length:=by rw[Ai,lY];omega
   have hg:(Ai y p pl).getD k default=ME y p pl k:=by unfold Ai lq;rw[gE];simp[show k<y.D.length by omega]
   rw[rU DN,hg,zc,iP (ot y p pl k).symm,iN (by
    intro h;rcases h with h|h
    ·cases h
    have h:Na<0+0:=h;omega)]
   exact ih (k+1) oM
 exact key y.D.length 0 oM
end
open Go.Plant Go.Inf
def Ss(G:List iM):List iM:=G.mergeSort (fun a b=>!W9 (qN b.2) (qN a.2))
def xD(G:List iM):(Ss G).Perm G:=List.mergeSort_perm _ _
theorem Q0(G:List iM):(Ss G).Pairwise fun a b=>W9 (qN b.2) (qN a.2)=false:=by
 have:=List.pairwise_mergeSort (le:=fun a b:iM=>!W9 (qN b.2) (qN a.2)) (fun a b c h1 h2=>?_) (fun a b=>?_) G
 .exact this.imp fun h=>A6
 .simp only[Oc]at h1 h2 ⊢;cases h3:W9 (qN c.2) (qN a.2)with
  |false=>rfl|true=>
   cases h4:W9 (qN a.2) (qN b.2)with
   |true=>have:=yZ h3 h4;rw[h2]at this;cases this
   |false=>have:=Fu h4 h1;rw[this]at h3;rw[h2]at h3;cases h3
 cases h3:W9 (qN b.2) (qN a.2)with
 |false=>rfl|true=>rw[je h3];rfl
theorem zP{G:List iM}(h1:G.Pairwise fun a b=>a.2≠b.2)(inj:∀a∈G,∀b∈G,qN a.2=qN b.2->a.2=b.2):(Ss G).Pairwise fun a b=>W9 (qN a.2) (qN b.2)=true:=by
 have wE:(Ss G).Pairwise fun a b=>a.2≠b.2:=((xD G).pairwise_iff (fun h=>FX h)).2 h1;refine Cf ?_ ((Q0 G).and wE);intro a b ha hb K7;cases c:W9 (qN a.2) (qN b.2)with
 |true=>rfl|false=>exact absurd (inj a ((xD G).mem_iff.1 ha) b ((xD G).mem_iff.1 hb) (Fu c K7.1)) K7.2
def CN(stp:Pl->List T3->Pl)(cst:Pl->Int×Bool)(Na:Int)(cs:List Int)(hs:List iM):List iM:=hs.flatMap fun h=>GU (stp h.2) (k_ cst) h.1 Na ([]::ext KY (Na-h.1).toNat (eC cs h.2) [])
theorem zG(stp:Pl->List T3->Pl)(cst:Pl->Int×Bool)(Na:Int)(cs:List Int):∀(hs G:List iM),hs.foldl (VA stp cst Na cs) G=(CN stp cst Na cs hs).foldl (L0 40) G
 |[],_=>rfl|h::t,G=>by have e:CN stp cst Na cs (h::t)=GU (stp h.2) (k_ cst) h.1 Na ([]::ext KY (Na-h.1).toNat (eC cs h.2) [])++CN stp cst Na cs t:=kA;rw[Xi,zG stp cst Na cs t,e,WS];rfl
def Hs(stp:Pl->List T3->Pl)(cst:Pl->Int×Bool)(Na:Int)(cs:List Int)(hs:List iM):zz stp cst Na cs hs=(CN stp cst Na cs hs).foldl (L0 40) []:=zG _ _ _ _ _ _
def FC{stp:Pl->List T3->Pl}{cst:Pl->Int×Bool}{Na:Int}{cs:List Int}{hs:List iM}(hb:∀h∈hs,Na-h.1<=2){x:iM}(hx:x∈CN stp cst Na cs hs):
  ∃h∈hs,∃S,AH (eC cs h.2) S/\(cst (stp h.2 S)).2=true/\x=(h.1+S.length+(cst (stp h.2 S)).1,stp h.2 S)/\h.1+S.length+(cst (stp h.2 S)).1<=Na:=by
 obtain⟨h,hh,hx⟩:=CJ.1 hx;have hb:=hb h hh;obtain⟨S,hS,c,hc,hl,rfl⟩:=CD.1 hx;refine⟨h,hh,S,?_,?_⟩
 .rcases rX.1 hS with rfl|hS
  .exact AH.nil _
  exact mB (Ok:=AH (eC cs h.2)) (F:=eC cs h.2) (fun sm f h1 h2 h3 h4=>h1.snoc h2 h3 h4) ZV (AH.nil _) (fun f hf=>hf) S hS
 unfold k_ at hc;split at hc
 .rename_i h2;cases hc
  exact⟨h2,rfl,hl⟩
 cases hc
open Go.Plant Go.Inf
theorem Sr(y:Ly)(p:Pl)(pl:List T3)(Na:Int):∀(rs:List Uq)(i:Nat)(t:Int),0<=t->t<=Na->0<=(Hz y p pl Na i rs t).1/\(Hz y p pl Na i rs t).1<=Na
 |[],i,t,h0,h1=>⟨h0,h1⟩|r::l,i,t,h0,h1=>by
  rw[Hz];have hc:=Zn (zY y p pl i) r;by_cases c:(zc (zY y p pl i) r).2=false\/Na<t+(zc (zY y p pl i) r).1
  .rw[iP c];exact⟨MB _,by show(0:Int)<=Na;omega⟩
  rw[iN c];exact Sr y p pl Na l (i+1) _ oM oM
def ag(y:Ly)(p:Pl)(pl:List T3)(Na:Int)(hb:0<=Na)(rs:List Uq):0<=(Gf y p pl Na rs).1/\(Gf y p pl Na rs).1<=Na:=Sr y p pl Na rs 0 0 (MB _) hb
def DI(y:Ly)(Na:Int)(pl:List T3)(c:List Int)(q:Pl)(hs:List iM):List iM:=zz (fun r X=>(ja y r c X).1) (fun r=>Gf y r pl Na (Ai y q pl)) Na c hs
section
variable{A n:Nat}{y:Ly}{L:List Int}{p:Pl}{Na:Int}{hs:List iM}{m:Nat}{c:List Int}
def Gj.AN(hg:Gj A n y)(h:Y9 y p L)(hc:c.length=n)(hk:∀i,i<n->jo (y.U.getD i default) (c.getD i 0)=true){X:List T3}(hX:AH (eC c p) X):Sx A n y p c X:=
 hg.g.sx h hc hk (h.as6 hX) (by have:=hX.2.2;omega)
def Ys(hg:Gj A n y)(hL:mK L){a b:Pl}(ha:Y9 y a L)(hb:Y9 y b L)(e:qN a=qN b):a=b:=by have hn:=hg.g.n11;have hl:=hg.g.len;exact ha.inj oM hL hb (by rw[e])
end
open Go.Plant Go.Inf
def Vg(y:Ly)(node bag:Int)(hs:List iM):List iM:=hs.filterMap fun h=>if(pn y node bag h.2).2=true then some (h.1,(pn y node bag h.2).1) else none
theorem pY(y:Ly)(node bag:Int):∀(hs G:List iM),hs.foldl (MV (pn y node bag)) G=(Vg y node bag hs).foldl Inf.Bb G
 |[],_=>rfl|h::t,G=>by
  unfold Vg;rw[Xi,pY y node bag t,Bf];unfold MV Vg;by_cases c:(pn y node bag h.2).2=true
  .rw[iP c,iP c];rfl
  rw[iN c,iN c]
theorem SD:∀{Y X G:List iM},y9 X G->y9 (X++Y) (Y.foldl Inf.Bb G)
 |[],X,G,h=>by rw[MP];exact h|a::Y,X,G,h=>by
  have:=SD (Y:=Y) (h.Bb (h:=a))
  rwa[Z5,tc]at this
theorem Yk:∀(Y G:List iM),(Y.foldl Inf.Bb G).length<=G.length+Y.length
 |[],_=>lR _|y::Y,G=>by rw[Xi];have h1:=Yk Y (Inf.Bb G y);have h2:=wQ G y;simp only[dO];omega
section
variable{A n:Nat}{y:Ly}{L:List Int}{p:Pl}{Na:Int}{hs:List iM}{m:Nat}{c:List Int}{node bag:Int}
def LG(hg:Gj A n y):Y9 y (MH y) []:=by
 have hv:=hg.val;have hs:=hg.oq;have e:MH y=bA y.U y.U.length:=by unfold MH;rw[iP hv]
 have pt:=hg.g.len;have hN:=hs.n;have l1:=(cU y.U y.U.length).1;have l2:=(cU y.U y.U.length).2;have hr:∀t,t<y.U.length->(bA y.U y.U.length).Q.getD t []=List.replicate (y.U.getD t default).ln.toNat 0:=fun t ht=>by simp[bA,ht]
 have hb:∀t,(bA y.U y.U.length).R.getD t []=[]:=fun t=>by simp[bA,HG];split<;>rfl
 have Za:∀k,nz (List.replicate k (0:Int))=[]:=fun k=>by
  induction k with
  |zero=>rfl|succ k ih=>rw[List.replicate_succ,D0,ih]
 have AS:∀N,N<=y.U.length->Sh (bA y.U y.U.length) N=[]:=fun N=>by
  induction N with
  |zero=>intro _;rfl|succ N ih=>intro h;rw[Sh,ih oM];unfold KH;rw[hr N oM,hb,Za];rfl
 have fo:=fun i hi=>EF (Le hv i hi);rw[e];refine⟨⟨oM,l1,l2,fun t ht=>?_,fun t ht=>?_,fun t ht=>?_,fun t ht=>?_,fun t ht=>?_⟩,by rw[AS _ (lR _)],fun t ht=>?_⟩
 .rw[hr t ht,ro]
 .rw[hb];exact zL _
 .have:=fo t ht;omega
 .have Ac:=(hg.g.ya t oM).ln;intro VV;rw[c9,TF,Vd,Vd]at VV;exact(Ac VV.2).1
 .have:=hg.g.Y8 (m:=t) oM;rw[WW]at this;split at this
  .omega
  split at this<;>omega
 rw[hb];exact .nil
end
open Go.Plant Go.Inf
def o7(pl:List T3)(b:Int):YR pl b=[]\/(YR pl b).length=10:=by
 unfold YR;split
 .unfold Go.Scr.Aq.fmt;split
  .exact .inr (Go.Scr.l_ _ _)
  exact .inl rfl
 exact .inl rfl
section
variable{A n:Nat}{y:Ly}{L:List Int}{p:Pl}{Na:Int}{hs:List iM}{c:List Int}
def Gj.W4(hg:Gj A n y)(h:Y9 y p L):Sj y p:=by have h1:=hg.g.n11;have h2:=hg.g.len;exact h.W4 oM hg.d hg.dl
def zW(hg:Gj A n y)(hL:mK L)(hb:0<=Na/\Na<=2)(AS:∀h∈hs,Y9 y h.2 L)(cg:∀h∈hs,0<=h.1/\h.1<=Na)(jJ:hs.length<=1000)(hc:c.length=n)(hk:∀i,i<n->jo (y.U.getD i default) (c.getD i 0)=true){kf:Nat}{cp:List (List AV)}{cst:Pl->Int×Bool}(hco:∀h∈hs,∀X,AH (eC c h.2) X->UB prog J9 kf [] ((ja y h.2 c X).1.av::JS cp) [] (.F1 [I (cst (ja y h.2 c X).1).1,B (cst (ja y h.2 c X).1).2]))(O5:∀q,0<=(cst q).1/\(cst q).1<=1000)(G:List iM)(hG:zz (fun r X=>(ja y r c X).1) cst Na c hs=G)(r:UZ)(e:Int)(hr:(G=[]/\r=⟨0,[]⟩/\e=11)\/(40<G.length/\r=⟨0,[]⟩/\e=2)\/(G≠[]/\G.length<=40/\r=⟨Na,(Ss G).map Z'⟩/\e=0)):
  UB prog J9 67 [] [.P (g_ y (WR y.U)),(UZ.mk Na (hs.map Z')).av,IS c,.fn kf (JS cp)] [] (.F1 [r.av,I e]):=by
 have hn:=hg.g.n11;have dW:=hg.g.len;have Y7:=hL.len;have VV:∀h∈hs,∀X,AH (eC c h.2) X->Y9 y (ja y h.2 c X).1 L:=fun h hh X hX=>Rg (hg.AN (AS h hh) hc hk hX) (AS h hh) hL;have sU:∀a b,Y9 y a L->Y9 y b L->Pu (qN a)=Pu (qN b)->a=b:=fun a b ha hb=>ha.inj oM hL hb;have SX:∀q,Y9 y q L->BP q:=fun q h=>h.dV oM hL;have Fw:∀h∈hs,∀X∈([]::ext KY (Na-h.1).toNat (eC c h.2) []),AH (eC c h.2) X:=fun h hh X hX=>by
  have hu:=cg h hh;rcases rX.1 hX with rfl|hX
  .exact AH.nil _
  exact mB (Ok:=AH (eC c h.2)) (F:=eC c h.2) (fun sm f h1 h2 h3 h4=>h1.snoc h2 h3 h4) ZV (AH.nil _) (fun f hf=>hf) X hX
 have dD:=vM.foldl (Y:=CN (fun r X=>(ja y r c X).1) cst Na c hs) (vM.nil (P:=Pl) 40);rw[Hs]at hG;rw[fj,hG]at dD;have Fs:∀x∈G,Y9 y x.2 L:=fun x hx=>by
  have hm:∃z∈CN (fun r X=>(ja y r c X).1) cst Na c hs,z.2=x.2:=by
   rcases dD.2 with ⟨_,h1⟩|⟨_,_,h1⟩
   .exact⟨x,h1.mem x hx,rfl⟩
   exact h1 x hx
  obtain⟨z,hz,Pg⟩:=hm;obtain⟨g,wO,S,hS,h2,h3,h4⟩:=FC (fun g hg=>by have:=cg g hg;omega) hz;rw[<-Pg,h3];exact VV g wO S hS
 have wE:G.length<=40->G.Pairwise fun a b=>a.2≠b.2:=fun h1=>by
  rcases dD.2 with ⟨_,h1⟩|⟨h1,_⟩
  .exact h1.one
  omega
 refine vH (Gd:=fun q=>Y9 y q L) (stp:=fun r X=>(ja y r c X).1) (cst:=cst) hs jJ (fun h hh=>?_) (fun h hh G' dJ CC=>?_) (fun h hh G' dJ CC=>?_) (fun q hq=>hq.QW oM) _ ?_
 .exact WU y _ h.2 c ((AS h hh).QW oM) (by have:=(AS h hh).fp.sl;omega) oM
 .have hu:=cg h hh;have cQ:=(AS h hh).anM c;exact tH (Ok:=AH (eC c h.2)) (Gd:=fun q=>Y9 y q L) (F:=eC c h.2) (mv:=fun X=>(ja y h.2 c X).2) (stp:=fun X=>(ja y h.2 c X).1) (cst:=cst) (hp:=h.2) (us:=h.1)
   (fun X hX=>agq hg (hg.AN (AS h hh) hc hk hX) (AS h hh)) (hco h hh) O5 (fun X hX=>VV h hh X hX) SX sU (fun sm f h1 h2 h3 h4=>h1.snoc h2 h3 h4) hu.1 hb.2
   (Na-h.1).toNat [] (eC c h.2) G' ZV (AH.nil _) (fun f hf=>hf) oM dJ CC
 .exact⟨Y0 (Gd:=fun q=>Y9 y q L) (fun X hX=>VV h hh X (Fw h hh X hX)) dJ,fZ _ _ _ _ _ CC⟩
 rw[Hs,hG];rcases hr with ⟨h1,h2,h3⟩|⟨h1,h2,h3⟩|⟨h0,h1,h2,h3⟩
 .exact .inl ⟨h1,by rw[h2,h3]⟩
 .exact .inr (.inl ⟨h1,by rw[h2,h3]⟩)
 exact .inr (.inr ⟨h0,h1,Ss G,xD G,zP (wE h1) fun a ha b hb e=>Ys hg hL (Fs a ha) (Fs b hb) e,by rw[h2,h3]⟩)
def Gj.LR(hg:Gj A n y):∀m,m<y.U.length->(y.U.getD m default).ex.length<=500:=fun m hm=>by
 have dW:=hg.g.len;have:=hg.g.Y8 (m:=m) oM;rw[WW]at this;split at this
 .omega
 split at this<;>omega
def Iq(hg:Gj A n y)(hL:mK L)(hb:0<=Na/\Na<=2)(AS:∀h∈hs,Y9 y h.2 L)(cg:∀h∈hs,0<=h.1/\h.1<=Na)(jJ:hs.length<=1000)(hc:c.length=n)(hk:∀i,i<n->jo (y.U.getD i default) (c.getD i 0)=true)(pl:List T3)(rs:List Uq)(JW:pl.length=40)(hl:rs.length=y.D.length)(hd:∀i,i<rs.length->(rs.getD i default).dv=(i:Int))(G:List iM)(hG:zz (fun r X=>(ja y r c X).1) (fun r=>Gf y r pl Na rs) Na c hs=G)(r:UZ)(e:Int)(hr:(G=[]/\r=⟨0,[]⟩/\e=11)\/(40<G.length/\r=⟨0,[]⟩/\e=2)\/(G≠[]/\G.length<=40/\r=⟨Na,(Ss G).map Z'⟩/\e=0)):
  UB prog J9 21 [] [y.av,(UZ.mk Na (hs.map Z')).av,IS c,.sl (YA pl) false,.sl (b7 rs) false] [] (.F1 [r.av,I e]):=by
 have hn:=hg.g.n11;have dW:=hg.g.len;have jj:=hg.dl;refine nB y Na hs c pl rs hg.oq hg.val hg.g.ex jJ (fun h hh=>(AS h hh).fp) oM hg.LR hl oM _ _ (.inr (.inr ⟨FO hg.g hc hk ⟨sM,sM⟩ (zL _),hd,?_⟩));exact zW (cp:=[[.sl (b7 rs) false],[.sl (H4 y.U) false,.sl (YA y.D) false],[.sl (YA pl) false],[I Na,.sl (wF (hs.map Z')) false]]) hg hL hb AS cg jJ hc hk
  (fun h hh X hX=>cd y _ pl Na (hs.map Z') rs (hg.W4 (Rg (hg.AN (AS h hh) hc hk hX) (AS h hh) hL)) hl hd oM (fun d=>o7 _ _) hb)
  (fun q=>by have:=ag y q pl Na hb.1 rs;omega) G hG r e hr
end
open Go.Plant Go.Inf
structure LQ(y:Ly)(p:Pl)(fs:List T3):Prop where
 len:fs.length<=4
 ok:∀f∈fs,(3<=f.a/\f.a<=6)/\(0<=f.b/\f.b<y.D.length)/\SK f=true/\Zb y p f=true
 Ct:fs.Pairwise fun f g=>f.b≠g.b
def LP(d:Nat)(r:Uq)(f:T3):Uq:=if f.b=(d:Int) then SL r f else r
def oX(y:Ly)(p:Pl)(pl:List T3)(fs:List T3)(d:Nat):Uq:=fs.foldl (LP d) (ME y p pl d)
def r7(y:Ly)(p:Pl)(pl:List T3)(fs:List T3)(i:Nat):List Uq:=(List.range i).map (oX y p pl fs)
def arX(y:Ly)(p:Pl)(pl fs:List T3)(i:Nat):r7 y p pl fs (i+1)=r7 y p pl fs i++[oX y p pl fs i]:=by simp[r7,RM]
def Yz(y:Ly)(p:Pl)(pl fs:List T3)(i:Nat):(r7 y p pl fs i).length=i:=by simp[r7]
def KX(y:Ly)(p:Pl)(pl fs:List T3):List Uq:=r7 y p pl fs y.D.length
theorem KU{d:Nat}:∀{fs:List T3}{r:Uq},(∀f∈fs,f.b≠(d:Int))->fs.foldl (LP d) r=r
 |[],_,_=>rfl|f::fs,r,h=>by rw[Xi,LP,iN (h f mS)];exact KU fun g hg=>h g (mC _ hg)
def acG{α β:Type}{f:β->α->β}{b:β}{l:List α}{j:Nat}(h:j<l.length)(d:α):(l.take (j+1)).foldl f b=f ((l.take j).foldl f b) (l.getD j d):=by rw[Pq h d,WS];rfl
def M9{α:Type}{l:List α}{i:Nat}(h:i<l.length){d:α}:l.getD i d=l[i]:=by simp[gE,h]
def aiR(y:Ly)(p:Pl)(pl fs:List T3)(h:Sj y p)(JW:pl.length<=1000)(hb:∀d,d<y.D.length->0<=Od y p d/\Od y p d<=pl.length)(hg:LQ y p fs)(aK:∀d,d<y.D.length->Od y p d≠0->(YR pl (Od y p d)).length=10):
  UB prog J9 20 [] [y.av,p.av,.sl (YA pl) false,.sl (YA fs) false] [] (.F1 [.sl (b7 (KX y p pl fs)) false,I 0]):=by
 have hn:=h.n;have gr (d:Nat) (hd:d<y.D.length):=zZ y p pl d h hd JW (hb d hd);have cQ:=hg.len;have d4:=Vj ((4:Int)<fs.length);have sL:∀i,i<fs.length->(3<=(fs.getD i default).a/\(fs.getD i default).a<=6)/\(0<=(fs.getD i default).b/\(fs.getD i default).b<y.D.length)/\SK (fs.getD i default)=true/\Zb y p (fs.getD i default)=true:=fun i hi=>hg.ok _ (Ug hi default);refine MD func20 ntmps20 ?_;intro w e X hC;refine NL @d4 ?_;refine EP ?_;refine PV (fun q:Az=>⟨[(2,.sl (YA pl) false),(3,.sl (YA fs) false),(4,.p 104 1 0 0 0),(5,.p 105 2 0 0 0),(10,I q.2)],(105,some (2,.box (GE p)))::(104,some (1,.box (r8 y)))::[],q.1⟩) (fun q=>q.2<=fs.length) (fun q=>fs.length-q.2) (_,0) (zL _) (ch) ?_
 .rintro⟨ck,u⟩ hu;simp only at hu;refine UV ?_ ?_<;>intro c
  .have PP:u<fs.length:=oM;obtain⟨⟨f1,f2⟩,⟨f3,f4⟩,f5,f6⟩:=sL u PP;have g1:=Hr PP;generalize fs.getD u default=f at*;have NK:=ij f;have hpo:=QF y p f f.b.toNat oM h oM;rw[f5]at NK;rw[f6]at hpo;have q1:=Vj (f.a<3);have q2:=Vj (6<f.a);have q3:=Vj (f.b<0);have q4:=Vj ((y.D.length:Int)<=f.b);refine aH @g1 ?_;refine QT (uI @g1 (uI @q1 @q2)) ?_;refine WT (uI @q3 @q4) NK ?_;refine uF ?_;refine uR ?_;refine R6 hpo ?_;refine UN ?_;exact nX (_,u+1) ch
  refine El ?_;refine EP ?_;refine AJ fs.length (fun q:Az=>⟨[(2,.sl (YA pl) false),(3,.sl (YA fs) false),(4,.p 104 1 0 0 0),(5,.p 105 2 0 0 0),(12,I q.2)],(105,some (2,.box (GE p)))::(104,some (1,.box (r8 y)))::[],q.1⟩) (ch) ?_;intro ck v hv;refine UV ?_ ?_<;>intro c2
  .have PP:v<fs.length:=oM;have g1:=Hr PP;have Zl:∀j,j<v->decide ((fs.getD v default).b=(fs.getD j default).b)=false:=fun j hj=>dF fun e=>by have h1:=(JQ.1 hg.Ct) j v oM PP hj;rw[M9 PP,M9 (show j<fs.length by omega)]at e;exact h1 e.symm
   generalize hf:fs.getD v default=f at*;refine EP ?_;refine PV (fun q:Az=>⟨[(2,.sl (YA pl) false),(3,.sl (YA fs) false),(4,.p 104 1 0 0 0),(5,.p 105 2 0 0 0),(12,I v),(13,I q.2)],(105,some (2,.box (GE p)))::(104,some (1,.box (r8 y)))::[],q.1⟩) (fun q=>q.2<=v) (fun q=>v-q.2) (_,0) (zL _) (ch) ?_
   .rintro⟨ck,j⟩ hj;simp only at hj;refine UV ?_ ?_<;>intro c3
    .have YC:j<v:=oM;have g2:=Hr (show j<fs.length by omega);have q1:=Zl j YC;generalize fs.getD j default=f2 at*;refine mb (uI @g1 (uI @g2 @q1)) ?_;refine UN ?_;exact nX (_,j+1) ch
    refine jq ?_;exact nX (_,v+1) ch
  refine El ?_;refine EP ?_;refine PV (fun q:Nat×Az=>⟨[(2,.sl (YA pl) false),(3,.sl (YA fs) false),(4,.p 104 1 0 0 0),(5,.p 105 2 0 0 0),(14,.l 114 q.2.2 0 q.2.1),(15,I q.2.1)],(114,some (q.2.2,.own 65 3 (b7 (r7 y p pl fs q.2.1))))::(105,some (2,.box (GE p)))::(104,some (1,.box (r8 y)))::[],q.1⟩) (fun q=>q.2.1<=y.D.length) (fun q=>y.D.length-q.2.1) (_,0,_) (zL _) (ch) ?_;rintro⟨ck,i,g⟩ hi;simp only at hi;have S0:=Yz y p pl fs i;have Mo:=arX y p pl fs i;generalize X2:r7 y p pl fs i=o at*;refine UV ?_ ?_<;>intro c3
  .have PP:i<y.D.length:=oM;have gri:=gr i PP;have lC:=aK i PP;have AF:ME y p pl i=ME y p pl i:=rfl;refine uR ?_;refine R6 gri ?_;refine EP ?_;refine PV (fun q:Nat×Nat×Nat×Uq=>⟨[(2,.sl (YA pl) false),(3,.sl (YA fs) false),(4,.p 104 1 0 0 0),(5,.p 105 2 0 0 0),(14,.l 114 g 0 i),(15,I i),(16,.p 116 q.2.2.1 0 0 0),(17,I q.2.1)],(116,some (q.2.2.1,.box [I q.2.2.2.dv,B q.2.2.2.sn,S (strOf q.2.2.2.rd)]))::(114,some (g,.own 65 3 (b7 o)))::(105,some (2,.box (GE p)))::(104,some (1,.box (r8 y)))::[],q.1⟩) (fun q=>q.2.1<=fs.length/\q.2.2.2=(fs.take q.2.1).foldl (LP i) (ME y p pl i)) (fun q=>fs.length-q.2.1) (_,0,_,ME y p pl i) ⟨zL _,sM⟩ (ch) ?_;rintro⟨ck,j,g2,r⟩ ⟨hj,hr⟩;simp only at hj hr;refine UV ?_ ?_<;>intro c4
   .have YC:j<fs.length:=oM;have g1:=Hr YC;have RK:=acG (f:=LP i) (b:=ME y p pl i) YC default;rw[<-hr]at RK;obtain⟨⟨f1,f2⟩,⟨f3,f4⟩,f5,f6⟩:=sL j YC;have f_:(fs.getD j default).b=(i:Int)->r=ME y p pl i:=fun e=>by rw[hr];refine KU fun f hf e2=>?_;obtain⟨m,hm,rfl⟩:=G_ hf;rw[Hh]at hm;rw[DA]at e2;have h1:=(JQ.1 hg.Ct) m j oM YC oM;rw[M9 YC]at e;exact h1 (e2.trans e.symm)
    generalize fs.getD j default=f at*;refine Fm @g1 ?_ ?_<;>intro c5
    .have w6:=f_ c5;have AC:f.a≠3->f.a≠4->0<=f.c/\f.c<r.rd.length:=fun a3 a4=>by have e56:f.a=5\/f.a=6:=oM;unfold SK at f5;rw[iP e56,TF,Vd,Vd]at f5;unfold Zb at f6;rw[iN a3,iN a4,TF,Vd,Vd,c5,Mv]at f6;rw[w6];unfold ME;simp only;rw[iP f6,lC f6.1];omega
     have aps:r.rd.length<=1000:=by
      rw[w6];unfold ME;simp only;split
      .rename_i h6;rw[lC h6.1];omega
      simp
     have BE:=aat r f AC aps;rw[LP,iP c5]at RK;generalize SL r f=r2 at*;refine Dp @g1 ?_;refine R6 BE ?_;refine uZ ?_;refine⟨(_,j+1,g2,r2),⟨uO,RK.symm⟩,uO,ch⟩
    rw[LP,iN c5]at RK;refine uZ ?_;refine⟨(_,j+1,g2,r),⟨uO,RK.symm⟩,uO,ch⟩
   refine El ?_;have jF:j=fs.length:=oM;rw[jF,Sy]at hr;have Mo:r7 y p pl fs (i+1)=o++[r]:=by rw[Mo,hr];rfl
   refine aH (uI @S0 @o6) ?_;rw[<-Mo];exact nX (_,i+1,g) ch
  refine El ?_;have Wd:i=y.D.length:=oM;have ho:KX y p pl fs=o:=by rw[<-X2,Wd];rfl
  rw[ho];refine WE ?_;rw[show Tryz.f20.results.toList=[.tmp 8,.tmp 9] from rfl];exact kv @S0
open Go.Plant Go.Inf
def Rm(l:List Int)(seen:Bool)(kd d:Int)(a:Nat):T3×Bool×Nat:=
 if seen=true then
  if kd=2 then(if gP l a [3,5,6,6]=3 then(⟨3,d,0⟩,false,a+1) else(⟨gP l a [3,5,6,6],d,gP l (a+1) [9,8,0,5]⟩,false,a+2)) else(⟨3,d,0⟩,false,a)
 else(⟨4,d,0⟩,decide (kd=2),a)
def NZ(l:List Int)(y:Ly)(p:Pl)(o:List T3×Nat):List T3×Nat:=
 let d:=gN l o.2 y.D.length
 let r:=Rm l (decide (Od y p d.toNat≠0)) (qt y d.toNat) d (o.2+1)
 (if o.1.any (fun f=>decide (f.b=d))||r.2.1 then o.1 else o.1++[r.1],r.2.2)
def tb(l:List Int)(y:Ly)(p:Pl)(a:Nat):Nat->List T3×Nat
 |0=>([],a)|i+1=>if y.D.length=0 then tb l y p a i else NZ l y p (tb l y p a i)
def ac8{l:List Int}{y:Ly}{p:Pl}{o:List T3×Nat}:(NZ l y p o).1.length<=o.1.length+1:=by unfold NZ;simp only;split<;>simp
theorem Tr(l:List Int)(y:Ly)(p:Pl)(a:Nat):∀i,(tb l y p a i).1.length<=i
 |0=>lR _|i+1=>by
  rw[tb];split
  .have:=Tr l y p a i;omega
  exact Jz ac8 (Nat.succ_le_succ (Tr l y p a i))
theorem aaD{l:List Int}{y:Ly}{p:Pl}{a:Nat}(h:y.D.length=0):∀i,tb l y p a i=([],a)
 |0=>rfl|i+1=>by rw[tb,iP h,aaD h i]
theorem WK{l:List Int}{y:Ly}{p:Pl}(qn:∀d,d<y.D.length->qt y d=1\/qt y d=2)(a:Nat):∀i,i<=4->LQ y p (tb l y p a i).1
 |0,_=>⟨zL _,(fun f hf=>by cases hf),.nil⟩
 |i+1,hi=>by
  have ih:=WK (l:=l) (p:=p) qn a i oM;have hl:=Tr l y p a i;rw[tb];split
  .exact ih
  rename_i h0;unfold NZ;simp only;generalize tb l y p a i=o at*;have hk:=G0 (l:=l) (a:=o.2) (n:=y.D.length) oM;obtain⟨k,DJ⟩:∃k:Nat,gN l o.2 y.D.length=k:=⟨_,(ua hk.1).symm⟩;rw[DJ]at hk ⊢;rw[Mv];have qn:=qn k oM;split
  .exact ih
  rename_i hb;rw[eo,not_or]at hb;obtain⟨aZ,Wx⟩:=hb;have tq:∀f∈o.1,f.b≠(k:Int):=fun f hf e=>aZ (X4.2 ⟨f,hf,dT e⟩);have key:(3<=(Rm l (decide (Od y p k≠0)) (qt y k) k (o.2+1)).1.a/\(Rm l (decide (Od y p k≠0)) (qt y k) k (o.2+1)).1.a<=6)/\(Rm l (decide (Od y p k≠0)) (qt y k) k (o.2+1)).1.b=k/\SK (Rm l (decide (Od y p k≠0)) (qt y k) k (o.2+1)).1=true/\Zb y p (Rm l (decide (Od y p k≠0)) (qt y k) k (o.2+1)).1=true:=by
   unfold Rm at Wx ⊢;by_cases c1:Od y p k≠0
   .rw[iP (dT c1)];by_cases c2:qt y k=2
    .rw[iP c2];by_cases c3:gP l (o.2+1) [3,5,6,6]=3
     .rw[iP c3];refine⟨⟨sM,sM⟩,rfl,by simp[SK],?_⟩;simp[Zb,c1]
     rw[iN c3];have hm:=YY (l:=l) (a:=o.2+1) (es:=[3,5,6,6]) sM;have qf:=YY (l:=l) (a:=o.2+1+1) (es:=[9,8,0,5]) sM;generalize gP l (o.2+1) [3,5,6,6]=q at*;generalize gP l (o.2+1+1) [9,8,0,5]=w at*;simp only[rX,AY,xN]at hm qf;refine⟨⟨uO,uO⟩,rfl,?_,?_⟩
     .unfold SK;simp only;rw[iP oM,dT (show 0<=w by omega),dT (show w<=9 by omega)];rfl
     unfold Zb;simp only[Mv];rw[iN c3,iN oM,dT c1,dT c2];rfl
    rw[iN c2];refine⟨⟨sM,sM⟩,rfl,by simp[SK],?_⟩;simp[Zb,c1]
   rw[iN (by simpa using c1)]at Wx ⊢;have c2:¬qt y k=2:=by simpa using Wx
   refine⟨⟨sM,sM⟩,rfl,by simp[SK],?_⟩;unfold Zb;simp only[Mv];rw[iN dM,iP trivial,dF c1,dF c2];rfl
  generalize (Rm l (decide (Od y p k≠0)) (qt y k) k (o.2+1)).1=g at*;obtain⟨k1,k2,k3,k4⟩:=key;refine⟨kS,fun f hf=>?_,?_⟩
  .rcases ym.1 hf with hf|hf
   .exact ih.ok f hf
   rw[iT.1 hf];exact⟨k1,oM,k3,k4⟩
  rw[iL];refine⟨ih.Ct,zx _ _,fun f hf g' X0=>?_⟩;rw[iT.1 X0,k2];exact tq f hf
def aso(l:List Int)(a n:Nat)(y:Ly)(p:Pl)(hf:M2 l)(h:Sj y p)(hm:n<=1000):
  UB prog J9 19 (di l a) [.p 0 0 0 0 0,y.av,p.av,I n] (di l (tb l y p a n).2) (.sl (YA (tb l y p a n).1) false):=by
 have ia:=h.n;refine MD func19 ntmps19 ?_;intro w e X hC;refine EP ?_;refine AJ n (fun i:Az=>⟨[(0,.p 0 0 0 0 0),(3,I n),(5,.p 105 1 0 0 0),(6,.p 106 2 0 0 0),(9,.l 109 4 0 (tb l y p a i.2).1.length),(10,I i.2)],(109,some (4,.own 95 3 (YA (tb l y p a i.2).1)))::(106,some (2,.box (GE p)))::(105,some (1,.box (r8 y)))::di l (tb l y p a i.2).2,i.1⟩) (ch) ?_;intro ck i hi;by_cases c1:i<n/\0<y.D.length
 .obtain⟨c1,c2⟩:=c1;have d1:=oN ((i:Int)<(n:Int));have d2:=oN (0<(y.D.length:Int));have e1:tb l y p a (i+1)=NZ l y p (tb l y p a i):=by rw[tb,iN oM]
  have S0:=Tr l y p a i;generalize tb l y p a i=o at*;obtain⟨o,b⟩:=o;simp only at*;have hk:=G0 (l:=l) (a:=b) (n:=y.D.length) oM;obtain⟨k,DJ⟩:∃k:Nat,gN l b y.D.length=k:=⟨_,(ua hk.1).symm⟩;rw[DJ]at hk;have PP:k<y.D.length:=oM;obtain⟨f1,f2,f3,f4⟩:=h.at_ k PP;have g1:=Hr PP;have g2:=au f3;have g3:=ma f4;have bE:=h.sl;have e2:NZ l y p (o,b)=(if o.any (fun f=>decide (f.b=(k:Int)))||(Rm l (decide (Od y p k≠0)) (qt y k) k (b+1)).2.1 then o else o++[(Rm l (decide (Od y p k≠0)) (qt y k) k (b+1)).1],(Rm l (decide (Od y p k≠0)) (qt y k) k (b+1)).2.2):=by simp only[NZ,DJ,Mv]
  unfold Od qt at e2;generalize pM y k=nn at*;generalize Wr y k=ww at*;generalize y.D.getD k default=x at*;generalize p.Q.getD nn []=row at*;refine GJ (uI @d1 @d2) ?_;refine uT ?_;refine uR ?_;intro K hK;refine ZI rfl ((Ih l b y.D.length hf oM)) iO iO iO iO iO ?_;refine Qd ?_;refine hK _ ?_;clear hK K;simp only[DJ];refine LY @g1 ?_;refine PV (fun j:Nat×Nat×Az=>⟨[(0,.p 0 0 0 0 0),(3,I n),(5,.p 105 1 0 0 0),(6,.p 106 2 0 0 0),(9,.l 109 4 0 o.length),(10,I i),(11,I k),(12,.p 112 j.2.2.1 0 0 0),(13,.p 113 j.2.2.2 0 0 0),(14,B ((o.take j.2.1).any fun f=>decide (f.b=(k:Int)))),(15,I j.2.1)],
   (113,some (j.2.2.2,.box [I 4,I k,I 0]))::(112,some (j.2.2.1,.box [I x.a,I x.b,I x.c]))::(109,some (4,.own 95 3 (YA o)))::(106,some (2,.box (GE p)))::(105,some (1,.box (r8 y)))::di l (b+1),j.1⟩) (fun j=>j.2.1<=o.length) (fun j=>o.length-j.2.1) (_,0,_,_) (zL _) (ch) ?_
  rintro⟨ck2,j,ga,gb⟩ hj;simp only at hj;refine C0 ?_ ?_<;>intro h2
  .have Se:j<o.length:=oM;have e5:(o.take (j+1)).any (fun f=>decide (f.b=(k:Int)))=((o.take j).any (fun f=>decide (f.b=(k:Int)))||decide (o[j].b=(k:Int))):=Th Se;have e7:(YA o).getD j .bad=(o[j]).av:=by rw[Hr Se,M9 Se]
   generalize (o.take j).any (fun f=>decide (f.b=(k:Int)))=bb at*;generalize o[j]=q at*;cases bb with
   |true=>refine aH @e7 ?_;exact nX (_,j+1,_,_) (wT (uI @e5 @Aa))|false=>refine aH @e7 ?_;exact nX (_,j+1,_,_) (wT @e5)
  refine El ?_;have Se:j=o.length:=oM;subst Se;rw[Sy];generalize Rn:o.any (fun f=>decide (f.b=(k:Int)))=bd at*;generalize hv:row.getD ww 0=v at*;refine uZ ?_;refine mb (uI @f1 (uI @f2 (uI @g2 @g3))) ?_;obtain⟨rr,f_⟩:∃rr,rr=Rm l (decide (v≠0)) x.a k (b+1):=⟨_,rfl⟩;rw[<-f_]at e2;refine GA ?_;refine JP (fun q:Nat=>⟨[(0,.p 0 0 0 0 0),(3,I n),(5,.p 105 1 0 0 0),(6,.p 106 2 0 0 0),(9,.l 109 4 0 o.length),(10,I i),(13,.p 113 gb 0 0 0),(14,B (bd||rr.2.1))],(113,some (gb,.box [I rr.1.a,I rr.1.b,I rr.1.c]))::(109,some (4,.own 95 3 (YA o)))::(106,some (2,.box (GE p)))::(105,some (1,.box (r8 y)))::di l rr.2.2,q⟩) (fun _=>True) ?_ ?_
  .unfold Rm at f_;by_cases c3:v=0
   .have d3:decide (¬v=0)=false:=dF oM;rw[iN (by simpa using c3)]at f_;by_cases c4:x.a=2
    .have d4:decide (x.a=2)=true:=dT c4;rw[d4]at f_;refine NL @d3 ?_;refine NL @d3 ?_;refine aH @d4 ?_;refine WM ?_;refine⟨_,trivial,wK @f_ (uI @f_ @z8)⟩
    have d4:decide (x.a=2)=false:=dF c4;rw[d4]at f_;refine NL @d3 ?_;refine NL @d3 ?_;refine NL @d4 ?_;refine uW ?_;refine⟨_,trivial,wK @f_ @f_⟩
   have d3:decide (¬v=0)=true:=dT oM;rw[iP (by simpa using c3)]at f_;by_cases c4:x.a=2
   .have d4:decide (x.a=2)=true:=dT c4;rw[iP c4]at f_;have hp1:=Jn l (b+1) [3,5,6,6] hf sM sM;refine K6 (uI @d3 @d4) ?_;refine uR ?_;intro K hK;refine ZI rfl (hp1) iO iO iO iO iO ?_;refine Qd ?_;refine hK _ ?_;clear hK K;generalize gP l (b+1) [3,5,6,6]=kk at*;by_cases c5:kk=3
    .have d5:decide (¬kk=3)=false:=dF oM;rw[iP c5]at f_;refine NL @d5 ?_;refine uW ?_;refine⟨_,trivial,wK (uI @f_ @c5) @f_⟩
    have d5:decide (¬kk=3)=true:=dT oM;rw[iN c5]at f_;have hp2:=Jn l (b+1+1) [9,8,0,5] hf sM sM;refine K6 @d5 ?_;refine uR ?_;intro K hK;refine ZI rfl (hp2) iO iO iO iO iO ?_;refine Qd ?_;refine hK _ ?_;clear hK K;generalize gP l (b+1+1) [9,8,0,5]=ww2 at*;refine uZ ?_;refine⟨_,trivial,wK @f_ @f_⟩
   have d4:decide (x.a=2)=false:=dF c4;rw[iN c4]at f_;refine NL (uI @d3 @d4) ?_;refine aH @d3 ?_;refine WM ?_;refine⟨_,trivial,wK @f_ @f_⟩
  rintro ck3 -;clear f_;obtain⟨r1,r2,r3⟩:=rr;simp only at e2;cases hb:(bd||r2)with
  |true=>rw[hb,iP rfl]at e2;refine zF @hb ?_;exact nX (_,i+1) (wK (uI @e1 @e2) (uI @e1 @e2))|false=>rw[hb,iN sM]at e2;refine K6 @hb ?_;refine aH @BN ?_;exact nX (_,i+1) (wK (uI @e1 @e2) (uI @e1 @e2))
 by_cases c2:i<n
 .have h0:y.D.length=0:=oM;have d1:=oN ((i:Int)<(n:Int));have d2:=Vj (0<(y.D.length:Int));simp only[aaD h0];refine QT (uI @d1 @d2) ?_;refine jq ?_;(refine A_ (lO rfl iO iO ?_ ?_);all_goals (first|refine uS ?_|exact uX|skip))
 have d1:=Vj ((i:Int)<(n:Int));have Wd:i=n:=oM;subst Wd;refine QT @d1 ?_;refine jq ?_;(refine A_ (lO rfl iO iO ?_ ?_);all_goals (first|refine uS ?_|exact uX|skip))
open Go.Plant Go.Inf
theorem nT{cs:List Int}{m:Nat}{s:List Int}{f:T3}:∀{K:Nat},K<=s.length->(f∈Hf cs m s K↔∃k:Nat,k<K/\f.c=k/\f∈Js cs m s k)
 |0,_=>⟨fun h=>C3,fun⟨k,h,_⟩=>absurd h (nZ _)⟩|K+1,hK=>by
  rw[Hf,ym,nT oM];constructor
  .rintro(⟨k,h1,h2⟩|h)
   .exact⟨k,oM,h2⟩
   exact⟨K,oM,(Yo oM h).2.2.1,h⟩
  rintro⟨k,h1,h2,h3⟩;by_cases e:k=K
  .subst e;exact .inr h3
  exact .inl ⟨k,oM,h2,h3⟩
theorem oc{cs:List Int}{ss:List (List Int)}{f:T3}:∀{N:Nat},f∈YT cs ss N↔∃m k:Nat,m<N/\k<(ss.getD m []).length/\f.b=m/\f.c=k/\f∈Js cs m (ss.getD m []) k
 |0=>⟨fun h=>C3,fun⟨m,k,h,_⟩=>absurd h (nZ _)⟩|N+1=>by
  rw[YT,ym,oc,nT (lR _)];constructor
  .rintro(⟨m,k,h1,h2⟩|⟨k,h1,h2,h3⟩)
   .exact⟨m,k,oM,h2⟩
   exact⟨N,k,oM,h1,(Yo h1 h3).2.1,h2,h3⟩
  rintro⟨m,k,h1,h2,h3,h4,h5⟩;by_cases e:m=N
  .subst e;exact .inr ⟨k,h2,h4,h5⟩
  exact .inl ⟨m,k,oM,h2,h3,h4,h5⟩
def Wk{cs:List Int}{p:Pl}{a:Int}{m k:Nat}(hm:m<p.Q.length)(hk:k<(p.Q.getD m []).length):(⟨a,m,k⟩:T3)∈eC cs p↔(⟨a,m,k⟩:T3)∈Js cs m (p.Q.getD m []) k:=by
 unfold eC;rw[oc];constructor
 .rintro⟨m',k',_,_,h3,h4,h5⟩;have e1:m=m':=by simp only at h3;omega
  have e2:k=k':=by simp only at h4;omega
  rw[e1,e2]at h5 ⊢;exact h5
 intro h;exact⟨m,k,hm,hk,rfl,rfl,h⟩
def bO(cs:List Int)(m:Nat)(s:List Int)(k:Nat):(Js cs m s k).Nodup:=by
 unfold Js;split
 .exact .nil
 split
 .split
  .exact .nil
  simp
 split
 .exact .nil
 split
 .split<;>simp
 simp
theorem og(cs:List Int)(m:Nat)(s:List Int):∀{K:Nat},K<=s.length->(Hf cs m s K).Nodup
 |0,_=>.nil|K+1,hK=>by rw[Hf,vI];refine⟨og cs m s oM,bO _ _ _ _,fun f hf g hg e=>?_⟩;obtain⟨k,h1,h2,_⟩:=(nT oM).1 hf;have:=(Yo oM hg).2.2.1;rw[<-e]at this;omega
theorem TW(cs:List Int)(ss:List (List Int)):∀N,(YT cs ss N).Nodup
 |0=>.nil|N+1=>by rw[YT,vI];refine⟨TW cs ss N,og _ _ _ (lR _),fun f hf g hg e=>?_⟩;obtain⟨m,k,h1,_,h2,_⟩:=oc.1 hf;obtain⟨k',h3,_,h4⟩:=(nT (lR _)).1 hg;have:=(Yo h3 h4).2.1;rw[<-e]at this;omega
def rB(cs:List Int)(p:Pl)(X:List T3):List T3:=(eC cs p).filter fun f=>X.any (Ql f)
def GH{cs:List Int}{p:Pl}{X:List T3}{f:T3}:f∈rB cs p X↔f∈eC cs p/\f∈X:=by
 unfold rB;rw[Yu,X4];constructor
 .rintro⟨h1,g,h2,h3⟩;rw[PB.1 h3];exact⟨PB.1 h3 ▸ h1,h2⟩
 rintro⟨h1,h2⟩;exact⟨h1,f,h2,PB.2 rfl⟩
def pf(cs:List Int)(p:Pl)(X:List T3):(rB cs p X).Nodup:=(TW _ _ _).sublist pw
theorem L8{fs:List T3}{n:Int}{ln k:Nat}(hk:k<ln)(a:Int)(hu:∀f∈fs,f.b=n->f.c.toNat=k->f.a=a):∀i,i<=fs.length->(mD fs n ln i).getD k 0=if(∃j,j<i/\(fs.getD j default).b=n/\(fs.getD j default).c.toNat=k) then a else 0
 |0,_=>by rw[iN (fun⟨j,h,_⟩=>absurd h (nZ _))];simp only[mD,gE,HG];split<;>rfl
 |i+1,hi=>by
  have ih:=L8 hk a hu i oM;have hl:=BJ fs n ln i;rw[mD,eY];by_cases c:(fs.getD i default).b=n
  .rw[iP c];by_cases c2:(fs.getD i default).c.toNat=k
   .rw[iP ⟨i,oM,c,c2⟩,c2,gE,Z2 oM];exact hu _ (Ug oM _) c c2
   rw[gE,UX c2,<-gE,ih];refine ite_congr (propext ⟨fun⟨j,h1,h2⟩=>⟨j,oM,h2⟩,fun⟨j,h1,h2,h3⟩=>⟨j,?_,h2,h3⟩⟩) (fun _=>rfl) (fun _=>rfl);rcases(by omega:j<i\/j=i)with h|rfl
   .exact h
   exact absurd h3 c2
  rw[iN c,ih];refine ite_congr (propext ⟨fun⟨j,h1,h2⟩=>⟨j,oM,h2⟩,fun⟨j,h1,h2,h3⟩=>⟨j,?_,h2,h3⟩⟩) (fun _=>rfl) (fun _=>rfl);rcases(by omega:j<i\/j=i)with h|rfl
  .exact h
  exact absurd h2 c
def ZP{fs:List T3}{n:Int}{ln k:Nat}(hk:k<ln){f:T3}(hf:f∈fs)(hb:f.b=n)(hc:f.c.toNat=k)(hu:∀g∈fs,g.b=n->g.c.toNat=k->g.a=f.a):(u_ fs n ln).getD k 0=f.a:=by unfold u_;rw[L8 hk f.a hu _ (lR _),iP];obtain⟨j,hj,rfl⟩:=G_ hf;exact⟨j,hj,by rw[M9 hj];exact hb,by rw[M9 hj];exact hc⟩
def Hw{fs:List T3}{n:Int}{ln k:Nat}(hk:k<ln)(hu:∀g∈fs,g.b=n->g.c.toNat=k->False):(u_ fs n ln).getD k 0=0:=by unfold u_;rw[L8 hk 0 (fun g h1 h2 h3=>(hu g h1 h2 h3).elim) _ (lR _)];split<;>rfl
end Go.Proofs.YtfcgkbinohibcaaGreatDoor
namespace Go.Plant
def Wn(b:Int)(r:List Int)(f c:Int):Int:=
 if b=0 then 0
 else if r=[] then(if 0<=c/\f=1 then 1 else 0)
 else if r.getD 0 0≠0 then 0
 else if f=1 then 1
 else if f=2/\1<r.length/\r.getD 1 0=0 then 2 else 0
def FW:List Int->List Int->Int->List Int
 |[],_,_=>[]|b::r,fs,c=>Wn b r (fs.getD 0 0) c::FW r (fs.drop 1) c
theorem nD:∀(s fs:List Int){c:Int}{op:Bool},(c<0->op=false)->aD s (FW s fs c) op=aD s fs op
 |[],_,_,_,_=>rfl|b::r,fs,c,op,h=>by
  have ih:=nD r (fs.drop 1) h;have e1:(FW (b::r) fs c).drop 1=FW r (fs.drop 1) c:=rfl;have e2:(FW (b::r) fs c).getD 0 0=Wn b r (fs.getD 0 0) c:=rfl;rw[aD,aD,e1,e2,ih];generalize fs.getD 0 0=f;generalize aD r (fs.drop 1) op=A;unfold Wn;by_cases hb:b=0
  .rw[iP hb,iP hb]
  rw[iN hb,iN hb,iN hb];by_cases hr:r=[]
  .rw[iP hr,iP hr,iP hr];cases op with
   |false=>simp|true=>
    have hc:0<=c:=by
     rcases Int.lt_or_le c 0 with h1|h1
     .exact absurd (h h1) sM
     exact h1
    by_cases hf:f=1
    .rw[iP (show 0<=c/\f=1 from⟨hc,hf⟩)];simp[hf]
    rw[iN (show ¬(0<=c/\f=1) from fun h=>hf h.2)];simp[hf]
  rw[iN hr,iN hr,iN hr];by_cases h0:r.getD 0 0=0
  .rw[iN (show ¬r.getD 0 0≠0 from fun h=>h h0)];by_cases hf:f=1
   .rw[iP hf,iP (.inl rfl),iP (.inl hf)]
   rw[iN hf,iN (show ¬(f=1\/r.getD 0 0≠0) from fun h=>h.elim hf fun h=>h h0)];by_cases h2:f=2/\1<r.length/\r.getD 1 0=0
   .rw[iP h2];obtain⟨h3,h4⟩:=h2;rw[iN (show ¬((2:Int)=1\/r.getD 0 0≠0) from fun h=>h.elim dM fun h=>h h0),iP ⟨rfl,h4⟩,iP ⟨h3,h4⟩]
   rw[iN h2,iN (show ¬((0:Int)=1\/r.getD 0 0≠0) from fun h=>h.elim dM fun h=>h h0),iN (show ¬((0:Int)=2/\1<r.length/\r.getD 1 0=0) from fun h=>absurd h.1 dM),iN h2]
  rw[iP (show r.getD 0 0≠0 from h0),iP (.inr h0),iP (.inr h0)]
theorem Zq:∀(s fs:List Int)(c:Int),(FW s fs c).length=s.length
 |[],_,_=>rfl|b::r,fs,c=>by rw[FW,dO,dO,Zq r]
theorem Ho:∀(s fs:List Int)(c:Int)(k:Nat),k<s.length->(FW s fs c).getD k 0=Wn (s.getD k 0) (s.drop (k+1)) (fs.getD k 0) c
 |[],_,_,_,h=>absurd h (nZ _)|b::r,fs,c,0,_=>rfl|b::r,fs,c,k+1,h=>by
  have:=Ho r (fs.drop 1) c k A6;rw[FW,VG,this,VG,dR];have e:(fs.drop 1).getD k 0=fs.getD (k+1) 0:=by simp[gE,TQ]
  rw[e]
end Go.Plant
namespace Go.Proofs.YtfcgkbinohibcaaGreatDoor
open Go Go.Sym Go.Proofs.Tryz
open Go.Plant Go.Inf
section
variable{A n:Nat}{y:Ly}{L:List Int}{p:Pl}{cs:List Int}{X:List T3}
def cO.MK(h:cO y.U X){f g:T3}(hf:f∈X)(hg:g∈X)(hb:f.b=g.b)(hc:f.c=g.c):f=g:=by
 obtain⟨i,hi,rfl⟩:=G_ hf;obtain⟨j,hj,rfl⟩:=G_ hg;rcases Nat.lt_trichotomy i j with h1|h1|h1
 .exact absurd ⟨hb.symm,hc.symm⟩ ((JQ.1 h.Ct) i j hi hj h1)
 .subst h1;rfl
 exact absurd ⟨hb,hc⟩ ((JQ.1 h.Ct) j i hj hi h1)
def Mn:(rB cs p X).length<=X.length:=by
 have h:∀{l m:List T3},l.Nodup->(∀a∈l,a∈m)->l.length<=m.length:=fun {l m} hn hs=>by
  have:=kO (l:=l.map fun f=>(f.a,f.b,f.c)) (m:=m.map fun f=>(f.a,f.b,f.c)) (yp.2 (hn.imp fun {a b} K7 e=>K7 (by
   obtain⟨a1,a2,a3⟩:=a;obtain⟨b1,b2,b3⟩:=b;simp only[jH]at e;obtain⟨rfl,rfl,rfl⟩:=e;rfl))) fun x hx=>by obtain⟨f,hf,rfl⟩:=A2.1 hx;exact A2.2 ⟨f,hs f hf,rfl⟩
  simpa using this
 exact h (pf _ _ _) fun a ha=>(GH.1 ha).2
def WI(h:cO y.U X)(hl:X.length<=2):AH (eC cs p) (rB cs p X):=by refine⟨fun f hf=>(GH.1 hf).1,(pf cs p X).imp_of_mem fun {f g} hf hg SO he=>?_,by have:=Mn (cs:=cs) (p:=p) (X:=X);omega⟩;unfold KY at he;rw[jH]at he;exact SO (h.MK (GH.1 hf).2 (GH.1 hg).2 he.1 he.2)
def ak0{s:List Int}{k m:Nat}(hk:k<s.length){a:Int}(ha:a=1\/a=2):Wn (s.getD k 0) (s.drop (k+1)) a (cs.getD m 0)=if(Js cs m s k).any (Ql ⟨a,m,k⟩)=true then a else 0:=by
 have e0:(s.drop (k+1)).getD 0 0=s.getD (k+1) 0:=by simp[gE]
 have e1:(s.drop (k+1)).getD 1 0=s.getD (k+2) 0:=by simp[gE]
 have el:(s.drop (k+1)).length=s.length-(k+1):=DT;have q1:Ql ⟨a,m,k⟩ ⟨1,m,k⟩=decide (a=1):=by simp[Ql]
 have q2:Ql ⟨a,m,k⟩ ⟨2,m,k⟩=decide (a=2):=by simp[Ql]
 unfold Wn Js;rw[e0,e1,el];by_cases h0:s.getD k 0=0
 .rw[iP h0,iP h0];rfl
 rw[iN h0,iN h0];by_cases h1:k+1=s.length
 .rw[iP h1,iP (by rw[h1,wz])];by_cases h2:cs.getD m 0<0
  .rw[iP h2,iN (fun h=>oM)];rfl
  rw[iN h2,FD,List.any_nil,sV,q1];rcases ha with rfl|rfl
  .rw[iP ⟨oM,rfl⟩];rfl
  rw[iN (fun h=>by cases h.2)];rfl
 rw[iN h1,iN (fun h=>by rw[List.drop_eq_nil_iff]at h;omega)];by_cases h2:s.getD (k+1) 0≠0
 .rw[iP h2,iP h2];rfl
 rw[iN h2,iN h2,FD,q1];rcases ha with rfl|rfl
 .rw[iP rfl];rfl
 rw[iN dM];by_cases h3:k+2<s.length
 .rw[iP h3];by_cases h4:s.getD (k+2) 0=0
  .rw[iP h4,iP ⟨rfl,oM,h4⟩,FD,q2];rfl
  rw[iN h4,iN (fun h=>h4 h.2.2)];rfl
 rw[iN h3,iN (fun h=>oM)];rfl
def ais(hi:Y9 y p L)(hX:cO y.U X){m:Nat}(hm:m<y.U.length):u_ (rB cs p X) m (y.U.getD m default).ln.toNat=FW (p.Q.getD m []) (u_ X m (y.U.getD m default).ln.toNat) (cs.getD m 0):=by
 have hr:=hi.fp.row m hm;have jJ:=hi.fp.sl;have l1:=Ot (rB cs p X) m (y.U.getD m default).ln.toNat;have l2:=Zq (p.Q.getD m []) (u_ X m (y.U.getD m default).ln.toNat) (cs.getD m 0);refine i7 oM fun k h1 h2=>?_;rw[<-M9 h1 (d:=0),<-M9 h2 (d:=0),Ho _ _ _ _ oM];have hk:k<(y.U.getD m default).ln.toNat:=oM;by_cases c:∃f∈X,f.b=(m:Int)/\f.c.toNat=k
 .obtain⟨f,hf,hb,hc⟩:=c;have ho:=hX.ok f hf;have hu:∀g∈X,g.b=(m:Int)->g.c.toNat=k->g=f:=fun g hg h3 h4=>hX.MK hg hf (h3.trans hb.symm) (by have:=hX.ok g hg;omega);have KO:f=⟨f.a,m,k⟩:=by obtain⟨a,b,c⟩:=f;simp only at hb hc ho ⊢;rw[hb,show c=(k:Int) by omega]
  rw[ZP hk hf hb hc (fun g hg h3 h4=>by rw[hu g hg h3 h4]),ak0 oM ho.1];have UG:(Js cs m (p.Q.getD m []) k).any (Ql ⟨f.a,m,k⟩)=true↔f∈eC cs p:=by rw[X4];have:=Wk (cs:=cs) (p:=p) (a:=f.a) (m:=m) (k:=k) oM oM;rw[<-KO]at this ⊢;rw[this];exact⟨fun⟨g,h3,h4⟩=>by rw[PB.1 h4];exact h3,fun h3=>⟨f,h3,PB.2 rfl⟩⟩
  by_cases c2:f∈eC cs p
  .rw[iP (UG.2 c2)];exact ZP hk (GH.2 ⟨c2,hf⟩) hb hc (fun g hg h3 h4=>by rw[hu g (GH.1 hg).2 h3 h4])
  rw[iN (fun h=>c2 (UG.1 h))];exact Hw hk fun g hg h3 h4=>c2 (by rw[<-hu g (GH.1 hg).2 h3 h4];exact(GH.1 hg).1)
 rw[Hw hk (fun g hg h3 h4=>c ⟨g,(GH.1 hg).2,h3,h4⟩),Hw hk (fun g hg h3 h4=>c ⟨g,hg,h3,h4⟩)];unfold Wn;split
 .rfl
 split
 .rw[iN (fun h=>oM)]
 split
 .rfl
 rw[iN dM,iN (fun h=>oM)]
end
open Go.Plant Go.Inf
section
variable{A n:Nat}{y:Ly}{L:List Int}{p:Pl}{cs:List Int}{X:List T3}
def aoS(hx:Sx A n y p cs X)(hi:Y9 y p L)(hX:cO y.U X):WN y p cs (rB cs p X)=WN y p cs X:=by
 have dW:=hx.vq.len;refine i7 (by simp[WN,N0]) fun m h1 h2=>?_;have hm:m<y.U.length:=by simp[WN,N0]at h1;exact h1
 rw[<-M9 h1 (d:=0),<-M9 h2 (d:=0)];unfold WN;rw[EG hm,EG hm];unfold xV;by_cases c7:(y.U.getD m default).kd=7
 .rw[iP c7,iP c7]
 rw[iN c7,iN c7];by_cases cst:c9 (y.U.getD m default).kd=false
 .rw[iP cst,iP cst]
 rw[iN cst,iN cst];by_cases c0:(p.Q.getD m []).getD ((y.U.getD m default).ln.toNat-1) 0=0
 .rw[iP (.inl c0),iP (.inl c0)]
 have VV:=hi.fp.st m hm (by simpa using cst);have gk:=hi.fp.row m hm;obtain⟨k,hk⟩:∃k:Nat,(y.U.getD m default).ln=(k:Int)+1:=⟨((y.U.getD m default).ln-1).toNat,oM⟩;have P':(y.U.getD m default).ln-1=(k:Int):=oM;have BF:(y.U.getD m default).ln.toNat-1=k:=oM;rw[P'];rw[BF]at c0;have BM:(⟨1,m,k⟩:T3)∈rB cs p X↔(⟨1,m,k⟩:T3)∈X/\¬cs.getD m 0<0:=by
  rw[GH,Wk (by have:=hi.fp.sl;omega) oM,And.comm];refine qU fun _=>?_;unfold Js;rw[iN c0,iP oM];by_cases c:cs.getD m 0<0
  .rw[iP c];exact⟨fun h=>C3,fun h=>absurd c h⟩
  rw[iN c];exact⟨fun _=>c,fun _=>iT.2 rfl⟩
 have ha:∀Z:List T3,Z.any (fun z=>Ql ⟨1,m,k⟩ z)=true↔(⟨1,m,k⟩:T3)∈Z:=fun Z=>by rw[X4];exact⟨fun⟨g,h3,h4⟩=>by rw[PB.1 h4];exact h3,fun h=>⟨_,h,PB.2 rfl⟩⟩
 have Y4:=hx.cmd m oM;have z6:cs.getD m 0<0->cs.getD m 0=-1:=fun h=>by
  unfold jo at Y4;rw[iN c7,iN cst]at Y4;by_cases c:cs.getD m 0=-1
  .exact c
  rw[iN c,TF,Vd]at Y4;omega
 rw[BF];by_cases c1:(⟨1,m,k⟩:T3)∈X
 .rw[iP (c:=_\/X.any _=true) (.inr ((ha X).2 c1))];by_cases c2:cs.getD m 0<0
  .rw[iN (fun h=>h.elim c0 fun h=>(BM.1 ((ha _).1 h)).2 c2)];exact z6 c2
  rw[iP (.inr ((ha _).2 (BM.2 ⟨c1,c2⟩)))]
 rw[iN (c:=_\/X.any _=true) (fun h=>h.elim c0 fun h=>c1 ((ha X).1 h)),iN (fun h=>h.elim c0 fun h=>c1 (BM.1 ((ha _).1 h)).1)]
def Bt(hx:Sx A n y p cs X)(hi:Y9 y p L)(hX:cO y.U X){m:Nat}(hm:m<y.U.length)(hs:c9 (y.U.getD m default).kd=true):
  aD (p.Q.getD m []) (u_ (rB cs p X) m (y.U.getD m default).ln.toNat) (decide (0<=(J4 y p cs X).getD m 0))=aD (p.Q.getD m []) (u_ X m (y.U.getD m default).ln.toNat) (decide (0<=(J4 y p cs X).getD m 0)):=by
 have dW:=hx.vq.len;rw[ais hi hX hm];refine nD _ _ fun hc=>dF fun h0=>?_;obtain⟨h1,_⟩:=Mh hx oM h0;obtain⟨_,h2⟩:=wR hx oM h1;rcases h2 with ⟨h3,_⟩|⟨_,h3,_⟩
 .rw[c9,h3]at hs;simp at hs
 omega
theorem bo(hx:Sx A n y p cs X)(hi:Y9 y p L)(hX:cO y.U X):∀i,i<=y.U.length->bv y.U p cs (rB cs p X) (J4 y p cs X) i=bv y.U p cs X (J4 y p cs X) i
 |0,_=>rfl|i+1,hle=>by
  have hb:YE y.U p cs (rB cs p X) (J4 y p cs X) i=YE y.U p cs X (J4 y p cs X) i:=by
   unfold YE;by_cases c:c9 (y.U.getD i default).kd=true
   .rw[iP c,iP c,Bt hx hi hX oM c]
   rw[iN c,iN c]
  rw[bv,bv,bo hx hi hX i oM,hb];by_cases c:c9 (y.U.getD i default).kd=true
  .rw[Bt hx hi hX oM c]
  simp only[iN c]
def wU(hx:Sx A n y p cs X)(hi:Y9 y p L)(hX:cO y.U X):ja y p cs (rB cs p X)=ja y p cs X:=by
 have e1:J4 y p cs (rB cs p X)=J4 y p cs X:=by unfold J4;rw[aoS hx hi hX]
 have e2:∀fs,ja y p cs fs=XG y.U p cs fs (J4 y p cs fs):=fun _=>rfl;rw[e2,e2,e1];unfold XG;rw[bo hx hi hX _ (lR _)]
end
open Go.Plant Go.Inf
def kw{v:Vw}{k:Int}{m:Nat}(hk:3<=k/\k<=6)(hm:Sw v k=true)(hw:(m:Int)<=Ez k):yd v k m∈dI v 4:=by
 obtain⟨j,hj,rfl⟩:∃j:Nat,j<4/\k=3+(j:Int):=⟨(k-3).toNat,oM,oM⟩;have hc:m<CI v (3+j):=by unfold CI;rw[iP hm];omega
 obtain⟨h1,h2⟩:=nJ v hj hc;rw[<-h2];exact Ug h1 _
section
variable{y:Ly}{q:Pl}{pl fs:List T3}{Na:Int}
def ai4(hg:LQ y q fs){d:Nat}(qn:qt y d=1\/qt y d=2){f:T3}(hf:f∈fs)(hb:f.b=d)(aK:Od y q d≠0->(YR pl (Od y q d)).length=10):(zc (zY y q pl d) (SL (ME y q pl d) f)).2=true:=by
 obtain⟨h1,h2,h3,h4⟩:=hg.ok f hf;unfold Zb at h4;rw[hb,Mv]at h4;have hr:=ot y q pl d;unfold zc;split
 .rfl
 rw[iP];unfold SL;by_cases c3:f.a=3
 .rw[iP c3]at h4 ⊢;have:=kw (v:=zY y q pl d) (k:=3) (m:=0) oM (by unfold Sw;rw[iP rfl];exact h4) dM;unfold yd at this;rw[iP rfl]at this;exact this
 rw[iN c3]at h4 ⊢;by_cases c4:f.a=4
 .rw[iP c4]at h4 ⊢;rw[TF,Oc,Oc,mV,mV]at h4;have:=kw (v:=zY y q pl d) (k:=4) (m:=0) oM (by
   unfold Sw;rw[iN dM,iP rfl];unfold zY;simp only;rw[dT (show qt y d=1 by omega),dT (show Od y q d=0 by omega)];rfl) dM
  unfold yd at this;rw[iN dM,iP rfl,hr]at this;exact this
 rw[iN c4]at h4 ⊢;rw[TF,Vd,Vd]at h4;have h56:f.a=5\/f.a=6:=oM;unfold SK at h3;rw[iP h56,TF,Vd,Vd]at h3;have hlen:=aK h4.1;have MC:(ME y q pl d).rd=(zY y q pl d).tx:=by unfold ME zY;simp only;rw[iP h4]
 have:=kw (v:=zY y q pl d) (k:=f.a) (m:=f.c.toNat) oM (by
  unfold Sw;rw[iN c3,iN c4];unfold zY;simp only;rw[dT h4.1,dT h4.2,dT (show YR pl (Od y q d)≠[] from fun e=>by rw[e]at hlen;cases hlen)];rfl) (by unfold Ez;rw[iP h56];omega)
 unfold yd at this;rw[iN c3,iN c4,hr]at this;rw[MC];exact this
end
open Go.Plant Go.Inf
structure CB(Na:Int)(y:Ly)(L:List Int)(hs:List iM)(p:Pl)(u:Int):Prop where
 pi:Y9 y p L
 all:∀h∈hs,Y9 y h.2 L
 us:∀h∈hs,0<=h.1/\h.1<=Na
 Wh:hs.Pairwise fun a b=>W9 (qN a.2) (qN b.2)=true
 mem:∃v,v<=u/\(v,p)∈hs
 len:hs.length<=40
def Jw(y:Ly)(Na:Int)(pl:List T3)(c:List Int)(rs:List Uq)(hs:List iM):List iM:=zz (fun r X=>(ja y r c X).1) (fun r=>Gf y r pl Na rs) Na c hs
section
variable{A n:Nat}{y:Ly}{L:List Int}{p:Pl}{Na u:Int}{hs:List iM}{c:List Int}
def CB.tick(hg:Gj A n y)(hL:mK L)(hb:0<=Na/\Na<=2)(h:CB Na y L hs p u)(hc:c.length=n)(hk:∀i,i<n->jo (y.U.getD i default) (c.getD i 0)=true)(pl:List T3){X:List T3}(hX:cO y.U X)(pE:X.length<=2){rs:List Uq}{w:Int}(hw:(Gf y (ja y p c X).1 pl Na rs).2=true/\(Gf y (ja y p c X).1 pl Na rs).1<=w)(Rn:u+X.length+w<=Na)(hl:(Jw y Na pl c rs hs).length<=40):
  Jw y Na pl c rs hs≠[]/\CB Na y L (Ss (Jw y Na pl c rs hs)) (ja y p c X).1 (u+X.length+w):=by
 obtain⟨q,hq⟩:∃q,q=(ja y p c X).1:=⟨_,rfl⟩;have TB:=hg.g.sx h.pi hc hk hX oM;have Hl:Y9 y q L:=by rw[hq];exact Rg TB h.pi hL
 obtain⟨Z,hZ⟩:∃Z,Z=CN (fun r X=>(ja y r c X).1) (fun r=>Gf y r pl Na rs) Na c hs:=⟨_,rfl⟩;have P6:Jw y Na pl c rs hs=Z.foldl (L0 40) []:=by rw[hZ];exact Hs _ _ _ _ _
 have hZm:∀x∈Z,Y9 y x.2 L/\0<=x.1/\x.1<=Na:=fun x hx=>by rw[hZ]at hx;obtain⟨g,wO,S,hS,h2,h3,h4⟩:=FC (fun g hg=>by have:=h.us g hg;omega) hx;have ZH:=h.all g wO;have hu:=h.us g wO;have O5:=ag y (ja y g.2 c S).1 pl Na hb.1 rs;rw[h3];refine⟨Rg (hg.AN ZH hc hk hS) ZH hL,?_,h4⟩;show 0<=g.1+(S.length:Int)+(Gf y (ja y g.2 c S).1 pl Na rs).1;omega
 obtain⟨v,hv,hvm⟩:=h.mem;have Wy:=h.us _ hvm;have kF:=Mn (cs:=c) (p:=p) (X:=X);have jG:=WI (cs:=c) (p:=p) hX pE;have kT:ja y p c (rB c p X)=ja y p c X:=wU TB h.pi hX;have Dw:(v+(rB c p X).length+(Gf y q pl Na rs).1,q)∈Z:=by
  rw[hZ];refine CJ.2 ⟨(v,p),hvm,?_⟩;refine CD.2 ⟨rB c p X,?_,(Gf y q pl Na rs).1,?_,?_,?_⟩
  .have:=(DU (MK:=KY) (k:=(Na-v).toNat) (others:=eC c p) (X:=rB c p X)).2 ⟨pw,?_,jG.2.1⟩
   .exact this
   rw[<-hq]at hw;have:=ag y q pl Na hb.1 rs;simp only at Wy;omega
  .unfold k_;simp only[kT,<-hq];rw[<-hq]at hw;rw[iP hw.1]
  .rw[<-hq]at hw;simp only;omega
  simp only[kT,<-hq]
 have dD:=vM.foldl (Y:=Z) (vM.nil (P:=Pl) 40);rw[fj,<-P6]at dD;have hI:y9 Z (Jw y Na pl c rs hs):=by
  rcases dD.2 with ⟨_,h1⟩|⟨h1,_⟩
  .exact h1
  omega
 obtain⟨g,CQ,LU⟩:=hI.all _ Dw;have wO:=hI.least g CQ _ Dw LU.symm;have AS:∀x∈Jw y Na pl c rs hs,Y9 y x.2 L:=fun x hx=>(hZm x (hI.mem x hx)).1;rw[<-hq]at hw ⊢;refine⟨fun e=>(by rw[e]at CQ;cases CQ),Hl,fun x hx=>AS x ((xD _).mem_iff.1 hx),fun x hx=>(hZm x (hI.mem x ((xD _).mem_iff.1 hx))).2,zP hI.one fun a ha b hb e=>Ys hg hL (AS a ha) (AS b hb) e,⟨g.1,?_,?_⟩,?_⟩
 .simp only at wO;omega
 .rw[(xD _).mem_iff];have:(g.1,q)=g:=Prod.ext rfl LU.symm;rw[this];exact CQ
 rw[(xD _).length_eq];exact hl
end
open Go.Plant Go.Inf
section
variable{A n:Nat}{y:Ly}{L:List Int}{p:Pl}{Na u:Int}{hs:List iM}{node bag:Int}
def CB.enter(hg:Gj A n y)(hL:mK (bag::L))(h:CB Na y L hs p u)(he:(pL y p node bag).2=0):
  wL (pn y node bag) hs≠[]/\CB Na y (bag::L) (Ss (wL (pn y node bag) hs)) (pL y p node bag).1 u:=by
 obtain⟨q,hq⟩:∃q,q=(pL y p node bag).1:=⟨_,rfl⟩;rw[<-hq];have Hl:Y9 y q (bag::L):=by rw[hq];exact h.pi.enter he
 obtain⟨X,hX⟩:∃X,X=Vg y node bag hs:=⟨_,rfl⟩;have P6:wL (pn y node bag) hs=X.foldl Inf.Bb []:=by rw[hX];exact pY _ _ _ _ _
 have vg:∀x∈X,Y9 y x.2 (bag::L)/\0<=x.1/\x.1<=Na:=fun x hx=>by
  rw[hX]at hx;obtain⟨g,wO,hx⟩:=Zz.1 hx;split at hx
  .rename_i c;cases hx
   have c:(pL y g.2 node bag).2=0:=oT c;exact⟨(h.all g wO).enter c,h.us g wO⟩
  cases hx
 have pE:X.length<=40:=by rw[hX];exact Jz (mo _ _) h.len
 have MW:(pn y node bag p).2=true:=dT he;obtain⟨v,hv,hvm⟩:=h.mem;have JJ:(v,q)∈X:=by rw[hX];refine Zz.2 ⟨(v,p),hvm,?_⟩;simp only;rw[iP MW,hq];rfl
 have yK:=Yk X [];have hI:=SD (Y:=X) (y9.nil (P:=Pl));rw[fj,<-P6]at hI;rw[<-P6,N9,cy]at yK;obtain⟨g,CQ,LU⟩:=hI.all _ JJ;have wO:=hI.least g CQ _ JJ LU.symm;have AS:∀x∈wL (pn y node bag) hs,Y9 y x.2 (bag::L):=fun x hx=>(vg x (hI.mem x hx)).1;refine⟨fun e=>(by rw[e]at CQ;cases CQ),Hl,fun x hx=>AS x ((xD _).mem_iff.1 hx),fun x hx=>(vg x (hI.mem x ((xD _).mem_iff.1 hx))).2,zP hI.one fun a ha b hb e=>Ys hg hL (AS a ha) (AS b hb) e,⟨g.1,?_,?_⟩,?_⟩
 .simp only at wO;omega
 .rw[(xD _).mem_iff];have:(g.1,q)=g:=Prod.ext rfl LU.symm;rw[this];exact CQ
 rw[(xD _).length_eq];omega
def CB.new(hg:Gj A n y)(hb:0<=Na):CB Na y [] [(0,MH y)] (MH y) 0:=by
 have h:=LG hg;refine⟨h,fun x hx=>?_,fun x hx=>?_,zx _ _,⟨0,MB _,iT.2 rfl⟩,sM⟩
 .rw[iT.1 hx];exact h
 rw[iT.1 hx];exact⟨MB _,hb⟩
end
open Go.Plant Go.Inf
structure St where
 a:Nat
 hs:List iM
 p:Pl
 L:List Int
section
variable(l:List Int)(y:Ly)(Na:Int)(pl:List T3)
def tP(s:St):St:=⟨(gC l s.a y.U).2,Ss (DI y Na pl (gC l s.a y.U).1 (ja y s.p (gC l s.a y.U).1 []).1 s.hs),(ja y s.p (gC l s.a y.U).1 []).1,s.L⟩
def EM(i:Int)(s:St):St:=if(pL y s.p 0 i).2=0 then⟨s.a,Ss (wL (pn y 0 i) s.hs),(pL y s.p 0 i).1,i::s.L⟩ else s
def s0(a:Nat):St:=⟨a,[(0,MH y)],MH y,[]⟩
end
section
variable{l:List Int}{y:Ly}{Na bd2:Int}{pl:List T3}
variable{A n:Nat}
end
def HP(y:Ly)(bd:Int)(hs:UQ y)(hv:NP y=0)(hn:0<y.U.length)(hb:0<=bd/\bd<=2):
  UB prog J9 24 [] [y.av,I bd] [] (.F1 [(UZ.mk bd [⟨0,(MH y).Q,(MH y).R⟩]).av,I 0]):=by
 have h1:=nN y hs fun _=>hn;rw[hv]at h1;generalize MH y=q at*;have d0:=Vj (bd<0);have d2:=Vj (2<bd);refine MD func24 ntmps24 ?_;intro w e X hC;refine BL ?_;refine Yi h1 ?_;refine uZ ?_;refine uF ?_;refine zF (uI @d0 @d2) ?_;refine A_ ?_;rw[show Tryz.f24.results.toList=[.cell 4 33,.tmp 5] from rfl];first|refine jW ?_|exact W5
 rfl
open Go.Plant
def strs(l:List ByteArray):List AV:=l.map S
theorem Q8(l:List ByteArray):(strs l).length=l.length:=by simp[strs]
def Un{l:List ByteArray}{i:Nat}(h:i<l.length):(strs l).getD i .bad=S (l.getD i .empty):=by simp[strs,h]
theorem QO(l:List ByteArray):PE (strs l)=True:=by refine Ie fun e he c hc=>?_;simp only[strs,A2]at he;obtain⟨x,_,rfl⟩:=he;simp only[AV.cells,iT]at hc;subst hc;trivial
theorem Tp{l:List ByteArray}:(∀y∈strs l,y.cells.length=1)=True:=by refine Ie fun e he=>?_;simp only[strs,A2]at he;obtain⟨x,_,rfl⟩:=he;rfl
theorem S3{l:List ByteArray}{b:ByteArray}:strs l++[.lit (.string b)]=strs (l++[b]):=by simp[strs]
def HJ{l:List ByteArray}{i:Nat}:(strs l).take i=strs (l.take i):=by simp[strs]
attribute [go_sem] Q8 QO Tp S3
def HC(b:Nat)(c:UInt8)(o:List ByteArray×ByteArray):List ByteArray×ByteArray:=if c.toNat=b then(o.1++[o.2],.empty) else(o.1,o.2++strOf [c])
def tR(s:ByteArray)(b:Nat):Nat->List ByteArray×ByteArray
 |0=>([],.empty)|k+1=>HC b (s.data.toList.getD k 0) (tR s b k)
def cr(s:ByteArray)(b:Nat):List ByteArray:=(tR s b s.data.toList.length).1++[(tR s b s.data.toList.length).2]
theorem CG(s:ByteArray)(b:Nat):∀k,(tR s b k).2.size<=k/\(tR s b k).1.length<=k
 |0=>by simp[tR]|k+1=>by
  obtain⟨h1,h2⟩:=CG s b k;have h3:∀c:UInt8,(strOf [c]).size=1:=fun _=>rfl;rw[tR];generalize s.data.toList.getD k 0=c;generalize tR s b k=o at*;unfold HC;split
  .refine⟨zL _,?_⟩;simp only[aL,WC];omega
  refine⟨?_,uO⟩;show(o.2++strOf [c]).size<=_;rw[ByteArray.size_append,h3];omega
def atr{l:List UInt8}{i:Nat}(h:i<l.length):(l.take (i+1)).drop i=[l.getD i 0]:=by rw[R9 (d:=0) h,List.drop_append];simp[Hh,Q5 (um h)]
def aay(s:ByteArray)(b:Nat)(hs:s.data.toList.length<=5000):UB prog J9 124 [] [S s,U8 b] [] (.sl (strs (cr s b)) false):=by
 have xB:s.size=s.data.toList.length:=by rw[<-Q6,NU]
 refine MD func124 ntmps124 ?_;intro w e X hC;refine EP ?_;refine PV (fun q:Nat×Az=>⟨[(0,S s),(1,U8 b),(5,.l 105 q.2.2 0 (tR s b q.2.1).1.length),(6,S (tR s b q.2.1).2),(7,I q.2.1)],(105,some (q.2.2,.own 9 1 (strs (tR s b q.2.1).1)))::[],q.1⟩) (fun q=>q.2.1<=s.data.toList.length) (fun q=>s.data.toList.length-q.2.1) (_,0,_) (zL _) (.of (lR _) (by repeat first|exact Zf.nil|refine He ?_|(refine Zf.cons ?_ ?_;(focus (simp only[go_sem,tR];done)))) (by repeat first|exact O6.nil|refine yB ?_|(refine O6.cons ?_ ?_;(focus (simp only[go_sem,tR];done))))) ?_;rintro⟨ck,k,g⟩ hk;simp only at hk;obtain⟨Lm,L3⟩:=CG s b k;have e1:tR s b (k+1)=HC b (s.data.toList.getD k 0) (tR s b k):=rfl;have e2:k=s.data.toList.length->cr s b=(tR s b k).1++[(tR s b k).2]:=fun h=>by rw[h];rfl
 generalize tR s b k=o at*;obtain⟨o1,o2⟩:=o;simp only at Lm L3 e2;refine Bj @xB ?_;refine Wc ?_ ?_<;>intro h
 .have PP:k<s.data.toList.length:=oM;have aZ:=atr PP;have Wx:(strOf [s.data.toList.getD k 0]).size=1:=rfl;generalize hc:s.data.toList.getD k 0=c at*;unfold HC at e1;simp only at e1;refine Bj @hc ?_;refine Wc ?_ ?_<;>intro c1
  .rw[iP oM]at e1;refine uZ ?_;refine jq ?_;exact nX (_,k+1,g) (wK @e1 (uI @e1 @WC.{0}))
  rw[iN oM]at e1;have Rb:((k:Int)+1).toNat=k+1:=oM;refine aH (uI @Rb (uI @aZ @Wx)) ?_;exact nX (_,k+1,g) (wK @e1 @e1)
 refine El ?_;have e3:=e2 oM;refine uZ ?_;rw[e3];refine A_ ?_;rw[show f124.results.toList=[.tmp 4] from rfl];exact kv @WC.{0}
open Go.Plant
def v8(s:ByteArray)(hs:(bs s).length<=5000):UB prog J9 219 [] [S s] [] (B ((bs s).all gU)):=by
 have OT:=NU s;have wC:=Q6 s;refine MD func219 ntmps219 ?_;intro w e X hC;refine EP ?_;refine R7 ((bs s).length) (fun i:Az=>⟨[(0,S s),(3,I i.2)],[],i.1⟩) (fun i=>∀j,j<i.2->gU ((bs s).getD j 0)=true) (fun j hj=>absurd hj (nZ _)) (ch) ?_;intro ck i hi hj;simp only at hj;repeat ((repeat first|refine GA ?_|refine md ?_|refine lK ?_);refine ZZ hC rfl fun K hK=>?_;simp only[go_sem,<-wC];(repeat ((with_reducible refine And.intro ?_ ?_);focus (((repeat' apply And.intro)<;>first|omega|(simp;done)|kernel_rfl))));refine hK _ ?_;clear hK K)
 refine Wc ?_ ?_<;>intro h
 .have PP:i<(bs s).length:=oM;have hg:=DC s i;have Ak:gU ((bs s).getD i 0)=false->(bs s).all gU=false:=fun h=>by rw[HB];exact⟨_,ka (d:=0) PP,by rw[h];decide⟩
  have Wt:gU ((bs s).getD i 0)=true->∀j,j<i+1->gU ((bs s).getD j 0)=true:=fun h j tw=>by
   by_cases ZJ:j=i
   .subst ZJ;exact h
   exact hj j oM
  generalize (bs s).getD i 0=c at*;cases d1:decide ((c:Int)<48)with
  |true=>
   have g1:=oT d1;rw[Ak (by unfold gU;rw[dF oM];rfl)];(repeat first|refine GA ?_|refine md ?_|refine lK ?_);refine ZZ hC rfl fun K hK=>?_;simp only[go_sem,hg,<-OT,d1]
   refine uH ?_;refine hK _ ?_;clear hK K;exact Ed
  |false=>
   have g1:=oF d1;cases d2:decide (57<(c:Int))with
   |true=>
    have g2:=oT d2;rw[Ak (by unfold gU;rw[dF (show ¬(c:Int)<=57 by omega),Yx])];(repeat first|refine GA ?_|refine md ?_|refine lK ?_);refine ZZ hC rfl fun K hK=>?_;simp only[go_sem,hg,<-OT,d1,d2]
    refine uH ?_;refine hK _ ?_;clear hK K;exact Ed
   |false=>
    have g2:=oF d2;(repeat first|refine GA ?_|refine md ?_|refine lK ?_);refine ZZ hC rfl fun K hK=>?_;simp only[go_sem,hg,<-OT,d1,d2]
    refine uH ?_;refine hK _ ?_;clear hK K;refine UN ?_;refine⟨(_,i+1),⟨uO,Wt (by unfold gU;rw[dT (show(48:Int)<=c by omega),dT (show(c:Int)<=57 by omega)];rfl)⟩,uO,ch⟩
 refine El ?_;have:(bs s).all gU=true:=by rw[FR];intro x hx;obtain⟨j,pO,rfl⟩:=G_ hx;have:=hj j oM;simpa[pO] using this
 rw[this];exact Et
def nS(s:ByteArray):Nat->Int
 |0=>0|k+1=>nS s k*10+(((bs s).getD k 0:Nat)-48)
theorem zR{s:ByteArray}(h:∀j,j<(bs s).length->gU ((bs s).getD j 0)=true):∀k,k<=(bs s).length->0<=nS s k/\nS s k<10^k
 |0,_=>by simp[nS]|k+1,hk=>by obtain⟨h1,h2⟩:=zR h k oM;have:=h k oM;simp only[gU,TF,Vd]at this;rw[nS,Int.pow_succ];omega
def uU(s:ByteArray)(hs:(bs s).length<=3)(hd:∀j,j<(bs s).length->gU ((bs s).getD j 0)=true):UB prog J9 220 [] [S s] [] (I (nS s (bs s).length)):=by
 have OT:=NU s;have wC:=Q6 s;refine MD func220 ntmps220 ?_;intro w e X hC;refine EP ?_;refine AJ ((bs s).length) (fun i:Az=>⟨[(0,S s),(3,I (nS s i.2)),(4,I i.2)],[],i.1⟩) (.of (lR _) (by repeat first|exact Zf.nil|refine He ?_|(refine Zf.cons ?_ ?_;(focus (simp only[go_sem,nS];done)))) (by repeat first|exact O6.nil|refine yB ?_|(refine O6.cons ?_ ?_;(focus (simp only[go_sem,nS];done))))) ?_;intro ck i hi;obtain⟨v1,v2⟩:=zR hd i hi;have hp:(10:Int)^i<=10^3:=by have:i=0\/i=1\/i=2\/i=3:=oM;rcases this with rfl|rfl|rfl|rfl<;>decide
 have e1:nS s (i+1)=nS s i*10+(((bs s).getD i 0:Nat)-48):=rfl;have efin:i=(bs s).length->nS s (bs s).length=nS s i:=fun h=>by rw[h]
 generalize nS s i=v at*;iterate 1 ((repeat first|refine GA ?_|refine md ?_|refine lK ?_);refine ZZ hC rfl fun K hK=>?_;simp only[go_sem,<-wC];(repeat ((with_reducible refine And.intro ?_ ?_);focus (((repeat' apply And.intro)<;>first|omega|(simp;done)|kernel_rfl))));refine hK _ ?_;clear hK K)
 refine Wc ?_ ?_<;>intro h
 .have PP:i<(bs s).length:=oM;have hg:=DC s i;have Sl:=hd i PP;simp only[gU,TF,Vd]at Sl;generalize (bs s).getD i 0=c at*;have ahd:IntKind.u8.wrap ((c:Int)-48)=(c:Int)-48:=by simp only[IntKind.wrap,IntKind.bits,IntKind.signed,aS,C9,kM,j4];omega
  have NK:IntKind.i64.wrap ((c:Int)-48)=(c:Int)-48:=wrap_i64 ⟨oM,oM⟩;repeat ((repeat first|refine GA ?_|refine md ?_|refine lK ?_);refine ZZ hC rfl fun K hK=>?_;simp only[go_sem,hg,<-OT,ahd,NK];(repeat ((with_reducible refine And.intro ?_ ?_);focus (((repeat' apply And.intro)<;>first|omega|(simp;done)|kernel_rfl))));refine hK _ ?_;clear hK K)
  exact nX (_,i+1) (wT @e1)
 refine El ?_;have hf:=efin oM;rw[hf];exact Et
def WL(s:ByteArray):Bool:=decide (1<=(bs s).length)&&(decide ((bs s).length<=3)&&((bs s).all gU&&!(decide (1<(bs s).length)&&decide ((bs s).getD 0 0=48))))
def MF(s:ByteArray):Int:=nS s (bs s).length
def XX(s:ByteArray)(h:WL s=true):UB prog J9 174 [] [S s] [] (.F1 [I (MF s),B true]):=by
 have OT:=NU s;have wC:=Q6 s;simp only[WL,TF,Vd,Oc,KW,mV]at h;obtain⟨h1,h2,h3,h4⟩:=h;have TX:=v8 s oM;rw[h3]at TX;have hd:∀j,j<(bs s).length->gU ((bs s).getD j 0)=true:=fun j hj=>FR.1 h3 _ (ka hj);have hv:=uU s h2 hd;have hg:=DC s 0;have d1:=Vj (((bs s).length:Int)<1);have d2:=Vj (3<((bs s).length:Int));have hN:MF s=nS s (bs s).length:=rfl;rw[hN];generalize nS s (bs s).length=v at*;refine MD func174 ntmps174 ?_;intro w e X hC;refine uZ ?_;by_cases c1:1<(bs s).length
 .have d3:=oN (1<((bs s).length:Int));have d4:decide ((((bs s).getD 0 0:Nat):Int)=48)=false:=dF (by have:=h4.resolve_left (fun h=>h c1);omega);(repeat first|refine GA ?_|refine md ?_|refine lK ?_);refine ZZ hC rfl fun K hK=>?_;simp only[go_sem,<-wC,d1,d2]
  refine eh TX ?_;simp only[go_sem,<-wC,<-OT,d3,hg,d4,ic];refine uH ?_;refine hK _ ?_;clear hK K;refine uF ?_;refine yX hv ?_;refine A_ ?_;rw[show f174.results.toList=[.tmp 2,.tmp 3] from rfl];exact W5
 have d3:=Vj (1<((bs s).length:Int));(repeat first|refine GA ?_|refine md ?_|refine lK ?_);refine ZZ hC rfl fun K hK=>?_;simp only[go_sem,<-wC,d1,d2]
 refine eh TX ?_;simp only[go_sem,<-wC,d3];refine uH ?_;refine hK _ ?_;clear hK K;refine uF ?_;refine yX hv ?_;refine A_ ?_;rw[show f174.results.toList=[.tmp 2,.tmp 3] from rfl];exact W5
open Go.Plant
def Zj(kd:Int):Nat:=if c9 kd=true then 3 else 2
def qu(kd:Int):Nat:=(WW kd).toNat
def n5(kd:Int):Nat:=(if c9 kd=true then 4 else 3)+if 0<qu kd then 1+qu kd else 0
def kH(a b:ByteArray):Bool:=decide (a.data.toList=b.data.toList)
def amN:ByteArray:=⟨#[112,104,111,116,111,99,101,108,108]⟩
def aoD:ByteArray:=⟨#[115,99,97,110,110,101,114]⟩
def abQ:ByteArray:=⟨#[62]⟩
structure DB(w:List ByteArray)(kd:Int):Prop where
 kr:1<=kd/\kd<=9
 len:w.length=n5 kd
 w0:∀j,1<=j->j<=9->kH (eQ.getD j .empty) (w.getD 0 .empty)=decide ((j:Int)=kd)
 ph:kH (w.getD 0 .empty) amN=false/\kH (w.getD 0 .empty) aoD=false
 nm:H1 (w.getD 1 .empty)=true/\(bs (w.getD 1 .empty)).length<=1000
 n2:c9 kd=true->WL (w.getD 2 .empty)=true
 zn:WL (w.getD (Zj kd) .empty)=true
 ar:0<qu kd->kH (w.getD (Zj kd+1) .empty) abQ=true
 ex:∀k,k<qu kd->H1 (w.getD (Zj kd+2+k) .empty)=true/\(bs (w.getD (Zj kd+2+k) .empty)).length<=1000
structure Ln where
 nm:ByteArray
 kd:Int
 ln:Int
 zn:Int
 ex:List Int
 dk:Int
 dn:Int
 dw:Int
 names:List ByteArray
 deriving Inhabited
abbrev Ln.av(x:Ln):AV:=.agg [S x.nm,I x.kd,I x.ln,I x.zn,IS x.ex,I x.dk,I x.dn,I x.dw,.sl (strs x.names) false]
def Z0(l:List Ln):List AV:=l.map Ln.av
theorem amA(l:List Ln):(Z0 l).length=l.length:=by simp[Z0]
def is{l:List Ln}{i:Nat}(h:i<l.length):(Z0 l).getD i .bad=(l.getD i default).av:=by simp[Z0,h]
theorem aoW{l:List Ln}{nm:ByteArray}{kd:Int}{ln:Int}{zn:Int}{ex:List Int}{dk:Int}{dn:Int}{dw:Int}{names:List ByteArray}:Z0 l++[.agg [.lit (.string nm),.lit (.int .i64 kd),.lit (.int .i64 ln),.lit (.int .i64 zn),.sl (tk ex) false,.lit (.int .i64 dk),.lit (.int .i64 dn),.lit (.int .i64 dw),.sl (strs names) false]]=Z0 (l++[⟨nm,kd,ln,zn,ex,dk,dn,dw,names⟩]):=by simp[Z0]
theorem akk:Z0 []=[]:=rfl
attribute [go_sem] amA aoW
def T9(w:List ByteArray)(kd:Int):Ln:=⟨w.getD 1 .empty,kd,if c9 kd=true then MF (w.getD 2 .empty) else 0,MF (w.getD (Zj kd) .empty),[],0,0,0,(w.drop (Zj kd+2)).take (qu kd)⟩
theorem uY:Sb J9.gl 0=some [.sl (strs eQ) false]:=rfl
theorem ET:eQ.length=10:=rfl
def XF(s:ByteArray)(ws:List ByteArray)(kd:Int)(hs:s.data.toList.length<=5000)(hw:cr s 32=ws)(hr:DB ws kd):UB prog J9 125 [] [S s] [] (.F1 [(T9 ws kd).av,B true]):=by
 have NM:=aay s 32 hs;rw[hw]at NM;have xM:=rn kd;have VV:=R5 kd;have Em:WW kd=(qu kd:Int)/\qu kd<=2:=by
  have:WW kd=0\/WW kd=1\/WW kd=2:=by unfold WW;split<;>(try split)<;>simp
  unfold qu;omega
 rw[Em.1]at xM;obtain⟨⟨P',hk9⟩,hlen,Wm,yA,jh,Vc,bM,QG,hex⟩:=hr;have d_:3<=ws.length/\ws.length<=7:=by rw[hlen,n5];split<;>split<;>omega
 have PL:0<ws.length:=oM;have aX:1<ws.length:=oM;have pU:2<ws.length:=oM;refine MD func125 ntmps125 ?_;intro w e X hC;refine uA ?_;refine Gk NM ?_;refine uA ?_;refine GA ?_;refine JP (fun q:Nat=>⟨[(2,.p 102 1 0 0 0),(4,.sl (strs ws) false),(5,.p 105 6 0 0 0)],(105,some (6,.box [S .empty,I 0,I 0,I 0,.sl [] true,I 0,I 0,I 0,.sl [] true]))::(102,some (1,.box [S .empty,I 0,I 0,I 0,.sl [] true,I 0,I 0,I 0,.sl [] true]))::[],q⟩) (fun _=>True) ?_ ?_
 .refine EP ?_;refine PV (fun q:Az=>⟨[(2,.p 102 1 0 0 0),(4,.sl (strs ws) false),(5,.p 105 6 0 0 0),(6,I q.2)],(105,some (6,.box [S .empty,I 0,I 0,I 0,.sl [] true,I 0,I 0,I 0,.sl [] true]))::(102,some (1,.box [S .empty,I 0,I 0,I 0,.sl [] true,I 0,I 0,I 0,.sl [] true]))::[],q.1⟩) (fun q=>1<=q.2/\q.2<=3) (fun q=>3-q.2) (_,1) ⟨oM,oM⟩ (ch) ?_;rintro⟨ck,k⟩ ⟨hk,N1⟩;simp only at hk N1;refine GA ?_;refine JP (fun q:Nat=>⟨[(2,.p 102 1 0 0 0),(4,.sl (strs ws) false),(5,.p 105 6 0 0 0),(6,I k)],(105,some (6,.box [S .empty,I 0,I 0,I 0,.sl [] true,I 0,I 0,I 0,.sl [] true]))::(102,some (1,.box [S .empty,I 0,I 0,I 0,.sl [] true,I 0,I 0,I 0,.sl [] true]))::[],q⟩) (fun _=>k<=2/\ws.length=3) ?_ ?_
  .by_cases c1:k<=2
   .have d1:=oN ((k:Int)<=2);by_cases c2:ws.length=3
    .have d2:=oN ((ws.length:Int)=3);refine GJ (uI @d1 @d2) ?_;refine uT ?_;refine uW ?_;refine⟨_,⟨c1,c2⟩,ch⟩
    have d2:=Vj ((ws.length:Int)=3);refine QT (uI @d1 @d2) ?_;refine El ?_;refine⟨_,trivial,ch⟩
   have d1:=Vj ((k:Int)<=2);refine QT @d1 ?_;refine El ?_;refine⟨_,trivial,ch⟩
  rintro ck1 ⟨BF,Is⟩;have aka:WL (ws.getD 2 .empty)=true:=by
   have:c9 kd=false/\qu kd=0:=by
    rw[hlen,n5]at Is;cases h:c9 kd with
    |true=>rw[h,iP rfl]at Is;omega|false=>rw[h]at Is;refine⟨rfl,?_⟩;simp only[C9,j4]at Is;split at Is<;>omega
   rw[Zj,this.1]at bM;simpa using bM
  have bE:=XX _ aka;refine nF (Un pU) ?_;intro K hK;refine⟨oM,?_⟩;refine PD bE ?_;refine hK _ ?_;clear hK K;have arv:k=1\/k=2:=oM;have NN:decide ((ws.getD 0 .empty).data.toList=[112,104,111,116,111,99,101,108,108])=false:=yA.1;have CK:decide ((ws.getD 0 .empty).data.toList=[115,99,97,110,110,101,114])=false:=yA.2;rcases arv with rfl|rfl
  .refine Dp (uI (Un PL) (uI @ic @NN)) ?_;intro K hK;refine⟨oM,oM,?_⟩;refine uH ?_;refine hK _ ?_;clear hK K;refine UN ?_;refine⟨(_,2),⟨oM,oM⟩,uO,ch⟩
  refine Dp (uI (Un PL) (uI @ic @CK)) ?_;intro K hK;refine⟨oM,oM,?_⟩;refine uH ?_;refine hK _ ?_;clear hK K;refine UN ?_;refine⟨(_,3),⟨oM,oM⟩,uO,ch⟩
 rintro ck1 -;refine uA ?_;refine uW ?_;refine PV (fun q:Az=>⟨[(2,.p 102 1 0 0 0),(4,.sl (strs ws) false),(5,.p 105 6 0 0 0),(9,I q.2)],(105,some (6,.box [S .empty,I (if kd<q.2 then kd else 0),I 0,I 0,.sl [] true,I 0,I 0,I 0,.sl [] true]))::(102,some (1,.box [S .empty,I 0,I 0,I 0,.sl [] true,I 0,I 0,I 0,.sl [] true]))::[],q.1⟩) (fun q=>1<=q.2/\q.2<=10) (fun q=>10-q.2) (_,1) ⟨oM,oM⟩ (.of (lR _) (by repeat first|exact Zf.nil|refine He ?_|(refine Zf.cons ?_ ?_;(focus (simp only[go_sem,iN (show ¬kd<(1:Nat) by omega)];done)))) My) ?_;rintro⟨ck2,k⟩ ⟨hk,agn⟩;simp only at hk agn;refine C0 ?_ ?_<;>intro h
 .have DN:k<eQ.length:=by rw[ET];omega
  have pK:decide ((eQ.getD k .empty).data.toList=(ws.getD 0 .empty).data.toList)=decide ((k:Int)=kd):=Wm k hk oM;by_cases c1:(k:Int)=kd
  .have d1:decide ((k:Int)=kd)=true:=dT c1;have QJ:(if kd<((k+1:Nat):Int) then kd else 0)=kd:=iP oM;have arJ:(if kd<(k:Int)+1 then kd else 0)=kd:=iP oM;refine zj (uI @uY (uI (Un DN) (uI (Un PL) (uI @ic (uI @pK @d1))))) ?_;intro K hK;refine⟨by rw[ET];omega,oM,?_⟩;refine hK _ ?_;clear hK K;refine WM ?_;refine⟨(_,k+1),⟨uO,uO⟩,uO,wH (uI @QJ (uI @arJ @c1))⟩
  have d1:decide ((k:Int)=kd)=false:=dF c1;have QJ:(if kd<((k+1:Nat):Int) then kd else 0)=if kd<(k:Int) then kd else 0:=by
   by_cases h:kd<(k:Int)
   .rw[iP h,iP oM]
   rw[iN h,iN oM]
  refine zj (uI @uY (uI (Un DN) (uI (Un PL) (uI @ic (uI @pK @d1))))) ?_;intro K hK;refine⟨by rw[ET];omega,oM,?_⟩;refine hK _ ?_;clear hK K;refine UN ?_;refine⟨(_,k+1),⟨uO,uO⟩,uO,wH @QJ⟩
 refine El ?_;rw[iP oM];obtain rfl:k=10:=oM;obtain⟨au8,au1⟩:=Em;obtain⟨at',UY⟩:∃a,a=Zj kd:=⟨_,rfl⟩;rw[<-UY]at bM QG hex;have ZT:=hlen;unfold n5 at ZT;have jZ:T9 ws kd=_:=T9.eq_1 ws kd;rw[<-UY]at jZ;generalize T9 ws kd=rr at*;have auU:0<=(qu kd:Int):=oM;generalize qu kd=en at*;have vL:at'=if c9 kd=true then 3 else 2:=UY
 have kn:(if c9 kd=true then 4 else 3)=at'+1:=by rw[vL];split<;>rfl
 have aai:at'<ws.length:=by rw[ZT,kn];omega
 have ahD:0<en->at'+1<ws.length:=fun h=>by rw[ZT,kn,iP h];omega
 have GN:∀k,k<en->at'+2+k<ws.length:=fun k hk=>by rw[ZT,kn,iP oM];omega
 clear kn;generalize c9 kd=st at*;refine yX xM ?_;refine uA ?_;refine GA ?_;refine JP (fun q:Nat=>⟨[(2,.p 102 1 0 0 0),(4,.sl (strs ws) false),(5,.p 105 6 0 0 0),(10,I en),(11,I 2),(12,I (if st=true then 4 else 3))],(105,some (6,.box [S .empty,I kd,I 0,I 0,.sl [] true,I 0,I 0,I 0,.sl [] true]))::(102,some (1,.box [S .empty,I 0,I 0,I 0,.sl [] true,I 0,I 0,I 0,.sl [] true]))::[],q⟩) (fun _=>True) ?_ ?_
 .cases st with
  |true=>refine yX VV ?_;refine WM ?_;refine⟨_,trivial,ch⟩|false=>refine yX VV ?_;refine xJ ?_;refine⟨_,trivial,ch⟩
 rintro ck3 -;refine GA ?_;refine JP (fun q:Nat=>⟨[(2,.p 102 1 0 0 0),(4,.sl (strs ws) false),(5,.p 105 6 0 0 0),(10,I en),(11,I 2),(12,I ws.length)],(105,some (6,.box [S .empty,I kd,I 0,I 0,.sl [] true,I 0,I 0,I 0,.sl [] true]))::(102,some (1,.box [S .empty,I 0,I 0,I 0,.sl [] true,I 0,I 0,I 0,.sl [] true]))::[],q⟩) (fun _=>True) ?_ ?_
 .by_cases c1:0<en
  .have d1:=oN (0<(en:Int));rw[iP c1]at ZT;have hv:(if st=true then(4:Int) else 3)+(1+(en:Int))=ws.length:=by rw[ZT];cases st<;>simp<;>omega
   have Wy:3<=(if st=true then(4:Int) else 3)/\(if st=true then(4:Int) else 3)<=4:=by cases st<;>simp
   generalize (if st=true then(4:Int) else 3)=v4 at*;refine VF @d1 ?_;refine⟨_,trivial,wT @hv⟩
  have d1:=Vj (0<(en:Int));rw[iN c1]at ZT;have hv:(if st=true then(4:Int) else 3)=ws.length:=by rw[ZT];cases st<;>simp
  refine kV @d1 ?_;refine⟨_,trivial,wT @hv⟩
 rintro ck4 -;have dk0:=Vj (kd=0);have dwl:decide (¬(ws.length:Int)=ws.length)=false:=dF (fun h=>h rfl);have aan:=Ng _ jh.2;rw[jh.1]at aan;have RO:=aai;refine nF (uI @dk0 (uI @dwl (uI (Un aX) @ux))) ?_;intro K hK;refine⟨oM,?_⟩;refine PD aan ?_;refine hK _ ?_;clear hK K;refine uF ?_;refine aH (uI (Un aX) @ux) ?_;refine GA ?_;refine JP (fun q:Nat=>⟨[(2,.p 102 1 0 0 0),(4,.sl (strs ws) false),(5,.p 105 6 0 0 0),(10,I en),(11,I at'),(13,B true)],(105,some (6,.box [S (ws.getD 1 .empty),I kd,I (if st=true then MF (ws.getD 2 .empty) else 0),I 0,.sl [] true,I 0,I 0,I 0,.sl [] true]))::(102,some (1,.box [S .empty,I 0,I 0,I 0,.sl [] true,I 0,I 0,I 0,.sl [] true]))::[],q⟩) (fun _=>True) ?_ ?_
 .cases st with
  |true=>have akS:=XX _ (Vc rfl);rw[iP rfl]at vL;subst vL;refine yX VV ?_;refine uT ?_;refine nF (Un pU) ?_;intro K hK;refine⟨oM,?_⟩;refine PD akS ?_;refine hK _ ?_;clear hK K;refine uZ ?_;refine⟨_,trivial,ch⟩|false=>rw[iN dM]at vL;subst vL;refine yX VV ?_;refine xJ ?_;refine⟨_,trivial,ch⟩
 rintro ck5 -;have Kf:=XX _ bM;refine nF (Un aai) ?_;intro K hK;refine⟨oM,?_⟩;refine PD Kf ?_;refine hK _ ?_;clear hK K;generalize (if st=true then MF (ws.getD 2 .empty) else 0)=vln at*;generalize MF (ws.getD at' .empty)=vzn at*;refine uA ?_;refine GA ?_;refine JP (fun q:Nat=>⟨[(2,.p 102 1 0 0 0),(4,.sl (strs ws) false),(5,.p 105 6 0 0 0),(10,I en),(11,I at')],(105,some (6,.box [S (ws.getD 1 .empty),I kd,I vln,I vzn,.sl [] true,I 0,I 0,I 0,.sl [] true]))::(102,some (1,.box [S .empty,I 0,I 0,I 0,.sl [] true,I 0,I 0,I 0,.sl [] true]))::[],q⟩) (fun _=>True) ?_ ?_
 .by_cases c1:0<en
  .have d1:=oN (0<(en:Int));have IQ:=ahD c1;have Rb:((at':Int)+1).toNat=at'+1:=oM;have dg:decide (¬(ws.getD (at'+1) .empty).data.toList=[62])=false:=by have h1:(ws.getD (at'+1) .empty).data.toList=[62]:=oT (QG c1);exact dF (fun h=>h h1)
   refine cx (uI @d1 (uI @Rb (uI (Un IQ) @dg))) ?_;refine xJ ?_;refine⟨_,trivial,ch⟩
  have d1:=Vj (0<(en:Int));refine QT @d1 ?_;refine uW ?_;refine⟨_,trivial,ch⟩
 rintro ck6 -;refine EP ?_;refine PV (fun q:Nat×Az=>⟨[(2,.p 102 1 0 0 0),(4,.sl (strs ws) false),(5,.p 105 6 0 0 0),(10,I en),(11,I at'),(16,I q.2.1)],(105,some (6,.box [S (ws.getD 1 .empty),I kd,I vln,I vzn,.sl [] true,I 0,I 0,I 0,Zd q.2.1 (.l 280 q.2.2 0 q.2.1)]))::(280,KA q.2.1 (q.2.2,.own 9 1 (strs ((ws.drop (at'+2)).take q.2.1))))::(102,some (1,.box [S .empty,I 0,I 0,I 0,.sl [] true,I 0,I 0,I 0,.sl [] true]))::[],q.1⟩)
  (fun q=>q.2.1<=en) (fun q=>en-q.2.1) (_,0,0) (zL _) (ch) ?_
 rintro⟨ck7,k,g⟩ hk;simp only at hk;refine C0 ?_ ?_<;>intro h7
 .have PP:k<en:=oM;have SR:=GN k PP;have ik:=hex k PP;have Gr:=Ng _ ik.2;rw[ik.1]at Gr;have Rb:((at':Int)+2+(k:Int)).toNat=at'+2+k:=oM;have fw:(ws.drop (at'+2)).take (k+1)=(ws.drop (at'+2)).take k++[ws.getD (at'+2+k) .empty]:=by
   rw[R9 (d:=.empty) Fz];congr 2
   simp[gE]
  have lC:((ws.drop (at'+2)).take k).length=k:=by rw[Hh,DT];omega
  generalize (ws.drop (at'+2)).take k=o at*;refine WT (uI @Rb (Un SR)) Gr ?_;refine uF ?_;by_cases Ub:k=0
  .subst Ub;obtain rfl:o=[]:=EH.1 lC;simp only[W8,Hi];refine Va (uI @Rb (Un SR)) ?_;refine⟨(_,0+1,ck7+22),uO,uO,.of (lR _) (by repeat first|exact Zf.nil|refine He ?_|(refine Zf.cons ?_ ?_;(focus (simp only[go_sem,fw,fj,dq,strs,b_,FV,gY,l6];done)))) My⟩
  simp only[G4 Ub,PO Ub];refine Va (uI @Rb (uI (Un SR) @lC)) ?_;exact nX (_,k+1,g) (wH (uI @fw (uI @gY @l6)))
 refine El ?_;obtain rfl:k=en:=oM;subst jZ;by_cases Ub:k=0
 .subst Ub;simp only[W8,Hi];refine WE ?_;rw[show f125.results.toList=[.cell 2 177,.tmp 3] from rfl];first|refine jW ?_|exact W5
  rfl
 simp only[G4 Ub,PO Ub];refine uZ ?_;have lC:((ws.drop (at'+2)).take k).length=k:=by rw[Hh,DT];have:=GN (k-1) oM;omega
 refine A_ ?_;rw[show f125.results.toList=[.cell 2 177,.tmp 3] from rfl];first|refine VO @lC ?_|exact kv @lC
 rfl
open Go.Plant
def Xf(x:Ln):Nd:=⟨x.nm,x.kd,x.ln,x.zn,x.ex⟩
def Kq(x:Ln):T3:=⟨x.dk,x.dn,x.dw⟩
theorem ajR{nm:ByteArray}{kd ln zn:Int}{ex:List Int}:[AV.agg [.lit (.string nm),.lit (.int .i64 kd),.lit (.int .i64 ln),.lit (.int .i64 zn),.sl (tk ex) false]]=H4 [⟨nm,kd,ln,zn,ex⟩]:=rfl
theorem agL{a b c:Int}:[AV.agg [.lit (.int .i64 a),.lit (.int .i64 b),.lit (.int .i64 c)]]=YA [⟨a,b,c⟩]:=rfl
def RL(ls:List Ln)(m:Nat)(nm:ByteArray):Int:=py ((ls.take m).map Xf) nm
def N'(ls:List Ln)(m:Nat)(x:Ln)(c:Nat):Nd×Bool:=if c=0 then(Xf x,false) else(⟨x.nm,x.kd,x.ln,x.zn,x.ex++(x.names.take c).map (RL ls m)⟩,true)
def Fc(ls:List Ln)(i k j:Nat):Nat:=if j<i then(ls.getD j default).names.length else if j=i then k else 0
def ek(ls:List Ln)(m i k:Nat):List (Nd×Bool):=(List.range m).map fun j=>N' ls m (ls.getD j default) (Fc ls i k j)
def QK(ls:List Ln)(m i k:Nat):(ek ls m i k).length=m:=by simp[ek]
def ajD{ls:List Ln}{m i k j:Nat}(h:j<m):(ek ls m i k).getD j default=N' ls m (ls.getD j default) (Fc ls i k j):=by simp[ek,h]
def HD{l:List (Nd×Bool)}{i:Nat}(h:i<l.length):(Iz l).getD i .bad=ZS (l.getD i default):=by simp[Iz,h]
def afd(ls:List Ln)(m:Nat)(x:Ln)(c:Nat):(N' ls m x c).1.nm=x.nm:=by unfold N';split<;>rfl
def Qu(xs:List Nd)(nm:ByteArray):py xs nm=match (xs.map (·.nm)).findIdx? (fun z=>decide (z=nm))with|some i=>i|none=>-1:=by rw[py,List.findIdx?_map];rfl
def aqa{ls:List Ln}{m i k:Nat}(hm:m<=ls.length)(nm:ByteArray):py ((ek ls m i k).map (·.1)) nm=RL ls m nm:=by
 rw[RL,Qu,Qu];have:((ek ls m i k).map (·.1)).map (·.nm)=((ls.take m).map Xf).map (·.nm):=by
  apply i7
  .simp[QK];omega
  intro j h1 h2;simp only[E3,QK]at h1;simp only[nw,DA,ek,Pj,afd];simp[show j<ls.length by omega,Xf]
 rw[this]
def aeA(ls:List Ln)(m i:Nat):ek ls m i (ls.getD i default).names.length=ek ls m (i+1) 0:=by
 unfold ek;refine zT fun j _=>?_;congr 1
 unfold Fc;by_cases h1:j<i
 .rw[iP h1,iP oM]
 rw[iN h1];by_cases h2:j=i
 .subst h2;rw[iP rfl,iP oM]
 rw[iN h2,iN oM];split<;>rfl
def atW{ls:List Ln}{m i k k':Nat}(h:m<=i):ek ls m i k=ek ls m i k':=by unfold ek;refine zT fun j hj=>?_;have:=BD.1 hj;rw[Fc,Fc,iP oM,iP oM]
def asz{ls:List Ln}{m i k:Nat}(hi:i<m):(ek ls m i k).set i (N' ls m (ls.getD i default) (k+1))=ek ls m i (k+1):=by
 apply i7
 .simp[QK]
 intro j h1 h2;simp only[su,QK]at h1;rw[PU];by_cases ZJ:i=j
 .subst ZJ;simp[ek,Fc]
 rw[iN ZJ];simp[ek,Fc,show ¬j=i from fun h=>ZJ h.symm]
def XU(ls:List Ln)(m d:Nat):List T3:=(List.range (ls.length-m)).map fun j=>if j<d then⟨(ls.getD (m+j) default).dk,RL ls m ((ls.getD (m+j) default).names.getD 0 .empty),(ls.getD (m+j) default).dw⟩ else Kq (ls.getD (m+j) default)
def vV(ls:List Ln)(m d:Nat):(XU ls m d).length=ls.length-m:=by simp[XU]
def apy{ls:List Ln}{m d j:Nat}(h:j<ls.length-m):(XU ls m d).getD j default=if j<d then⟨(ls.getD (m+j) default).dk,RL ls m ((ls.getD (m+j) default).names.getD 0 .empty),(ls.getD (m+j) default).dw⟩ else Kq (ls.getD (m+j) default):=by simp only[XU,gE,YO,List.getElem?_range h,rL,jw]
def aey{ls:List Ln}{m d:Nat}(h:d<ls.length-m):(XU ls m d).set d ⟨(ls.getD (m+d) default).dk,RL ls m ((ls.getD (m+d) default).names.getD 0 .empty),(ls.getD (m+d) default).dw⟩=XU ls m (d+1):=by
 apply i7
 .simp[vV]
 intro j h1 h2;simp only[su,vV]at h1;rw[PU];by_cases Wl:d=j
 .subst Wl;simp[XU]
 rw[iN Wl];by_cases PP:j<d
 .simp[XU,PP,show j<d+1 by omega]
 simp[XU,PP,show ¬j<d+1 by omega]
def cD(m i k:Nat):Nat:=if i<m then 0 else i-m+k
def aq7{m i k:Nat}(h:m<=i->k=1):cD m i k=cD m (i+1) 0:=by
 unfold cD;by_cases h1:i<m
 .rw[iP h1];split<;>omega
 have:=h oM;rw[iN h1,iN oM];omega
def TY(ls:List Ln)(m:Nat):Ly:=⟨(ek ls m m 0).map (·.1),XU ls m (ls.length-m)⟩
def abe{ls:List Ln}{m:Nat}:XU ls m 0=(ls.drop m).map Kq:=by
 apply i7
 .simp[XU]
 intro j h1 h2;simp only[vV]at h1;simp[XU,show m+j<ls.length by omega]
structure Ra(s:ByteArray)(T:List ByteArray)(ls:List Ln)(m:Nat):Prop where
 len:s.data.toList.length<=4096
 sp:cr s 10=T++[.empty]
 tl:T.length=ls.length
 ll:ls.length<=100
 ml:m<=ls.length
 m0:0<m
 nd:∀i,i<m->(ls.getD i default).kd≠0
 dv:∀i,m<=i->i<ls.length->(ls.getD i default).kd=0
 fn:∀i,i<ls.length->∀k,k<(ls.getD i default).names.length->0<=RL ls m ((ls.getD i default).names.getD k .empty)
 x0:∀i,i<ls.length->(ls.getD i default).ex=[]
 d1:∀i,m<=i->i<ls.length->(ls.getD i default).names.length=1
 nl:∀i,i<ls.length->(ls.getD i default).names.length<=100
 rd:∀i,i<ls.length->UB prog J9 125 [] [S (T.getD i .empty)] [] (.F1 [(ls.getD i default).av,B true])
def ao9(s:ByteArray)(T:List ByteArray)(ls:List Ln)(m:Nat)(h:Ra s T ls m)(hs7:UQ (TY ls m))(pA:NP (TY ls m)=0):UB prog J9 70 [] [S s] [] (.F1 [(TY ls m).av,I 0,I 0]):=by
 obtain⟨hlen,NM,lC,L9,kF,SI,Z3,C4,xS,PI,al,pt,MC⟩:=h;have xB:s.size=s.data.toList.length:=by rw[<-Q6,NU]
 have s9:=aay s 10 oM;rw[NM]at s9;have Ny:(T++[ByteArray.empty]).length=ls.length+1:=by rw[aL,lC];rfl
 have Eu:(T++[ByteArray.empty]).getD ls.length .empty=.empty:=by rw[Vt,lC];simp
 have N8:(T++[ByteArray.empty]).take ls.length=T:=by rw[<-lC,List.take_left]
 have aaH:ls.length<(T++[ByteArray.empty]).length:=oM;have Rb:((ls.length:Int)+1-1).toNat=ls.length:=oM;have adk:((ls.length:Int)+1-1)=ls.length:=oM;refine MD func70 ntmps70 ?_;intro w e X hC;refine Fm @xB ?_ ?_<;>intro c0
 .omega
 refine Gk s9 ?_;refine LY (uI @Ny (uI @gd (uI @adk (uI @Int.natCast_one (uI (Un aaH) (uI @Eu (uI @HJ @N8))))))) ?_;refine PV (fun q:Nat×Nat×Nat×Nat×Nat×Az=>⟨[(2,.p 102 1 0 0 0),(5,.sl (strs T) false),(6,S .empty),(7,.l 107 q.2.2.1 0 q.2.1),(8,.p 108 24 0 0 0),(9,I q.2.1)],
  (108,some (24,.box [Zd q.2.2.2.2.2.1 (.l 177 q.2.2.2.1 0 q.2.2.2.2.2.1),Zd q.2.2.2.2.2.2 (.l 184 q.2.2.2.2.1 0 q.2.2.2.2.2.2)]))::(177,KA q.2.2.2.2.2.1 (q.2.2.2.1,.own 82 5 (H4 ((ls.take q.2.2.2.2.2.1).map Xf))))::(184,KA q.2.2.2.2.2.2 (q.2.2.2.2.1,.own 108 3 (YA (((ls.drop m).take q.2.2.2.2.2.2).map Kq))))::(107,some (q.2.2.1,.own 177 9 (Z0 (ls.take q.2.1))))::(102,some (1,.box [.sl [] true,.sl [] true]))::[],q.1⟩)
  (fun q=>q.2.1<=ls.length/\q.2.2.2.2.2.1=min q.2.1 m/\q.2.2.2.2.2.2=q.2.1-m) (fun q=>ls.length-q.2.1) (_,0,23,0,0,0,0) ⟨zL _,sM,sM⟩ (wH @akk) ?_
 rintro⟨ck,i,g,g1,g2,na,nd⟩ ⟨hi,ao5,ate⟩;simp only at hi ao5 ate;have Bw:T.length=ls.length:=lC;refine Fm @Bw ?_ ?_<;>intro h1
 .have PP:i<ls.length:=oM;have aeW:i<T.length:=oM;have apX:=MC i PP;have Yp:=Z3 i;have Um:=C4 i;have Xj:=R9 (d:=default) PP;have QE:(ls.take i).length=i:=j6;generalize e1:ls.getD i default=x at*;obtain⟨xnm,xkd,xln,xzn,xex,xdk,xdn,xdw,xns⟩:=x;simp only at Yp Um;refine nF (Un aeW) ?_;intro K hK;refine⟨oM,?_⟩;refine cP apX ?_;refine Qd ?_;refine hK _ ?_;clear hK K;by_cases OG:i<m
  .have VB:=Yp OG;have dk:decide (¬xkd=0)=true:=dT VB;obtain rfl:na=i:=oM;obtain rfl:nd=0:=oM;have y3:∀l:List Ln,(l++[(⟨xnm,xkd,xln,xzn,xex,xdk,xdn,xdw,xns⟩:Ln)]).map Xf=l.map Xf++[⟨xnm,xkd,xln,xzn,xex⟩]:=fun l=>by rw[Mx];rfl
   have ajb:[(⟨xnm,xkd,xln,xzn,xex,xdk,xdn,xdw,xns⟩:Ln)].map Xf=[⟨xnm,xkd,xln,xzn,xex⟩]:=rfl;simp only[W8,Hi];by_cases Ub:na=0
   .subst Ub;simp only[W8,Hi];refine VF (uI @dk @QE) ?_;refine⟨(_,0+1,g,ck+43,g2,0+1,0),⟨uO,uO,uO⟩,uO,wH (uI @Xj (uI @y3 (uI @ajb (uI @ajR (uI @gY @l6)))))⟩
   simp only[G4 Ub,PO Ub];refine VF (uI @dk @QE) ?_;refine⟨(_,na+1,g,g1,g2,na+1,0),⟨uO,uO,uO⟩,uO,wH (uI @Xj (uI @y3 (uI @gY @l6)))⟩
  have VB:=Um oM PP;have dk:decide (¬xkd=0)=false:=dF (fun h=>h VB);obtain⟨J7,rfl⟩:∃k,na=k+1:=⟨na-1,oM⟩;obtain rfl:m=J7+1:=oM;have jj:nd<(ls.drop (J7+1)).length:=Fz;have Z1:(ls.drop (J7+1)).getD nd default=⟨xnm,xkd,xln,xzn,xex,xdk,xdn,xdw,xns⟩:=by
   rw[<-e1];simp only[gE,BY];congr 2
   omega
  have y3:((ls.drop (J7+1)).take (nd+1)).map Kq=((ls.drop (J7+1)).take nd).map Kq++[⟨xdk,xdn,xdw⟩]:=by rw[R9 (d:=default) jj,Mx,Z1];rfl
  have atX:((ls.drop (J7+1)).take nd).length=nd:=j6;simp only[gY,l6];by_cases Ub:nd=0
  .subst Ub;simp only[W8,Hi];refine VF (uI @dk @QE) ?_;refine⟨(_,i+1,g,g1,ck+43,J7+1,0+1),⟨uO,uO,uO⟩,uO,wH (uI @y3 (uI @Xj (uI @agL (uI @gY @l6))))⟩
  simp only[G4 Ub,PO Ub];refine VF (uI @dk (uI @QE @atX)) ?_;refine⟨(_,i+1,g,g1,g2,J7+1,nd+1),⟨uO,uO,uO⟩,uO,wH (uI @y3 (uI @Xj (uI @gY @l6)))⟩
 refine El ?_;obtain rfl:i=ls.length:=oM;clear MC s9 Ny Eu N8 aaH;obtain rfl:na=m:=oM;obtain⟨J7,rfl⟩:∃k,na=k+1:=⟨na-1,oM⟩;rw[Sy];have apd:(ls.drop (J7+1)).take nd=ls.drop (J7+1):=DZ Fz;rw[apd,<-abe];have aia:H4 ((ls.take (J7+1)).map Xf)=Iz (ek ls (J7+1) 0 0):=by
  rw[Pw];congr 1
  apply i7
  .simp[QK];omega
  intro j h1 h2;simp only[E3,QK]at h2;simp[ek,Fc,N',show j<ls.length by omega]
 rw[aia];simp only[gY,l6];refine C0 ?_ ?_<;>intro hh
 .exact absurd rfl hh
 iterate 3 (first|refine md ?_|refine GA ?_)
 refine JP (fun q:Az=>⟨[(2,.p 102 1 0 0 0),(7,.l 107 g 0 ls.length),(8,.p 108 24 0 0 0),(12,I 0)],
  (108,some (24,.box [.l 177 g1 0 (J7+1),.l 184 q.2 0 nd]))::(177,some (g1,.own 82 5 (Iz (ek ls (J7+1) 0 0))))::(184,some (q.2,.own 108 3 (YA (XU ls (J7+1) 0))))::(107,some (g,.own 177 9 (Z0 ls)))::(102,some (1,.box [.sl [] true,.sl [] true]))::[],q.1⟩) (fun _=>True) ?_ ?_
 .by_cases Za:nd=0
  .subst Za;have ia:XU ls (J7+1) 0=[]:=EH.1 (by rw[vV];omega);simp only[W8,Hi,ia];refine wG 184 108 24 108 3 1 dM rfl rfl rfl ?_;first|refine uS ?_|exact uX
   refine uZ ?_;refine⟨(_,ck+6),wH @acC⟩
  simp only[G4 Za,PO Za];refine uZ ?_;refine⟨(_,g2),trivial,ch⟩
 rintro⟨ck0,g2⟩ -;refine EP ?_;refine AJ ls.length (fun q:Az=>⟨[(2,.p 102 1 0 0 0),(7,.l 107 g 0 ls.length),(8,.p 108 24 0 0 0),(12,I q.2)],
  (108,some (24,.box [.l 177 g1 0 (J7+1),.l 184 g2 0 nd]))::(177,some (g1,.own 82 5 (Iz (ek ls (J7+1) q.2 0))))::(184,some (g2,.own 108 3 (YA (XU ls (J7+1) (cD (J7+1) q.2 0)))))::(107,some (g,.own 177 9 (Z0 ls)))::(102,some (1,.box [.sl [] true,.sl [] true]))::[],q.1⟩) (wH (show cD (J7+1) 0 0=0 from iP oM)) ?_
 intro ck i hi;refine C0 ?_ ?_<;>intro h3
 .have PP:i<ls.length:=oM;have F_:=xS i PP;have Sl:=al i;have yf:=pt i PP;have Ao:=PI i PP;refine EP ?_;refine AJ ((ls.getD i default).names.length) (fun q:Az=>⟨[(2,.p 102 1 0 0 0),(7,.l 107 g 0 ls.length),(8,.p 108 24 0 0 0),(12,I i),(13,I q.2)],
   (108,some (24,.box [.l 177 g1 0 (J7+1),.l 184 g2 0 nd]))::(177,some (g1,.own 82 5 (Iz (ek ls (J7+1) i q.2))))::(184,some (g2,.own 108 3 (YA (XU ls (J7+1) (cD (J7+1) i q.2)))))::(107,some (g,.own 177 9 (Z0 ls)))::(102,some (1,.box [.sl [] true,.sl [] true]))::[],q.1⟩) (.of (lR _) aq bi) ?_
  intro ck2 k hk;have Tw:=QK ls (J7+1) i k;have ako:=fun nm=>aqa (i:=i) (k:=k) kF nm;have Vb:=asz (ls:=ls) (m:=J7+1) (i:=i) (k:=k);have vy:=ajD (ls:=ls) (m:=J7+1) (i:=i) (k:=k) (j:=i);generalize e1:ls.getD i default=x at*;refine Fm (uI (is PP) @e1) ?_ ?_<;>intro h4
  .have G9:k<x.names.length:=oM;have hfk:=F_ k G9;have An:=Av ⟨(ek ls (J7+1) i k).map (·.1),XU ls (J7+1) (cD (J7+1) i k)⟩ (x.names.getD k .empty) (by simp only[E3];omega);simp only[ako]at An;have auw:RL ls (J7+1) (x.names.getD k .empty)<=1000:=by
    rw[RL,py];split
    .rename_i j hj;rw[tV]at hj;obtain⟨hj,_⟩:=hj;simp only[E3,Hh]at hj;omega
    omega
   have vK:N' ls (J7+1) x (k+1)=(⟨x.nm,x.kd,x.ln,x.zn,(x.names.take k).map (RL ls (J7+1))++[RL ls (J7+1) (x.names.getD k .empty)]⟩,true):=by rw[N',iN oM,Ao,R9 (d:=.empty) G9,Mx];rfl
   have Cw:(XU ls (J7+1) (cD (J7+1) i k)).length=nd:=by rw[vV];omega
   generalize wj:ek ls (J7+1) i k=ms at*;generalize Iw:XU ls (J7+1) (cD (J7+1) i k)=ds at*;generalize apt:RL ls (J7+1) (x.names.getD k .empty)=f at*;refine zj (uI (is PP) (uI @e1 (uI (Un G9) (uI @P_ (uI @Tw @Cw))))) ?_;intro K hK;refine uH ?_;refine oj (rc:=I f) ?_ ?_ ?_ ?_ ?_ ?_;(focus (first|exact trivial|(simp only[go_sem,nH,MX,Tf,P_,Tw,Cw]<;>trivial)));(focus (simp only[go_sem,nH,MX,Tf,P_,Tw,Cw];exact An));(focus (first|exact trivial|(simp only[go_sem,nH,MX,Tf,P_,Tw,Cw]<;>trivial)));(focus (first|exact trivial|(simp only[go_sem,nH,MX,Tf,P_,Tw,Cw]<;>trivial)));(focus (first|exact trivial|(simp only[go_sem,nH,MX,Tf,P_,Tw,Cw]<;>trivial)));first|refine Z6 (uI @nH (uI @MX (uI @Tf (uI @P_ (uI @Tw @Cw))))) ?_|exact an (uI @nH (uI @MX (uI @Tf (uI @P_ (uI @Tw @Cw)))))
   refine uH ?_;refine hK _ ?_;clear hK K;refine C0 ?_ ?_<;>intro h5
   .omega
   refine Fm (uI @P_ (uI @Tw @Cw)) ?_ ?_<;>intro OG
   .have dE:i<J7+1:=oM;have iv:i<ms.length:=oM;have ZH:=vy dE;rw[show Fc ls i k i=k by rw[Fc,iN (jx i),iP rfl]]at ZH;have BI:∀v,((Iz ms).set i v).getD i .bad=v:=fun v=>by rw[F3,iP ⟨rfl,by rw[P_];exact iv⟩]
    have yj:∀(nm:ByteArray)(kd ln zn:Int)(ex:List Int),(Iz ms).set i (.agg [.lit (.string nm),.lit (.int .i64 kd),.lit (.int .i64 ln),.lit (.int .i64 zn),.Rc 3 1 (tk ex)])=Iz (ms.set i (⟨nm,kd,ln,zn,ex⟩,true)):=fun _ _ _ _ _=>Vi;have D3:∀j,cD (J7+1) i j=cD (J7+1) i k:=fun j=>by rw[cD,cD,iP dE,iP dE]
    by_cases zU:k=0
    .have zQ:ms.getD i default=(Xf x,false):=by rw[ZH,N',iP zU]
     subst zU;(repeat first|refine GA ?_|refine md ?_|refine lK ?_);refine fx hC kR kR rfl fun K hK=>?_;simp only[go_sem,P_,Tw,HD iv,zQ,ZS,Xf,Ao,N9]
     refine uH ?_;refine hK _ ?_;clear hK K;refine uZ ?_;refine⟨(_,0+1),uO,uO,.of (lR _) (by repeat (first|exact Zf.nil|refine Zf.cons rfl ?_|refine Zf.gone ?_|refine Zf.opt rfl ?_|(refine Zf.cons ?_ ?_;(focus (simp only[go_sem,<-Vb dE,vK,yj,BI,D3 (_+1),Iw,be,j4,AV.cells,dN,dS,Td,dR,RH,Mb,fj,FV];done)))|(refine Zf.less rfl (Km.wB ?_) ?_;(focus ((repeat (first|exact BW.nil|refine BW.same ?_|(refine BW.GL ?_ ?_ ?_ ?_;(focus (first|exact trivial|(simp only[go_sem,<-Vb dE,vK,yj,BI,D3 (_+1),Iw,be,j4,AV.cells,dN,dS,Td,dR,RH,Mb,fj,FV]<;>trivial)));(focus (first|rfl|((simp only[go_sem,<-Vb dE,vK,yj,BI,D3 (_+1),Iw,be,j4,AV.cells,dN,dS,Td,dR,RH,Mb,fj,FV]<;>rfl);done)));(focus (first|(simp only[go_sem,<-Vb dE,vK,yj,BI,D3 (_+1),Iw,be,j4,AV.cells,dN,dS,Td,dR,RH,Mb,fj,FV];done)|((simp only[go_sem,<-Vb dE,vK,yj,BI,D3 (_+1),Iw,be,j4,AV.cells,dN,dS,Td,dR,RH,Mb,fj,FV]<;>simp);done)|(simp;done)))))));done)))) bi⟩
    have zQ:ms.getD i default=(⟨x.nm,x.kd,x.ln,x.zn,(x.names.take k).map (RL ls (J7+1))⟩,true):=by rw[ZH,N',iN zU,Ao];rfl
    have Xp:((x.names.take k).map (RL ls (J7+1))).length<=100:=by rw[E3,Hh];omega
    generalize (x.names.take k).map (RL ls (J7+1))=exk at*;(repeat first|refine GA ?_|refine md ?_|refine lK ?_);refine fx hC kR kR rfl fun K hK=>?_;simp only[go_sem,P_,Tw,HD iv,zQ,ZS]
    refine uH ?_;refine hK _ ?_;clear hK K;refine uZ ?_;refine⟨(_,k+1),uO,uO,.of (lR _) (by repeat (first|exact Zf.nil|refine Zf.cons rfl ?_|refine Zf.gone ?_|refine Zf.opt rfl ?_|(refine Zf.cons ?_ ?_;(focus (simp only[go_sem,<-Vb dE,vK,yj,BI,D3 (_+1),Iw,be,j4,AV.cells,dN,dS,Td,dR,RH,Mb,fj,FV];done)))|(refine Zf.less rfl (Km.wB ?_) ?_;(focus ((repeat (first|exact BW.nil|refine BW.same ?_|(refine BW.GL ?_ ?_ ?_ ?_;(focus (first|exact trivial|(simp only[go_sem,<-Vb dE,vK,yj,BI,D3 (_+1),Iw,be,j4,AV.cells,dN,dS,Td,dR,RH,Mb,fj,FV]<;>trivial)));(focus (first|rfl|((simp only[go_sem,<-Vb dE,vK,yj,BI,D3 (_+1),Iw,be,j4,AV.cells,dN,dS,Td,dR,RH,Mb,fj,FV]<;>rfl);done)));(focus (first|(simp only[go_sem,<-Vb dE,vK,yj,BI,D3 (_+1),Iw,be,j4,AV.cells,dN,dS,Td,dR,RH,Mb,fj,FV];done)|((simp only[go_sem,<-Vb dE,vK,yj,BI,D3 (_+1),Iw,be,j4,AV.cells,dN,dS,Td,dR,RH,Mb,fj,FV]<;>simp);done)|(simp;done)))))));done)))) bi⟩
   have auP:=Sl oM PP;obtain rfl:k=0:=oM;obtain⟨d,hd⟩:∃d,i=J7+1+d:=⟨i-(J7+1),oM⟩;have Kc:cD (J7+1) i 0=d:=by rw[cD,iN oM];omega
   have z6:cD (J7+1) i (0+1)=d+1:=by rw[cD,iN oM];omega
   have ia:d<ls.length-(J7+1):=oM;have Gc:=apy (ls:=ls) (m:=J7+1) (d:=d) ia;have eF:=aey (ls:=ls) (m:=J7+1) (d:=d) ia;rw[iN (jx d)]at Gc;rw[<-hd,e1]at Gc eF;rw[Kc]at Iw;rw[Iw]at Gc eF;rw[apt]at eF;have jj:d<ds.length:=oM;have acT:(i:Int)-((J7:Int)+1)=d:=oM;have aeI:(i:Int)-((J7+1:Nat):Int)=d:=oM;have J2:ek ls (J7+1) i (0+1)=ms:=by rw[<-wj];exact atW oM
   (repeat first|refine GA ?_|refine md ?_|refine lK ?_);refine ZZ hC rfl fun K hK=>?_;simp only[go_sem,P_,Tw,acT,aeI,Hr jj,Gc,Kq]
   refine uH ?_;refine hK _ ?_;clear hK K;refine uZ ?_;refine⟨(_,0+1),uO,uO,.of (lR _) (by repeat (first|exact Zf.nil|refine Zf.cons rfl ?_|refine Zf.gone ?_|refine Zf.opt rfl ?_|(refine Zf.cons ?_ ?_;(focus (simp only[go_sem,J2,z6,<-eF,be,j4];done)))|(refine Zf.less rfl (Km.wB ?_) ?_;(focus ((repeat (first|exact BW.nil|refine BW.same ?_|(refine BW.GL ?_ ?_ ?_ ?_;(focus (first|exact trivial|(simp only[go_sem,J2,z6,<-eF,be,j4]<;>trivial)));(focus (first|rfl|((simp only[go_sem,J2,z6,<-eF,be,j4]<;>rfl);done)));(focus (first|(simp only[go_sem,J2,z6,<-eF,be,j4];done)|((simp only[go_sem,J2,z6,<-eF,be,j4]<;>simp);done)|(simp;done)))))));done)))) bi⟩
  refine El ?_;obtain rfl:k=x.names.length:=oM;have auc:ek ls (J7+1) i x.names.length=ek ls (J7+1) (i+1) 0:=by rw[<-e1];exact aeA ls (J7+1) i
  have agU:cD (J7+1) i x.names.length=cD (J7+1) (i+1) 0:=aq7 (fun h=>Sl h PP);refine uZ ?_;exact nX (_,i+1) (wH (uI @auc @agU))
 refine El ?_;obtain rfl:i=ls.length:=oM;have N7:ek ls (J7+1) ls.length 0=ek ls (J7+1) (J7+1) 0:=by unfold ek;refine zT fun j hj=>?_;have:=BD.1 hj;rw[Fc,Fc,iP oM,iP oM]
 have Fe:cD (J7+1) ls.length 0=ls.length-(J7+1):=by rw[cD,iN oM];rfl
 rw[N7,Fe];have hv:=qx (TY ls (J7+1)) hs7;rw[pA]at hv;have hY:TY ls (J7+1)=⟨(ek ls (J7+1) (J7+1) 0).map (·.1),XU ls (J7+1) (ls.length-(J7+1))⟩:=rfl;rw[hY]at hv ⊢;have Tw:=QK ls (J7+1) (J7+1) 0;have Cw:(XU ls (J7+1) (ls.length-(J7+1))).length=nd:=by rw[vV];omega
 generalize ek ls (J7+1) (J7+1) 0=ms at*;generalize XU ls (J7+1) (ls.length-(J7+1))=ds at*;refine uR ?_;intro K hK;refine oj (rc:=I 0) ?_ ?_ ?_ ?_ ?_ ?_;(focus (first|exact trivial|(simp only[go_sem,nH,MX,Tf,P_,Tw,Cw]<;>trivial)));(focus (simp only[go_sem,nH,MX,Tf,P_,Tw,Cw];exact hv));(focus (first|exact trivial|(simp only[go_sem,nH,MX,Tf,P_,Tw,Cw]<;>trivial)));(focus (first|exact trivial|(simp only[go_sem,nH,MX,Tf,P_,Tw,Cw]<;>trivial)));(focus (first|exact trivial|(simp only[go_sem,nH,MX,Tf,P_,Tw,Cw]<;>trivial)));first|refine Z6 (uI @nH (uI @MX (uI @Tf (uI @P_ (uI @Tw @Cw))))) ?_|exact an (uI @nH (uI @MX (uI @Tf (uI @P_ (uI @Tw @Cw)))))
 refine uH ?_;refine hK _ ?_;clear hK K;refine uZ ?_;refine UN ?_;refine A_ ?_;rw[show f70.results.toList=[.cell 2 28,.tmp 3,.tmp 4] from rfl];exact kv (uI @nH (uI @MX (uI @Tf (uI @P_ (uI @Tw @Cw)))))
open Go.Plant
theorem oC{α β:Type}{f:α->β}(hf:∀x y,f x=f y->x=y):∀(a b:List α),a.map f=b.map f->a=b
 |[],[],_=>rfl|[],_::_,h=>C3|_::_,[],h=>C3|x::a,y::b,h=>by simp only[b_,bD]at h;rw[hf _ _ h.1,oC hf a b h.2]
open Go.Plant
def bS:ByteArray:=⟨#[101,110,116,114,121,32,65,32,51,32,48,32,62,32,77,10,109,97,110,117,97,108,32,77,32,48,10]⟩
def Nk:ByteArray:=⟨#[101,110,116,114,121,32,65,32,51,32,48,32,62,32,77]⟩
def Tl:List ByteArray:=[⟨#[101,110,116,114,121]⟩,⟨#[65]⟩,⟨#[51]⟩,⟨#[48]⟩,⟨#[62]⟩,⟨#[77]⟩]
def mi:ByteArray:=⟨#[109,97,110,117,97,108,32,77,32,48]⟩
def a_:List ByteArray:=[⟨#[109,97,110,117,97,108]⟩,⟨#[77]⟩,⟨#[48]⟩]
def bT:List ByteArray:=[Nk,mi]
def bL:List Ln:=[T9 Tl 1,T9 a_ 9]
def arl:DB Tl 1 where
 kr:=dM
 len:=Nw
 w0:=fun j h1 h2=>(by decide+kernel:∀j,j<10->1<=j->kH (eQ.getD j .empty) (Tl.getD 0 .empty)=decide ((j:Int)=1)) j oM h1
 ph:=Nw
 nm:=Nw
 n2:=Nw
 zn:=Nw
 ar:=Nw
 ex:=Nw
def adf:DB a_ 9 where
 kr:=dM
 len:=Nw
 w0:=fun j h1 h2=>(by decide+kernel:∀j,j<10->1<=j->kH (eQ.getD j .empty) (a_.getD 0 .empty)=decide ((j:Int)=9)) j oM h1
 ph:=Nw
 nm:=Nw
 n2:=Nw
 zn:=Nw
 ar:=Nw
 ex:=Nw
def afh:Ra bS bT bL 2 where
 len:=Nw
 sp:=Nw
 tl:=Nw
 ll:=Nw
 ml:=Nw
 m0:=dM
 nd:=Nw
 dv:=fun i h1 h2=>by have h3:i<2:=h2;omega
 fn:=Nw
 x0:=Nw
 d1:=fun i h1 h2=>by have h3:i<2:=h2;omega
 nl:=Nw
 rd:=fun i h=>by
  have h3:i<2:=h;have h4:i=0\/i=1:=oM;rcases h4 with rfl|rfl
  .exact XF Nk Tl 1 Nw Nw arl
  exact XF mi a_ 9 Nw Nw adf
def bY:Ly:=⟨[⟨⟨#[65]⟩,1,3,0,[1]⟩,⟨⟨#[77]⟩,9,0,0,[]⟩],[]⟩
def Ms:TY bL 2=bY:=by
 have h1:(TY bL 2).U.map (fun x=>(x.nm,x.kd,x.ln,x.zn,x.ex))=bY.U.map (fun x=>(x.nm,x.kd,x.ln,x.zn,x.ex)):=Nw;have h2:(TY bL 2).D.map (fun x=>(x.a,x.b,x.c))=bY.D.map (fun x=>(x.a,x.b,x.c)):=Nw;have inj1:=oC (f:=fun x:Nd=>(x.nm,x.kd,x.ln,x.zn,x.ex)) fun x y CW=>by cases x;cases y;simp only[jH]at CW;obtain⟨rfl,rfl,rfl,rfl,rfl⟩:=CW;rfl
 have inj2:=oC (f:=fun x:T3=>(x.a,x.b,x.c)) fun x y CW=>by cases x;cases y;simp only[jH]at CW;obtain⟨rfl,rfl,rfl⟩:=CW;rfl
 have e1:=inj1 _ _ h1;have e2:=inj2 _ _ h2;generalize TY bL 2=y at*;cases y
 simp only at e1 e2;rw[e1,e2]
def cu:UQ bY:=⟨Nw,Nw,Nw,Nw⟩
def Ju:NP bY=0:=Nw
def arC:UB prog J9 70 [] [S bS] [] (.F1 [bY.av,I 0,I 0]):=by
 have x9:=ao9 bS bT bL 2 afh (by rw[Ms];exact cu) (by rw[Ms];exact Ju)
 rwa[Ms]at x9
open Go.Plant Go.Inf
def bP(a b c:Int):Pl:=⟨[[a,b,c],[]],[[],[]]⟩
def Y2:Pl:=bP 0 0 0
def vx:Pl:=bP 1 0 0
def Ol:Pl:=bP 0 1 0
def Yr:Pl:=bP 0 0 1
def bC:List Int:=[0,0]
def OU(p:Pl)(X:List T3):List Int×List Int:=vO bY.U p (N0 bY.U p bC X bY.U.length) (WR bY.U)
def Gy(p:Pl)(X:List T3):Pl:=(XG bY.U p bC X (OU p X).1).1
def xe(X:List T3):List T3:=(XG bY.U vx bC X (OU vx X).1).2
def IL:List T3:=[⟨1,0,0⟩]
def uw:List T3:=[⟨2,0,0⟩]
def cI:eC bC vx=[⟨1,0,0⟩,⟨2,0,0⟩]:=by
 refine oC (f:=fun x:T3=>(x.a,x.b,x.c)) (fun x y CW=>by
  cases x;cases y;simp only[jH]at CW;obtain⟨rfl,rfl,rfl⟩:=CW;rfl) _ _ ?_
 decide+kernel
theorem U1{X:List T3}(h:AH (eC bC vx) X):X=[]\/X=IL\/X=uw:=by
 obtain⟨h1,h2,h3⟩:=h;rw[cI]at h1
 match X,h1,h2,h3 with
 |[],_,_,_=>exact .inl rfl|[f],h1,_,_=>
  have:=h1 f mS;simp only[rX,AY,xN]at this;rcases this with rfl|rfl
  .exact .inr (.inl rfl)
  exact .inr (.inr rfl)
 |f::g::t,h1,h2,_=>exfalso;have hf:=h1 f mS;have hg:=h1 g (mC _ mS);simp only[rX,AY,xN]at hf hg;have:=(xL.1 h2).1 g mS;rcases hf with rfl|rfl<;>rcases hg with rfl|rfl<;>exact this rfl
def HU(a b c:Int):Zc bY.U (bP a b c):=⟨dM,rfl,rfl,fun n hn=>by
 have:n=0\/n=1:=by have:n<2:=hn;omega
 rcases this with rfl|rfl<;>rfl,fun n hn=>by
 have:n=0\/n=1:=by have:n<2:=hn;omega
 rcases this with rfl|rfl<;>exact zL _,Nw,Nw,Nw⟩
def SE:Yt bY.U:=by unfold Yt;decide+kernel
def air(X:List T3)(hX:X=[]\/X=IL\/X=uw):UB prog J9 166 [] [.P (g_ bY (WR bY.U)),vx.av,IS bC,.sl (YA X) false] [] (.F1 [(Gy vx X).av,.sl (YA (xe X)) false]):=by
 have hs:UB prog J9 166 [] [.P (g_ bY (WR bY.U)),vx.av,IS bC,.sl (YA X) false]
   [(100,some (1,.own 22 1 (PG 3 (XG bY.U vx bC X (OU vx X).1).1.Q))),(101,some (1,.own 22 1 (PG 3 (XG bY.U vx bC X (OU vx X).1).1.R))),(102,some (1,.own 107 3 (YA (XG bY.U vx bC X (OU vx X).1).2)))]
   (.F1 [.agg [.l 100 1 0 (XG bY.U vx bC X (OU vx X).1).1.Q.length,.l 101 1 0 (XG bY.U vx bC X (OU vx X).1).1.R.length],.l 102 1 0 (XG bY.U vx bC X (OU vx X).1).2.length]):=by
  rcases hX with rfl|rfl|rfl
  .exact AD bY vx (WR bY.U) bC [] (HU _ _ _) Nw Nw ⟨sM,fun i hi=>yr⟩ Nw Nw Nw (OU vx []).1 (OU vx []).2 Nw (by unfold Lc;decide+kernel) SE Nw rfl
  .exact AD bY vx (WR bY.U) bC IL (HU _ _ _) Nw Nw ⟨dM,Nw⟩ Nw Nw Nw (OU vx IL).1 (OU vx IL).2 Nw (by unfold Lc;decide+kernel) SE Nw rfl
  exact AD bY vx (WR bY.U) bC uw (HU _ _ _) Nw Nw ⟨dM,Nw⟩ Nw Nw Nw (OU vx uw).1 (OU vx uw).2 Nw (by unfold Lc;decide+kernel) SE Nw rfl
 unfold Gy xe;generalize XG bY.U vx bC X (OU vx X).1=r at*;obtain⟨⟨q1,q2⟩,mv⟩:=r;simp only at hs ⊢;refine mI hs ?_ ?_
 .exact uX
 exact uX
def sY(q:Pl):Prop:=q=vx\/q=Ol\/q=Yr
def Nq(X:List T3)(hX:X=[]\/X=IL\/X=uw):sY (Gy vx X):=by
 rcases hX with rfl|rfl|rfl
 .exact .inr (.inl (pl_ext Nw Nw))
 .exact .inl (pl_ext Nw Nw)
 exact .inr (.inr (pl_ext Nw Nw))
where pl_ext {p q:Pl} (h1:p.Q=q.Q) (h2:p.R=q.R):p=q:=by cases p;cases q;simp only at h1 h2;rw[h1,h2]
def Ca{q:Pl}(h:sY q):BP q:=by rcases h with rfl|rfl|rfl<;>exact⟨⟨dM,dM,dM,dM⟩,Nw⟩
def iJ{a b:Pl}(ha:sY a)(hb:sY b)(h:Pu (qN a)=Pu (qN b)):a=b:=by have h1:=QL (fun x hx=>((Ca ha).nn x hx).1) (fun x hx=>((Ca hb).nn x hx).1) h;rcases ha with rfl|rfl|rfl<;>rcases hb with rfl|rfl|rfl<;>first|rfl|(exfalso;revert h1;decide+kernel)
def bG:List iM:=[(0,Ol),(1,vx),(1,Yr)]
def bH:List iM:=[(1,Yr),(0,Ol),(1,vx)]
def ale(q:Pl)(h:q.Q.length<=1000):Sj bY q:=⟨dM,h,fun d hd=>absurd hd (nZ _)⟩
def asU:zz (fun r X=>Gy r X) (fun r=>Gf bY r [] 1 []) 1 bC [(0,vx)]=bG:=Nw
def aih:UB prog J9 21 [] [bY.av,(UZ.mk 1 (([(0,vx)]:List iM).map Z')).av,IS bC,.sl (YA []) false,.sl (b7 []) false] [] (.F1 [(UZ.mk 1 (bH.map Z')).av,I 0]):=by
 have BM:∀h∈([(0,vx)]:List iM),h=(0,vx):=fun h hh=>iT.1 hh;refine nB bY 1 [(0,vx)] bC [] [] cu Ju SE dM (fun h hh=>by rw[BM h hh];exact HU _ _ _) dM Nw rfl dM _ _ (.inr (.inr ⟨Nw,fun i hi=>absurd hi (nZ _),?_⟩));have Fw:∀X∈([]::ext KY ((1:Int)-0).toNat (eC bC vx) []),AH (eC bC vx) X:=fun X hX=>by
  rcases rX.1 hX with rfl|hX
  .exact AH.nil _
  exact mB (Ok:=AH (eC bC vx)) (F:=eC bC vx) (fun sm f h1 h2 h3 h4=>h1.snoc h2 h3 h4) dM (AH.nil _) (fun f hf=>hf) X hX
 refine vH (cp:=[[.sl (b7 []) false],[.sl (H4 bY.U) false,.sl (YA bY.D) false],[.sl (YA []) false],[I 1,.sl (wF (([(0,vx)]:List iM).map Z')) false]]) (Gd:=sY) (stp:=fun r X=>Gy r X) (cst:=fun r=>Gf bY r [] 1 []) [(0,vx)] dM (fun h hh=>?_) (fun h hh G' dJ CC=>?_) (fun h hh G' dJ CC=>?_) (fun q hq=>(Ca hq).ky) _ ?_
 .rw[BM h hh];exact WU bY _ vx bC ⟨dM,dM,dM,dM⟩ dM dM
 .rw[BM h hh];exact tH (Ok:=AH (eC bC vx)) (Gd:=sY) (F:=eC bC vx) (mv:=xe) (stp:=fun X=>Gy vx X) (cst:=fun r=>Gf bY r [] 1 []) (hp:=vx) (us:=0)
   (fun X hX=>air X (U1 hX))
   (fun X hX=>cd bY _ [] 1 (([(0,vx)]:List iM).map Z') [] (ale _ (Ca (Nq X (U1 hX))).ky.sl) rfl (fun i hi=>absurd hi (nZ _)) dM (fun d=>o7 _ _) dM)
   (fun q=>by have:=ag bY q [] 1 dM [];omega) (fun X hX=>Nq X (U1 hX)) (fun q=>Ca) (fun a b=>iJ) (fun sm f h1 h2 h3 h4=>h1.snoc h2 h3 h4) (MB _) dM
   1 [] (eC bC vx) G' rfl (AH.nil _) (fun f hf=>hf) (by rw[cI];decide) dJ CC
 .rw[BM h hh];exact⟨Y0 (Gd:=sY) (fun X hX=>Nq X (U1 (Fw X hX))) dJ,fZ _ _ _ _ _ CC⟩
 refine .inr (.inr ?_);rw[asU];exact⟨dM,dM,bH,Nw,Nw,rfl⟩
def ams:(pL bY Y2 0 1).2=0/\(pL bY Y2 0 1).1=vx:=Nw
def u6:wL (pn bY 0 1) [(0,Y2)]=[(0,vx)]:=Nw
def ak5:UB prog J9 32 [] [bY.av,(UZ.mk 1 (([(0,Y2)]:List iM).map Z')).av,I 0,I 1] [] (.F1 [(UZ.mk 1 (([(0,vx)]:List iM).map Z')).av,I 0]):=by
 have BM:∀h∈([(0,Y2)]:List iM),h=(0,Y2):=fun h hh=>iT.1 hh;have Wd:=SJ bY 1 [(0,Y2)] 0 1 (Gd:=sY) dM dM dM Nw dM (fun h hh=>by rw[BM h hh];exact HU _ _ _) (fun h hh he=>by
  rw[BM h hh];exact .inl ams.2) (fun q=>Ca) (fun a b=>iJ) ⟨1,([(0,vx)]:List iM).map Z'⟩ 0 (.inr ⟨by rw[show((0:Nat):Int)=0 from rfl,u6];decide,[(0,vx)],by rw[show((0:Nat):Int)=0 from rfl,u6],zx _ _,rfl,rfl⟩)
 exact Wd
def uQ:List T2:=[⟨0,0⟩,⟨0,1⟩,⟨0,2⟩]
def age:UB prog J9 39 [] [(UZ.mk 1 (bH.map Z')).av,I 1] [] (.sl (Gb uQ) false):=by
 have h3:tj 1 bH=[⟨0,2⟩,⟨0,1⟩,⟨0,0⟩]:=rfl;have hk:∀h∈bH,sY h.2:=fun h hh=>by
  unfold bH at hh;simp only[rX,AY,xN]at hh;rcases hh with rfl|rfl|rfl
  .exact .inr (.inr rfl)
  .exact .inr (.inl rfl)
  exact .inl rfl
 refine abN 1 bH 1 uQ dM (fun h hh=>(Ca (hk h hh)).ky) (fun h hh=>?_) (by rw[h3];simp) ?_ ?_
 .unfold vG;rcases hk h hh with e|e|e<;>rw[e]<;>decide+kernel
 .rw[h3];exact(List.Perm.swap _ _ _).trans (((List.Perm.swap _ _ _).cons _).trans (List.Perm.swap _ _ _))
 unfold uQ
 decide+kernel
open Go.Plant Go.Inf
def afc:UB prog J9 22 [] [] [] (B true):=by
 have x9:=arC;have Yf:=HP bY 1 cu Ju dM dM;have e0:MH bY=Y2:=Nw;rw[e0]at Yf;have Em:=ak5;have VV:=aih;have JW:=age;have QB:=fE [0,0,1] [0,0,1] dM;have d_:(wF (bH.map Z')).length=3:=rfl;have Q_:(wF (bH.map Z')).getD 0 .bad=(J'.mk 1 [[0,0,1],[]] [[],[]]).av:=rfl;have wO:(wF (bH.map Z')).getD 1 .bad=(J'.mk 0 [[0,1,0],[]] [[],[]]).av:=rfl;have AF:(Vu [[0,0,1],[]]).getD 0 .bad=IS [0,0,1]:=rfl;have s6:((Vu [[0,0,1],[]]).length)=2:=rfl;have By:uQ.length=3:=rfl;have UU:(Gb uQ).length=3:=rfl;have eb:(UZ.mk 1 [⟨0,Y2.Q,Y2.R⟩]).av=(UZ.mk 1 (([(0,Y2)]:List iM).map Z')).av:=rfl;rw[eb]at Yf;generalize (([(0,Y2)]:List iM).map Z')=h0 at*;generalize (([(0,vx)]:List iM).map Z')=h1 at*;generalize bH.map Z'=h2 at*;generalize uQ=l3 at*;generalize bY=y at*;unfold bS at x9;unfold bC at VV;refine MD func22 ntmps22 ?_;intro w e X hC;refine uZ ?_;refine VT x9 ?_;refine VT Yf ?_;refine VT Em ?_;refine VT VV ?_;refine uZ ?_;have d3:decide (((3:Nat):Int)=3)=true:=rfl;refine nF (uI @d_ (uI @Q_ (uI @wO (uI @UU (uI @d3 (uI @AF (uI @s6 (uI @ic @Bool.and_self)))))))) ?_;intro K hK;refine uH ?_;refine cP QB ?_;refine Qd ?_;refine cP JW ?_;refine Qd ?_;refine hK _ ?_;clear hK K;refine WE ?_;rw[show Tryz.f22.results.toList=[.tmp 0] from rfl];first|refine jW ?_|exact W5
 rw[By];rfl
open Go.Plant Go.Inf
section
variable{y:Ly}{p q:Pl}{L:List Int}
def Y9.YZ(h:Y9 y p L):(∀r∈p.Q,r.length<=1000)/\(∀r∈p.R,r.length<=1000):=by
 have hx:=h.fp.xl;have hs:=h.fp.sl;have hb:=h.fp.bl;refine⟨fun r hr=>?_,fun r hr=>?_⟩
 .obtain⟨i,hi,rfl⟩:=uV (d:=[]) hr;have h1:=h.fp.row i oM;have h2:=h.fp.ln i oM;omega
 obtain⟨i,hi,rfl⟩:=uV (d:=[]) hr;have h1:=h.fp.bin i oM;omega
def Y9.same(h:Y9 y p L):UB prog J9 23 [] [p.av,p.av] [] (B true):=by
 have hx:=h.fp.xl;have hs:=h.fp.sl;have hb:=h.fp.bl;have:=R2 p p oM oM (fun r hr=>by have:=h.YZ.1 r hr;omega) (fun r hr=>by have:=h.YZ.2 r hr;omega) oM oM
 rwa[dT ⟨rfl,rfl⟩]at this
end
open Go.Plant Go.Inf
def aba(p:Pl):UB prog J9 75 [] [p.av] [] (.F1 [I 0,B true]):=by refine MD func75 ntmps75 ?_;intro w e X hC;refine WE ?_;rw[show f75.results.toList=[.tmp 2,.tmp 3] from rfl];exact W5
def Lw(y:Ly)(Na:Int)(hs:List iM)(cs:List Int)(Nx:UQ y)(hv:NP y=0)(hr:Yt y.U)(jJ:hs.length<=1000)(NH:∀h∈hs,Zc y.U h.2)(iS:cs.length<=1000)(hex:∀n,n<y.U.length->(y.U.getD n default).ex.length<=500)(r:UZ)(er:Int)(ha:(Zk y.U cs []≠0/\r=⟨0,[]⟩/\er=Zk y.U cs [])\/(Zk y.U cs []=0/\UB prog J9 67 [] [.P (g_ y (WR y.U)),(UZ.mk Na (hs.map Z')).av,IS cs,.fn 75 []] [] (.F1 [r.av,I er]))):
  UB prog J9 28 [] [y.av,(UZ.mk Na (hs.map Z')).av,IS cs] [] (.F1 [r.av,I er]):=by
 have h1:=fO y Na hs Nx hv hr jJ NH;have h2:UB prog J9 66 [] [.P (g_ y (WR y.U)),IS cs,.sl [] false] [] (I (Zk y.U cs [])):=
  P2 y (WR y.U) cs [] Nx.n iS (zL _) hex
 obtain⟨rb,rl⟩:=r;generalize Zk y.U cs []=z at*;refine MD func28 ntmps28 ?_;intro w e X hC;refine BL ?_;refine Yi h1 ?_;refine uZ ?_;refine uF ?_;refine uR ?_;intro K hK;refine PD h2 ?_;refine hK _ ?_;clear hK K;refine C0 ?_ ?_<;>intro c0
 .obtain⟨_,h3,h4⟩:z≠0/\UZ.mk rb rl=⟨0,[]⟩/\er=z:=ha.elim id fun ha=>absurd ha.1 c0;cases h3
  subst h4;refine WE ?_;rw[show Tryz.f28.results.toList=[.cell 6 33,.tmp 7] from rfl];first|refine jW ?_|exact W5
  rfl
 have ha:=(ha.resolve_left fun h=>c0 h.1).2;refine uR ?_;refine Yi ha ?_;refine A_ ?_;rw[show Tryz.f28.results.toList=[.cell 6 33,.tmp 7] from rfl];exact W5
section
variable{A n:Nat}{y:Ly}{L:List Int}{Na:Int}{hs:List iM}{c:List Int}
def aeV(hg:Gj A n y)(hL:mK L)(hb:0<=Na/\Na<=2)(AS:∀h∈hs,Y9 y h.2 L)(cg:∀h∈hs,0<=h.1/\h.1<=Na)(jJ:hs.length<=1000)(hc:c.length=n)(hk:∀i,i<n->jo (y.U.getD i default) (c.getD i 0)=true)(G:List iM)(hG:zz (fun r X=>(ja y r c X).1) (fun _=>(0,true)) Na c hs=G)(r:UZ)(e:Int)(hr:(G=[]/\r=⟨0,[]⟩/\e=11)\/(40<G.length/\r=⟨0,[]⟩/\e=2)\/(G≠[]/\G.length<=40/\r=⟨Na,(Ss G).map Z'⟩/\e=0)):
  UB prog J9 28 [] [y.av,(UZ.mk Na (hs.map Z')).av,IS c] [] (.F1 [r.av,I e]):=by
 have hn:=hg.g.n11;have dW:=hg.g.len;refine Lw y Na hs c hg.oq hg.val hg.g.ex jJ (fun h hh=>(AS h hh).fp) oM hg.LR _ _ (.inr ⟨FO hg.g hc hk ⟨sM,sM⟩ (zL _),?_⟩);exact zW (cp:=[]) hg hL hb AS cg jJ hc hk (fun h hh X hX=>aba _) (fun q=>⟨MB _,dM⟩) G hG r e hr
end
def Uf(Na:Int)(hs:List iM){y:Ly}{L:List Int}(jJ:hs.length<=1000)(AS:∀h∈hs,Y9 y h.2 L):UB prog J9 26 [] [(UZ.mk Na (hs.map Z')).av,(UZ.mk Na (hs.map Z')).av] [] (B true):=by
 refine MD func26 ntmps26 ?_;intro w e X hC;have d0:decide (¬Na=Na)=false:=sM;have d1:decide (¬(hs.length:Int)=hs.length)=false:=sM;refine NL (uI @d0 @d1) ?_;refine EP ?_;refine AJ hs.length (fun q:Az=>⟨[(2,.p 102 1 0 0 0),(3,.p 103 2 0 0 0),(5,I q.2)],(103,some (2,.box [I Na,.sl (wF (hs.map Z')) false]))::(102,some (1,.box [I Na,.sl (wF (hs.map Z')) false]))::[],q.1⟩) (ch) ?_;intro ck i hi;refine C0 ?_ ?_<;>intro c
 .have PP:i<hs.length:=oM;have hg:=LA PP;have Nx:=(AS _ (Ug PP (0,⟨[],[]⟩))).same;generalize hs.getD i (0,⟨[],[]⟩)=x at*;obtain⟨hu,JW⟩:=x;simp only[Z']at hg Nx;have d2:decide (¬hu=hu)=false:=sM;refine zj (uI @hg @d2) ?_;refine R6 Nx ?_;refine UN ?_;exact nX (_,i+1) ch
 refine El ?_;refine WE ?_;rw[show Tryz.f26.results.toList=[.tmp 4] from rfl];exact W5
open Go.Plant Go.Inf
def kW{y:Ly}{p:Pl}{L:List Int}(h:Y9 y p L):UB prog J9 77 [] [p.av] [] p.av:=by
 have hs:=h.fp.sl;have hb:=h.fp.bl;have hx:=h.fp.xl;have hc:=H2 p oM oM (fun i hi=>h.YZ.1 _ (Ug hi _)) (fun i hi=>h.YZ.2 _ (Ug hi _));obtain⟨q1,q2⟩:=p;unfold qK pq at hc;simp only at hc ⊢;refine mI hc ?_ ?_
 .exact uX
 exact uX
def afU(Na:Int)(h1 h2:List iM){y:Ly}{LL:List Int}(IQ:h1.length<=400)(I5:h2.length<=400)(Fs:∀h∈h1++h2,Y9 y h.2 LL)(SX:∀q,Y9 y q LL->BP q)(sU:∀a b,Y9 y a LL->Y9 y b LL->Pu (qN a)=Pu (qN b)->a=b)(r:UZ)(e:Int)(hr:(40<((h1++h2).foldl Inf.Bb []).length/\r=⟨0,[]⟩/\e=2)\/((h1++h2).foldl Inf.Bb []≠[]/\((h1++h2).foldl Inf.Bb []).length<=40/\∃L:List iM,L.Perm ((h1++h2).foldl Inf.Bb [])/\(L.Pairwise fun a b=>W9 (qN a.2) (qN b.2)=true)/\r=⟨Na,L.map Z'⟩/\e=0)):
  UB prog J9 30 [] [(UZ.mk Na (h1.map Z')).av,(UZ.mk Na (h2.map Z')).av] [] (.F1 [r.av,I e]):=by
 have d0:decide (¬Na=Na)=false:=sM;generalize hT:(h1++h2).foldl Inf.Bb []=T at*;refine MD func30 ntmps30 ?_;intro w e X hC;refine zF @d0 ?_;refine wG 301 106 12 63 3 1 dM rfl rfl rfl ?_;refine uW ?_;refine PV (fun q:Nat×Nat×List iM=>⟨[(2,.p 102 1 0 0 0),(3,.p 103 2 0 0 0),(4,.p 104 3 0 0 0),(5,I 0),(6,.p 106 12 0 0 0),(23,.l 123 18 0 2),(24,I 2),(25,I q.2.1)],(106,some (12,.box [.Ic 117 10,.l 301 21 0 q.2.2.length]))::(117,some (10,.ms (jA 0 (q.2.2.map Z'))))::(301,some (21,.own 63 3 (wF (q.2.2.map Z'))))::(123,some (18,.own 31 1 [.sl (wF (h1.map Z')) false,.sl (wF (h2.map Z')) false]))::(104,some (3,.box [I 0,.sl [] true]))::(103,some (2,.box [I Na,.sl (wF (h2.map Z')) false]))::(102,some (1,.box [I Na,.sl (wF (h1.map Z')) false]))::[],q.1⟩)
  (fun q=>q.2.1<=2/\(if q.2.1=0 then h1++h2 else if q.2.1=1 then h2 else[]).foldl Inf.Bb q.2.2=T/\(∀x∈q.2.2,Y9 y x.2 LL)/\q.2.2.length<=q.2.1*400) (fun q=>2-q.2.1) (_,0,[]) ⟨zL _,hT,(fun x hx=>ZY),zL _⟩ (ch) ?_
 rintro⟨ck,i,G⟩ ⟨hi,Ik,QC,yK⟩;simp only at hi Ik QC yK;refine C0 ?_ ?_<;>intro c
 .obtain⟨hx,x7,xE,xM,hx2⟩:∃hx:List iM,[AV.sl (wF (h1.map Z')) false,AV.sl (wF (h2.map Z')) false].getD i .bad=.sl (wF (hx.map Z')) false/\hx.length<=400/\(∀h∈hx,Y9 y h.2 LL)/\(if i+1=1 then h2 else[]).foldl Inf.Bb (hx.foldl Inf.Bb G)=T:=by
   rcases(by omega:i=0\/i=1)with rfl|rfl
   .refine⟨h1,rfl,IQ,fun h hh=>Fs h (XI _ hh),?_⟩;rw[iP rfl,<-WS]
    rwa[iP rfl]at Ik
   refine⟨h2,rfl,I5,fun h hh=>Fs h (mO _ hh),?_⟩;rw[iN oM]
   rwa[iN oM,iP rfl]at Ik
  generalize hU:hx.foldl Inf.Bb G=U at*;refine LY @x7 ?_;refine PV (fun q:Nat×Nat×List iM=>⟨[(2,.p 102 1 0 0 0),(3,.p 103 2 0 0 0),(4,.p 104 3 0 0 0),(5,I 0),(6,.p 106 12 0 0 0),(23,.l 123 18 0 2),(24,I 2),(25,I i),(29,.sl (wF (hx.map Z')) false),(30,I hx.length),(31,I q.2.1)],(106,some (12,.box [.Ic 117 10,.l 301 21 0 q.2.2.length]))::(117,some (10,.ms (jA 0 (q.2.2.map Z'))))::(301,some (21,.own 63 3 (wF (q.2.2.map Z'))))::(123,some (18,.own 31 1 [.sl (wF (h1.map Z')) false,.sl (wF (h2.map Z')) false]))::(104,some (3,.box [I 0,.sl [] true]))::(103,some (2,.box [I Na,.sl (wF (h2.map Z')) false]))::(102,some (1,.box [I Na,.sl (wF (h1.map Z')) false]))::[],q.1⟩)
   (fun q=>q.2.1<=hx.length/\(hx.drop q.2.1).foldl Inf.Bb q.2.2=U/\(∀x∈q.2.2,Y9 y x.2 LL)/\q.2.2.length<=G.length+q.2.1) (fun q=>hx.length-q.2.1) (_,0,G) ⟨zL _,hU,QC,lR _⟩ (ch) ?_
  rintro⟨cj,j,W⟩ ⟨hj,hrj,hWg,aw⟩;simp only at hj hrj hWg aw;refine C0 ?_ ?_<;>intro c2
  .have PP:j<hx.length:=oM;have hg:=LA PP;have hm:hx.getD j (0,⟨[],[]⟩)∈hx:=Ug PP _;have eX:hx.drop j=hx.getD j (0,⟨[],[]⟩)::hx.drop (j+1):=by rw[Pv PP,gE,gG PP];rfl
   rw[eX,Xi]at hrj;have hpi:=xM _ hm;generalize hx.getD j (0,⟨[],[]⟩)=h at*;obtain⟨hu,JW⟩:=h;simp only[Z']at hg hpi hrj;have w1:=kW hpi;have w2:=Oh JW hu W (SX _ hpi) (fun x hx e=>sU _ _ (hWg x hx) hpi e) oM;have hNg:∀x∈Inf.Bb W (hu,JW),Y9 y x.2 LL:=fun x hx=>by
    rcases bu hx with e|⟨z,hz,e⟩
    .rw[e];exact hpi
    rw[<-e];exact hWg z hz
   have hNl:=wQ W (hu,JW);unfold UO at w2;generalize Inf.Bb W (hu,JW)=N at*;refine aH @hg ?_;refine uD ?_;intro K hK;refine uH ?_;refine cP w1 ?_;refine Qd ?_;refine PZ [(0,0,106,12),(1,0,117,10),(2,0,301,21)] [(106,12,0,0),(117,10,1,0),(301,21,2,0)] false (w2) iw iw p6 p6 p6 p6 p6 p6 p6 p6 p6 p6 p6 p6 p6 p6 p6 ?_;refine x8 ?_;refine hK _ ?_;clear hK K;refine uZ ?_;refine⟨(_,j+1,N),⟨uO,hrj,hNg,uO⟩,uO,ch⟩
  refine El ?_;have jF:j=hx.length:=oM;rw[jF,wz,LJ]at hrj;subst hrj;refine uZ ?_;refine⟨(_,i+1,W),⟨uO,?_,hWg,uO⟩,uO,ch⟩;simp only;rw[iN oM];exact hx2
 refine El ?_;have Wd:i=2:=oM;subst Wd;rw[iN oM,iN oM,LJ]at Ik;subst Ik;rcases hr with ⟨h40,rfl,rfl⟩|⟨SO,hle,L,dU,Qy,rfl,rfl⟩
 .have d4:=oN ((40:Int)<G.length);refine N5 @d4 ?_;rw[show f30.results.toList=[.cell 4 33,.tmp 5] from rfl];first|refine jW ?_|exact W5
  rfl
 have d4:=Vj ((40:Int)<G.length);refine NL @d4 ?_;have wb:=OE Na (G.map Z') (L.map Z') (by simpa using SO) (fun x hx=>by
  obtain⟨z,hz,rfl⟩:=A2.1 hx;exact(SX _ (QC z hz)).ky) xF (dU.map _) H_
 have Y7:L.length=G.length:=dU.length_eq;unfold UO at wb;refine uR ?_;intro K hK;refine uH ?_;refine PZ [(0,0,106,12),(1,0,117,10),(2,0,301,21)] [(106,12,0,0),(117,10,1,0),(301,21,2,0)] false (wb) iw iw p6 p6 p6 p6 p6 p6 p6 p6 p6 p6 p6 p6 p6 p6 p6 ?_;refine x8 ?_;refine hK _ ?_;clear hK K;refine A_ ?_;rw[show f30.results.toList=[.cell 4 33,.tmp 5] from rfl];exact W5
open Go.Plant Go.Inf
def dy(x:T3):Prop:=(0<=x.a/\x.a<=9)/\(1<=x.b/\x.b<=999)/\(0<=x.c/\x.c<=999999)
theorem H6{l:List Int}{c:Int}(hc:0<=c/\c<3){a:Nat}:∀i,i<=40->∀x∈Gu l c a i,dy x
 |0,_=>fun x hx=>ZY|i+1,hi=>fun x hx=>by
  rcases ym.1 hx with hx|hx
  .exact H6 hc i oM x hx
  rw[iT.1 hx];have h2:=G0 (l:=l) (a:=a+i) (n:=2) dM;refine⟨⟨sM,sM⟩,⟨uO,uO⟩,?_,?_⟩
  .simp only;rcases(by omega:gN l (a+i) 2=0\/gN l (a+i) 2=1)with e|e<;>rw[e]<;>omega
  simp only;rcases(by omega:gN l (a+i) 2=0\/gN l (a+i) 2=1)with e|e<;>rw[e]<;>omega
def aeG{o:List T3}(h:∀x∈o,dy x){i j:Nat}(hi:i<40)(Ut:i<o.length):∀x∈At o i j,dy x:=fun x hx=>by
 unfold At at hx;split at hx
 .rcases List.mem_or_eq_of_mem_set hx with hx|hx
  .exact h x hx
  have:=h _ (Ug Ut default);rw[hx];exact⟨⟨sM,sM⟩,this.2.1,uO,uO⟩
 exact h x hx
theorem FI{o:List T3}(h:∀x∈o,dy x){i:Nat}(hi:i<40)(Ut:i<o.length):∀j,∀x∈R_ o i j,dy x
 |0=>h|j+1=>by rw[R_];exact aeG (FI h hi Ut j) hi (by rw[iW];exact Ut)
theorem cT{o:List T3}(h:∀x∈o,dy x)(hl:o.length=40):∀i,i<=40->∀x∈jy o i,dy x
 |0,_=>h|i+1,hi=>by rw[jy];exact FI (cT h hl i oM) oM (by rw[Qr];omega) _
def aiK(l:List Int)(a:Nat):∀x∈oL l a,dy x:=by have hc:=G0 (l:=l) (a:=a) (n:=3) dM;unfold oL;exact cT (H6 hc 40 (lR _)) (V_ _ _ _ _) 40 (lR _)
def T4{pl:List T3}(h:∀x∈pl,dy x){b:Int}(hb:1<=b/\b<=pl.length):(YR pl b).length=10:=by
 unfold YR;rw[iP hb];obtain⟨h1,h2,h3⟩:=h _ (Ug (show(b-1).toNat<pl.length by omega) default);unfold Go.Scr.Aq.fmt;rw[iP]
 .exact Go.Scr.l_ _ _
 unfold Go.Scr.Aq.ok mg;exact dT ⟨h1.1,h1.2,h2.1,h2.2,h3.1,h3.2⟩
def Qj{y:Ly}(h:AM y.U y.D=0){d:Nat}(hd:d<y.D.length):qt y d=1\/qt y d=2:=by
 have wE:rG y.U (y.D.getD d default)=0:=by
  unfold AM at h;split at h
  .rename_i x hf;have:=List.find?_some hf;simp[h]at this
  rename_i hf;rw[iq]at hf;have:=hf _ (ka (d:=default) hd);simpa using this
 unfold rG at wE;split at wE
 .cases wE
 unfold qt;omega
open Go.Plant Go.Inf
section
variable(l:List Int)(y:Ly)(Na:Int)(pl:List T3)
def Iv(s:St):List iM:=DI y Na pl (gC l s.a y.U).1 (ja y s.p (gC l s.a y.U).1 []).1 s.hs
def KG(s:St×Bool):St×Bool:=if s.2=true then s else if(Iv l y Na pl s.1).length<=40 then(tP l y Na pl s.1,false) else(⟨(gC l s.1.a y.U).2,s.1.hs,s.1.p,s.1.L⟩,true)
def ny(s:St×Bool):Nat->St×Bool
 |0=>s|k+1=>KG l y Na pl (ny s k)
def qm(i:Int)(s:St×Bool):St×Bool:=if s.2=true then s else(EM y i s.1,false)
def Hn(i:Int)(s:St×Bool):St×Bool:=if s.2=true then s else qm y i (ny l y Na pl (⟨s.1.a+1,s.1.hs,s.1.p,s.1.L⟩,false) (gR l s.1.a 0 2).toNat)
def pV(a:Nat):Nat->St×Bool
 |0=>(s0 y a,false)|i+1=>Hn l y Na pl (i+1:Nat) (pV a i)
end
section
variable{l:List Int}{y:Ly}{Na:Int}{pl:List T3}
theorem D_{s:St×Bool}{j:Nat}(h:(ny l y Na pl s j).2=true):∀d,ny l y Na pl s (j+d)=ny l y Na pl s j
 |0=>rfl|d+1=>by show KG l y Na pl (ny l y Na pl s (j+d))=_;rw[D_ h d,KG,iP h]
theorem Vl{a j:Nat}(h:(pV l y Na pl a j).2=true):∀d,pV l y Na pl a (j+d)=pV l y Na pl a j
 |0=>rfl|d+1=>by show Hn l y Na pl _ (pV l y Na pl a (j+d))=_;rw[Vl h d,Hn,iP h]
def ars{a i j k m:Nat}{s w:St}(h1:pV l y Na pl a i=(s,false))(hk:(gR l s.a 0 2).toNat=k)(h2:ny l y Na pl (⟨s.a+1,s.hs,s.p,s.L⟩,false) j=(w,true))(hj:j<=k)(hm:i+1<=m):pV l y Na pl a m=(w,true):=by
 have e1:=D_ (by rw[h2]) (k-j);rw[show j+(k-j)=k by omega,h2]at e1;have e2:pV l y Na pl a (i+1)=(w,true):=by rw[pV,h1,Hn,iN sM];simp only;rw[hk,e1,qm,iP rfl]
 have e3:=Vl (by rw[e2]) (m-(i+1))
 rwa[show i+1+(m-(i+1))=m by omega,e2]at e3
def amV{a i k:Nat}{s t:St}(h1:pV l y Na pl a i=(s,false))(hk:(gR l s.a 0 2).toNat=k)(h2:ny l y Na pl (⟨s.a+1,s.hs,s.p,s.L⟩,false) k=(t,false)):pV l y Na pl a (i+1)=(EM y (i+1:Nat) t,false):=by rw[pV,h1,Hn,iN sM];simp only;rw[hk,h2,qm,iN sM]
structure SZ(y:Ly)(Na:Int)(i:Nat)(s:St):Prop where
 sf:mK s.L
 len:s.L.length<=i
 lt:∀b∈s.L,b<=i
 cb:CB Na y s.L s.hs s.p 0
variable{A n:Nat}
def SZ.new(hg:Gj A n y)(hb:0<=Na)(a:Nat):SZ y Na 0 (s0 y a):=
 ⟨⟨.nil,fun b hb=>(by cases hb),zL _⟩,lR _,fun b hb=>(by cases hb),CB.new hg hb⟩
def SZ.tick(hg:Gj A n y)(hb:0<=Na/\Na<=2){i:Nat}{s:St}(h:SZ y Na i s)(hl:(Iv l y Na pl s).length<=40):Iv l y Na pl s≠[]/\SZ y Na i (tP l y Na pl s):=by obtain⟨h1,h2⟩:=x_ hg.g l s.a;have hc:=abO y (ja y s.p (gC l s.a y.U).1 []).1 pl Na hb.1;obtain⟨g1,g2⟩:=h.cb.tick hg h.sf hb h1 h2 pl (X:=[]) ⟨sM,sM⟩ (zL _) (rs:=Ai y (ja y s.p (gC l s.a y.U).1 []).1 pl) (w:=0) ⟨by rw[hc],by rw[hc];exact MB _⟩ ZV hl;exact⟨g1,h.sf,h.len,h.lt,g2⟩
def SZ.enter(hg:Gj A n y){i:Nat}(hi:i<=3){s:St}(h:SZ y Na i s)(he:(pL y s.p 0 (i+1:Nat)).2=0):
  wL (pn y 0 (i+1:Nat)) s.hs≠[]/\mK ((i+1:Nat)::s.L)/\CB Na y ((i+1:Nat)::s.L) (Ss (wL (pn y 0 (i+1:Nat)) s.hs)) (pL y s.p 0 (i+1:Nat)).1 0:=by
 have hl:=h.len;have hL:mK (((i+1:Nat):Int)::s.L):=⟨TV.2 ⟨fun hm=>by have:=h.lt _ hm;omega,h.sf.nd⟩,fun b hb=>by
  rcases rX.1 hb with rfl|hb
  ·omega
  exact h.sf.pos b hb,by rw[dO];omega⟩
 obtain⟨g1,g2⟩:=h.cb.enter hg hL he;exact⟨g1,hL,g2⟩
def SZ.aqF(hg:Gj A n y)(hb:0<=Na/\Na<=2){i:Nat}{s:St×Bool}(h:SZ y Na i s.1):SZ y Na i (KG l y Na pl s).1:=by
 unfold KG;split
 .exact h
 split
 .rename_i hl;exact(h.tick hg hb hl).2
 exact⟨h.sf,h.len,h.lt,h.cb⟩
theorem SZ.aaq(hg:Gj A n y)(hb:0<=Na/\Na<=2){i:Nat}{s:St×Bool}(h:SZ y Na i s.1):∀k,SZ y Na i (ny l y Na pl s k).1
 |0=>h|k+1=>SZ.aqF hg hb (SZ.aaq hg hb h k)
def SZ.up{i j:Nat}{s:St}(h:SZ y Na i s)(U7:i<=j):SZ y Na j s:=⟨h.sf,by have:=h.len;omega,fun b hb=>by have:=h.lt b hb;omega,h.cb⟩
def SZ.Nt(hg:Gj A n y){i:Nat}(hi:i<=3){s:St}(h:SZ y Na i s):SZ y Na (i+1) (EM y (i+1:Nat) s):=by
 unfold EM;by_cases c:(pL y s.p 0 (i+1:Nat)).2=0
 .rw[iP c];obtain⟨g1,g2,g3⟩:=h.enter hg hi c;refine⟨g2,?_,fun b hb=>?_,g3⟩
  .have:=h.len;simp only[dO];omega
  rcases rX.1 hb with rfl|hb
  .omega
  have:=h.lt b hb;omega
 rw[iN c];exact h.up (ug _)
theorem SZ.run(hg:Gj A n y)(hb:0<=Na/\Na<=2)(a:Nat):∀i,i<=4->SZ y Na i (pV l y Na pl a i).1
 |0,_=>SZ.new hg hb.1 a|i+1,hi=>by
  have ih:=SZ.run hg hb a i oM;rw[pV,Hn];split
  .exact ih.up (ug _)
  have ht:=SZ.aaq (l:=l) (pl:=pl) hg hb (s:=(⟨(pV l y Na pl a i).1.a+1,(pV l y Na pl a i).1.hs,(pV l y Na pl a i).1.p,(pV l y Na pl a i).1.L⟩,false)) ⟨ih.sf,ih.len,ih.lt,ih.cb⟩ (gR l (pV l y Na pl a i).1.a 0 2).toNat;unfold qm;split
  .exact ht.up (ug _)
  exact ht.Nt hg oM
end
open Go.Plant Go.Inf
def rt(X:List iM):y9 X (X.foldl Inf.Bb []):=by
 have:=SD (Y:=X) (y9.nil (P:=Pl))
 rwa[fj]at this
section
variable{stp:Pl->List T3->Pl}{cst:Pl->Int×Bool}{Na:Int}{cs:List Int}{hs:List iM}
end
section
variable{A n:Nat}{y:Ly}{L:List Int}{Na:Int}{hs:List iM}{c:List Int}{cst:Pl->Int×Bool}
end
open Go.Plant Go.Inf
def hZ:iM:=(0,⟨[],[]⟩)
def apY(p q:Pl):decide (p.Q=q.Q/\p.R=q.R)=decide (p=q):=by rw[decide_eq_decide];obtain⟨a,b⟩:=p;obtain⟨c,d⟩:=q;exact⟨fun h=>by simp only at h;rw[h.1,h.2],fun h=>by rw[h];exact⟨rfl,rfl⟩⟩
section
variable{y:Ly}{L L2:List Int}
def Y9.anD{p q:Pl}(h:Y9 y p L)(h':Y9 y q L2):UB prog J9 23 [] [p.av,q.av] [] (B (decide (p=q))):=by
 have hx:=h.fp.xl;have hs:=h.fp.sl;have hb:=h.fp.bl;have hs':=h'.fp.sl;have C6:=h'.fp.bl;have:=R2 p q oM oM (fun r hr=>by have:=h.YZ.1 r hr;omega) (fun r hr=>by have:=h.YZ.2 r hr;omega) oM oM
 rwa[apY]at this
end
open Go.Plant Go.Inf
def agY{a b:List Int}{i:Nat}(h1:i<a.length)(h2:i<b.length):W9 (a.drop i) (b.drop i)=if a.getD i 0=b.getD i 0 then W9 (a.drop (i+1)) (b.drop (i+1)) else decide (a.getD i 0<b.getD i 0):=by rw[Pv h1,Pv h2,W9,gE,gG h1,gE,gG h2];rfl
def Ls{a b:List Int}{i:Nat}(h1:i<=a.length)(h2:i<=b.length)(h:i=a.length\/i=b.length):W9 (a.drop i) (b.drop i)=decide ((a.length:Int)<b.length):=by
 rcases h with rfl|rfl
 .rw[wz];cases hb:b.drop a.length with
  |nil=>have:=rD List.length hb;rw[DT,N9]at this;rw[W9,dF oM]|cons x t=>have:=rD List.length hb;rw[DT,dO]at this;rw[W9,dT oM]
 rw[wz,am,dF oM]
def ap3(p q:Pl)(hp:Gm p)(hq:Gm q):UB prog J9 139 [] [p.av,q.av] [] (B (W9 (qN p) (qN q))):=by
 have f1:=u' p hp;have f2:=u' q hq;have l1:=Hx p hp;have l2:=Hx q hq;generalize qN p=a at*;generalize qN q=b at*;refine MD func139 ntmps139 ?_;intro w e X hC;refine uZ ?_;refine uE ?_;intro K hK;refine uH ?_;refine cP f1 ?_;refine Qd ?_;refine cP f2 ?_;refine Qd ?_;refine hK _ ?_;clear hK K;refine EP ?_;refine R7 a.length (fun i:Az=>⟨[(5,IS a),(6,IS b),(7,I i.2)],[],i.1⟩) (fun i=>i.2<=b.length/\W9 a b=W9 (a.drop i.2) (b.drop i.2)) ⟨zL _,sM⟩ (ch) ?_;rintro ck i hi ⟨pU,oh⟩;simp only at pU oh;by_cases c1:i<a.length
 .have d1:=oN ((i:Int)<(a.length:Int));have g1:=ma c1;by_cases c2:i<b.length
  .have d2:=oN ((i:Int)<(b.length:Int));have g2:=ma c2;have VV:=agY c1 c2;rw[<-oh]at VV;generalize a.getD i 0=x at*;generalize b.getD i 0=z at*;by_cases e1:x=z
   .rw[iP e1]at VV;have d3:decide (¬x=z)=false:=by simpa using e1
    refine K6 (uI @d1 @d2) ?_;refine mb (uI @g1 (uI @g2 @d3)) ?_;refine UN ?_;refine⟨(_,i+1),⟨uO,uO,VV⟩,uO,ch⟩
   rw[iN e1]at VV;have d3:decide (¬x=z)=true:=by simpa using e1
   rw[VV];refine K6 (uI @d1 @d2) ?_;refine mb (uI @g1 (uI @g2 @d3)) ?_;refine uT ?_;refine mb (uI @g1 @g2) ?_;exact uP
  have d2:=Vj ((i:Int)<(b.length:Int));rw[oh,Ls hi pU (.inr oM)];refine NL (uI @d1 @d2) ?_;refine El ?_;exact Et
 have d1:=Vj ((i:Int)<(a.length:Int));rw[oh,Ls hi pU (.inl oM)];refine NL @d1 ?_;refine El ?_;exact Et
open Go.Plant Go.Inf
theorem ajx{l:List iM}{h:iM}{i:Nat}(hi:i<=l.length)(h1:∀j,j<i->W9 (qN (l.getD j hZ).2) (qN h.2)=true)(h2:i<l.length->W9 (qN (l.getD i hZ).2) (qN h.2)=false):
  pe qN l h=l.take i++(if i<l.length/\(l.getD i hZ).2=h.2 then(min h.1 (l.getD i hZ).1,h.2)::l.drop (i+1) else h::l.drop i):=by
 induction l generalizing i with
 |nil=>have:i=0:=Ks;subst this;rw[iN sM];rfl|cons x t ih=>
  rw[pe];cases i with
  |zero=>
   have h3:=h2 sM;rw[Ek]at h3;rw[iN (by rw[h3];simp),Ek];by_cases c:x.2=h.2
   .rw[iP c,iP ⟨sM,c⟩];rfl
   rw[iN c,iN (fun e=>c e.2)];rfl
  |succ i=>have h3:=h1 0 oM;rw[Ek]at h3;rw[iP h3,ih Ks (fun j hj=>by have:=h1 (j+1) oM;rwa[VG]at this) (fun hl=>by have:=h2 w9;rwa[VG]at this)];rw[VG,dS,dR,dR];simp only[dO,Nat.add_lt_add_iff_right,Mb]
def Bd(a b:List J'):wF a++wF b=wF (a++b):=by simp[wF]
def asp{l:List iM}{i:Nat}(h:i<=l.length):∃T,(l.take i).map Z'=T/\T.length=i/\(wF (l.map Z')).take i=wF T:=⟨_,rfl,xF,by rw[aq4,List.map_take]⟩
def v7(l:List iM)(i:Nat):∃D,(l.drop i).map Z'=D/\D.length=l.length - i/\(wF (l.map Z')).drop i=wF D:=⟨_,rfl,sM,by rw[aoV,List.map_drop]⟩
def Lh(l:List iM)(h:iM){y:Ly}{L:List Int}(hl:l.length<=1000000000000)(AS:∀x∈l,Y9 y x.2 L)(hh:Y9 y h.2 L)(hn:y.U.length<=11):UB prog J9 79 [] [.sl (wF (l.map Z')) false,(Z' h).av] [] (.sl (wF ((pe qN l h).map Z')) false):=by
 have hk:=hh.QW hn;obtain⟨hu,JW⟩:=h;have hex:=fun i=>ajx (l:=l) (h:=(hu,JW)) (i:=i);refine MD func79 ntmps79 ?_;intro w e X hC;simp only[Z'];refine EP ?_;refine R7 l.length (fun i:Az=>⟨[(0,.sl (wF (l.map Z')) false),(3,.p 103 1 0 0 0),(5,I i.2)],(103,some (1,.box [I hu,RS JW.Q,RS JW.R]))::[],i.1⟩) (fun i=>∀j,j<i.2->W9 (qN (l.getD j hZ).2) (qN JW)=true) (fun j hj=>absurd hj (nZ _)) (ch) ?_;intro ck i hi hj;simp only at hj;have hex:=hex i hi hj;obtain⟨T,hT,Ny,gT⟩:=asp hi;obtain⟨D,hD,hDl,gD⟩:=v7 l i;by_cases c1:i<l.length
 .have d1:=oN ((i:Int)<(l.length:Int));have g1:=LA c1;have hp:=AS _ (Ug c1 hZ);have Z9:=ap3 _ _ (hp.QW hn) hk;have Nx:=hp.anD hh;have AA:W9 (qN (l.getD i hZ).2) (qN JW)=true->∀j,j<i+1->W9 (qN (l.getD j hZ).2) (qN JW)=true:=fun e j tw=>by
   by_cases ZJ:j=i
   .subst ZJ;exact e
   exact hj j oM
  unfold hZ at*;generalize l.getD i (0,⟨[],[]⟩)=x at*;obtain⟨xu,xp⟩:=x;simp only[Z']at g1 Z9 Nx hex AA;cases c2:W9 (qN xp) (qN JW)with
  |true=>rw[c2]at Z9;refine zj (uI @g1 @d1) ?_;refine R6 Z9 ?_;refine WM ?_;refine⟨(_,i+1),⟨uO,AA c2⟩,uO,ch⟩|false=>
   rw[c2]at Z9;have hex:=hex fun _=>c2;refine zj (uI @g1 @d1) ?_;refine R6 Z9 ?_;refine uF ?_;refine El ?_;by_cases c3:xp=JW
   .rw[iP ⟨c1,c3⟩]at hex;rw[dT c3]at Nx;obtain⟨D,hD,hDl,gD⟩:=v7 l (i+1);have hex:=rD (List.map Z') hex;rw[Mx,b_,hT,hD]at hex;rw[hex];refine aH (uI @o8 (uI @gT @Ny)) ?_;refine zj (uI @g1 @d1) ?_;refine R6 Nx ?_;refine uT ?_;have ahy:(if xu<hu then xu else hu)=min hu xu:=by rw[Int.min_def];split<;>split<;>omega
    refine Va (uI @g1 @ahy) ?_;have e1:((i:Int)+1).toNat=i+1:=oM;refine Ew (uI @gD (uI @Bd @e1)) ?_;subst Ny;refine uJ ?_;try rfl
    first|refine Z6 @Z5.{0} ?_|exact an @Z5.{0}
    rfl
   rw[iN fun e=>c3 e.2]at hex;rw[dF c3]at Nx;have hex:=rD (List.map Z') hex;rw[Mx,b_,hT,hD]at hex;rw[hex];refine aH (uI @o8 (uI @gT @Ny)) ?_;refine zj (uI @g1 @d1) ?_;refine R6 Nx ?_;refine uF ?_;refine Ew (uI @gD @Bd) ?_;subst Ny;refine uJ ?_;try rfl
   first|refine Z6 @Z5.{0} ?_|exact an @Z5.{0}
   rfl
 have d1:=Vj ((i:Int)<(l.length:Int));have hex:=hex fun h=>absurd h c1;rw[iN fun e=>c1 e.1]at hex;have hex:=rD (List.map Z') hex;rw[Mx,b_,hT,hD]at hex;rw[hex];refine mb @d1 ?_;refine uF ?_;refine El ?_;refine aH (uI @o8 (uI @gT @Ny)) ?_;refine mb @d1 ?_;refine uF ?_;refine Ew (uI @gD @Bd) ?_;subst Ny;refine uJ ?_;try rfl
 first|refine Z6 @Z5.{0} ?_|exact an @Z5.{0}
 rfl
open Go.Plant Go.Inf
def iA(Na:Int)(l:List iM):UZ×Int:=if l.length=0 then(⟨0,[]⟩,11) else if 40<l.length then(⟨0,[]⟩,2) else(⟨Na,l.map Z'⟩,0)
def BU(Na:Int)(l:List iM)(hl:l.length<=1000000000000):UB prog J9 83 [] [(UZ.mk Na (l.map Z')).av] [] (.F1 [(iA Na l).1.av,I (iA Na l).2]):=by
 unfold iA;by_cases c:l.length=0
 .rw[iP c];have d:=oN ((l.length:Int)=0);refine MD func83 ntmps83 ?_;intro w e X hC;refine N5 @d ?_;rw[show f83.results.toList=[.cell 2 33,.tmp 3] from rfl];first|refine jW ?_|exact W5
  rfl
 rw[iN c];have d:=Vj ((l.length:Int)=0);by_cases c2:40<l.length
 .rw[iP c2];have d2:=oN ((40:Int)<l.length);refine MD func83 ntmps83 ?_;intro w e X hC;refine NL @d ?_;refine N5 @d2 ?_;rw[show f83.results.toList=[.cell 2 33,.tmp 3] from rfl];first|refine jW ?_|exact W5
  rfl
 rw[iN c2];have d2:=Vj ((40:Int)<l.length);refine MD func83 ntmps83 ?_;intro w e X hC;refine NL @d ?_;refine zF @d2 ?_;refine A_ ?_;rw[show f83.results.toList=[.cell 2 33,.tmp 3] from rfl];exact W5
open Go.Plant Go.Inf
theorem Vm(l:List iM)(h:iM):(pe qN l h).length<=l.length+1:=by
 induction l with
 |nil=>exact lR _|cons x t ih=>
  rw[pe];split
  .simp only[dO];omega
  split<;>simp only[dO]<;>omega
theorem HM(X l:List iM):(X.foldl (pe qN) l).length<=l.length+X.length:=by
 induction X generalizing l with
 |nil=>exact lR _|cons x t ih=>have h1:=ih (pe qN l x);have h2:=Vm l x;simp only[Xi,dO];omega
theorem mw{Gd:Pl->Prop}{X l:List iM}(h1:∀x∈l,Gd x.2)(h2:∀x∈X,Gd x.2):∀x∈X.foldl (pe qN) l,Gd x.2:=by
 induction X generalizing l with
 |nil=>exact h1|cons x t ih=>
  refine ih (fun z hz=>?_) fun z hz=>h2 z (mC _ hz);rcases ib qN hz with e|⟨w,hw,e⟩
  .rw[e];exact h2 x mS
  rw[<-e];exact h1 w hw
def F6{X:List iM}{i:Nat}(h:i<X.length)(l:List iM):(X.take (i+1)).foldl (pe qN) l=pe qN ((X.take i).foldl (pe qN) l) (X.getD i (0,⟨[],[]⟩)):=by rw[Pq h (0,⟨[],[]⟩),WS];rfl
def KL(Na:Int)(l:List iM):UZ×Int:=if 40<l.length then(⟨0,[]⟩,2) else(⟨Na,l.map Z'⟩,0)
def asx(b1 b2:Int)(h1 h2:List iM)(h:b1≠b2):UB prog J9 31 [] [(UZ.mk b1 (h1.map Z')).av,(UZ.mk b2 (h2.map Z')).av] [] (.F1 [ZM,I 7]):=by
 have d0:decide (¬b1=b2)=true:=A6;refine MD func31 ntmps31 ?_;intro w e X hC;refine N5 @d0 ?_;rw[show f31.results.toList=[.cell 4 33,.tmp 5] from rfl];first|refine jW ?_|exact W5
 rfl
def aio(Na:Int)(h1 h2:List iM){y:Ly}{L:List Int}(hn:y.U.length<=11)(IQ:h1.length<=400)(I5:h2.length<=400)(RY:∀h∈h1,Y9 y h.2 L)(qh:∀h∈h2,Y9 y h.2 L):
  UB prog J9 31 [] [(UZ.mk Na (h1.map Z')).av,(UZ.mk Na (h2.map Z')).av] [] (.F1 [(KL Na ((h1++h2).foldl (pe qN) [])).1.av,I (KL Na ((h1++h2).foldl (pe qN) [])).2]):=by
 have d0:decide (¬Na=Na)=false:=sM;rw[WS];refine MD func31 ntmps31 ?_;intro w e X hC;refine NL @d0 ?_;refine EP ?_;refine AJ h1.length (fun q:Az=>⟨[(2,.p 102 1 0 0 0),(3,.p 103 2 0 0 0),(4,.p 104 3 0 0 0),(6,.p 106 13 0 0 0),(7,I q.2)],(106,some (13,.box [I Na,.sl (wF (((h1.take q.2).foldl (pe qN) []).map Z')) false]))::(104,some (3,.box [I 0,.sl [] true]))::(103,some (2,.box [I Na,.sl (wF (h2.map Z')) false]))::(102,some (1,.box [I Na,.sl (wF (h1.map Z')) false]))::[],q.1⟩) (ch) ?_;intro ck i hi;have hRl:=HM (h1.take i) [];rw[Hh,N9]at hRl;have rI:=mw (Gd:=fun q=>Y9 y q L) (l:=[]) (X:=h1.take i) (fun x hx=>ZY) fun x hx=>RY x (Cz hx);refine C0 ?_ ?_<;>intro c
 .have PP:i<h1.length:=oM;have g1:=LA PP;have hs:=F6 PP [];have hp:=RY _ (Ug PP (0,⟨[],[]⟩));generalize h1.getD i (0,⟨[],[]⟩)=x at*;generalize (h1.take i).foldl (pe qN) []=R at*;have wa:=Lh R x oM rI hp hn;obtain⟨xu,xp⟩:=x;rw[<-hs]at wa;simp only[Z']at g1 wa;refine Dp @g1 ?_;refine Yi wa ?_;refine uZ ?_;exact nX (_,i+1) ch
 refine El ?_;have Wd:i=h1.length:=oM;subst Wd;rw[Sy]at hRl rI ⊢;have EB:(h1.foldl (pe qN) []).length<=400:=oM;clear hRl c;generalize h1.foldl (pe qN) []=A at*;refine EP ?_;refine AJ h2.length (fun q:Az=>⟨[(2,.p 102 1 0 0 0),(3,.p 103 2 0 0 0),(4,.p 104 3 0 0 0),(6,.p 106 13 0 0 0),(8,I q.2)],(106,some (13,.box [I Na,.sl (wF (((h2.take q.2).foldl (pe qN) A).map Z')) false]))::(104,some (3,.box [I 0,.sl [] true]))::(103,some (2,.box [I Na,.sl (wF (h2.map Z')) false]))::(102,some (1,.box [I Na,.sl (wF (h1.map Z')) false]))::[],q.1⟩) (ch) ?_;intro ck i hi;have hRl:=HM (h2.take i) A;rw[Hh]at hRl;have ac7:=mw (Gd:=fun q=>Y9 y q L) (l:=A) (X:=h2.take i) rI fun x hx=>qh x (Cz hx);refine C0 ?_ ?_<;>intro c
 .have PP:i<h2.length:=oM;have g1:=LA PP;have hs:=F6 PP A;have hp:=qh _ (Ug PP (0,⟨[],[]⟩));generalize h2.getD i (0,⟨[],[]⟩)=x at*;generalize (h2.take i).foldl (pe qN) A=R at*;have wa:=Lh R x oM ac7 hp hn;obtain⟨xu,xp⟩:=x;rw[<-hs]at wa;simp only[Z']at g1 wa;refine Dp @g1 ?_;refine Yi wa ?_;refine uZ ?_;exact nX (_,i+1) ch
 refine El ?_;have Wd:i=h2.length:=oM;subst Wd;rw[Sy]at hRl ⊢;generalize h2.foldl (pe qN) A=B at*;unfold KL;by_cases c3:40<B.length
 .rw[iP c3];have d:=oN ((40:Int)<B.length);refine N5 @d ?_;rw[show f31.results.toList=[.cell 4 33,.tmp 5] from rfl];first|refine jW ?_|exact W5
  rfl
 rw[iN c3];have d:=Vj ((40:Int)<B.length);refine zF @d ?_;refine A_ ?_;rw[show f31.results.toList=[.cell 4 33,.tmp 5] from rfl];exact W5
end Go.Proofs.YtfcgkbinohibcaaGreatDoor
