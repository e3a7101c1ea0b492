/- Lemmas towards inferBudgets_card: no conditions of their own. -/
import Derived.Test.YtfcgkbinohibcaaGreatDoorA8
import Derived.Shelf.SlSortCmp.WholeK
import Derived.Ground.SlsfProg
import Derived.Test.YtfcgkbinohibcaaGreatDoorProg
import Derived.ProofKit
import Derived.Deep.Matrix
import Derived.Deep.Strs
import Derived.LaidMore
import Derived.OpenShut
import Derived.Stop.Joined
set_option linter.all false
namespace Go.Proofs
open Go.Shelf
def Tryz.sortHyp_ren:Go.Shelf.Ren:=⟨fun|6=>136|15=>151|14=>180|28=>199|29=>200|20=>225|21=>226|22=>227|23=>228|24=>229|25=>230|26=>231|27=>232|46=>263|47=>242|48=>243|49=>264|50=>265|57=>281|n=>n,fun|22=>31|24=>63|25=>198|3=>3|39=>210|0=>0|53=>240|55=>242|4=>4|46=>234|45=>233|50=>43|5=>5|9=>9|66=>267|70=>271|76=>291|77=>292|n=>n,fun|n=>n⟩
theorem Tryz.sortHyp:Go.Proofs.SlLaysF0.n6 Tryz.prog Tryz.sortHyp_ren:={
 mixed:=kR
 f6:=⟨Tryz.f136.name,dM,Tryz.func136.trans (congrArg some kR)⟩
 f14:=⟨Tryz.f180.name,dM,Tryz.func180.trans (congrArg some kR)⟩
 f15:=Tryz.func151.trans (congrArg some kR)
 f20:=⟨Tryz.f225.name,dM,Tryz.func225.trans (congrArg some kR)⟩
 f21:=⟨Tryz.f226.name,dM,Tryz.func226.trans (congrArg some kR)⟩
 f22:=⟨Tryz.f227.name,dM,Tryz.func227.trans (congrArg some kR)⟩
 f23:=⟨Tryz.f228.name,dM,Tryz.func228.trans (congrArg some kR)⟩
 f24:=⟨Tryz.f229.name,dM,Tryz.func229.trans (congrArg some kR)⟩
 f25:=⟨Tryz.f230.name,dM,Tryz.func230.trans (congrArg some kR)⟩
 f26:=⟨Tryz.f231.name,dM,Tryz.func231.trans (congrArg some kR)⟩
 f27:=⟨Tryz.f232.name,dM,Tryz.func232.trans (congrArg some kR)⟩
 f28:=Tryz.func199.trans (congrArg some kR)
 f29:=Tryz.func200.trans (congrArg some kR)
 f46:=⟨Tryz.f263.name,dM,Tryz.func263.trans (congrArg some kR)⟩
 f47:=Tryz.func242.trans (congrArg some kR)
 f48:=Tryz.func243.trans (congrArg some kR)
 f49:=⟨Tryz.f264.name,dM,Tryz.func264.trans (congrArg some kR)⟩
 f50:=⟨Tryz.f265.name,dM,Tryz.func265.trans (congrArg some kR)⟩
 f57:=⟨Tryz.f281.name,dM,Tryz.func281.trans (congrArg some kR)⟩
 t0:=Tryz.underlying0
 a0:=Tryz.isAgg0
 z0:=Tryz.sizeOf0
 v0:=Tryz.zeroValue0
 t3:=Tryz.underlying3
 a3:=Tryz.isAgg3
 z3:=Tryz.sizeOf3
 v3:=Tryz.zeroValue3
 t4:=Tryz.underlying4
 a4:=Tryz.isAgg4
 z4:=Tryz.sizeOf4
 v4:=Tryz.zeroValue4
 t5:=Tryz.underlying5
 a5:=Tryz.isAgg5
 z5:=Tryz.sizeOf5
 v5:=Tryz.zeroValue5
 t9:=Tryz.underlying9
 a9:=Tryz.isAgg9
 z9:=Tryz.sizeOf9
 v9:=Tryz.zeroValue9
 t22:=Tryz.underlying31
 a22:=Tryz.isAgg31
 z22:=Tryz.sizeOf31
 v22:=Tryz.zeroValue31
 t25:=Tryz.underlying198
 a25:=Tryz.isAgg198
 z25:=Tryz.sizeOf198
 v25:=Tryz.zeroValue198
 t39:=Tryz.underlying210
 a39:=Tryz.isAgg210
 z39:=Tryz.sizeOf210
 v39:=Tryz.zeroValue210
 t45:=Tryz.underlying233
 a45:=Tryz.isAgg233
 z45:=Tryz.sizeOf233
 v45:=Tryz.zeroValue233
 t46:=Tryz.underlying234
 a46:=Tryz.isAgg234
 z46:=Tryz.sizeOf234
 v46:=Tryz.zeroValue234
 t50:=Tryz.underlying43
 a50:=Tryz.isAgg43
 z50:=Tryz.sizeOf43
 v50:=Tryz.zeroValue43
 t53:=Tryz.underlying240
 a53:=Tryz.isAgg240
 z53:=Tryz.sizeOf240
 v53:=Tryz.zeroValue240
 t55:=Tryz.underlying242
 a55:=Tryz.isAgg242
 z55:=Tryz.sizeOf242
 v55:=Tryz.zeroValue242
 t66:=Tryz.underlying267
 a66:=Tryz.isAgg267
 z66:=Tryz.sizeOf267
 v66:=Tryz.zeroValue267
 t70:=Tryz.underlying271
 a70:=Tryz.isAgg271
 z70:=Tryz.sizeOf271
 v70:=Tryz.zeroValue271
 t76:=Tryz.underlying291
 a76:=Tryz.isAgg291
 z76:=Tryz.sizeOf291
 v76:=Tryz.zeroValue291
 t77:=Tryz.underlying292
 a77:=Tryz.isAgg292
 z77:=Tryz.sizeOf292
 v77:=Tryz.zeroValue292}
def Tryz.sortPlc_ren:Go.Shelf.Ren:=⟨fun|6=>92|15=>151|14=>153|28=>199|29=>200|20=>201|21=>202|22=>203|23=>204|24=>205|25=>206|26=>207|27=>208|46=>246|47=>242|48=>243|49=>247|50=>248|57=>267|n=>n,fun|22=>74|24=>77|25=>140|3=>3|39=>210|0=>0|53=>240|55=>242|4=>4|46=>234|45=>233|50=>43|5=>5|9=>9|66=>267|70=>271|76=>291|77=>292|n=>n,fun|n=>n⟩
theorem Tryz.sortPlc:Go.Proofs.SlLaysF0.n6 Tryz.prog Tryz.sortPlc_ren:={
 mixed:=kR
 f6:=⟨Tryz.f92.name,dM,Tryz.func92.trans (congrArg some kR)⟩
 f14:=⟨Tryz.f153.name,dM,Tryz.func153.trans (congrArg some kR)⟩
 f15:=Tryz.func151.trans (congrArg some kR)
 f20:=⟨Tryz.f201.name,dM,Tryz.func201.trans (congrArg some kR)⟩
 f21:=⟨Tryz.f202.name,dM,Tryz.func202.trans (congrArg some kR)⟩
 f22:=⟨Tryz.f203.name,dM,Tryz.func203.trans (congrArg some kR)⟩
 f23:=⟨Tryz.f204.name,dM,Tryz.func204.trans (congrArg some kR)⟩
 f24:=⟨Tryz.f205.name,dM,Tryz.func205.trans (congrArg some kR)⟩
 f25:=⟨Tryz.f206.name,dM,Tryz.func206.trans (congrArg some kR)⟩
 f26:=⟨Tryz.f207.name,dM,Tryz.func207.trans (congrArg some kR)⟩
 f27:=⟨Tryz.f208.name,dM,Tryz.func208.trans (congrArg some kR)⟩
 f28:=Tryz.func199.trans (congrArg some kR)
 f29:=Tryz.func200.trans (congrArg some kR)
 f46:=⟨Tryz.f246.name,dM,Tryz.func246.trans (congrArg some kR)⟩
 f47:=Tryz.func242.trans (congrArg some kR)
 f48:=Tryz.func243.trans (congrArg some kR)
 f49:=⟨Tryz.f247.name,dM,Tryz.func247.trans (congrArg some kR)⟩
 f50:=⟨Tryz.f248.name,dM,Tryz.func248.trans (congrArg some kR)⟩
 f57:=⟨Tryz.f267.name,dM,Tryz.func267.trans (congrArg some kR)⟩
 t0:=Tryz.underlying0
 a0:=Tryz.isAgg0
 z0:=Tryz.sizeOf0
 v0:=Tryz.zeroValue0
 t3:=Tryz.underlying3
 a3:=Tryz.isAgg3
 z3:=Tryz.sizeOf3
 v3:=Tryz.zeroValue3
 t4:=Tryz.underlying4
 a4:=Tryz.isAgg4
 z4:=Tryz.sizeOf4
 v4:=Tryz.zeroValue4
 t5:=Tryz.underlying5
 a5:=Tryz.isAgg5
 z5:=Tryz.sizeOf5
 v5:=Tryz.zeroValue5
 t9:=Tryz.underlying9
 a9:=Tryz.isAgg9
 z9:=Tryz.sizeOf9
 v9:=Tryz.zeroValue9
 t22:=Tryz.underlying74
 a22:=Tryz.isAgg74
 z22:=Tryz.sizeOf74
 v22:=Tryz.zeroValue74
 t25:=Tryz.underlying140
 a25:=Tryz.isAgg140
 z25:=Tryz.sizeOf140
 v25:=Tryz.zeroValue140
 t39:=Tryz.underlying210
 a39:=Tryz.isAgg210
 z39:=Tryz.sizeOf210
 v39:=Tryz.zeroValue210
 t45:=Tryz.underlying233
 a45:=Tryz.isAgg233
 z45:=Tryz.sizeOf233
 v45:=Tryz.zeroValue233
 t46:=Tryz.underlying234
 a46:=Tryz.isAgg234
 z46:=Tryz.sizeOf234
 v46:=Tryz.zeroValue234
 t50:=Tryz.underlying43
 a50:=Tryz.isAgg43
 z50:=Tryz.sizeOf43
 v50:=Tryz.zeroValue43
 t53:=Tryz.underlying240
 a53:=Tryz.isAgg240
 z53:=Tryz.sizeOf240
 v53:=Tryz.zeroValue240
 t55:=Tryz.underlying242
 a55:=Tryz.isAgg242
 z55:=Tryz.sizeOf242
 v55:=Tryz.zeroValue242
 t66:=Tryz.underlying267
 a66:=Tryz.isAgg267
 z66:=Tryz.sizeOf267
 v66:=Tryz.zeroValue267
 t70:=Tryz.underlying271
 a70:=Tryz.isAgg271
 z70:=Tryz.sizeOf271
 v70:=Tryz.zeroValue271
 t76:=Tryz.underlying291
 a76:=Tryz.isAgg291
 z76:=Tryz.sizeOf291
 v76:=Tryz.zeroValue291
 t77:=Tryz.underlying292
 a77:=Tryz.isAgg292
 z77:=Tryz.sizeOf292
 v77:=Tryz.zeroValue292}
end Go.Proofs
namespace Go.Proofs.YtfcgkbinohibcaaGreatDoor
open Go Go.Sym
open Go.Inf Go.Sort
theorem pz:SWO (ltOf fun a b:BU=>cmpL (AZ a.pl) (AZ b.pl)):=by
 have e:∀a b:BU,ltOf (fun a b:BU=>cmpL (AZ a.pl) (AZ b.pl)) a b=CJ (AZ a.pl) (AZ b.pl):=fun a b=>by
  unfold ltOf;rw[Bool.eq_iff_iff,decide_eq_true_iff,Wk]
 refine⟨fun x=>by rw[e];exact UV _,fun x y z h1 h2=>by rw[e] at*;exact SN h1 h2,fun x y z h1 h2=>?_⟩;rw[e] at*
 cases h3:CJ (AZ x.pl) (AZ z.pl) with
 |false=>rfl
 |true=>
  cases h4:CJ (AZ y.pl) (AZ x.pl) with
  |true=>have:=SN h4 h3;rw[h2] at this;cases this
  |false=>
   have:=UW h1 h4;rw[this] at h3;rw[h2] at h3;cases h3
theorem wK (G G':List BU) (h0:G≠[]) (hG:∀x∈G,Jw x.pl) (hl:G.length<=1000000) (hp:G'.Perm G) (hs:G'.Pairwise fun a b=>CJ (AZ a.pl) (AZ b.pl)=true):
  Ag Tryz.prog Ad 136 [(0,some (0, .own 63 3 (BY G)))] [.l 0 0 0 G.length, .fn 137 []] [(0,some (0, .own 63 3 (BY G')))] (.tup []):=
 jW (T:=Ad) Go.Proofs.Tryz.sortHyp rfl ⟨Tryz.f136,Tryz.func136,by rfl,by rfl⟩ (enters_of Tryz.func137 kR rfl) dM Tryz.isAgg63 Tryz.sizeOf63
  (fun x:BU=>[I x.us,RS x.sl,RS x.bn]) (fun x=>⟨rfl,fun c hc=>by
   simp only[List.mem_cons,List.not_mem_nil,or_false] at hc;rcases hc with rfl|rfl|rfl<;>trivial⟩) (fun x=>Jw x.pl) (fun a b=>cmpL (AZ a.pl) (AZ b.pl)) pz (fun x y hx hy=>oJ x y hx hy) G G' h0 hG hl hp (hs.imp fun h=>(Wk _ _).2 h)
theorem bk (bud:Int) (G G':List BU) (h0:G≠[]) (hG:∀x∈G,Jw x.pl) (hl:G.length<=1000000) (hp:G'.Perm G) (hs:G'.Pairwise fun a b=>CJ (AZ a.pl) (AZ b.pl)=true):
  Ag Tryz.prog Ad 78 (Kj G) [.p 0 0 0 0 0,I bud] [(0,some (0, .box [.mpO 1 0, .l 2 0 0 G.length])),(1,some (0, .ms (Eb 0 G))),(2,some (0, .own 63 3 (BY G')))] (.agg [I bud, .l 2 0 0 G.length]):=by
 have h1:=wK G G' h0 hG hl hp hs;have KF:G'.length=G.length:=hp.length_eq;unfold Kj;refine Am Tryz.func78 Tryz.ntmps78 ?_;intro w e X hC;refine uZ ?_;refine uR ?_;intro K hK;refine CL [(0,0,2,0)] [(2,0,0,0)] false (h1) Bz Bz Ab Ab Ab Ab Ab Ab Ab Ab Ab Ab Ab Ab Ab Ab Ab ?_;refine DM ?_;refine uH ?_;refine hK _ ?_;clear hK K;refine uZ ?_;refine Ay ?_;rw[show Tryz.f78.results.toList=[.cell 4 33] from rfl];(refine DB [(0,0,0,0),(1,0,1,0),(2,0,2,0)] (by simp only[go_sem,seval,Bv,BK]<;>trivial) sM sM sM ?_ ?_ ?_ ?_ ?_;(iterate 3 (focus (first|exact trivial|(simp only[go_sem,seval,Bv,BK,A9,AT,BR,BM]<;>first|trivial|(simp;done)))));all_goals (try simp only[go_sem,seval,Bv,BK,A9,AT,BR,BM,A7,BZ]))
 all_goals rfl
open Go.Plant Go.Inf
def Oi (stp:Pl->List T3->Pl) (cst:Pl->Int×Bool) (bud:Int) (cs:List Int) (G:List AY) (h:AY):List AY:=GD (stp h.2) cst h.1 bud ([]::ext CQ (bud - h.1).toNat (CN cs h.2) []) G
def Ku (stp:Pl->List T3->Pl) (cst:Pl->Int×Bool) (bud:Int) (cs:List Int) (hs:List AY):List AY:=hs.foldl (Oi stp cst bud cs) []
abbrev VI:AV:=(D5.mk 0 []).av
theorem YH {hs:List AY} {i:Nat} (h:i<hs.length):(BY (hs.map Ba)).getD i .bad=(Ba (hs.getD i (0,⟨[],[]⟩))).av:=by
 rw[SF (by simpa using h)]
 congr 1
 simp[gE,h]
section
variable {plc:List AV} {cs:List Int} {bud:Int} {kf:Nat} {c1 c2 c3 c4:List AV} {stp:Pl->List T3->Pl} {cst:Pl->Int×Bool} {Gd:Pl->Prop}
theorem aG (hs:List AY) (C3:hs.length<=1000)
  (uG:∀h∈hs,Ag Tryz.prog Ad 120 [] [.P plc,h.2.av,IS cs] [] (.sl (Ai (CN cs h.2)) false))
  (uq:∀h∈hs,∀G,(∀x∈G,Gd x.2)->G.length<=41->Ag Tryz.prog Ad 119 (Kc plc cs bud kf c1 c2 c3 c4 G) [.p 0 0 0 0 0,(Ba h).av, .sl (Ai (CN cs h.2)) false, .sl [] false] (Kc plc cs bud kf c1 c2 c3 c4 (Oi stp cst bud cs G h)) (.tup []))
  (Sp:∀h∈hs,∀G,(∀x∈G,Gd x.2)->G.length<=41->(∀x∈Oi stp cst bud cs G h,Gd x.2)/\(Oi stp cst bud cs G h).length<=41) (XS:∀q,Gd q->Jw q) (r:AV)
  (hr:(Ku stp cst bud cs hs=[]/\r= .tup [VI,I 11])\/(40<(Ku stp cst bud cs hs).length/\r= .tup [VI,I 2])\/
   (Ku stp cst bud cs hs≠[]/\(Ku stp cst bud cs hs).length<=40/\∃L:List AY,L.Perm (Ku stp cst bud cs hs)/\(L.Pairwise fun a b=>CJ (AZ a.2) (AZ b.2)=true)/\r= .tup [(D5.mk bud (L.map Ba)).av,I 0])):
  Ag Tryz.prog Ad 67 [] [.P plc,(D5.mk bud (hs.map Ba)).av,IS cs, .fn kf [.P c1, .P c2, .P c3, .P c4]] [] r:=by
 refine Am Tryz.func67 Tryz.ntmps67 ?_;intro w e X hC;refine uZ ?_;refine PL 301 116 6 63 3 1 dM rfl rfl rfl ?_;refine uW ?_;refine Aw (fun i:Nat×Nat×List AY=>⟨[(0, .P plc),(2,IS cs),(5, .p 105 1 0 0 0),(8, .p 108 2 0 0 0),(9,I 0),(10, .p 116 6 0 0 0),(11, .p 124 15 0 0 0),(26, .sl (BY (hs.map Ba)) false),(27,I hs.length),(28,I i.2.1)],(124,some (15, .box [.P plc, .p 116 6 0 0 0,IS cs,I bud, .fn kf [.P c1, .P c2, .P c3, .P c4]]))::(116,some (6, .box [.mpO 114 4, .l 301 21 0 i.2.2.length]))::(114,some (4, .ms (Eb 0 (i.2.2.map Ba))))::(301,some (21, .own 63 3 (BY (i.2.2.map Ba))))::(108,some (2, .box [I 0, .sl [] true]))::(105,some (1, .box [I bud, .sl (BY (hs.map Ba)) false]))::[],i.1⟩)
  (fun i=>i.2.1<=hs.length/\Ku stp cst bud cs hs=(hs.drop i.2.1).foldl (Oi stp cst bud cs) i.2.2/\(∀x∈i.2.2,Gd x.2)/\i.2.2.length<=41) (fun i=>hs.length - i.2.1) (_,0,[]) ⟨zL _,rfl,(fun x hx=>by cases hx),zL _⟩ (Af) ?_
 rintro⟨ck,i,Gi⟩ ⟨hi,AL,Fk,JH⟩;simp only at hi AL Fk JH;refine uZ ?_;refine uW ?_;refine Aj _ rfl (fun c=>?_) (fun c=>?_)
 ·have Aa:i<hs.length:=oM;have hg:=YH Aa;have hm:hs.getD i (0,⟨[],[]⟩)∈hs:=GQ Aa _;have Oy:hs.drop i=hs.getD i (0,⟨[],[]⟩)::hs.drop (i+1):=by
   rw[List.drop_eq_getElem_cons Aa,gE,gG Aa];rfl
  rw[Oy,List.foldl_cons] at AL;have w1:=uG _ hm;have w2:=uq _ hm Gi Fk JH;obtain⟨Qa,RB⟩:=Sp _ hm Gi Fk JH;generalize hs.getD i (0,⟨[],[]⟩)=h at*;generalize Oi stp cst bud cs Gi h=Gn at*;unfold Kc at w2;obtain⟨hu,EK⟩:=h;simp only[Ba] at hg w2
  repeat refine Ac @hg ?_
  refine uD ?_;intro K hK;refine uH ?_;refine cP w1 ?_;refine uS ?_;refine uH ?_;refine CL [(0,0,124,15),(1,0,116,6),(2,0,114,4),(3,0,301,21)] [(124,15,0,0),(116,6,1,0),(114,4,2,0),(301,21,3,0)] false (w2) Bz Bz Ab Ab Ab Ab Ab Ab Ab Ab Ab Ab Ab Ab Ab Ab Ab ?_;refine DM ?_;refine uH ?_;refine hK _ ?_;clear hK K;refine uZ ?_;refine⟨(_,i+1,Gn),⟨uO,AL,Qa,RB⟩,uO,Af⟩
 ·refine At ?_;have Bx:i=hs.length:=oM;rw[Bx,List.drop_length,List.foldl_nil] at AL;rw[AL] at hr;refine uZ ?_;refine uW ?_;refine Aj _ rfl (fun c0=>?_) (fun c0=>?_)
  ·have WZ:Gi=[]:=List.eq_nil_of_length_eq_zero oM;rcases hr with ⟨_,rfl⟩|⟨h,_⟩|⟨h,_⟩
   ·refine uZ ?_;refine Ay ?_;rw[show Tryz.f67.results.toList=[.cell 8 33, .tmp 9] from rfl];first|refine Bn ?_|exact Bm
    rfl
   ·omega
   ·exact absurd WZ h
  ·refine uZ ?_;refine uW ?_;refine Aj _ rfl (fun c1=>?_) (fun c1=>?_)
   ·rcases hr with ⟨h,_⟩|⟨_,rfl⟩|⟨_,h,_⟩
    ·rw[h] at c0;simp at c0
    ·refine uZ ?_;refine Ay ?_;rw[show Tryz.f67.results.toList=[.cell 8 33, .tmp 9] from rfl];first|refine Bn ?_|exact Bm
     rfl
    ·omega
   ·rcases hr with ⟨h,_⟩|⟨h,_⟩|⟨Bj,hle,L,RD,W5,rfl⟩
    ·rw[h] at c0;simp at c0
    ·omega
    ·have wb:=bk bud (Gi.map Ba) (L.map Ba) (by simpa using Bj) (fun x hx=>by
      obtain⟨z,hz,rfl⟩:=List.mem_map.1 hx;exact XS _ (Fk z hz)) (by simp;omega) (RD.map _) (by rw[List.pairwise_map];exact W5)
     have Qd:L.length=Gi.length:=RD.length_eq;unfold Kj at wb;refine uR ?_;intro K hK;refine uH ?_;refine CL [(0,0,116,6),(1,0,114,4),(2,0,301,21)] [(116,6,0,0),(114,4,1,0),(301,21,2,0)] false (wb) Bz Bz Ab Ab Ab Ab Ab Ab Ab Ab Ab Ab Ab Ab Ab Ab Ab ?_;refine DM ?_;refine uH ?_;refine hK _ ?_;clear hK K;refine Ay ?_;rw[show Tryz.f67.results.toList=[.cell 8 33, .tmp 9] from rfl];first|refine Bn ?_|exact Bm
end
open Go.Plant Go.Inf
def SL (of:Pl->Pl×Bool) (G:List AY) (h:AY):List AY:=if(of h.2).2=true then Inf.gadd G (h.1,(of h.2).1) else G
def Ha (of:Pl->Pl×Bool) (hs:List AY):List AY:=hs.foldl (SL of) []
section
variable {bud:Int} {kf:Nat} {c1 c2 c3:List AV} {of:Pl->Pl×Bool} {Gd:Pl->Prop}
theorem yn (hs:List AY) (C3:hs.length<=900)
  (Uw:∀h∈hs,Ag Tryz.prog Ad kf [] [h.2.av, .P c1, .P c2, .P c3] [] (.tup [(of h.2).1.av,B (of h.2).2]))
  (Gu:∀h∈hs,(of h.2).2=true->Gd (of h.2).1) (Cp:∀q,Gd q->M1 q) (OH:∀a b,Gd a->Gd b->B3 (AZ a)=B3 (AZ b)->a=b) (r:AV)
  (hr:(Ha of hs=[]/\r= .tup [VI,I 11])\/
   (Ha of hs≠[]/\∃L:List AY,L.Perm (Ha of hs)/\(L.Pairwise fun a b=>CJ (AZ a.2) (AZ b.2)=true)/\r= .tup [(D5.mk bud (L.map Ba)).av,I 0])):
  Ag Tryz.prog Ad 80 [] [(D5.mk bud (hs.map Ba)).av, .fn kf [.P c1, .P c2, .P c3]] [] r:=by
 refine Am Tryz.func80 Tryz.ntmps80 ?_;intro w e X hC;refine uZ ?_;refine PL 301 106 6 63 3 1 dM rfl rfl rfl ?_;refine uW ?_;refine Aw (fun i:Nat×Nat×List AY=>⟨[(1, .fn kf [.P c1, .P c2, .P c3]),(2, .p 102 1 0 0 0),(4, .p 104 2 0 0 0),(5,I 0),(6, .p 106 6 0 0 0),(14, .sl (BY (hs.map Ba)) false),(15,I hs.length),(16,I i.2.1)],(106,some (6, .box [.mpO 111 4, .l 301 12 0 i.2.2.length]))::(111,some (4, .ms (Eb 0 (i.2.2.map Ba))))::(301,some (12, .own 63 3 (BY (i.2.2.map Ba))))::(104,some (2, .box [I 0, .sl [] true]))::(102,some (1, .box [I bud, .sl (BY (hs.map Ba)) false]))::[],i.1⟩)
  (fun i=>i.2.1<=hs.length/\Ha of hs=(hs.drop i.2.1).foldl (SL of) i.2.2/\(∀x∈i.2.2,Gd x.2)/\i.2.2.length<=i.2.1) (fun i=>hs.length - i.2.1) (_,0,[]) ⟨zL _,rfl,(fun x hx=>by cases hx),zL _⟩ (Af) ?_
 rintro⟨ck,i,Gi⟩ ⟨hi,AL,Fk,JH⟩;simp only at hi AL Fk JH;refine uZ ?_;refine uW ?_;refine Aj _ rfl (fun c=>?_) (fun c=>?_)
 ·have Aa:i<hs.length:=oM;have hg:=YH Aa;have hm:hs.getD i (0,⟨[],[]⟩)∈hs:=GQ Aa _;have Oy:hs.drop i=hs.getD i (0,⟨[],[]⟩)::hs.drop (i+1):=by
   rw[List.drop_eq_getElem_cons Aa,gE,gG Aa];rfl
  rw[Oy,List.foldl_cons] at AL;have w1:=Uw _ hm;have KG:=Gu _ hm;have R8:SL of Gi (hs.getD i (0,⟨[],[]⟩))=if(of (hs.getD i (0,⟨[],[]⟩)).2).2=true then Inf.gadd Gi ((hs.getD i (0,⟨[],[]⟩)).1,(of (hs.getD i (0,⟨[],[]⟩)).2).1) else Gi:=rfl
  rw[R8] at AL;clear R8;generalize hs.getD i (0,⟨[],[]⟩)=h at*;obtain⟨hu,EK⟩:=h;simp only[Ba] at hg w1 KG AL;generalize of EK=qo at*;obtain⟨q,o⟩:=qo;simp only at w1 KG AL
  cases o with
  |false=>
   rw[iN dM] at AL
   repeat refine Ac @hg ?_
   refine uR ?_;intro K hK;refine cP w1 ?_;refine uS ?_;refine uH ?_;refine hK _ ?_;clear hK K;refine uZ ?_;refine uF ?_;refine uZ ?_;refine⟨(_,i+1,Gi),⟨uO,AL,Fk,uO⟩,uO,Af⟩
  |true=>
   rw[iP rfl] at AL;have KG:=KG rfl;have w2:=bv q hu Gi (Cp _ KG) (fun x hx e=>OH _ _ (Fk x hx) KG e) oM;have Qa:∀x∈Inf.gadd Gi (hu,q),Gd x.2:=fun x hx=>by
    rcases TV hx with e|⟨z,hz,e⟩
    ·rw[e];exact KG
    ·rw[<-e];exact Fk z hz
   have RB:=P5 Gi (hu,q);unfold Kj at w2;generalize Inf.gadd Gi (hu,q)=Gn at*
   repeat refine Ac @hg ?_
   refine uR ?_;intro K hK;refine cP w1 ?_;refine uS ?_;refine uH ?_;refine hK _ ?_;clear hK K;refine uZ ?_;refine uT ?_;refine uR ?_;intro K hK;refine uH ?_;refine CL [(0,0,106,6),(1,0,111,4),(2,0,301,12)] [(106,6,0,0),(111,4,1,0),(301,12,2,0)] false (w2) Bz Bz Ab Ab Ab Ab Ab Ab Ab Ab Ab Ab Ab Ab Ab Ab Ab ?_;refine DM ?_;refine uH ?_;refine hK _ ?_;clear hK K;refine uZ ?_;refine⟨(_,i+1,Gn),⟨uO,AL,Qa,uO⟩,uO,Af⟩
 ·refine At ?_;have Bx:i=hs.length:=oM;rw[Bx,List.drop_length,List.foldl_nil] at AL;rw[AL] at hr;refine uZ ?_;refine uW ?_;refine Aj _ rfl (fun c0=>?_) (fun c0=>?_)
  ·have WZ:Gi=[]:=List.eq_nil_of_length_eq_zero oM;rcases hr with ⟨_,rfl⟩|⟨h,_⟩
   ·refine uZ ?_;refine Ay ?_;rw[show Tryz.f80.results.toList=[.cell 4 33, .tmp 5] from rfl];first|refine Bn ?_|exact Bm
    rfl
   ·exact absurd WZ h
  ·rcases hr with ⟨h,_⟩|⟨Bj,L,RD,W5,rfl⟩
   ·rw[h] at c0;simp at c0
   ·have wb:=bk bud (Gi.map Ba) (L.map Ba) (by simpa using Bj) (fun x hx=>by
     obtain⟨z,hz,rfl⟩:=List.mem_map.1 hx;exact(Cp _ (Fk z hz)).ky) (by simp;omega) (RD.map _) (by rw[List.pairwise_map];exact W5)
    have Qd:L.length=Gi.length:=RD.length_eq;unfold Kj at wb;refine uR ?_;intro K hK;refine uH ?_;refine CL [(0,0,106,6),(1,0,111,4),(2,0,301,12)] [(106,6,0,0),(111,4,1,0),(301,12,2,0)] false (wb) Bz Bz Ab Ab Ab Ab Ab Ab Ab Ab Ab Ab Ab Ab Ab Ab Ab ?_;refine DM ?_;refine uH ?_;refine hK _ ?_;clear hK K;refine Ay ?_;rw[show Tryz.f80.results.toList=[.cell 4 33, .tmp 5] from rfl];first|refine Bn ?_|exact Bm
end
def J5 (n:Nat):List AV:=List.replicate n (.sl [] true)
theorem zW (n:Nat):(J5 n).length=n:=by simp[J5]
theorem zY (n:Nat):J5 n++[.sl [] true]=J5 (n+1):=by simp[J5,List.replicate_succ']
theorem zT {f:AV->Prop} (n:Nat) (h:f (.sl [] true)):(∀e∈J5 n,∀c∈e.cells,f c)=True:=by
 refine eq_true fun e he c hc=>?_;obtain rfl:=(List.mem_replicate.1 he).2;rw[show(AV.sl [] true).cells=[.sl [] true] from rfl,List.mem_singleton] at hc;rw[hc];exact h
theorem zX {f:AV->AV} {v:AV} (n:Nat) (h:f (.sl [] true)=v):(J5 n).map (AH f)=List.replicate n v:=by
 rw[J5,List.map_replicate]
 congr 1
theorem Qb9 (n:Nat):List.replicate n (AV.sl [] false)=Ij (List.replicate n []):=by simp[Ij,As]
theorem zU (k n:Nat) (hp:Hp):(J5 n).map (AH (fz k hp))=Ij (List.replicate n []):=by rw[zX n (dI k hp [] true),Qb9]
theorem zV (k n:Nat) (hp:Hp):(∀e∈J5 n,∀c∈e.cells,fzP k hp c)=True:=zT n (by cases k<;>trivial)
attribute [go_sem] zW zY zU zV
def GN (xs:List Nd) (k:Nat):Pl:=⟨(List.range k).map fun i=>List.replicate (xs.getD i default).ln.toNat 0,List.replicate k []⟩
theorem cH (xs:List Nd) (k:Nat):(GN xs (k+1)).Q=(GN xs k).Q++[List.replicate (xs.getD k default).ln.toNat 0]:=by simp[GN,List.range_succ]
theorem TN (xs:List Nd) (k:Nat):(GN xs k).Q.length=k/\(GN xs k).R.length=k:=by simp[GN]
def F7 (y:Ly):Pl:=if Dp y=0 then GN y.U y.U.length else⟨[],[]⟩
theorem QbI (y:Ly) (hs:HW y) (C2:Dp y=0->0<y.U.length):Ag Tryz.prog Ad 72 [] [y.av] [] (.tup [(F7 y).av,I (Dp y)]):=by
 have h1:=Z0 y hs;have hE:F7 y=_:=F7.eq_1 y;have AK:=fun h:Dp y=0=>fun i hi=>(⟨(J6 (Te h i hi)).1,(J6 (Te h i hi)).2.1⟩:0<=(y.U.getD i default).ln/\(y.U.getD i default).ln<=8);have hN:=hs.n;generalize F7 y=r at*;generalize Dp y=v at*;refine Am Tryz.func72 Tryz.ntmps72 ?_;intro w e X hC;refine uA ?_;refine uR ?_;intro K hK;refine cF h1 ?_;refine uS ?_;refine hK _ ?_;clear hK K;refine uZ ?_;refine uW ?_;refine Aj _ rfl (fun c=>?_) (fun c=>?_)
 ·rw[iN c] at hE;subst hE;refine uZ ?_;refine Ay ?_;rw[show Tryz.f72.results.toList=[.cell 2 36, .tmp 3] from rfl];first|refine Bn ?_|exact Bm
  rfl
 ·have c':=Decidable.byContradiction c;rw[iP c'] at hE;replace AK:=AK c';replace C2:=C2 c';subst hE;refine uZ ?_;refine uW ?_;refine Aw (fun q:Nat×Nat×Nat×Nat=>⟨[(1, .p 101 1 0 0 0),(2, .p 102 2 0 0 0),(5, .p 105 9 0 0 0),(15, .sl (AA y.U) false),(16,I y.U.length),(17,I q.2.1)],
   (105,some (9, .box [F8 q.2.1 (.l 127 q.2.2.1 0 q.2.1),F8 q.2.1 (.l 132 q.2.2.2 0 q.2.1)]))::(127,F9 q.2.1 (q.2.2.1, .own 22 1 (BI 3 (GN y.U q.2.1).Q)))::(132,F9 q.2.1 (q.2.2.2, .own 22 1 (J5 q.2.1)))::(102,some (2, .box [.sl [] true, .sl [] true]))::(101,some (1, .box [.sl (AA y.U) false, .sl (Ai y.D) false]))::[],q.1⟩)
   (fun q=>q.2.1<=y.U.length) (fun q=>y.U.length - q.2.1) (_,0,0,0) (zL _) (Af) ?_
  rintro⟨ck,i,g1,g2⟩ hi;simp only at hi;obtain⟨AR,-⟩:=TN y.U i;have e1:=cH y.U i;refine uZ ?_;refine uW ?_;refine Aj _ rfl (fun h=>?_) (fun h=>?_)
  ·have Aa:i<y.U.length:=oM;have Qm:=AK i Aa;generalize (GN y.U i).Q=o at*;generalize e2:y.U.getD i default=x at*;obtain⟨m,hm⟩:∃m:Nat,m=x.ln.toNat:=⟨_,rfl⟩;have DF:x.ln=(m:Int):=oM;rw[<-hm] at e1;by_cases CH:i=0
   ·subst CH;simp only[Ji,Jj];obtain rfl:o=[]:=List.length_eq_zero_iff.1 AR
    repeat refine Ac (uI (AG Aa) (uI @e2 @DF)) ?_
    refine CK @UT ?_;intro K hK;refine uH ?_;refine hK _ ?_;clear hK K;refine uZ ?_;refine⟨(_,0+1,ck+11,ck+17),uO,uO, .of (lR _) (Ax (uI @e1 (uI @FQ @FR))) A4⟩
   ·simp only[Hd CH,He CH]
    repeat refine Ac (uI (AG Aa) (uI @e2 (uI @DF @AR))) ?_
    refine CK @AR ?_;intro K hK;refine uH ?_;refine hK _ ?_;clear hK K;refine uZ ?_;refine⟨(_,i+1,g1,g2),uO,uO, .of (lR _) (Ax (uI @e1 (uI @FQ @FR))) A4⟩
  ·refine At ?_;obtain rfl:i=y.U.length:=oM;have IH:y.U.length≠0:=oM;simp only[Hd IH,He IH];refine uZ ?_;refine Ay ?_;rw[show Tryz.f72.results.toList=[.cell 2 36, .tmp 3] from rfl];first|refine MZ @AR ?_|exact MY @AR
   rw[c'];rfl
theorem QdD (y:Ly) (hs:HW y) (C2:Dp y=0->0<y.U.length):Ag Tryz.prog Ad 50 [] [y.av] [] (.tup [(F7 y).av,I (Dp y)]):=by
 have h1:=Zw y hs;have hE:F7 y=_:=F7.eq_1 y;have AK:=fun h:Dp y=0=>fun i hi=>(⟨(J6 (Te h i hi)).1,(J6 (Te h i hi)).2.1⟩:0<=(y.U.getD i default).ln/\(y.U.getD i default).ln<=8);have hN:=hs.n;generalize F7 y=r at*;generalize Dp y=v at*;refine Am Tryz.func50 Tryz.ntmps50 ?_;intro w e X hC;refine uA ?_;refine uR ?_;intro K hK;refine cF h1 ?_;refine uS ?_;refine hK _ ?_;clear hK K;refine uZ ?_;refine uW ?_;refine Aj _ rfl (fun c=>?_) (fun c=>?_)
 ·rw[iN c] at hE;subst hE;refine uZ ?_;refine Ay ?_;rw[show Tryz.f50.results.toList=[.cell 2 36, .tmp 3] from rfl];first|refine Bn ?_|exact Bm
  rfl
 ·have c':=Decidable.byContradiction c;rw[iP c'] at hE;replace AK:=AK c';replace C2:=C2 c';subst hE;refine uZ ?_;refine uW ?_;refine Aw (fun q:Nat×Nat×Nat×Nat=>⟨[(1, .p 101 1 0 0 0),(2, .p 102 2 0 0 0),(5, .p 105 9 0 0 0),(6,I q.2.1)],(105,some (9, .box [F8 q.2.1 (.l 130 q.2.2.1 0 q.2.1),F8 q.2.1 (.l 134 q.2.2.2 0 q.2.1)]))::(130,F9 q.2.1 (q.2.2.1, .own 22 1 (BI 3 (GN y.U q.2.1).Q)))::(134,F9 q.2.1 (q.2.2.2, .own 22 1 (J5 q.2.1)))::(102,some (2, .box [.sl [] true, .sl [] true]))::(101,some (1, .box [.sl (AA y.U) false, .sl (Ai y.D) false]))::[],q.1⟩)
   (fun q=>q.2.1<=y.U.length) (fun q=>y.U.length - q.2.1) (_,0,0,0) (zL _) (Af) ?_
  rintro⟨ck,i,g1,g2⟩ hi;simp only at hi;obtain⟨AR,-⟩:=TN y.U i;have e1:=cH y.U i;refine uZ ?_;refine uW ?_;refine Aj _ rfl (fun h=>?_) (fun h=>?_)
  ·have Aa:i<y.U.length:=oM;have Qm:=AK i Aa;generalize (GN y.U i).Q=o at*;generalize e2:y.U.getD i default=x at*;obtain⟨m,hm⟩:∃m:Nat,m=x.ln.toNat:=⟨_,rfl⟩;have DF:x.ln=(m:Int):=oM;rw[<-hm] at e1;by_cases CH:i=0
   ·subst CH;simp only[Ji,Jj];obtain rfl:o=[]:=List.length_eq_zero_iff.1 AR;refine CK (uI (AG Aa) (uI @e2 (uI @DF @UT))) ?_;intro K hK;refine uH ?_;refine hK _ ?_;clear hK K;refine uZ ?_;refine⟨(_,0+1,ck+15,ck+19),uO,uO, .of (lR _) (Ax (uI @e1 (uI @FQ @FR))) A4⟩
   ·simp only[Hd CH,He CH];refine CK (uI (AG Aa) (uI @e2 (uI @DF @AR))) ?_;intro K hK;refine uH ?_;refine hK _ ?_;clear hK K;refine uZ ?_;refine⟨(_,i+1,g1,g2),uO,uO, .of (lR _) (Ax (uI @e1 (uI @FQ @FR))) A4⟩
  ·refine At ?_;obtain rfl:i=y.U.length:=oM;have IH:y.U.length≠0:=oM;simp only[Hd IH,He IH];refine uZ ?_;refine Ay ?_;rw[show Tryz.f50.results.toList=[.cell 2 36, .tmp 3] from rfl];first|refine MZ @AR ?_|exact MY @AR
   rw[c'];rfl
open Go.Plant
def Hm (p:Pl) (b:Int):Int×Int×Bool:=if b=0 then(0,0,false) else GG p b
theorem xI {l:List Int} {b:Int}:DK (fun y=>decide (b=y)) l=DK (fun y=>decide (y=b)) l:=by
 have:(fun y:Int=>decide (b=y))=fun y=>decide (y=b):=by
  funext y
  by_cases h:b=y
  ·subst h;rfl
  ·rw[dF h,dF (fun h2=>h h2.symm)]
 rw[this]
theorem xH {l:List Int} {b:Int}:(b∈l/\∃k:Nat,k<l.length/\DK (fun y=>decide (y=b)) l=k/\(l.findIdx? fun x=>decide (x=b))=some k)\/(b∉l/\DK (fun y=>decide (y=b)) l=-1):=by
 by_cases h:b∈l
 ·refine .inl ⟨h,?_⟩
  cases hf:(l.findIdx? fun x=>decide (x=b)) with
  |none=>
   rw[List.findIdx?_eq_none_iff] at hf;have:=hf b h;simp at this
  |some k=>
   have h2:=hf;rw[List.findIdx?_eq_some_iff_getElem] at h2;obtain⟨h3,_⟩:=h2;exact⟨k,h3,by rw[DK,hf],rfl⟩
 ·refine .inr ⟨h,?_⟩;have:(l.findIdx? fun x=>decide (x=b))=none:=by
   rw[List.findIdx?_eq_none_iff];intro x hx;simp only[decide_eq_false_iff_not];rintro rfl;exact h hx
  rw[DK,this]
theorem jp (p:Pl) (b:Int) (h1:p.Q.length<=1000) (h2:p.R.length<=1000) (h3:∀i,i<p.Q.length->(p.Q.getD i []).length<=1000) (h4:∀i,i<p.R.length->(p.R.getD i []).length<=1000):
  Ag Tryz.prog Ad 90 [] [p.av,I b] [] (Z1 (Hm p b)):=by
 refine Am Tryz.func90 Tryz.ntmps90 ?_;intro w e X hC;refine uZ ?_;refine uW ?_;refine Aj _ rfl (fun c0=>?_) (fun c0=>?_)
 ·have hE:Hm p b=(0,0,false):=iP c0;rw[hE];refine uZ ?_;refine Ay ?_;rw[show Tryz.f90.results.toList=[.cell 4 77, .tmp 5] from rfl];first|refine Bn ?_|exact Bm
 ·have hE:Hm p b=GG p b:=iN c0;rw[hE];refine uZ ?_;refine uW ?_;refine Aw (fun q:Nat×Nat=>⟨[(1,I b),(2, .p 102 1 0 0 0),(4, .p 104 2 0 0 0),(15,RS p.Q),(16,I p.Q.length),(17,I q.2)],(102,some (1, .box [RS p.Q,RS p.R]))::(104,some (2, .box [I 0,I 0]))::[],q.1⟩) (fun q=>q.2<=p.Q.length/\∀j,j<q.2->b∉p.Q.getD j []) (fun q=>p.Q.length - q.2) (_,0) ⟨zL _,fun j hj=>absurd hj (nZ _)⟩ (Af) ?_;rintro⟨ck,i⟩ ⟨hi,hj⟩;simp only at hi hj;refine uZ ?_;refine uW ?_;refine Aj _ rfl (fun h=>?_) (fun h=>?_)
  ·have Aa:i<p.Q.length:=oM;have OW:=h3 i Aa;have B8:=fun h=>TT Aa h hj;have Gu:b∉p.Q.getD i []->∀j,j<i+1->b∉p.Q.getD j []:=fun h j Ah=>by
    by_cases AF:j=i
    ·subst AF;exact h
    ·exact hj j oM
   have vg:=xH (l:=p.Q.getD i []) (b:=b);have JM:(p.Q.findIdx? fun r=>decide (b∈r))=some i->GG p b=((i:Int),((((p.Q.getD i []).findIdx? fun x=>decide (x=b)).getD 0:Nat):Int),true):=fun h=>by rw[GG,iN c0,h]
   generalize e1:p.Q.getD i []=sl at*;have Bk:=gV sl b oM;rw[xI] at Bk;generalize DK (fun y=>decide (y=b)) sl=ix at*;refine Ac (uI (BF Aa) @e1) ?_;refine uR ?_;intro K hK;refine cF Bk ?_;refine uS ?_;refine hK _ ?_;clear hK K;refine uZ ?_;rcases vg with ⟨hm,k,hk,rfl,hf⟩|⟨hm,rfl⟩
   ·have hw:=JM (B8 hm);rw[hf] at hw;rw[hw];refine uW ?_;refine Aj _ rfl (fun h5=>?_) (fun h5=>?_)
    ·refine uZ ?_;refine Ay ?_;rw[show Tryz.f90.results.toList=[.cell 4 77, .tmp 5] from rfl];first|refine Bn ?_|exact Bm
    ·omega
   ·refine uW ?_;refine Aj _ rfl (fun h5=>?_) (fun h5=>?_)
    ·omega
    ·refine uZ ?_;refine⟨(_,i+1),⟨uO,Gu hm⟩,uO,Af⟩
  ·refine At ?_;obtain rfl:i=p.Q.length:=oM;have CP:=TS hj;have JM:GG p b=(match p.R.findIdx? fun r=>decide (b∈r) with|some n=>((n:Int),-1,true)|none=>(0,0,false)):=by rw[GG,iN c0,CP];rfl
   rw[JM];refine uZ ?_;refine uW ?_;refine Aw (fun q:Nat×Nat=>⟨[(1,I b),(2, .p 102 1 0 0 0),(4, .p 104 2 0 0 0),(32,RS p.R),(33,I p.R.length),(34,I q.2)],(102,some (1, .box [RS p.Q,RS p.R]))::(104,some (2, .box [I 0,I 0]))::[],q.1⟩) (fun q=>q.2<=p.R.length/\∀j,j<q.2->b∉p.R.getD j []) (fun q=>p.R.length - q.2) (_,0) ⟨zL _,fun j hj=>absurd hj (nZ _)⟩ (Af) ?_;rintro⟨ck2,i⟩ ⟨hi,GX⟩;simp only at hi GX;refine uZ ?_;refine uW ?_;refine Aj _ rfl (fun h5=>?_) (fun h5=>?_)
   ·have Aa:i<p.R.length:=oM;have OW:=h4 i Aa;have B8:=fun h=>TT Aa h GX;have Gu:b∉p.R.getD i []->∀j,j<i+1->b∉p.R.getD j []:=fun h j Ah=>by
     by_cases AF:j=i
     ·subst AF;exact h
     ·exact GX j oM
    generalize e1:p.R.getD i []=sl at*;have Bk:=TH sl b oM;have Qf:sl.any (fun y=>decide (b=y))=decide (b∈sl):=by
     rw[Bool.eq_iff_iff,List.any_eq_true,decide_eq_true_eq];constructor
     ·rintro⟨z,hz,h⟩;rw[decide_eq_true_eq] at h;rw[h];exact hz
     ·intro h;exact⟨b,h,sM⟩
    rw[Qf] at Bk;refine Ac (uI (BF Aa) @e1) ?_;refine uR ?_;intro K hK;refine cF Bk ?_;refine uS ?_;refine hK _ ?_;clear hK K;refine uW ?_;refine Aj _ rfl (fun h6=>?_) (fun h6=>?_)
    ·have:=B8 h6;rw[this];refine uZ ?_;refine Ay ?_;rw[show Tryz.f90.results.toList=[.cell 4 77, .tmp 5] from rfl];first|refine Bn ?_|exact Bm
    ·refine uZ ?_;refine⟨(_,i+1),⟨uO,Gu h6⟩,uO,Af⟩
   ·refine At ?_;obtain rfl:i=p.R.length:=oM;rw[TS GX];refine uZ ?_;refine Ay ?_;rw[show Tryz.f90.results.toList=[.cell 4 77, .tmp 5] from rfl];first|refine Bn ?_|exact Bm
def QJ (s:List Int) (b:Int):Bool:=!(decide (s.length=0)||(decide (¬s.getD 0 0=0)||decide (b=0)))
theorem QbR (s:List Int) (b:Int) (hs:s.length<=1000) (h:QJ s b=true):Ag Tryz.prog Ad 140 [] [IS s,I b] [(100,some (1, .own 3 1 (As (s.set 0 b))))] (.tup [.l 100 1 0 s.length,B true]):=by
 simp only[QJ,Bool.not_eq_true',Bool.or_eq_false_iff,decide_eq_false_iff_not] at h;obtain⟨h0,h1,h2⟩:=h;have d0:=uDf ((s.length:Int)=0);have d1:decide (¬s.getD 0 0=0)=false:=dF h1;have d2:decide (b=0)=false:=dF h2;have DR:0<s.length:=oM;refine Am Tryz.func140 Tryz.ntmps140 ?_;intro w e X hC;refine uZ ?_;refine Av (uI @d0 (uI (Ao DR) (uI @Int.toNat_zero (uI @d1 @d2)))) ?_;intro K hK;refine uH ?_;refine hK _ ?_;clear hK K;refine uF ?_;refine uR ?_;intro K hK;refine CL [] [(121,17,100,1)] false ((bF s DR hs)) Bz Bz Ab Ab Ab Ab Ab Ab Ab Ab Ab Ab Ab Ab Ab Ab Ab ?_;refine DM ?_;refine hK _ ?_;clear hK K;refine uZ ?_;refine Ay ?_;rw[show Tryz.f140.results.toList=[.tmp 4, .tmp 5] from rfl];(refine DB [(100,1,121,17)] D4 sM sM sM Bp Bp Bp ?_ ?_;all_goals (first|refine Fb ?_|exact Fc|skip))
theorem QbP (s:List Int) (b:Int) (hs:s.length<=1000) (h:QJ s b=false):Ag Tryz.prog Ad 140 [] [IS s,I b] [] (.tup [.sl [] false,B false]):=by
 simp only[QJ,Bool.not_eq_false',Bool.or_eq_true,decide_eq_true_eq] at h;refine Am Tryz.func140 Tryz.ntmps140 ?_;intro w e X hC;refine uZ ?_;by_cases h0:s.length=0
 ·have d0:=uDt ((s.length:Int)=0);refine Av @d0 ?_;intro K hK;refine hK _ ?_;clear hK K;refine uT ?_;refine uZ ?_;refine Ay ?_;rw[show Tryz.f140.results.toList=[.tmp 4, .tmp 5] from rfl];first|refine Bn ?_|exact Bm
 have d0:=uDf ((s.length:Int)=0);have DR:0<s.length:=oM;by_cases h1:s.getD 0 0=0
 ·have d1:decide (¬s.getD 0 0=0)=false:=dF (fun h=>h h1);have d2:decide (b=0)=true:=dT ((h.resolve_left h0).resolve_left (fun h=>h h1));refine Av (uI @d0 (uI (Ao DR) (uI @Int.toNat_zero (uI @d1 @d2)))) ?_;intro K hK;refine uH ?_;refine hK _ ?_;clear hK K;refine uT ?_;refine uZ ?_;refine Ay ?_;rw[show Tryz.f140.results.toList=[.tmp 4, .tmp 5] from rfl];first|refine Bn ?_|exact Bm
 ·have d1:decide (¬s.getD 0 0=0)=true:=dT h1;refine Av (uI @d0 (uI (Ao DR) (uI @Int.toNat_zero @d1))) ?_;intro K hK;refine uH ?_;refine hK _ ?_;clear hK K;refine uT ?_;refine uZ ?_;refine Ay ?_;rw[show Tryz.f140.results.toList=[.tmp 4, .tmp 5] from rfl];first|refine Bn ?_|exact Bm
def CS (y:Ly) (p:Pl) (node bag:Int):Pl×Int:=
 if node<0\/y.U.length<=node\/bag<1\/40<bag then(⟨[],[]⟩,1)
 else if ¬(y.U.getD node.toNat default).kd=1 then(⟨[],[]⟩,4)
 else if(GG p bag).2.2=true then(⟨[],[]⟩,5)
 else if ¬(p.Q.getD node.toNat []).getD 0 0=0 then(⟨[],[]⟩,8)
 else(⟨p.Q.set node.toNat ((p.Q.getD node.toNat []).set 0 bag),p.R⟩,0)
theorem Qbz (y:Ly) (p:Pl) (node bag:Int) (hp:FB y.U p):Ag Tryz.prog Ad 82 [] [y.av,p.av,I node,I bag] [] (.tup [(CS y p node bag).1.av,I (CS y p node bag).2]):=by
 have C4:=hp.xl;have C3:=hp.sl;have Al:=hp.bl;have BJ:∀i,i<p.Q.length->(p.Q.getD i []).length<=1000:=fun i hi=>by
  rw[hp.sl] at hi;have:=hp.row i hi;have:=hp.ln i hi;omega
 have BE:∀i,i<p.R.length->(p.R.getD i []).length<=1000:=fun i hi=>by
  rw[hp.bl] at hi;have:=hp.bin i hi;omega
 have Qw:=jp p bag oM oM BJ BE;have Cy:=bE p oM oM BJ BE;have hE:CS y p node bag=_:=CS.eq_1 y p node bag;generalize CS y p node bag=r at*;refine Am Tryz.func82 Tryz.ntmps82 ?_;intro w e X hC;refine uZ ?_
 cases d1:decide (node<0) with
 |true=>
  rw[iP (.inl (oT d1))] at hE;subst hE;refine Av @d1 ?_;intro K hK;refine hK _ ?_;clear hK K;refine uT ?_;refine uZ ?_;refine Ay ?_;rw[show Tryz.f82.results.toList=[.cell 8 36, .tmp 9] from rfl];first|refine Bn ?_|exact Bm
  rfl
 |false=>
 have g1:=oF d1
 cases d2:decide ((y.U.length:Int)<=node) with
 |true=>
  rw[iP (.inr (.inl (oT d2)))] at hE;subst hE;refine Av (uI @d1 @d2) ?_;intro K hK;refine hK _ ?_;clear hK K;refine uT ?_;refine uZ ?_;refine Ay ?_;rw[show Tryz.f82.results.toList=[.cell 8 36, .tmp 9] from rfl];first|refine Bn ?_|exact Bm
  rfl
 |false=>
 have g2:=oF d2
 cases d3:decide (bag<1) with
 |true=>
  rw[iP (.inr (.inr (.inl (oT d3))))] at hE;subst hE;refine Av (uI @d1 (uI @d2 @d3)) ?_;intro K hK;refine hK _ ?_;clear hK K;refine uT ?_;refine uZ ?_;refine Ay ?_;rw[show Tryz.f82.results.toList=[.cell 8 36, .tmp 9] from rfl];first|refine Bn ?_|exact Bm
  rfl
 |false=>
 have g3:=oF d3
 cases d4:decide (40<bag) with
 |true=>
  rw[iP (.inr (.inr (.inr (oT d4))))] at hE;subst hE;refine Av (uI @d1 (uI @d2 (uI @d3 @d4))) ?_;intro K hK;refine hK _ ?_;clear hK K;refine uT ?_;refine uZ ?_;refine Ay ?_;rw[show Tryz.f82.results.toList=[.cell 8 36, .tmp 9] from rfl];first|refine Bn ?_|exact Bm
  rfl
 |false=>
 have g4:=oF d4;rw[iN (fun h=>by rcases h with h|h|h|h<;>omega)] at hE;obtain⟨m,hm⟩:∃m,m=node.toNat:=⟨_,rfl⟩;have DF:node=(m:Int):=oM;rw[<-hm] at hE;subst DF;have CW:m<y.U.length:=oM;have FM:m<p.Q.length:=oM;have AM:=hp.st m CW;have NG:=hp.row m CW;have Ej:=BJ m FM;have hw:Hm p bag=GG p bag:=iN oM;rw[hw] at Qw;generalize GG p bag=wq at*;obtain⟨q1,q2,q3⟩:=wq;simp only at hE Qw;generalize e2:y.U.getD m default=x at*;generalize e3:p.Q.getD m []=sl at*;refine Av (uI @d1 (uI @d2 (uI @d3 @d4))) ?_;intro K hK;refine hK _ ?_;clear hK K;refine uF ?_
 repeat refine Ac (uI (AG CW) @e2) ?_
 refine uW ?_;refine Aj _ rfl (fun c1=>?_) (fun c1=>?_)
 ·rw[iP c1] at hE;subst hE;refine uZ ?_;refine Ay ?_;rw[show Tryz.f82.results.toList=[.cell 8 36, .tmp 9] from rfl];first|refine Bn ?_|exact Bm
  rfl
 rw[iN c1] at hE;have c1':x.kd=1:=Decidable.byContradiction c1;have DR:0<sl.length:=by have:=AM (by rw[c1'];decide);omega
 refine uR ?_;intro K hK;refine cP Qw ?_;refine uS ?_;refine hK _ ?_;clear hK K;refine uZ ?_
 cases q3 with
 |true=>
  rw[iP rfl] at hE;subst hE;refine uT ?_;refine uZ ?_;refine Ay ?_;rw[show Tryz.f82.results.toList=[.cell 8 36, .tmp 9] from rfl];first|refine Bn ?_|exact Bm
  rfl
 |false=>
 rw[iN dM] at hE;refine uF ?_;refine uZ ?_;refine uW ?_;refine Aj _ rfl (fun c2=>?_) (fun c2=>?_)
 ·omega
 by_cases c3:sl.getD 0 0=0
 ·rw[iN (fun h=>h c3)] at hE;subst hE;have X7:=QbR sl bag Ej (by
   simp only[QJ,Bool.not_eq_true',Bool.or_eq_false_iff,decide_eq_false_iff_not];exact⟨oM,fun h=>h c3,oM⟩)
  refine Av (uI (BF FM) @e3) ?_;intro K hK;refine uH ?_;refine CL [] [(162,50,100,1)] false (X7) Bz Bz Ab Ab Ab Ab Ab Ab Ab Ab Ab Ab Ab Ab Ab Ab Ab ?_;refine DM ?_;refine hK _ ?_;clear hK K;refine uZ ?_;refine uF ?_;refine uR ?_;intro K hK;have z:=@Bool.or_true;refine CL [] [(169,59,100,1),(401,59,101,1)] false (Cy) (Ke z) (Ke z) (AW z) (AW z) (AW z) (AW z) (AW z) (AW z) (AW z) (AW z) (AW z) (AW z) (AW z) (AW z) (AW z) (AW z) (AW z) ?_;refine QV z ?_;clear z;refine hK _ ?_;clear hK K;refine uZ ?_;refine Ay ?_;rw[show Tryz.f82.results.toList=[.cell 8 36, .tmp 9] from rfl];first|refine Bn ?_|exact Bm
 ·rw[iP c3] at hE;subst hE;have X7:=QbP sl bag Ej (by
   simp only[QJ,Bool.not_eq_false',Bool.or_eq_true,decide_eq_true_eq];exact .inr (.inl c3))
  refine Av (uI (BF FM) @e3) ?_;intro K hK;refine uH ?_;refine cP X7 ?_;refine uS ?_;refine hK _ ?_;clear hK K;refine uZ ?_;refine uT ?_;refine uZ ?_;refine Ay ?_;rw[show Tryz.f82.results.toList=[.cell 8 36, .tmp 9] from rfl];first|refine Bn ?_|exact Bm
  rfl
open Go.Plant
theorem Qb8 (y:Ly) (p:Pl) (node bag:Int) (hp:FB y.U p):Ag Tryz.prog Ad 51 [] [y.av,p.av,I node,I bag] [] (.tup [(CS y p node bag).1.av,I (CS y p node bag).2]):=by
 have C4:=hp.xl;have C3:=hp.sl;have Al:=hp.bl;have BJ:∀i,i<p.Q.length->(p.Q.getD i []).length<=1000:=fun i hi=>by
  rw[hp.sl] at hi;have:=hp.row i hi;have:=hp.ln i hi;omega
 have BE:∀i,i<p.R.length->(p.R.getD i []).length<=1000:=fun i hi=>by
  rw[hp.bl] at hi;have:=hp.bin i hi;omega
 have Qw:=QgY p bag oM oM BJ (fun i hi=>by have:=BE i hi;omega);have Cy:=fun h=>bX p ⟨h,oM⟩ ⟨oM,oM⟩ BJ BE;have hE:CS y p node bag=_:=CS.eq_1 y p node bag;generalize CS y p node bag=r at*;refine Am Tryz.func51 Tryz.ntmps51 ?_;intro w e X hC;refine uZ ?_
 cases d1:decide (node<0) with
 |true=>
  rw[iP (.inl (oT d1))] at hE;subst hE;refine Av @d1 ?_;intro K hK;refine hK _ ?_;clear hK K;refine uT ?_;refine uZ ?_;refine Ay ?_;rw[show Tryz.f51.results.toList=[.cell 8 36, .tmp 9] from rfl];first|refine Bn ?_|exact Bm
  rfl
 |false=>
 have g1:=oF d1
 cases d2:decide ((y.U.length:Int)<=node) with
 |true=>
  rw[iP (.inr (.inl (oT d2)))] at hE;subst hE;refine Av (uI @d1 @d2) ?_;intro K hK;refine hK _ ?_;clear hK K;refine uT ?_;refine uZ ?_;refine Ay ?_;rw[show Tryz.f51.results.toList=[.cell 8 36, .tmp 9] from rfl];first|refine Bn ?_|exact Bm
  rfl
 |false=>
 have g2:=oF d2
 cases d3:decide (bag<1) with
 |true=>
  rw[iP (.inr (.inr (.inl (oT d3))))] at hE;subst hE;refine Av (uI @d1 (uI @d2 @d3)) ?_;intro K hK;refine hK _ ?_;clear hK K;refine uT ?_;refine uZ ?_;refine Ay ?_;rw[show Tryz.f51.results.toList=[.cell 8 36, .tmp 9] from rfl];first|refine Bn ?_|exact Bm
  rfl
 |false=>
 have g3:=oF d3
 cases d4:decide (40<bag) with
 |true=>
  rw[iP (.inr (.inr (.inr (oT d4))))] at hE;subst hE;refine Av (uI @d1 (uI @d2 (uI @d3 @d4))) ?_;intro K hK;refine hK _ ?_;clear hK K;refine uT ?_;refine uZ ?_;refine Ay ?_;rw[show Tryz.f51.results.toList=[.cell 8 36, .tmp 9] from rfl];first|refine Bn ?_|exact Bm
  rfl
 |false=>
 have g4:=oF d4;rw[iN (fun h=>by rcases h with h|h|h|h<;>omega)] at hE;obtain⟨m,hm⟩:∃m,m=node.toNat:=⟨_,rfl⟩;have DF:node=(m:Int):=oM;rw[<-hm] at hE;subst DF;have CW:m<y.U.length:=oM;have FM:m<p.Q.length:=oM;have AM:=hp.st m CW;have NG:=hp.row m CW;have Ej:=BJ m FM;generalize GG p bag=wq at*;obtain⟨q1,q2,q3⟩:=wq;simp only at hE Qw;generalize e2:y.U.getD m default=x at*;generalize e3:p.Q.getD m []=sl at*;refine Av (uI @d1 (uI @d2 (uI @d3 @d4))) ?_;intro K hK;refine hK _ ?_;clear hK K;refine uF ?_
 repeat refine Ac (uI (AG CW) @e2) ?_
 refine uW ?_;refine Aj _ rfl (fun c1=>?_) (fun c1=>?_)
 ·rw[iP c1] at hE;subst hE;refine uZ ?_;refine Ay ?_;rw[show Tryz.f51.results.toList=[.cell 8 36, .tmp 9] from rfl];first|refine Bn ?_|exact Bm
  rfl
 rw[iN c1] at hE;have c1':x.kd=1:=Decidable.byContradiction c1;have DR:0<sl.length:=by have:=AM (by rw[c1'];decide);omega
 refine uR ?_;intro K hK;refine cP Qw ?_;refine uS ?_;refine hK _ ?_;clear hK K;refine uZ ?_
 cases q3 with
 |true=>
  rw[iP rfl] at hE;subst hE;refine uT ?_;refine uZ ?_;refine Ay ?_;rw[show Tryz.f51.results.toList=[.cell 8 36, .tmp 9] from rfl];first|refine Bn ?_|exact Bm
  rfl
 |false=>
 rw[iN dM] at hE;refine uF ?_
 repeat refine Ac (uI (BF FM) (uI @e3 (uI (Ao DR) @Int.toNat_zero))) ?_
 refine uW ?_;refine Aj _ rfl (fun c3=>?_) (fun c3=>?_)
 ·rw[iP c3] at hE;subst hE;refine uZ ?_;refine Ay ?_;rw[show Tryz.f51.results.toList=[.cell 8 36, .tmp 9] from rfl];first|refine Bn ?_|exact Bm
  rfl
 ·rw[iN c3] at hE;subst hE;refine uR ?_;intro K hK;have z:=@Bool.or_true;refine CL [] [(157,48,100,1),(401,48,101,1)] false ((Cy oM)) (Ke z) (Ke z) (AW z) (AW z) (AW z) (AW z) (AW z) (AW z) (AW z) (AW z) (AW z) (AW z) (AW z) (AW z) (AW z) (AW z) (AW z) ?_;refine QV z ?_;clear z;refine hK _ ?_;clear hK K
  (repeat first|refine A5 ?_|refine BQ ?_|refine B5 ?_);refine Ep hC rfl fun K hK=>?_;simp only[go_sem,seval,O7 FM,e3,Int.toNat_zero]
  refine uH ?_;refine hK _ ?_;clear hK K;have Sv:∀v,((BI 3 p.Q).set m v).getD m .bad=v:=fun v=>by
   rw[Ef,iP ⟨rfl,by rw[O8];exact FM⟩]
  have Fm:(sl.set 0 bag).length=sl.length:=List.length_set;refine V4 (id:=157) (gi:=48) (t:=22) (k:=1) (i:=m) (rid:=162) (rg:=55) (n:=sl.length) rfl (by rw[List.length_set,O8];exact FM) (Sv _) dM ?_ ?_
  ·simp only[go_sem,seval,attP,Fm]
  ·simp only[go_sem,seval,att,List.set_set];refine uZ ?_;refine Ay ?_;rw[show Tryz.f51.results.toList=[.cell 8 36, .tmp 9] from rfl];first|refine Bn ?_|exact Bm
open Go.Plant Go.Inf
theorem qn (y:Ly) (p:Pl) (node bag:Int) (hp:FB y.U p):Ag Tryz.prog Ad 81 [] [p.av, .P [.sl (AA y.U) false, .sl (Ai y.D) false], .P [I node], .P [I bag]] [] (.tup [(CS y p node bag).1.av,B (decide ((CS y p node bag).2=0))]):=by
 have h1:=Qbz y p node bag hp;generalize CS y p node bag=qe at*;obtain⟨q,e⟩:=qe;simp only at h1 ⊢;refine Am Tryz.func81 Tryz.ntmps81 ?_;intro w e X hC;refine uZ ?_;refine uR ?_;intro K hK;refine cP h1 ?_;refine uS ?_;refine uH ?_;refine hK _ ?_;clear hK K;refine uZ ?_;refine Ay ?_;rw[show Tryz.f81.results.toList=[.cell 5 36, .tmp 6] from rfl];first|refine Bn ?_|exact Bm
def Fh (y:Ly) (node bag:Int) (p:Pl):Pl×Bool:=((CS y p node bag).1,decide ((CS y p node bag).2=0))
theorem gT (y:Ly) (bud:Int) (hs:List AY) (n:Nat) (bag:Int) {Gd:Pl->Prop} (hny:y.U.length<=1000) (hn:n<y.U.length) (hb:1<=bag/\bag<=40) (GY:(y.U.getD n default).kd=1) (C3:hs.length<=900) (R1:∀h∈hs,FB y.U h.2)
  (Gu:∀h∈hs,(Fh y n bag h.2).2=true->Gd (Fh y n bag h.2).1) (Cp:∀q,Gd q->M1 q) (OH:∀a b,Gd a->Gd b->B3 (AZ a)=B3 (AZ b)->a=b) (r:D5) (e:Int)
  (hr:(Ha (Fh y n bag) hs=[]/\r=⟨0,[]⟩/\e=11)\/
   (Ha (Fh y n bag) hs≠[]/\∃L:List AY,L.Perm (Ha (Fh y n bag) hs)/\(L.Pairwise fun a b=>CJ (AZ a.2) (AZ b.2)=true)/\r=⟨bud,L.map Ba⟩/\e=0)):
  Ag Tryz.prog Ad 32 [] [y.av,(D5.mk bud (hs.map Ba)).av,I n,I bag] [] (.tup [r.av,I e]):=by
 have h1:=yn (bud:=bud) (kf:=81) (c1:=[.sl (AA y.U) false, .sl (Ai y.D) false]) (c2:=[I n]) (c3:=[I bag]) (of:=Fh y n bag) hs C3 (fun h hh=>qn y h.2 n bag (R1 h hh)) Gu Cp OH (.tup [r.av,I e]) (by
  rcases hr with ⟨h1,h2,h3⟩|⟨h1,L,h2,h3,h4,h5⟩
  ·exact .inl ⟨h1,by rw[h2,h3]⟩
  ·exact .inr ⟨h1,L,h2,h3,by rw[h4,h5]⟩)
 have hg:=AG hn;have d0:=uDf ((n:Int)<0);have d1:=uDf ((y.U.length:Int)<=(n:Int));have d2:=uDf (bag<1);have d3:=uDf (40<bag);obtain⟨rb,rl⟩:=r;generalize y.U.getD n default=x at*;refine Am Tryz.func32 Tryz.ntmps32 ?_;intro w e X hC
 repeat refine Ac (uI @d0 (uI @d1 (uI @d2 @d3))) ?_
 refine uF ?_
 repeat refine Ac (uI @hg @GY) ?_
 refine uF ?_;refine uR ?_;intro K hK;refine uH ?_;refine cP h1 ?_;refine uS ?_;refine uH ?_;refine hK _ ?_;clear hK K;refine uZ ?_;refine Ay ?_;rw[show Tryz.f32.results.toList=[.cell 8 33, .tmp 9] from rfl];first|refine Bn ?_|exact Bm
open Go.Plant Go.Inf
theorem ye (l:List BU) (k:Nat) (cs:List AV) (p:BU->Bool) (hl:l.length<=1000) (hk:∀y∈l,Ag Tryz.prog Ad k [] [y.av, .P cs] [] (B (p y))):Ag Tryz.prog Ad 154 [] [.sl (BY l) false, .fn k [.P cs]] [] (I (DK p l)):=by
 refine Am Tryz.func154 Tryz.ntmps154 ?_;intro w e X hC;refine uZ ?_;refine uW ?_;refine Aw (fun i:Nat×Nat=>⟨[(1, .fn k [.P cs]),(0, .sl (BY l) false),(6, .sl (BY l) false),(7,I l.length),(8,I i.2)],[],i.1⟩) (fun i=>i.2<=l.length/\∀j,j<i.2->p (l.getD j default)=false) (fun i=>l.length - i.2) (_,0) ⟨zL _,fun j hj=>absurd hj (nZ _)⟩ (Af) ?_;rintro⟨ck,i⟩ ⟨hi,hj⟩;simp only at hi hj;refine uZ ?_;refine uW ?_;refine Aj _ rfl (fun h=>?_) (fun h=>?_)
 ·have Aa:i<l.length:=oM;have Bk:=hk (l.getD i default) (Fs Aa)
  cases c1:p (l.getD i default) with
  |true=>
   have e1:=Kr (p:=p) (d:=default) Aa hj c1;rw[c1] at Bk;refine uA ?_;refine Av (SF Aa) ?_;intro K hK;refine uH ?_;refine cF Bk ?_;refine uS ?_;refine hK _ ?_;clear hK K;refine uT ?_;refine uZ ?_;refine uJ ?_;try rfl
   first|refine Ap @e1 ?_|exact Aq @e1
  |false=>
   rw[c1] at Bk;refine uA ?_;refine Av (SF Aa) ?_;intro K hK;refine uH ?_;refine cF Bk ?_;refine uS ?_;refine hK _ ?_;clear hK K;refine uF ?_;refine uZ ?_;refine⟨(_,i+1),⟨uO,fun j Ah=>?_⟩,uO,Af⟩;by_cases AF:j=i
   ·subst AF;exact c1
   ·exact hj j (by simp only at Ah;omega)
 ·refine At ?_;have e1:=Lf (l:=l) (p:=p) fun j h=>hj j oM;refine uZ ?_;refine uJ ?_;try rfl
  first|refine Ap @e1 ?_|exact Aq @e1
theorem pN (l:List BU) (k:Nat) (cs:List AV) (p:BU->Bool) (hl:l.length<=1000) (hk:∀y∈l,Ag Tryz.prog Ad k [] [y.av, .P cs] [] (B (p y))):Ag Tryz.prog Ad 96 [] [.sl (BY l) false, .fn k [.P cs]] [] (B (l.any p)):=by
 refine Am Tryz.func96 Tryz.ntmps96 ?_;intro w e X hC;refine uA ?_;refine uR ?_;intro K hK;refine cF ((ye l k cs p hl hk)) ?_;refine uS ?_;refine hK _ ?_;clear hK K;refine uW ?_;refine uJ ?_;try rfl
 first|refine Ap @IK ?_|exact Aq @IK
theorem QbE (y:Ly) (x:BU) (ord:List Int) (hp:FB y.U x.pl):Ag Tryz.prog Ad 114 [] [x.av, .P [.P (Df y ord)]] [] (B false):=by
 have h1:=qN y x.pl ord hp;obtain⟨xu,xs,xb⟩:=x;simp only[BU.pl] at h1;refine Am Tryz.func114 Tryz.ntmps114 ?_;intro w e X hC;refine uZ ?_;refine uR ?_;intro K hK;refine cF h1 ?_;refine uS ?_;refine uH ?_;refine hK _ ?_;clear hK K;refine uJ ?_;try rfl
theorem QbF (y:Ly) (bud:Int) (hs:List AY) (G0:HW y) (hv:Dp y=0) (hr:N2 y.U) (C3:hs.length<=1000) (R1:∀h∈hs,FB y.U h.2):
  Ag Tryz.prog Ad 65 [] [y.av,(D5.mk bud (hs.map Ba)).av] [] (.tup [.P (Df y (Dz y.U)),B true]):=by
 have h1:=qk y G0 hv hr;have h2:=pN (hs.map Ba) 114 [.P (Df y (Dz y.U))] (fun _=>false) (by simpa using C3) (fun x hx=>by
  obtain⟨z,hz,rfl⟩:=List.mem_map.1 hx;exact QbE y (Ba z) (Dz y.U) (R1 z hz))
 have e1:(hs.map Ba).any (fun _=>false)=false:=sM;rw[e1] at h2;refine Am Tryz.func65 Tryz.ntmps65 ?_;intro w e X hC;refine uZ ?_;refine uR ?_;intro K hK;refine uH ?_;refine cP h1 ?_;refine uS ?_;refine uH ?_;refine hK _ ?_;clear hK K;refine uR ?_;intro K hK;refine cF h2 ?_;refine uS ?_;refine uH ?_;refine hK _ ?_;clear hK K;refine uF ?_;refine uZ ?_;refine Ay ?_;rw[show Tryz.f65.results.toList=[.tmp 4, .tmp 5] from rfl];first|refine Bn ?_|exact Bm
open Go.Plant Go.Inf
theorem g8 (y:Ly) (bud:Int) (hs:List AY) (cs:List Int) (pl:List T3) (rs:List Dh) (G0:HW y) (hv:Dp y=0) (hr:N2 y.U) (C3:hs.length<=1000) (R1:∀h∈hs,FB y.U h.2) (Cy:cs.length<=1000) (hex:∀n,n<y.U.length->(y.U.getD n default).ex.length<=500)
  (hb:Hf y.U cs []=0) (hl:rs.length=y.D.length) (Ej:rs.length<=1000) (hd:∀i,i<rs.length->(rs.getD i default).dv=(i:Int)) (r:D5) (e:Int)
  (ha:Ag Tryz.prog Ad 67 [] [.P (Df y (Dz y.U)),(D5.mk bud (hs.map Ba)).av,IS cs, .fn 68 [.P [.sl (Eu rs) false], .P [.sl (AA y.U) false, .sl (Ai y.D) false], .P [.sl (Ai pl) false], .P [I bud, .sl (BY (hs.map Ba)) false]]] [] (.tup [r.av,I e])):
  Ag Tryz.prog Ad 21 [] [y.av,(D5.mk bud (hs.map Ba)).av,IS cs, .sl (Ai pl) false, .sl (Eu rs) false] [] (.tup [r.av,I e]):=by
 have h1:=QbF y bud hs G0 hv hr C3 R1;have h2:Ag Tryz.prog Ad 66 [] [.P (Df y (Dz y.U)),IS cs, .sl [] false] [] (I 0):=by
  have:=Qb7 y (Dz y.U) cs [] G0.n Cy (zL _) hex;rw[hb] at this;exact this
 have d0:=uDf ((rs.length:Int)≠(y.D.length:Int));obtain⟨rb,rl⟩:=r;refine Am Tryz.func21 Tryz.ntmps21 ?_;intro w e X hC;refine uZ ?_;refine uR ?_;intro K hK;refine uH ?_;refine cP h1 ?_;refine uS ?_;refine uH ?_;refine hK _ ?_;clear hK K;refine uZ ?_;refine uF ?_;refine uR ?_;intro K hK;refine cF h2 ?_;refine uS ?_;refine uH ?_;refine hK _ ?_;clear hK K;refine uZ ?_;refine uF ?_
 repeat refine Ac @d0 ?_
 refine uF ?_;refine uZ ?_;refine uW ?_;refine Aw (fun i:Nat×Nat=>⟨[(2,IS cs),(5, .p 105 1 0 0 0),(6, .p 106 2 0 0 0),(8, .p 108 3 0 0 0),(9, .p 109 4 0 0 0),(10, .p 110 5 0 0 0),(11,I 0),(12, .P (Df y (Dz y.U))),(40, .sl (Eu rs) false),(41,I rs.length),(42,I i.2)],(110,some (5, .box [I 0, .sl [] true]))::(109,some (4, .box [.sl (Eu rs) false]))::(108,some (3, .box [.sl (Ai pl) false]))::(106,some (2, .box [I bud, .sl (BY (hs.map Ba)) false]))::(105,some (1, .box [.sl (AA y.U) false, .sl (Ai y.D) false]))::[],i.1⟩)
  (fun i=>i.2<=rs.length) (fun i=>rs.length - i.2) (_,0) (zL _) (Af) ?_
 rintro⟨ck,i⟩ hi;simp only at hi;refine uZ ?_;refine uW ?_;refine Aj _ rfl (fun c=>?_) (fun c=>?_)
 ·have Aa:i<rs.length:=oM;have hg:=SY Aa;have Oz:=hd i Aa;generalize rs.getD i default=x at*
  repeat refine Ac (uI @hg @Oz) ?_
  refine uF ?_;refine uZ ?_;refine⟨(_,i+1),uO,uO,Af⟩
 ·refine At ?_;refine uR ?_;intro K hK;refine uH ?_;refine cP ha ?_;refine uS ?_;refine uH ?_;refine hK _ ?_;clear hK K;refine Ay ?_;rw[show Tryz.f21.results.toList=[.cell 10 33, .tmp 11] from rfl];first|refine Bn ?_|exact Bm
open Go.Plant Go.Inf
def LJ (l:List Int) (c:Int) (a:Nat):Nat->List T3
 |0=>[]
 |i+1=>LJ l c a i++[⟨0,117+c,(i:Int)*(1+gN l (a+i) 2)⟩]
theorem zZ (l:List Int) (c:Int) (a:Nat):Ai (LJ l c a 0)=[]:=rfl
theorem U1 (l:List Int) (c:Int) (a:Nat):∀i,(LJ l c a i).length=i
 |0=>rfl
 |i+1=>by rw[LJ,aL,U1 l c a i];rfl
def Rg (o:List T3) (i j:Nat):List T3:=if CD (o.getD j default) (o.getD i default)=true then o.set i ⟨1,(o.getD i default).b,i⟩ else o
def Ma (o:List T3) (i:Nat):Nat->List T3
 |0=>o
 |j+1=>Rg (Ma o i j) i j
def L9 (o:List T3):Nat->List T3
 |0=>o
 |i+1=>Ma (L9 o i) i i
theorem pR (o:List T3) (i j:Nat):(Rg o i j).length=o.length:=by unfold Rg;split<;>simp
theorem Wn (o:List T3) (i:Nat):∀j,(Ma o i j).length=o.length
 |0=>rfl
 |j+1=>by rw[Ma,pR,Wn o i j]
theorem Wm (o:List T3):∀i,(L9 o i).length=o.length
 |0=>rfl
 |i+1=>by rw[L9,Wn,Wm o i]
def IM (l:List Int) (a:Nat):List T3:=L9 (LJ l (gN l a 3) (a+1) 40) 40
theorem Qal (l:List Int) (a:Nat):(IM l a).length=40:=by rw[IM,Wm,U1]
theorem Qam (l:List Int) (a:Nat) (hf:GI l):Ag Tryz.prog Ad 13 (Cf l a) [.p 0 0 0 0 0] (Cf l (a+41)) (.sl (Ai (IM l a)) false):=by
 have hc:=Lh (l:=l) (a:=a) (n:=3) dM;unfold IM;refine Am Tryz.func13 Tryz.ntmps13 ?_;intro w e X hC;refine uZ ?_;refine uR ?_;intro K hK;refine CY rfl ((Nk l a 3 hf dM)) Ak Ak Ak Ak Ak ?_;refine uS ?_;refine hK _ ?_;clear hK K;generalize gN l a 3=c0 at*;refine uZ ?_;refine uW ?_;refine Aw (fun i:Nat×Nat=>⟨[(0, .p 0 0 0 0 0),(3, .l 103 2 0 i.2),(4,I c0),(5,I i.2)],(103,some (2, .own 92 3 (Ai (LJ l c0 (a+1) i.2))))::Cf l (a+1+i.2),i.1⟩) (fun i=>i.2<=40) (fun i=>40 - i.2) (_,0) (zL _) (.of (lR _) (Ax @zZ) A4) ?_;rintro⟨ck,i⟩ hi;simp only at hi;refine uZ ?_;refine uW ?_;refine Aj _ rfl (fun c=>?_) (fun c=>?_)
 ·have Aa:i<40:=oM;have hg:=Lh (l:=l) (a:=a+1+i) (n:=2) dM;have w1:=Nk l (a+1+i) 2 hf dM;have e1:LJ l c0 (a+1) (i+1)=LJ l c0 (a+1) i++[⟨0,117+c0,(i:Int)*(1+gN l (a+1+i) 2)⟩]:=rfl;have AK:=U1 l c0 (a+1) i;generalize gN l (a+1+i) 2=g at*;have hm:0<=(i:Int)*(1+g)/\(i:Int)*(1+g)<=80:=by
   have:g=0\/g=1:=oM;rcases this with h|h<;>rw[h]<;>omega
  generalize LJ l c0 (a+1) i=o at*;have Ig:Cf l (a+1+(i+1))=Cf l (a+1+i+1):=rfl;refine uR ?_;intro K hK;refine uH ?_;refine CY rfl (w1) Ak Ak Ak Ak Ak ?_;refine uS ?_;refine uH ?_;refine hK _ ?_;clear hK K;refine uZ ?_;refine⟨(_,i+1),uO,uO, .of (lR _) (Ax (uI @e1 @Ig)) A4⟩
 ·refine At ?_;have Bx:i=40:=oM;subst Bx;have Ig:Cf l (a+1+40)=Cf l (a+41):=by rw[show a+1+40=a+41 by omega]
  rw[Ig];have Dc:=U1 l c0 (a+1) 40;generalize LJ l c0 (a+1) 40=o0 at*;refine uZ ?_;refine uW ?_;refine Aw (fun i:Nat×Nat=>⟨[(0, .p 0 0 0 0 0),(3, .l 103 2 0 40),(6,I i.2)],(103,some (2, .own 92 3 (Ai (L9 o0 i.2))))::Cf l (a+41),i.1⟩) (fun i=>i.2<=40) (fun i=>40 - i.2) (_,0) (zL _) (Af) ?_;rintro⟨ck2,i⟩ Dw;simp only at Dw;have I4:=Wm o0 i;rw[Dc] at I4;refine uZ ?_;refine uW ?_;refine Aj _ rfl (fun c2=>?_) (fun c2=>?_)
  ·have Aa:i<40:=oM;have e1:L9 o0 (i+1)=Ma (L9 o0 i) i i:=rfl;generalize L9 o0 i=o1 at*;refine uZ ?_;refine uW ?_;refine Aw (fun j:Nat×Nat=>⟨[(0, .p 0 0 0 0 0),(3, .l 103 2 0 40),(6,I i),(7,I j.2)],(103,some (2, .own 92 3 (Ai (Ma o1 i j.2))))::Cf l (a+41),j.1⟩) (fun j=>j.2<=i) (fun j=>i - j.2) (_,0) (zL _) (Af) ?_;rintro⟨ck3,j⟩ hj;simp only at hj;refine uZ ?_;refine uW ?_;refine Aj _ rfl (fun c3=>?_) (fun c3=>?_)
   ·have Co:j<i:=oM;have e2:Ma o1 i (j+1)=Rg (Ma o1 i j) i j:=rfl;have vp:=Wn o1 i j;rw[I4] at vp;generalize Ma o1 i j=o2 at*;unfold Rg at e2;have g1:=By (l:=o2) (i:=j) oM;have g2:=By (l:=o2) (i:=i) oM;generalize o2.getD j default=x1 at*;generalize o2.getD i default=x2 at*;have hq:(decide (x1.a=x2.a)&&(decide (x1.b=x2.b)&&(decide (x1.c=x2.c)&&true)))=CD x1 x2:=rfl
    cases Sr:CD x1 x2 with
    |false=>
     rw[Sr] at e2 hq;rw[iN dM] at e2;refine Cv (uI @g1 @g2) ?_;intro K hK;refine⟨oM,oM,oM,oM,?_⟩;simp only[hq];refine hK _ ?_;clear hK K;refine uF ?_;refine uZ ?_;refine⟨(_,j+1),uO,uO, .of (lR _) (Ax @e2) A4⟩
    |true=>
     rw[Sr] at e2 hq;rw[iP rfl] at e2;refine Cv (uI @g1 @g2) ?_;intro K hK;refine⟨oM,oM,oM,oM,?_⟩;simp only[hq];refine hK _ ?_;clear hK K;refine uT ?_;have g3:=By (l:=o2.set i ⟨1,x2.b,x2.c⟩) (i:=i) (by rw[List.length_set];omega);have e3:(o2.set i ⟨1,x2.b,x2.c⟩).getD i default=⟨1,x2.b,x2.c⟩:=by rw[gE,List.getElem?_set_self oM];rfl
     rw[e3] at g3;have e4:(o2.set i ⟨1,x2.b,x2.c⟩).set i ⟨1,x2.b,(i:Int)⟩=o2.set i ⟨1,x2.b,(i:Int)⟩:=List.set_set _;refine Av (uI @g1 (uI @g2 @g3)) ?_;intro K hK;refine uH ?_;rw[iN (fun h:False/\False=>h.1)];simp only[kv,e4];refine hK _ ?_;clear hK K;refine uZ ?_;refine⟨(_,j+1),uO,uO, .of (lR _) (Ax @e2) A4⟩
   ·refine At ?_;have XN:j=i:=oM;subst XN;refine uZ ?_;refine⟨(_,j+1),uO,uO, .of (lR _) (Ax @e1) A4⟩
  ·refine At ?_;have Bx:i=40:=oM;subst Bx;generalize L9 o0 40=oF at*;refine uZ ?_;refine Ay ?_;rw[show Tryz.f13.results.toList=[.tmp 2] from rfl];(refine(Pm (by simp only[go_sem,seval,Bv,BK]<;>trivial) rfl ?_ ?_ ?_ ?_);(iterate 2 (focus (first|exact trivial|(simp only[go_sem,seval,Bv,BK]<;>trivial))));all_goals (try simp only[go_sem,seval,Bv,BK]))
open Go.Plant Go.Inf Go.Sort
structure T2 where
 a:Int
 b:Int
 deriving Inhabited
abbrev T2.av (x:T2):AV:= .agg [I x.a,I x.b]
def Gf (l:List T2):List AV:=l.map T2.av
theorem Qfh (l:List T2):(Gf l).length=l.length:=by simp[Gf]
theorem kq {l:List T2} {i:Nat} (h:i<l.length):(Gf l).getD i .bad=(l.getD i default).av:=by simp[Gf,h]
theorem mU (l:List T2):PE (Gf l)=True:=by
 refine eq_true fun e he c hc=>?_;simp only[Gf,List.mem_map] at he;obtain⟨x,_,rfl⟩:=he;simp only[AV.cells,List.mem_cons,List.not_mem_nil,or_false] at hc;rcases hc with rfl|rfl<;>first|trivial|rfl
theorem Qfi {l:List T2} {a:Int} {b:Int}:Gf l++[.agg [.lit (.int .i64 a), .lit (.int .i64 b)]]=Gf (l++[⟨a,b⟩]):=by simp[Gf]
attribute [go_sem] Qfh mU Qfi
def Kp (x y:T2):Bool:=decide (x.a=y.a)&&(decide (x.b=y.b)&&true)
theorem xM (l:List T2) (x:T2) (hl:l.length<=1000):Ag Tryz.prog Ad 152 [] [.sl (Gf l) false,x.av] [] (I (DK (fun y:T2=>Kp x y) l)):=by
 refine Am Tryz.func152 Tryz.ntmps152 ?_;intro w e X hC;refine uZ ?_;refine uW ?_;refine Aw (fun i:Nat×Nat=>⟨[(3, .p 103 1 0 0 0),(0, .sl (Gf l) false),(6, .sl (Gf l) false),(7,I l.length),(8,I i.2)],(103,some (1, .box [I x.a,I x.b]))::[],i.1⟩) (fun i=>i.2<=l.length/\∀j,j<i.2->(fun y:T2=>Kp x y) (l.getD j default)=false) (fun i=>l.length - i.2) (_,0) ⟨zL _,fun j hj=>absurd hj (nZ _)⟩ (Af) ?_;rintro⟨ck,i⟩ ⟨hi,hj⟩;simp only at hi hj;refine uZ ?_;refine uW ?_;refine Aj _ rfl (fun h=>?_) (fun h=>?_)
 ·have Aa:i<l.length:=oM
  skip
  cases c1:(fun y:T2=>Kp x y) (l.getD i default) with
  |true=>
   have e1:=Kr (p:=(fun y:T2=>Kp x y)) (d:=default) Aa hj c1;have d1:=c1;simp only[Kp] at d1;refine uA ?_;refine Cv (uI (kq Aa) @d1) ?_;intro K hK;refine uH ?_;refine hK _ ?_;clear hK K;refine uT ?_;refine uZ ?_;refine uJ ?_;try rfl
   first|refine Ap @e1 ?_|exact Aq @e1
  |false=>
   have d1:=c1;simp only[Kp] at d1;refine uA ?_;refine Cv (uI (kq Aa) @d1) ?_;intro K hK;refine uH ?_;refine hK _ ?_;clear hK K;refine uF ?_;refine uZ ?_;refine⟨(_,i+1),⟨uO,fun j Ah=>?_⟩,uO,Af⟩;by_cases AF:j=i
   ·subst AF;exact c1
   ·exact hj j (by simp only at Ah;omega)
 ·refine At ?_;have e1:=Lf (l:=l) (p:=(fun y:T2=>Kp x y)) fun j h=>hj j oM;refine uZ ?_;refine uJ ?_;try rfl
  first|refine Ap @e1 ?_|exact Aq @e1
theorem pJ (l:List T2) (x:T2) (hl:l.length<=1000):Ag Tryz.prog Ad 91 [] [.sl (Gf l) false,x.av] [] (B (l.any (fun y:T2=>Kp x y))):=by
 refine Am Tryz.func91 Tryz.ntmps91 ?_;intro w e X hC;refine uA ?_;refine uR ?_;intro K hK;refine cF ((xM l x hl)) ?_;refine uS ?_;refine hK _ ?_;clear hK K;refine uW ?_;refine uJ ?_;try rfl
 first|refine Ap @IK ?_|exact Aq @IK
def MO:List Int->Int
 |[]=>0
 |x::l=>if x≠0 then x else MO l
theorem Qa9 {l:List Int} {i:Nat} (h:i<l.length):MO (l.drop i)=if l.getD i 0≠0 then l.getD i 0 else MO (l.drop (i+1)):=by
 rw[List.drop_eq_getElem_cons h,MO,gE,gG h];rfl
theorem Qba (l:List Int) (hl:l.length<=1000):Ag Tryz.prog Ad 94 [] [IS l] [] (I (MO l)):=by
 refine Am Tryz.func94 Tryz.ntmps94 ?_;intro w e X hC;refine uZ ?_;refine uW ?_;refine Aw (fun i:Nat×Nat=>⟨[(3,I 0),(6,IS l),(7,I l.length),(8,I i.2)],[],i.1⟩) (fun i=>i.2<=l.length/\MO l=MO (l.drop i.2)) (fun i=>l.length - i.2) (_,0) ⟨zL _,rfl⟩ (Af) ?_;rintro⟨ck,i⟩ ⟨hi,ho⟩;simp only at hi ho;refine uZ ?_;refine uW ?_;refine Aj _ rfl (fun c=>?_) (fun c=>?_)
 ·have Aa:i<l.length:=oM;have hg:=Ao Aa;have hs:=Qa9 Aa;rw[<-ho] at hs;generalize l.getD i 0=x at*
  repeat refine Ac @hg ?_
  refine uW ?_;refine Aj _ rfl (fun c2=>?_) (fun c2=>?_)
  ·rw[iP c2] at hs;rw[hs];refine uZ ?_;refine uJ ?_;try rfl
  ·rw[iN c2] at hs;refine uZ ?_;refine⟨(_,i+1),⟨uO,hs⟩,uO,Af⟩
 ·refine At ?_;have Bx:i=l.length:=oM;rw[ho,Bx,List.drop_length,MO];refine uZ ?_;refine uJ ?_;try rfl
def M6 (x y:T2):Int:=MO [x.a - y.a,x.b - y.b]
theorem pA (x y:T2):M6 x y=if x.a - y.a≠0 then x.a - y.a else if x.b - y.b≠0 then x.b - y.b else 0:=rfl
theorem pB:SWO (ltOf M6):=by
 have e:∀x y:T2,ltOf M6 x y=decide (x.a<y.a\/(x.a=y.a/\x.b<y.b)):=fun x y=>by
  unfold ltOf;rw[Bool.eq_iff_iff,decide_eq_true_iff,decide_eq_true_iff,pA]
  split
  ·omega
  ·split<;>omega
 refine⟨fun x=>?_,fun x y z h1 h2=>?_,fun x y z h1 h2=>?_⟩
 ·rw[e,decide_eq_false_iff_not];omega
 ·rw[e,decide_eq_true_iff] at*;omega
 ·rw[e,decide_eq_false_iff_not] at*;omega
def N5 (x:T2):Prop:=-1000000<=x.a/\x.a<=1000000/\-1000000<=x.b/\x.b<=1000000
theorem QbG (x y:T2) (hx:N5 x) (hy:N5 y):Ag Tryz.prog Ad 93 [] [x.av,y.av] [] (I (M6 x y)):=by
 obtain⟨h1,h2,h3,h4⟩:=hx;obtain⟨h5,h6,h7,h8⟩:=hy;have wo:=Qba [x.a - y.a,x.b - y.b] sM;unfold M6;refine Am Tryz.func93 Tryz.ntmps93 ?_;intro w e X hC;refine uZ ?_;refine uR ?_;intro K hK;refine⟨oM,oM,?_⟩;refine cF wo ?_;refine uS ?_;refine uH ?_;refine hK _ ?_;clear hK K;refine uJ ?_;try rfl
theorem QbO (G G':List T2) (h0:G≠[]) (hG:∀x∈G,N5 x) (hl:G.length<=1000000) (hp:G'.Perm G) (hs:G'.Pairwise fun a b=>M6 a b<0):
  Ag Tryz.prog Ad 92 [(0,some (0, .own 77 2 (Gf G)))] [.l 0 0 0 G.length, .fn 93 []] [(0,some (0, .own 77 2 (Gf G')))] (.tup []):=
 jW (T:=Ad) Go.Proofs.Tryz.sortPlc rfl ⟨Tryz.f92,Tryz.func92,by rfl,by rfl⟩ (enters_of Tryz.func93 kR rfl) dM Tryz.isAgg77 Tryz.sizeOf77
  (fun x:T2=>[I x.a,I x.b]) (fun x=>⟨rfl,fun c hc=>by
   simp only[List.mem_cons,List.not_mem_nil,or_false] at hc;rcases hc with rfl|rfl<;>trivial⟩) N5 M6 pB (fun x y hx hy=>QbG x y hx hy) G G' h0 hG hl hp hs
def Zf (bag:Int) (G:List T2) (h:AY):List T2:=if(Hm h.2 bag).2.2=true then(if G.any (fun y=>Kp ⟨(Hm h.2 bag).1,(Hm h.2 bag).2.1⟩ y)=true then G else G++[⟨(Hm h.2 bag).1,(Hm h.2 bag).2.1⟩]) else G
def U6 (bag:Int) (hs:List AY):List T2:=hs.foldl (Zf bag) []
theorem QbD (bud:Int) (hs:List AY) (bag:Int) (L:List T2) (C3:hs.length<=900) (XS:∀h∈hs,Jw h.2) (G0:∀h∈hs,N5 ⟨(Hm h.2 bag).1,(Hm h.2 bag).2.1⟩) (h0:U6 bag hs≠[]) (hp:L.Perm (U6 bag hs)) (Fp:L.Pairwise fun a b=>M6 a b<0):
  Ag Tryz.prog Ad 39 [] [(D5.mk bud (hs.map Ba)).av,I bag] [] (.sl (Gf L) false):=by
 refine Am Tryz.func39 Tryz.ntmps39 ?_;intro w e X hC;refine uZ ?_;refine uW ?_;refine Aw (fun i:Nat×Nat×List T2=>⟨[(1,I bag),(2, .p 102 1 0 0 0),(5, .l 105 3 0 i.2.2.length),(11, .sl (BY (hs.map Ba)) false),(12,I hs.length),(13,I i.2.1)],(105,some (3, .own 77 2 (Gf i.2.2)))::(102,some (1, .box [I bud, .sl (BY (hs.map Ba)) false]))::[],i.1⟩)
  (fun i=>i.2.1<=hs.length/\U6 bag hs=(hs.drop i.2.1).foldl (Zf bag) i.2.2/\(∀x∈i.2.2,N5 x)/\i.2.2.length<=i.2.1) (fun i=>hs.length - i.2.1) (_,0,[]) ⟨zL _,rfl,(fun x hx=>by cases hx),zL _⟩ (Af) ?_
 rintro⟨ck,i,Gi⟩ ⟨hi,AL,Fk,JH⟩;simp only at hi AL Fk JH;refine uZ ?_;refine uW ?_;refine Aj _ rfl (fun c=>?_) (fun c=>?_)
 ·have Aa:i<hs.length:=oM;have hg:=YH Aa;have hm:hs.getD i (0,⟨[],[]⟩)∈hs:=GQ Aa _;have Oy:hs.drop i=hs.getD i (0,⟨[],[]⟩)::hs.drop (i+1):=by
   rw[List.drop_eq_getElem_cons Aa,gE,gG Aa];rfl
  rw[Oy,List.foldl_cons] at AL;have hk:=XS _ hm;have Yl:=G0 _ hm;generalize hs.getD i (0,⟨[],[]⟩)=h at*;obtain⟨hu,EK⟩:=h;have w1:=jp EK bag hk.sl hk.bl (fun i hi=>hk.sr _ (GQ hi [])) (fun i hi=>hk.br _ (GQ hi []));have R8:∀h:AY,Zf bag Gi h=if(Hm h.2 bag).2.2=true then(if Gi.any (fun y=>Kp ⟨(Hm h.2 bag).1,(Hm h.2 bag).2.1⟩ y)=true then Gi else Gi++[⟨(Hm h.2 bag).1,(Hm h.2 bag).2.1⟩]) else Gi:=fun h=>rfl
  rw[R8] at AL;clear R8;simp only[Ba] at hg AL Yl;generalize Hm EK bag=q at*;obtain⟨qa,qb,qo⟩:=q;simp only[Z1] at w1 AL Yl
  cases qo with
  |false=>
   rw[iN dM] at AL
   repeat refine Ac @hg ?_
   refine uR ?_;intro K hK;refine uH ?_;refine cP w1 ?_;refine uS ?_;refine uH ?_;refine hK _ ?_;clear hK K;refine uZ ?_;refine uF ?_;refine uZ ?_;refine⟨(_,i+1,Gi),⟨uO,AL,Fk,uO⟩,uO,Af⟩
  |true=>
   rw[iP rfl] at AL;have w2:=pJ Gi ⟨qa,qb⟩ oM
   cases hc:Gi.any (fun y=>Kp ⟨qa,qb⟩ y) with
   |true=>
    rw[hc] at w2 AL;rw[iP rfl] at AL
    repeat refine Ac @hg ?_
    refine uR ?_;intro K hK;refine uH ?_;refine cP w1 ?_;refine uS ?_;refine uH ?_;refine hK _ ?_;clear hK K;refine uR ?_;intro K hK;refine CL [] [] true (w2) Bz Bz Ab Ab Ab Ab Ab Ab Ab Ab Ab Ab Ab Ab Ab Ab Ab ?_;refine DM ?_;refine uH ?_;refine hK _ ?_;clear hK K;refine uF ?_;refine uZ ?_;refine⟨(_,i+1,Gi),⟨uO,AL,Fk,uO⟩,uO,Af⟩
   |false=>
    rw[hc] at w2 AL;rw[iN dM] at AL
    repeat refine Ac @hg ?_
    refine uR ?_;intro K hK;refine uH ?_;refine cP w1 ?_;refine uS ?_;refine uH ?_;refine hK _ ?_;clear hK K;refine uR ?_;intro K hK;refine CL [] [] true (w2) Bz Bz Ab Ab Ab Ab Ab Ab Ab Ab Ab Ab Ab Ab Ab Ab Ab ?_;refine DM ?_;refine uH ?_;refine hK _ ?_;clear hK K;refine uT ?_;refine uZ ?_;refine⟨(_,i+1,Gi++[⟨qa,qb⟩]),⟨uO,AL,fun x hx=>?_,by simp only[aL,List.length_singleton];omega⟩,uO,Af⟩;rcases List.mem_append.1 hx with hx|hx
    ·exact Fk x hx
    ·rw[List.mem_singleton.1 hx];exact Yl
 ·refine At ?_;have Bx:i=hs.length:=oM;rw[Bx,List.drop_length,List.foldl_nil] at AL;rw[AL] at h0 hp;have ws:=QbO Gi L h0 Fk oM hp Fp;have Qd:Gi.length=L.length:=hp.length_eq.symm;rw[Qd] at ws ⊢;refine uR ?_;intro K hK;refine CL [(0,0,105,3)] [(105,3,0,0)] false (ws) Bz Bz Ab Ab Ab Ab Ab Ab Ab Ab Ab Ab Ab Ab Ab Ab Ab ?_;refine DM ?_;refine uH ?_;refine hK _ ?_;clear hK K;refine uZ ?_;refine Ay ?_;rw[show Tryz.f39.results.toList=[.tmp 4] from rfl];first|refine Bn ?_|exact Bm
open Go.Plant Go.Inf
section
variable {A n:Nat} {y:Ly} {L:List Int} {p:Pl}
theorem Bh.slot (h:Bh y p L) {t:Nat} (ht:t<y.U.length) {x:Int} (hx:x∈p.Q.getD t []):x=0\/x∈L:=by
 by_cases h0:x=0
 ·exact .inl h0
 ·exact .inr (h.mem.1 (Tq.2 ⟨t,ht,List.mem_append_left _ ((zz h0).2 hx)⟩))
theorem Bh.binm (h:Bh y p L) {t:Nat} (ht:t<y.U.length) {x:Int} (hx:x∈p.R.getD t []):x∈L:=h.mem.1 (Tq.2 ⟨t,ht,List.mem_append_right _ hx⟩)
theorem P8 {α:Type} {l:List α} {x d:α} (h:x∈l):∃i,i<l.length/\l.getD i d=x:=by
 obtain⟨i,hi,e⟩:=List.getElem_of_mem h;exact⟨i,hi,by rw[gE,gG hi,<-e];rfl⟩
theorem Bh.kyP (hn:y.U.length<=11) (h:Bh y p L):Jw p:=by
 have hs:=h.fp.sl;have hb:=h.fp.bl;refine⟨oM,oM,fun r hr=>?_,fun r hr=>?_⟩
 ·obtain⟨i,hi,rfl⟩:=P8 (d:=[]) hr;rw[h.fp.row i oM];have:=h.fp.ln i oM;omega
 ·obtain⟨i,hi,rfl⟩:=P8 (d:=[]) hr;have:=h.fp.bin i oM;omega
theorem Bh.kyN (hn:y.U.length<=11) (hL:FU L) (h:Bh y p L):M1 p:=by
 have hs:=h.fp.sl;have hb:=h.fp.bl;refine⟨h.kyP hn,fun x hx=>?_⟩;rw[YQ] at hx;rcases List.mem_append.1 hx with hx|hx
 ·obtain⟨r,hr,hx⟩:=List.mem_flatten.1 hx;obtain⟨i,hi,rfl⟩:=P8 (d:=[]) hr;rcases h.slot oM hx with e|e
  ·omega
  ·have:=hL.pos x e;omega
 ·obtain⟨r,hr,hx⟩:=List.mem_flatMap.1 hx;obtain⟨i,hi,rfl⟩:=P8 (d:=[]) hr;rcases List.mem_cons.1 hx with e|hx
  ·have:=h.fp.bin i oM;omega
  ·have:=hL.pos x (h.binm oM hx);omega
theorem Bh.inj {a b:Pl} (hn:y.U.length<=11) (hL:FU L) (ha:Bh y a L) (hb:Bh y b L) (h:B3 (AZ a)=B3 (AZ b)):a=b:=by
 have h1:=YN (fun x hx=>((ha.kyN hn hL).nn x hx).1) (fun x hx=>((hb.kyN hn hL).nn x hx).1) h;have h2:a.Q.map List.length=b.Q.map List.length:=by
  refine List.ext_getElem (by simp[ha.fp.sl,hb.fp.sl]) fun i h1 h2=>?_;have hi:i<y.U.length:=by rw[List.length_map,ha.fp.sl] at h1;exact h1
  have e1:=ha.fp.row i hi;have e2:=hb.fp.row i hi;rw[gE,gG (by rw[ha.fp.sl];exact hi)] at e1;rw[gE,gG (by rw[hb.fp.sl];exact hi)] at e2;simp only[List.getElem_map];exact e1.trans e2.symm
 obtain⟨h3,h4⟩:=yr h2 (ha.fp.bl.trans hb.fp.bl.symm) h1;obtain⟨a1,a2⟩:=a;obtain⟨b1,b2⟩:=b;simp only at h3 h4;rw[h3,h4]
theorem qX {cs:List Int} {m:Nat} {s:List Int} {k:Nat} (hk:k<s.length) {f:T3} (h:f∈Mg cs m s k):(f.a=1\/f.a=2)/\f.b=m/\f.c=k/\s.getD k 0≠0:=by
 unfold Mg at h;by_cases h0:s.getD k 0=0
 ·rw[iP h0] at h;cases h
 ·rw[iN h0] at h;by_cases h1:k+1=s.length
  ·rw[iP h1] at h;by_cases h2:cs.getD m 0<0
   ·rw[iP h2] at h;cases h
   ·rw[iN h2] at h;rw[List.mem_singleton.1 h];exact⟨.inl rfl,rfl,rfl,h0⟩
  ·rw[iN h1] at h;by_cases h2:s.getD (k+1) 0≠0
   ·rw[iP h2] at h;cases h
   ·rw[iN h2] at h;rcases List.mem_cons.1 h with e|h
    ·rw[e];exact⟨.inl rfl,rfl,rfl,h0⟩
    ·by_cases h3:k+2<s.length
     ·rw[iP h3] at h;by_cases h4:s.getD (k+2) 0=0
      ·rw[iP h4] at h;rw[List.mem_singleton.1 h];exact⟨.inr rfl,rfl,rfl,h0⟩
      ·rw[iN h4] at h;cases h
     ·rw[iN h3] at h;cases h
theorem du {cs:List Int} {m:Nat} {s:List Int} {f:T3}:∀{K:Nat},K<=s.length->f∈CU cs m s K->(f.a=1\/f.a=2)/\f.b=m/\∃k:Nat,f.c=k/\k<s.length
 |0,_,h=>by cases h
 |K+1,hK,h=>by
  rcases List.mem_append.1 h with h|h
  ·exact du oM h
  ·obtain⟨h1,h2,h3,_⟩:=qX oM h;exact⟨h1,h2,K,h3,oM⟩
theorem dq {cs:List Int} {ss:List (List Int)} {f:T3}:∀{N:Nat},f∈I0 cs ss N->(f.a=1\/f.a=2)/\∃m k:Nat,m<N/\f.b=m/\f.c=k/\k<(ss.getD m []).length
 |0,h=>by cases h
 |N+1,h=>by
  rcases List.mem_append.1 h with h|h
  ·obtain⟨h1,m,k,h2,h3⟩:=dq h;exact⟨h1,m,k,oM,h3⟩
  ·obtain⟨h1,h2,k,h3,h4⟩:=du (lR _) h;exact⟨h1,N,k,oM,h2,h3,h4⟩
theorem Qaq (s:List Int) {k:Nat} (h:k<s.length):nz (s.take (k+1))=nz (s.take k)++(if s.getD k 0=0 then[] else[s.getD k 0]):=by
 rw[Vr h 0,Qap]
 congr 1
 split
 ·rename_i h0;rw[h0];rfl
 ·rename_i h0;exact iS h0
theorem dt {cs:List Int} {m:Nat} {s:List Int}:∀{K:Nat},K<=s.length->(CU cs m s K).length<=2*(nz (s.take K)).length
 |0,_=>zL _
 |K+1,hK=>by
  have h1:=dt (cs:=cs) (m:=m) (s:=s) (K:=K) oM;have h2:=dy cs m s K;rw[CU,aL,Qaq s oM,aL];by_cases h0:s.getD K 0=0
  ·have:Mg cs m s K=[]:=by unfold Mg;rw[iP h0]
   rw[this,iP h0];simp;omega
  ·rw[iN h0];simp;omega
theorem dm {cs:List Int} {p:Pl}:∀{N:Nat},(I0 cs p.Q N).length<=2*(ED p N).length
 |0=>zL _
 |N+1=>by
  have h1:=dm (cs:=cs) (p:=p) (N:=N);have h2:=dt (cs:=cs) (m:=N) (s:=p.Q.getD N []) (lR _);rw[List.take_length] at h2;rw[I0,aL,ED,aL,FS,aL];omega
theorem Bh.flt_len (h:Bh y p L) (cs:List Int):(CN cs p).length<=2*L.length:=by
 have:=dm (cs:=cs) (p:=p) (N:=p.Q.length);rw[h.fp.sl] at this;rw[h.perm.length_eq] at this;unfold CN;rw[h.fp.sl];exact this
theorem Bh.flt_mem (h:Bh y p L) {cs:List Int} {f:T3} (hf:f∈CN cs p):(f.a=1\/f.a=2)/\0<=f.b/\f.b<y.U.length/\0<=f.c/\f.c<(y.U.getD f.b.toNat default).ln:=by
 obtain⟨h1,m,k,h2,h3,h4,h5⟩:=dq hf;rw[h.fp.sl] at h2;rw[h.fp.row m h2] at h5;have:=h.fp.ln m h2;have e:f.b.toNat=m:=oM;rw[e];exact⟨h1,oM,oM,oM,oM⟩
def D6 (F X:List T3):Prop:=(∀f∈X,f∈F)/\(X.Pairwise fun f g=>CQ f≠CQ g)/\X.length<=2
theorem D6.nil (F:List T3):D6 F []:=⟨fun f h=>(by cases h), .nil,zL _⟩
theorem D6.snoc {F sm:List T3} {f:T3} (h:D6 F sm) (hf:f∈F) (ha:∀g∈sm,CQ f≠CQ g) (hl:sm.length<2):D6 F (sm++[f]):=by
 refine⟨fun g hg=>?_,?_,by rw[aL,List.length_singleton];omega⟩
 ·rcases List.mem_append.1 hg with hg|hg
  ·exact h.1 g hg
  ·rw[List.mem_singleton.1 hg];exact hf
 ·rw[List.pairwise_append];refine⟨h.2.1,List.pairwise_singleton _ _,fun a BV b hb=>?_⟩;rw[List.mem_singleton.1 hb];exact fun e=>ha a BV e.symm
theorem Bh.ftOk (h:Bh y p L) {cs:List Int} {X:List T3} (hX:D6 (CN cs p) X):Ju y.U X:=
 ⟨fun f hf=>h.flt_mem (hX.1 f hf),hX.2.1.imp fun {f g} uy he=>uy (by unfold CQ;rw[he.1,he.2])⟩
theorem cK {node bag:Int} (h:(CS y p node bag).2=0):∃m:Nat,node=m/\m<y.U.length/\(1<=bag/\bag<=40)/\(y.U.getD m default).kd=1/\(p.Q.getD m []).getD 0 0=0/\(CS y p node bag).1=⟨p.Q.set m ((p.Q.getD m []).set 0 bag),p.R⟩:=by
 unfold CS at h ⊢;by_cases h1:node<0\/y.U.length<=node\/bag<1\/40<bag
 ·rw[iP h1] at h;cases h
 ·rw[iN h1] at h ⊢;by_cases h2:¬(y.U.getD node.toNat default).kd=1
  ·rw[iP h2] at h;cases h
  ·rw[iN h2] at h ⊢;by_cases h3:(GG p bag).2.2=true
   ·rw[iP h3] at h;cases h
   ·rw[iN h3] at h ⊢;by_cases h4:¬(p.Q.getD node.toNat []).getD 0 0=0
    ·rw[iP h4] at h;cases h
    ·rw[iN h4];exact⟨node.toNat,oM,oM,oM,Decidable.not_not.1 h2,Decidable.not_not.1 h4,rfl⟩
theorem qp {m:Nat} {bag:Int} (hb:bag≠0) (hl:(p.Q.getD m []).length≠0) (h0:(p.Q.getD m []).getD 0 0=0) (hm:m<p.Q.length) (t:Nat):
  FS ⟨p.Q.set m ((p.Q.getD m []).set 0 bag),p.R⟩ t=if t=m then bag::FS p t else FS p t:=by
 unfold FS;simp only;by_cases e:t=m
 ·subst e;rw[iP rfl,gE (l:=p.Q.set t _),List.getElem?_set_self hm,Option.getD_some]
  cases hr:p.Q.getD t [] with
  |nil=>rw[hr] at hl;exact absurd rfl hl
  |cons x r=>
   rw[hr] at h0;have h0:x=0:=h0;subst h0;rw[List.set_cons_zero,Pe hb,NU,List.cons_append]
 ·rw[iN e,gE (l:=p.Q.set m _),List.getElem?_set_ne (fun h=>e h.symm),<-gE]
theorem cJ {m:Nat} {bag:Int} (hb:bag≠0) (hl:(p.Q.getD m []).length≠0) (h0:(p.Q.getD m []).getD 0 0=0) (hm:m<p.Q.length):∀N,(ED ⟨p.Q.set m ((p.Q.getD m []).set 0 bag),p.R⟩ N).Perm (if m<N then bag::ED p N else ED p N)
 |0=> .refl _
 |N+1=>by
  have ih:=cJ hb hl h0 hm N;rw[ED,ED,qp hb hl h0 hm N];by_cases e:N=m
  ·subst e;rw[iP rfl,iP oM];rw[iN oM] at ih;exact(ih.append_right _).trans List.perm_middle
  ·rw[iN e];by_cases e2:m<N
   ·rw[iP e2] at ih;rw[iP oM];exact ih.append_right _
   ·rw[iN e2] at ih;rw[iN oM];exact ih.append_right _
theorem Bh.enter (h:Bh y p L) {node bag:Int} (he:(CS y p node bag).2=0):Bh y (CS y p node bag).1 (bag::L):=by
 obtain⟨m,h1,h2,h3,h4,h5,h6⟩:=cK he;rw[h6];have AM:=h.fp.st m h2 (by rw[h4];rfl);have NG:=h.fp.row m h2;have FM:m<p.Q.length:=by rw[h.fp.sl];exact h2
 refine⟨{h.fp with sl:=by simpa using h.fp.sl,row:=fun t ht=>?_},?_,h.srt⟩
 ·by_cases e:t=m
  ·subst e;rw[gE,List.getElem?_set_self FM,Option.getD_some,List.length_set];exact NG
  ·rw[gE,List.getElem?_set_ne (fun h=>e h.symm),<-gE];exact h.fp.row t ht
 ·have:=cJ (p:=p) (m:=m) (bag:=bag) oM oM h5 FM y.U.length;rw[iP h2] at this;exact this.trans (h.perm.cons _)
theorem Bh.dvF (h:Bh y p L) (hn:y.U.length<=11) (hd:JD y.U y.D=0) (I4:y.D.length<=24):K5 y p:=by
 have Cq:∀j,j<y.D.length->Ez y.U (y.D.getD j default)=0:=fun j hj=>by
  unfold JD at hd
  split at hd
  ·rename_i d hf;have:=List.find?_some hf;simp[hd] at this
  ·rename_i hf;rw[List.find?_eq_none] at hf;have:=hf _ (Fs (d:=default) hj)
   simpa using this
 refine⟨oM,by have:=h.fp.sl;omega,fun d hd=>?_⟩;have h1:=Cq d hd;unfold Ez at h1
 split at h1
 ·cases h1
 ·split at h1
  ·cases h1
  ·rename_i h2;unfold M9 Og;have e:((y.D.getD d default).b.toNat:Int)=(y.D.getD d default).b:=oM;refine⟨e.symm,oM,by rw[h.fp.sl];omega,?_⟩;rw[h.fp.row _ oM];omega
theorem Bh.sees (h:Bh y p L) (hL:FU L) (hf:K5 y p) {d:Nat} (hd:d<y.D.length):0<=Hh y p d/\Hh y p d<=40:=by
 obtain⟨_,_,h3,h4⟩:=hf.at_ d hd;unfold Hh;rcases h.slot (by rw[<-h.fp.sl];exact h3) (GQ h4 0) with e|e
 ·omega
 ·have:=hL.pos _ e;omega
theorem Qch (y:Ly) (p:Pl) (pl:List T3) (d:Nat):Kb (E8 y p pl d)=MS y p pl d:=by
 unfold Kb E8 MS;simp only;by_cases h1:Hh y p d≠0
 ·by_cases h2:Rj y d=2
  ·rw[iP ⟨h2,h1⟩,iP ⟨h1,h2⟩]
  ·rw[iN (fun h=>h2 h.1),iN (fun h=>h2 h.2)]
 ·rw[iN (fun h=>h1 h.2),iN (fun h=>h1 h.1)]
theorem b7 (y:Ly) (p:Pl) (pl:List T3) (bud:Int) (hb:0<=bud):Gj y p pl bud (E9 y p pl)=(0,true):=by
 have key:∀d k,k+d=y.D.length->Kk y p pl bud k ((E9 y p pl).drop k) 0=(0,true):=by
  intro d
  induction d with
  |zero=>intro k hk;rw[List.drop_of_length_le (by rw[E9,U2];omega)];rfl
  |succ d ih=>
   intro k hk;have A3:k<(E9 y p pl).length:=by rw[E9,U2];omega
   have hg:(E9 y p pl).getD k default=MS y p pl k:=by
    unfold E9 LK;rw[gE];simp[show k<y.D.length by omega]
   rw[b5 A3,hg,Gk,iP (Qch y p pl k).symm,iN (by
    intro h;rcases h with h|h
    ·cases h
    ·have h:bud<0+0:=h;omega)]
   exact ih (k+1) oM
 exact key y.D.length 0 oM
end
open Go.Plant Go.Inf
def IP (G:List AY):List AY:=G.mergeSort (fun a b=>!CJ (AZ b.2) (AZ a.2))
theorem Jn (G:List AY):(IP G).Perm G:=List.mergeSort_perm _ _
theorem QeX (G:List AY):(IP G).Pairwise fun a b=>CJ (AZ b.2) (AZ a.2)=false:=by
 have:=List.pairwise_mergeSort (le:=fun a b:AY=>!CJ (AZ b.2) (AZ a.2)) (fun a b c h1 h2=>?_) (fun a b=>?_) G
 ·exact this.imp fun h=>by simpa using h
 ·simp only[Bool.not_eq_true'] at h1 h2 ⊢
  cases h3:CJ (AZ c.2) (AZ a.2) with
  |false=>rfl
  |true=>
   cases h4:CJ (AZ a.2) (AZ b.2) with
   |true=>have:=SN h3 h4;rw[h2] at this;cases this
   |false=>
    have:=UW h4 h1;rw[this] at h3;rw[h2] at h3;cases h3
 ·cases h3:CJ (AZ b.2) (AZ a.2) with
  |false=>rfl
  |true=>rw[yT h3];rfl
theorem ZD {G:List AY} (h1:G.Pairwise fun a b=>a.2≠b.2) (inj:∀a∈G,∀b∈G,AZ a.2=AZ b.2->a.2=b.2):(IP G).Pairwise fun a b=>CJ (AZ a.2) (AZ b.2)=true:=by
 have Cq:(IP G).Pairwise fun a b=>a.2≠b.2:=((Jn G).pairwise_iff (fun h=>Ne.symm h)).2 h1;refine List.Pairwise.imp_of_mem ?_ ((QeX G).and Cq);intro a b ha hb KA
 cases c:CJ (AZ a.2) (AZ b.2) with
 |true=>rfl
 |false=>exact absurd (inj a ((Jn G).mem_iff.1 ha) b ((Jn G).mem_iff.1 hb) (UW c KA.1)) KA.2
def Ki (stp:Pl->List T3->Pl) (cst:Pl->Int×Bool) (bud:Int) (cs:List Int) (hs:List AY):List AY:=hs.flatMap fun h=>Kh (stp h.2) (L7 cst) h.1 bud ([]::ext CQ (bud - h.1).toNat (CN cs h.2) [])
theorem dU (stp:Pl->List T3->Pl) (cst:Pl->Int×Bool) (bud:Int) (cs:List Int):∀(hs G:List AY),hs.foldl (Oi stp cst bud cs) G=(Ki stp cst bud cs hs).foldl (FW 40) G
 |[],_=>rfl
 |h::t,G=>by
  have e:Ki stp cst bud cs (h::t)=Kh (stp h.2) (L7 cst) h.1 bud ([]::ext CQ (bud - h.1).toNat (CN cs h.2) [])++Ki stp cst bud cs t:=List.flatMap_cons;rw[List.foldl_cons,dU stp cst bud cs t,e,List.foldl_append];rfl
theorem WP (stp:Pl->List T3->Pl) (cst:Pl->Int×Bool) (bud:Int) (cs:List Int) (hs:List AY):Ku stp cst bud cs hs=(Ki stp cst bud cs hs).foldl (FW 40) []:=dU _ _ _ _ _ _
theorem dD:∀(Y G:List AY),(Y.foldl (FW 40) G).length<=G.length+Y.length
 |[],_=>lR _
 |y::Y,G=>by
  rw[List.foldl_cons];have h1:=dD Y (FW 40 G y);have h2:(FW 40 G y).length<=G.length+1:=by
   unfold FW
   split
   ·omega
   ·exact P5 G y
  simp only[List.length_cons];omega
theorem cR:∀(F:List T3),(ext CQ 1 F []).length<=F.length
 |[]=>lR _
 |f::r=>by
  have:=cR r;rw[ext,aL,Ro];simp only[List.any_nil,Bool.false_eq_true,if_false,List.length_cons,List.length_nil,Nat.zero_add];omega
theorem qF {k:Nat} (hk:k<=1) (F:List T3):(ext CQ k F []).length<=F.length:=by
 rcases(by omega:k=0\/k=1) with rfl|rfl
 ·rw[Ro];exact zL _
 ·exact cR F
theorem aK {stp:Pl->List T3->Pl} {cst:Pl->Int×Bool} {bud:Int} {cs:List Int} {hs:List AY} (hb:∀h∈hs,bud - h.1<=2) {x:AY} (hx:x∈Ki stp cst bud cs hs):
  ∃h∈hs,∃S,D6 (CN cs h.2) S/\(cst (stp h.2 S)).2=true/\x=(h.1+S.length+(cst (stp h.2 S)).1,stp h.2 S)/\h.1+S.length+(cst (stp h.2 S)).1<=bud:=by
 obtain⟨h,hh,hx⟩:=List.mem_flatMap.1 hx;have hb:=hb h hh;obtain⟨S,hS,c,hc,hl,rfl⟩:=VU.1 hx;refine⟨h,hh,S,?_,?_⟩
 ·rcases List.mem_cons.1 hS with rfl|hS
  ·exact D6.nil _
  ·exact P1 (Ok:=D6 (CN cs h.2)) (F:=CN cs h.2) (fun sm f h1 h2 h3 h4=>h1.snoc h2 h3 h4) (by simp only[List.length_nil];omega) (D6.nil _) (fun f hf=>hf) S hS
 ·unfold L7 at hc
  split at hc
  ·rename_i h2
   cases hc
   exact⟨h2,rfl,hl⟩
  ·cases hc
theorem aJ {stp:Pl->List T3->Pl} {cst:Pl->Int×Bool} {bud:Int} {cs:List Int} (hb:bud<=1) {B:Nat}:∀{hs:List AY},(∀h∈hs,0<=h.1/\(CN cs h.2).length<=B)->(Ki stp cst bud cs hs).length<=hs.length*(1+B)
 |[],_=>zL _
 |h::t,hh=>by
  have h1:=aJ (stp:=stp) (cst:=cst) (bud:=bud) (cs:=cs) hb (hs:=t) fun g hg=>hh g (mC _ hg);obtain⟨h2,h3⟩:=hh h mS;have h4:(Kh (stp h.2) (L7 cst) h.1 bud ([]::ext CQ (bud - h.1).toNat (CN cs h.2) [])).length<=1+B:=by
   unfold Kh;refine Nat.le_trans (List.length_filterMap_le _ _) ?_;have:=qF (k:=(bud - h.1).toNat) oM (CN cs h.2);simp only[List.length_cons];omega
  unfold Ki at h1 ⊢;rw[List.flatMap_cons,aL,List.length_cons,Nat.add_mul,Nat.one_mul];omega
open Go.Plant Go.Inf
theorem bZ (y:Ly) (p:Pl) (pl:List T3) (bud:Int):∀(rs:List Dh) (i:Nat) (t:Int),0<=t->t<=bud->0<=(Kk y p pl bud i rs t).1/\(Kk y p pl bud i rs t).1<=bud
 |[],i,t,h0,h1=>⟨h0,h1⟩
 |r::l,i,t,h0,h1=>by
  rw[Kk];have hc:=b6 (E8 y p pl i) r;by_cases c:(Gk (E8 y p pl i) r).2=false\/bud<t+(Gk (E8 y p pl i) r).1
  ·rw[iP c];exact⟨Int.le_refl _,by show(0:Int)<=bud;omega⟩
  ·rw[iN c];exact bZ y p pl bud l (i+1) _ oM oM
theorem Wl (y:Ly) (p:Pl) (pl:List T3) (bud:Int) (hb:0<=bud) (rs:List Dh):0<=(Gj y p pl bud rs).1/\(Gj y p pl bud rs).1<=bud:=bZ y p pl bud rs 0 0 (Int.le_refl _) hb
structure IB (bud:Int) (y:Ly) (L:List Int) (hs:List AY) (p:Pl) (m:Nat):Prop where
 pi:Bh y p L
 all:∀h∈hs,Bh y h.2 L
 us:∀h∈hs,0<=h.1/\h.1<=bud
 srt:hs.Pairwise fun a b=>CJ (AZ a.2) (AZ b.2)=true
 mem:(0,p)∈hs
 len:hs.length<=m
 zero:bud=0->hs=[(0,p)]
def LQ (y:Ly) (bud:Int) (pl:List T3) (c:List Int) (q:Pl) (hs:List AY):List AY:=Ku (fun r X=>(Cg y r c X).1) (fun r=>Gj y r pl bud (E9 y q pl)) bud c hs
section
variable {A n:Nat} {y:Ly} {L:List Int} {p:Pl} {bud:Int} {hs:List AY} {m:Nat} {c:List Int}
theorem ER.sxX (hg:ER A n y) (h:Bh y p L) (hc:c.length=n) (hk:∀i,i<n->CM (y.U.getD i default) (c.getD i 0)=true) {X:List T3} (hX:D6 (CN c p) X):Sx A n y p c X:=
 hg.g.sx h hc hk (h.ftOk hX) (by have:=hX.2.2;omega)
theorem YO (hg:ER A n y) (hL:FU L) {a b:Pl} (ha:Bh y a L) (hb:Bh y b L) (e:AZ a=AZ b):a=b:=by
 have hn:=hg.g.n11;have hl:=hg.g.len;exact ha.inj oM hL hb (by rw[e])
theorem IB.tick (hg:ER A n y) (hL:FU L) (hb:0<=bud/\bud<=1) (h:IB bud y L hs p m) (hc:c.length=n) (hk:∀i,i<n->CM (y.U.getD i default) (c.getD i 0)=true) (pl:List T3) (hm:m*(1+2*L.length)<=40):
  LQ y bud pl c (Cg y p c []).1 hs≠[]/\(LQ y bud pl c (Cg y p c []).1 hs).length<=40/\IB bud y L (IP (LQ y bud pl c (Cg y p c []).1 hs)) (Cg y p c []).1 (m*(1+2*L.length)):=by
 obtain⟨q,hq⟩:∃q,q=(Cg y p c []).1:=⟨_,rfl⟩;rw[<-hq];have OS:Bh y q L:=by rw[hq];exact Vp (hg.sxX h.pi hc hk (D6.nil _)) h.pi hL
 obtain⟨X,hX⟩:∃X,X=Ki (fun r X=>(Cg y r c X).1) (fun r=>Gj y r pl bud (E9 y q pl)) bud c hs:=⟨_,rfl⟩;have JG:LQ y bud pl c q hs=X.foldl (FW 40) []:=by rw[hX];exact WP _ _ _ _ _
 have Ov:∀x∈X,Bh y x.2 L/\0<=x.1/\x.1<=bud:=fun x hx=>by
  rw[hX] at hx;obtain⟨g,EJ,S,hS,h2,h3,h4⟩:=aK (fun g hg=>by have:=h.us g hg;omega) hx;have JM:=h.all g EJ;have hu:=h.us g EJ;have Xs:=Wl y (Cg y g.2 c S).1 pl bud hb.1 (E9 y q pl);rw[h3];refine⟨Vp (hg.sxX JM hc hk hS) JM hL,?_,h4⟩;show 0<=g.1+(S.length:Int)+(Gj y (Cg y g.2 c S).1 pl bud (E9 y q pl)).1;omega
 have tB:X.length<=m*(1+2*L.length):=by
  rw[hX];refine Nat.le_trans (aJ hb.2 (B:=2*L.length) fun g hg=>⟨(h.us g hg).1,(h.all g hg).flt_len c⟩) (Nat.mul_le_mul_right _ h.len)
 have Sg:(0,q)∈X:=by
  rw[hX];refine List.mem_flatMap.2 ⟨(0,p),h.mem,?_⟩;refine VU.2 ⟨[],mS,0,?_,by simp only[List.length_nil];omega,?_⟩
  ·unfold L7;simp only[<-hq];rw[b7 y q pl bud hb.1,iP rfl]
  ·simp only[<-hq,List.length_nil];rfl
 have Ot:=dD X [];have Ny:=HV.foldl (Y:=X) (HV.nil (P:=Pl) 40);rw[List.nil_append,<-JG] at Ny;rw[<-JG,List.length_nil,Nat.zero_add] at Ot;have hI:Jv X (LQ y bud pl c q hs):=by
  rcases Ny.2 with ⟨_,h1⟩|⟨h1,_⟩
  ·exact h1
  ·omega
 obtain⟨g,HC,Nz⟩:=hI.all _ Sg;have EJ:=hI.least g HC _ Sg Nz.symm;have F3:=Ov g (hI.mem g HC);have XC:g=(0,q):=Prod.ext (by simp only at EJ ⊢;omega) Nz;rw[XC] at HC;have DZ:∀x∈LQ y bud pl c q hs,Bh y x.2 L:=fun x hx=>(Ov x (hI.mem x hx)).1;refine⟨fun e=>(by rw[e] at HC;cases HC),oM,OS,fun x hx=>DZ x ((Jn _).mem_iff.1 hx),fun x hx=>(Ov x (hI.mem x ((Jn _).mem_iff.1 hx))).2,ZD hI.one fun a ha b hb e=>YO hg hL (DZ a ha) (DZ b hb) e,(Jn _).mem_iff.2 HC,?_,fun h0=>?_⟩
 ·rw[(Jn _).length_eq];omega
 ·have HI:=h.zero h0;have Xe:X=[(0,q)]:=by
   rw[hX,HI,h0];unfold Ki Kh;simp only[List.flatMap_cons,List.flatMap_nil,List.append_nil,Int.sub_self,Int.toNat_zero,Ro,List.filterMap_cons,List.filterMap_nil,L7,<-hq];rw[b7 y q pl 0 (Int.le_refl _),iP rfl];rfl
  rw[JG,Xe];exact List.mergeSort_singleton _
end
open Go.Plant Go.Inf
def Rn (y:Ly) (node bag:Int) (hs:List AY):List AY:=hs.filterMap fun h=>if(Fh y node bag h.2).2=true then some (h.1,(Fh y node bag h.2).1) else none
theorem ia (y:Ly) (node bag:Int):∀(hs G:List AY),hs.foldl (SL (Fh y node bag)) G=(Rn y node bag hs).foldl Inf.gadd G
 |[],_=>rfl
 |h::t,G=>by
  unfold Rn;rw[List.foldl_cons,ia y node bag t,List.filterMap_cons];unfold SL Rn;by_cases c:(Fh y node bag h.2).2=true
  ·rw[iP c,iP c];rfl
  ·rw[iN c,iN c]
theorem g7:∀{Y X G:List AY},Jv X G->Jv (X++Y) (Y.foldl Inf.gadd G)
 |[],X,G,h=>by rw[List.append_nil];exact h
 |a::Y,X,G,h=>by
  have:=g7 (Y:=Y) (h.gadd (h:=a))
  rwa[List.append_assoc,List.singleton_append] at this
theorem dY:∀(Y G:List AY),(Y.foldl Inf.gadd G).length<=G.length+Y.length
 |[],_=>lR _
 |y::Y,G=>by
  rw[List.foldl_cons];have h1:=dY Y (Inf.gadd G y);have h2:=P5 G y;simp only[List.length_cons];omega
section
variable {A n:Nat} {y:Ly} {L:List Int} {p:Pl} {bud:Int} {hs:List AY} {m:Nat} {c:List Int} {node bag:Int}
theorem IB.enter (hg:ER A n y) (hL:FU (bag::L)) (h:IB bud y L hs p m) (he:(CS y p node bag).2=0):
  Ha (Fh y node bag) hs≠[]/\IB bud y (bag::L) (IP (Ha (Fh y node bag) hs)) (CS y p node bag).1 m:=by
 obtain⟨q,hq⟩:∃q,q=(CS y p node bag).1:=⟨_,rfl⟩;rw[<-hq];have OS:Bh y q (bag::L):=by rw[hq];exact h.pi.enter he
 obtain⟨X,hX⟩:∃X,X=Rn y node bag hs:=⟨_,rfl⟩;have JG:Ha (Fh y node bag) hs=X.foldl Inf.gadd []:=by rw[hX];exact ia _ _ _ _ _
 have Ov:∀x∈X,Bh y x.2 (bag::L)/\0<=x.1/\x.1<=bud:=fun x hx=>by
  rw[hX] at hx;obtain⟨g,EJ,hx⟩:=List.mem_filterMap.1 hx
  split at hx
  ·rename_i c
   cases hx
   have c:(CS y g.2 node bag).2=0:=oT c;exact⟨(h.all g EJ).enter c,h.us g EJ⟩
  ·cases hx
 have tB:X.length<=m:=by
  rw[hX];exact Nat.le_trans (List.length_filterMap_le _ _) h.len
 have RW:(Fh y node bag p).2=true:=dT he;have Sg:(0,q)∈X:=by
  rw[hX];refine List.mem_filterMap.2 ⟨(0,p),h.mem,?_⟩;simp only;rw[iP RW,hq];rfl
 have Ot:=dY X [];have hI:=g7 (Y:=X) (Jv.nil (P:=Pl));rw[List.nil_append,<-JG] at hI;rw[<-JG,List.length_nil,Nat.zero_add] at Ot;obtain⟨g,HC,Nz⟩:=hI.all _ Sg;have EJ:=hI.least g HC _ Sg Nz.symm;have F3:=Ov g (hI.mem g HC);have XC:g=(0,q):=Prod.ext (by simp only at EJ ⊢;omega) Nz;rw[XC] at HC;have DZ:∀x∈Ha (Fh y node bag) hs,Bh y x.2 (bag::L):=fun x hx=>(Ov x (hI.mem x hx)).1;refine⟨fun e=>(by rw[e] at HC;cases HC),OS,fun x hx=>DZ x ((Jn _).mem_iff.1 hx),fun x hx=>(Ov x (hI.mem x ((Jn _).mem_iff.1 hx))).2,ZD hI.one fun a ha b hb e=>YO hg hL (DZ a ha) (DZ b hb) e,(Jn _).mem_iff.2 HC,?_,fun h0=>?_⟩
 ·rw[(Jn _).length_eq];omega
 ·have HI:=h.zero h0;have Xe:X=[(0,q)]:=by
   rw[hX,HI];unfold Rn;simp only[List.filterMap_cons,List.filterMap_nil];rw[iP RW,hq];rfl
  rw[JG,Xe];exact List.mergeSort_singleton _
theorem zP (hg:ER A n y):Bh y (F7 y) []:=by
 have hv:=hg.val;have hs:=hg.sml;have e:F7 y=GN y.U y.U.length:=by unfold F7;rw[iP hv]
 have Dc:=hg.g.len;have hN:=hs.n;have l1:=(TN y.U y.U.length).1;have l2:=(TN y.U y.U.length).2;have hr:∀t,t<y.U.length->(GN y.U y.U.length).Q.getD t []=List.replicate (y.U.getD t default).ln.toNat 0:=fun t ht=>by simp[GN,ht]
 have hb:∀t,(GN y.U y.U.length).R.getD t []=[]:=fun t=>by simp[GN,List.getElem?_replicate];split<;>rfl
 have IH:∀k,nz (List.replicate k (0:Int))=[]:=fun k=>by
  induction k with
  |zero=>rfl
  |succ k ih=>rw[List.replicate_succ,NU,ih]
 have DZ:∀N,N<=y.U.length->ED (GN y.U y.U.length) N=[]:=fun N=>by
  induction N with
  |zero=>intro _;rfl
  |succ N ih=>
   intro h;rw[ED,ih oM];unfold FS;rw[hr N oM,hb,IH];rfl
 have AK:=fun i hi=>J6 (Te hv i hi);rw[e];refine⟨⟨oM,l1,l2,fun t ht=>?_,fun t ht=>?_,fun t ht=>?_,fun t ht=>?_,fun t ht=>?_⟩,by rw[DZ _ (lR _)],fun t ht=>?_⟩
 ·rw[hr t ht,List.length_replicate]
 ·rw[hb];exact zL _
 ·have:=AK t ht;omega
 ·have Fp:=(hg.g.shp t oM).ln;intro AM;rw[AN,Bool.and_eq_true,decide_eq_true_eq,decide_eq_true_eq] at AM;exact(Fp AM.2).1
 ·have:=hg.g.exl (m:=t) oM;rw[CT] at this
  split at this
  ·omega
  ·split at this<;>omega
 ·rw[hb];exact .nil
end
open Go.Plant Go.Inf
theorem kH (pl:List T3) (b:Int):MW pl b=[]\/(MW pl b).length=10:=by
 unfold MW
 split
 ·unfold Go.Scr.Plt.fmt
  split
  ·exact .inr (Go.Scr.digs_length _ _)
  ·exact .inl rfl
 ·exact .inl rfl
section
variable {A n:Nat} {y:Ly} {L:List Int} {p:Pl} {bud:Int} {hs:List AY} {c:List Int}
theorem ER.dvF (hg:ER A n y) (h:Bh y p L):K5 y p:=by
 have h1:=hg.g.n11;have h2:=hg.g.len;exact h.dvF oM hg.d hg.dl
theorem Qgd (hg:ER A n y) (hL:FU L) (hb:0<=bud/\bud<=2) (DZ:∀h∈hs,Bh y h.2 L) (O2:∀h∈hs,0<=h.1/\h.1<=bud) (C3:hs.length<=1000)
  (hc:c.length=n) (hk:∀i,i<n->CM (y.U.getD i default) (c.getD i 0)=true) (pl:List T3) (rs:List Dh) (EK:pl.length=40)
  (hl:rs.length=y.D.length) (hd:∀i,i<rs.length->(rs.getD i default).dv=(i:Int)) (G:List AY) (hG:Ku (fun r X=>(Cg y r c X).1) (fun r=>Gj y r pl bud rs) bud c hs=G) (h0:G≠[]) (h1:G.length<=40):
  Ag Tryz.prog Ad 21 [] [y.av,(D5.mk bud (hs.map Ba)).av,IS c, .sl (Ai pl) false, .sl (Eu rs) false] [] (.tup [(D5.mk bud ((IP G).map Ba)).av,I 0]):=by
 have hn:=hg.g.n11;have KF:=hg.g.len;have Qd:=hL.len;have I4:=hg.dl;have AM:∀h∈hs,∀X,D6 (CN c h.2) X->Bh y (Cg y h.2 c X).1 L:=fun h hh X hX=>Vp (hg.sxX (DZ h hh) hc hk hX) (DZ h hh) hL;have OH:∀a b,Bh y a L->Bh y b L->B3 (AZ a)=B3 (AZ b)->a=b:=fun a b ha hb=>ha.inj oM hL hb;have Cp:∀q,Bh y q L->M1 q:=fun q h=>h.kyN oM hL;have Xw:∀h∈hs,∀X∈([]::ext CQ (bud - h.1).toNat (CN c h.2) []),D6 (CN c h.2) X:=fun h hh X hX=>by
  have hu:=O2 h hh;rcases List.mem_cons.1 hX with rfl|hX
  ·exact D6.nil _
  ·exact P1 (Ok:=D6 (CN c h.2)) (F:=CN c h.2) (fun sm f h1 h2 h3 h4=>h1.snoc h2 h3 h4) (by simp only[List.length_nil];omega) (D6.nil _) (fun f hf=>hf) X hX
 have Gu:∀x∈G,Bh y x.2 L:=fun x hx=>by
  obtain⟨X,hX⟩:∃X,X=Ki (fun r X=>(Cg y r c X).1) (fun r=>Gj y r pl bud rs) bud c hs:=⟨_,rfl⟩;rw[WP,<-hX] at hG;have Ny:=HV.foldl (Y:=X) (HV.nil (P:=Pl) 40);rw[List.nil_append,hG] at Ny;have hm:∃z∈X,z.2=x.2:=by
   rcases Ny.2 with ⟨_,h1⟩|⟨_,_,h1⟩
   ·exact⟨x,h1.mem x hx,rfl⟩
   ·exact h1 x hx
  obtain⟨z,hz,xF⟩:=hm;rw[hX] at hz;obtain⟨g,EJ,S,hS,h2,h3,h4⟩:=aK (fun g hg=>by have:=O2 g hg;omega) hz;rw[<-xF,h3];exact AM g EJ S hS
 have Cq:G.Pairwise fun a b=>a.2≠b.2:=by
  have Ny:=HV.foldl (Y:=Ki (fun r X=>(Cg y r c X).1) (fun r=>Gj y r pl bud rs) bud c hs) (HV.nil (P:=Pl) 40);rw[WP] at hG;rw[List.nil_append,hG] at Ny;rcases Ny.2 with ⟨_,h1⟩|⟨h1,_⟩
  ·exact h1.one
  ·omega
 refine g8 y bud hs c pl rs hg.sml hg.val hg.g.ex C3 (fun h hh=>(DZ h hh).fp) oM (fun m hm=>by
  have:=hg.g.exl (m:=m) oM;rw[CT] at this
  split at this
  ·omega
  ·split at this<;>omega) (ji hg.g hc hk ⟨sM,sM⟩ (zL _)) hl oM hd _ _ ?_
 refine aG (Gd:=fun q=>Bh y q L) (stp:=fun r X=>(Cg y r c X).1) (cst:=fun r=>Gj y r pl bud rs) hs C3 (fun h hh=>?_) (fun h hh G' Oo Ou=>?_) (fun h hh G' Oo Ou=>?_) (fun q hq=>hq.kyP oM) _ ?_
 ·exact cS y _ h.2 c ((DZ h hh).kyP oM) (by have:=(DZ h hh).fp.sl;omega) oM
 ·have hu:=O2 h hh;have Dv:=(DZ h hh).flt_len c;exact cB (Ok:=D6 (CN c h.2)) (Gd:=fun q=>Bh y q L) (F:=CN c h.2) (mv:=fun X=>(Cg y h.2 c X).2) (stp:=fun X=>(Cg y h.2 c X).1) (cst:=fun r=>Gj y r pl bud rs) (hp:=h.2) (us:=h.1)
   (fun X hX=>qz hg (hg.sxX (DZ h hh) hc hk hX) (DZ h hh))
   (fun X hX=>cC y _ pl bud (hs.map Ba) rs (hg.dvF (AM h hh X hX)) hl hd oM (fun d=>kH _ _) hb)
   (fun q=>by have:=Wl y q pl bud hb.1 rs;omega) (fun X hX=>AM h hh X hX) Cp OH (fun sm f h1 h2 h3 h4=>h1.snoc h2 h3 h4) hu.1 hb.2
   (bud - h.1).toNat [] (CN c h.2) G' (by simp only[List.length_nil];omega) (D6.nil _) (fun f hf=>hf) oM Oo Ou
 ·exact⟨Zq (Gd:=fun q=>Bh y q L) (fun X hX=>AM h hh X (Xw h hh X hX)) Oo,Zr _ _ _ _ _ Ou⟩
 ·refine .inr (.inr ?_);rw[hG];exact⟨h0,h1,IP G,Jn G,ZD Cq fun a ha b hb e=>YO hg hL (Gu a ha) (Gu b hb) e,rfl⟩
end
open Go.Plant Go.Inf
structure St where
 a:Nat
 hs:List AY
 p:Pl
 L:List Int
section
variable (l:List Int) (y:Ly) (bud:Int) (pl:List T3)
def QT (s:St):St:=⟨(gC l s.a y.U).2,IP (LQ y bud pl (gC l s.a y.U).1 (Cg y s.p (gC l s.a y.U).1 []).1 s.hs),(Cg y s.p (gC l s.a y.U).1 []).1,s.L⟩
def GF (s:St):Nat->St
 |0=>s
 |k+1=>QT l y bud pl (GF s k)
def Rm (i:Int) (s:St):St:=if(CS y s.p 0 i).2=0 then⟨s.a,IP (Ha (Fh y 0 i) s.hs),(CS y s.p 0 i).1,i::s.L⟩ else s
def J8 (i:Int) (s:St):St:=Rm y i (GF l y bud pl ⟨s.a+1,s.hs,s.p,s.L⟩ (gR l s.a 0 2).toNat)
def s0 (a:Nat):St:=⟨a,[(0,F7 y)],F7 y,[]⟩
def Bg (a:Nat):Nat->St
 |0=>s0 y a
 |i+1=>J8 l y bud pl (i+1:Nat) (Bg a i)
end
section
variable {l:List Int} {y:Ly} {bud bd2:Int} {pl:List T3}
theorem ZP {s t:St} (h1:s.a=t.a) (h2:s.p=t.p):∀k,(GF l y bud pl s k).a=(GF l y bd2 pl t k).a/\(GF l y bud pl s k).p=(GF l y bd2 pl t k).p
 |0=>⟨h1,h2⟩
 |k+1=>by
  obtain⟨e1,e2⟩:=ZP h1 h2 k;unfold GF QT;simp only[e1,e2,and_self]
theorem Zp (a:Nat):∀i,(Bg l y bud pl a i).a=(Bg l y bd2 pl a i).a/\(Bg l y bud pl a i).p=(Bg l y bd2 pl a i).p
 |0=>⟨rfl,rfl⟩
 |i+1=>by
  obtain⟨e1,e2⟩:=Zp a i;have e3:=ZP (l:=l) (y:=y) (bud:=bud) (bd2:=bd2) (pl:=pl) (s:=⟨(Bg l y bud pl a i).a+1,(Bg l y bud pl a i).hs,(Bg l y bud pl a i).p,(Bg l y bud pl a i).L⟩) (t:=⟨(Bg l y bd2 pl a i).a+1,(Bg l y bd2 pl a i).hs,(Bg l y bd2 pl a i).p,(Bg l y bd2 pl a i).L⟩) (by simp only[e1]) e2 (gR l (Bg l y bd2 pl a i).a 0 2).toNat;unfold Bg J8 Rm;rw[e1] at*;generalize GF l y bud pl ⟨(Bg l y bd2 pl a i).a+1,(Bg l y bud pl a i).hs,(Bg l y bud pl a i).p,(Bg l y bud pl a i).L⟩ (gR l (Bg l y bd2 pl a i).a 0 2).toNat=u at*;generalize GF l y bd2 pl ⟨(Bg l y bd2 pl a i).a+1,(Bg l y bd2 pl a i).hs,(Bg l y bd2 pl a i).p,(Bg l y bd2 pl a i).L⟩ (gR l (Bg l y bd2 pl a i).a 0 2).toNat=v at*;obtain⟨e3,e4⟩:=e3;rw[e4]
  split
  ·exact⟨e3,rfl⟩
  ·exact⟨e3,e4⟩
theorem IB.mono {L:List Int} {hs:List AY} {p:Pl} {m k:Nat} (h:IB bud y L hs p m) (hk:m<=k):IB bud y L hs p k:=⟨h.pi,h.all,h.us,h.srt,h.mem,Nat.le_trans h.len hk,h.zero⟩
structure SI (y:Ly) (bud:Int) (i j:Nat) (s:St):Prop where
 lok:FU s.L
 len:s.L.length<=i
 lt:∀b∈s.L,b<=i
 ib:IB bud y s.L s.hs s.p (if i=0 then 1 else 3^j)
variable {A n:Nat}
theorem SI.new (hg:ER A n y) (hb:0<=bud) (a:Nat):SI y bud 0 0 (s0 y a):=by
 have h:=zP hg;refine⟨⟨.nil,fun b hb=>(by cases hb),zL _⟩,lR _,fun b hb=>(by cases hb),h,fun x hx=>?_,fun x hx=>?_,List.pairwise_singleton _ _,List.mem_singleton.2 rfl,lR _,fun _=>rfl⟩
 ·rw[List.mem_singleton.1 hx];exact h
 ·rw[List.mem_singleton.1 hx];exact⟨Int.le_refl _,hb⟩
theorem SI.tick (hg:ER A n y) (hb:0<=bud/\bud<=1) {i j:Nat} (hi:i<=1) (hj:j<=1) {s:St} (h:SI y bud i j s):
  LQ y bud pl (gC l s.a y.U).1 (Cg y s.p (gC l s.a y.U).1 []).1 s.hs≠[]/\(LQ y bud pl (gC l s.a y.U).1 (Cg y s.p (gC l s.a y.U).1 []).1 s.hs).length<=40/\SI y bud i (j+1) (QT l y bud pl s):=by
 obtain⟨h1,h2⟩:=dN hg.g l s.a;have hl:=h.len;have hle:(if i=0 then 1 else 3^j)*(1+2*s.L.length)<=(if i=0 then 1 else 3^(j+1)):=by
  by_cases c:i=0
  ·rw[iP c,iP c];omega
  ·rw[iN c,iN c,Nat.pow_succ];exact Nat.mul_le_mul_left _ oM
 have h9:(if i=0 then 1 else 3^(j+1))<=40:=by
  split
  ·omega
  ·rcases(by omega:j=0\/j=1) with rfl|rfl<;>decide
 obtain⟨g1,g2,g3⟩:=h.ib.tick hg h.lok hb h1 h2 pl oM;exact⟨g1,g2,h.lok,h.len,h.lt,g3.mono hle⟩
theorem SI.enter (hg:ER A n y) {i j:Nat} (hi:i<=1) (hj:j<=2) {s:St} (h:SI y bud i j s) (he:(CS y s.p 0 (i+1:Nat)).2=0):
  Ha (Fh y 0 (i+1:Nat)) s.hs≠[]/\FU ((i+1:Nat)::s.L)/\IB bud y ((i+1:Nat)::s.L) (IP (Ha (Fh y 0 (i+1:Nat)) s.hs)) (CS y s.p 0 (i+1:Nat)).1 (if i=0 then 1 else 3^j):=by
 have hl:=h.len;have hL:FU (((i+1:Nat):Int)::s.L):=⟨List.nodup_cons.2 ⟨fun hm=>by have:=h.lt _ hm;omega,h.lok.nd⟩,fun b hb=>by
  rcases List.mem_cons.1 hb with rfl|hb
  ·omega
  ·exact h.lok.pos b hb,by rw[List.length_cons];omega⟩
 obtain⟨g1,g2⟩:=h.ib.enter hg hL he;exact⟨g1,hL,g2⟩
end
def Pp (q p:Pl):Bool:=decide (q.Q=p.Q/\q.R=p.R)
def Iw:List BU->Pl->Int×Bool
 |[],_=>(0,false)
 |h::t,p=>if Pp h.pl p=true then(h.us,true) else Iw t p
theorem tH {l:List BU} {p:Pl} {i:Nat} (h:i<l.length):Iw (l.drop i) p=if Pp (l.getD i default).pl p=true then((l.getD i default).us,true) else Iw (l.drop (i+1)) p:=by
 rw[List.drop_eq_getElem_cons h,Iw,gE,gG h];rfl
theorem tI (bud:Int) (l:List BU) (p:Pl) (hl:l.length<=1000) (hs:∀h∈l,∀q:Pl,q=h.pl->Ag Tryz.prog Ad 52 [] [q.av,p.av] [] (B (Pp q p))):
  Ag Tryz.prog Ad 15 [] [(D5.mk bud l).av,p.av] [] (.tup [I (Iw l p).1,B (Iw l p).2]):=by
 have h0:Iw l p=Iw (l.drop 0) p:=rfl;refine Am Tryz.func15 Tryz.ntmps15 ?_;intro w e X hC;refine uZ ?_;refine uW ?_;refine Aw (fun i:Nat×Nat=>⟨[(3, .p 103 2 0 0 0),(9, .sl (BY l) false),(10,I l.length),(11,I i.2)],(103,some (2, .box [RS p.Q,RS p.R]))::[],i.1⟩) (fun i=>i.2<=l.length/\Iw l p=Iw (l.drop i.2) p) (fun i=>l.length - i.2) (_,0) ⟨zL _,h0⟩ (Af) ?_;rintro⟨ck,i⟩ ⟨hi,he⟩;simp only at hi he;refine uA ?_;refine uW ?_;refine Aj _ rfl (fun c=>?_) (fun c=>?_)
 ·have Aa:i<l.length:=oM;have hg:=SF Aa;rw[tH Aa] at he;have Qt:=hs _ (GQ Aa default) _ rfl;generalize l.getD i default=x at*;generalize Pp x.pl p=b at Qt he;simp only[BU.pl] at Qt
  repeat refine Ac @hg ?_
  refine uR ?_;intro K hK;refine uH ?_;refine cF Qt ?_;refine uS ?_;refine uH ?_;refine hK _ ?_;clear hK K
  cases b with
  |true=>
   rw[iP rfl] at he;rw[he];refine uT ?_;refine uZ ?_;refine Ay ?_;rw[show Tryz.f15.results.toList=[.tmp 4, .tmp 5] from rfl];first|refine Bn ?_|exact Bm
  |false=>
   rw[iN sM] at he;refine uF ?_;refine uZ ?_;refine⟨(_,i+1),⟨uO,he⟩,uO,Af⟩
 ·refine At ?_;have Bx:i=l.length:=oM;subst Bx;rw[List.drop_length] at he;rw[he,Iw];refine uZ ?_;refine Ay ?_;rw[show Tryz.f15.results.toList=[.tmp 4, .tmp 5] from rfl];first|refine Bn ?_|exact Bm
theorem gW (y:Ly) (bd:Int) (hs:HW y) (hv:Dp y=0) (hn:0<y.U.length) (hb:0<=bd/\bd<=2):
  Ag Tryz.prog Ad 24 [] [y.av,I bd] [] (.tup [(D5.mk bd [⟨0,(F7 y).Q,(F7 y).R⟩]).av,I 0]):=by
 have h1:=QbI y hs fun _=>hn;rw[hv] at h1;generalize F7 y=q at*;have d0:=uDf (bd<0);have d2:=uDf (2<bd);refine Am Tryz.func24 Tryz.ntmps24 ?_;intro w e X hC;refine uZ ?_;refine uR ?_;intro K hK;refine uH ?_;refine cP h1 ?_;refine uS ?_;refine uH ?_;refine hK _ ?_;clear hK K;refine uZ ?_;refine uF ?_
 repeat refine Ac (uI @d0 @d2) ?_
 refine uF ?_;refine uZ ?_;refine Ay ?_;rw[show Tryz.f24.results.toList=[.cell 4 33, .tmp 5] from rfl];first|refine Bn ?_|exact Bm
 rfl
open Go.Plant Go.Inf
section
variable {A n:Nat} {y:Ly} {bud:Int}
theorem SI.ticks {A n:Nat} {l:List Int} {pl:List T3} (hg:ER A n y) (hb:0<=bud/\bud<=1) {i:Nat} (hi:i<=1) {s:St} (h:SI y bud i 0 s):∀j,j<=2->SI y bud i j (GF l y bud pl s j)
 |0,_=>h
 |j+1,hj=>(SI.tick hg hb hi oM (SI.ticks hg hb hi h j oM)).2.2
theorem SI.next {A n:Nat} {l:List Int} {pl:List T3} (hg:ER A n y) (hb:0<=bud/\bud<=1) {i:Nat} (hi:i<=1) {s:St} (h:SI y bud i 0 s):
  FU (J8 l y bud pl (i+1:Nat) s).L/\(J8 l y bud pl (i+1:Nat) s).L.length<=i+1/\(∀b∈(J8 l y bud pl (i+1:Nat) s).L,b<=(i+1:Nat))/\IB bud y (J8 l y bud pl (i+1:Nat) s).L (J8 l y bud pl (i+1:Nat) s).hs (J8 l y bud pl (i+1:Nat) s).p (if i=0 then 1 else 9):=by
 have hc:=Iu (l:=l) (a:=s.a) (lo:=0) (hi:=2) oM;have ht:=SI.ticks (l:=l) (pl:=pl) hg hb hi (s:=⟨s.a+1,s.hs,s.p,s.L⟩) ⟨h.lok,h.len,h.lt,h.ib⟩ (gR l s.a 0 2).toNat oM;obtain⟨k,hk⟩:∃k,k=(gR l s.a 0 2).toNat:=⟨_,rfl⟩;have Ch:k<=2:=oM;unfold J8 Rm;rw[<-hk] at ht ⊢;generalize GF l y bud pl ⟨s.a+1,s.hs,s.p,s.L⟩ k=t at*;have hm:(if i=0 then 1 else 3^k)<=(if i=0 then 1 else 9):=by
  by_cases c:i=0
  ·rw[iP c,iP c];omega
  ·rw[iN c,iN c];rcases(by omega:k=0\/k=1\/k=2) with rfl|rfl|rfl<;>decide
 by_cases c:(CS y t.p 0 (i+1:Nat)).2=0
 ·rw[iP c];obtain⟨g1,g2,g3⟩:=ht.enter hg hi Ch c;refine⟨g2,?_,fun b hb=>?_,g3.mono hm⟩
  ·have:=ht.len;simp only[List.length_cons];omega
  ·rcases List.mem_cons.1 hb with rfl|hb
   ·omega
   ·have:=ht.lt b hb;omega
 ·rw[iN c];exact⟨ht.lok,by have:=ht.len;omega,fun b hb=>by have:=ht.lt b hb;omega,ht.ib.mono hm⟩
theorem jC {A n:Nat} {l:List Int} {pl:List T3} (hg:ER A n y) (hb:0<=bud/\bud<=1) (a:Nat):FU (Bg l y bud pl a 2).L/\IB bud y (Bg l y bud pl a 2).L (Bg l y bud pl a 2).hs (Bg l y bud pl a 2).p 9:=by
 obtain⟨a1,a2,a3,a4⟩:=SI.next (l:=l) (pl:=pl) hg hb (i:=0) oM (SI.new hg hb.1 a);obtain⟨b1,-,-,b4⟩:=SI.next (l:=l) (pl:=pl) hg hb (i:=1) oM (s:=Bg l y bud pl a 1) ⟨a1,a2,a3,a4⟩;exact⟨b1,b4⟩
theorem j8 (l:List Int) (a:Nat) (hf:GI l) (hg:ER A n y) (hb:0<=bud/\bud<=1):
  Ag Tryz.prog Ad 11 (Cf l a) [.p 0 0 0 0 0,y.av,I 2,I bud] (Cf l (Bg l y bud (IM l a) (a+41) 2).a) (.tup [(D5.mk bud ((Bg l y bud (IM l a) (a+41) 2).hs.map Ba)).av,(Bg l y bud (IM l a) (a+41) 2).p.av,B true]):=by
 have KF:=hg.g.len;have hn:=hg.g.n11;have A2:=gW y bud hg.sml hg.val oM oM;have gd:=QdD y hg.sml (fun _=>oM);rw[hg.val] at gd;have FN:=Qam l a hf;have EK:=Qal l a;generalize IM l a=pl at*;have HI:=SI.new hg hb.1 (a+41);have FH:BY [⟨0,(F7 y).Q,(F7 y).R⟩]=BY ((s0 y (a+41)).hs.map Ba):=rfl;refine Am Tryz.func11 Tryz.ntmps11 ?_;intro w e X hC;refine uZ ?_;refine uR ?_;intro K hK;refine cP A2 ?_;refine uS ?_;refine uH ?_;refine hK _ ?_;clear hK K;refine uR ?_;intro K hK;refine cP gd ?_;refine uS ?_;refine uH ?_;refine hK _ ?_;clear hK K;refine uZ ?_;refine uF ?_;refine uR ?_;intro K hK;refine CY rfl (FN) Ak Ak Ak Ak Ak ?_;refine uS ?_;refine uH ?_;refine hK _ ?_;clear hK K;refine uZ ?_;refine uW ?_;refine Aw (fun q:Nat×Nat×St=>⟨[(0, .p 0 0 0 0 0),(2,I 2),(5, .p 105 1 0 0 0),(8, .p 108 2 0 0 0),(9, .p 109 3 0 0 0),(11, .p 111 11 0 0 0),(13, .p 113 19 0 0 0),(15, .sl (Ai pl) false),(16,I (q.2.1+1:Nat))],(113,some (19, .box [RS q.2.2.p.Q,RS q.2.2.p.R]))::(111,some (11, .box [I bud, .sl (BY (q.2.2.hs.map Ba)) false]))::(109,some (3, .box [.sl [] true, .sl [] true]))::(108,some (2, .box [I 0, .sl [] true]))::(105,some (1, .box [.sl (AA y.U) false, .sl (Ai y.D) false]))::Cf l q.2.2.a,q.1⟩) (fun q=>q.2.1<=2/\q.2.2=Bg l y bud pl (a+41) q.2.1/\(q.2.1<=1->SI y bud q.2.1 0 q.2.2)) (fun q=>2 - q.2.1) (_,0,s0 y (a+41)) ⟨zL _,rfl,fun _=>HI⟩ (Af) ?_;rintro⟨ck,i,s⟩ ⟨hi,UC,Qt⟩;simp only at hi UC Qt;refine uZ ?_;refine uW ?_;refine Aj _ rfl (fun c=>?_) (fun c=>?_)
 ·have D0:i<=1:=oM;have Gx:=Qt D0;have R5:=P4 l s.a 0 2 hf dM dM dM;have hK:=Iu (l:=l) (a:=s.a) (lo:=0) (hi:=2) oM;have Bj:=SI.next (l:=l) (pl:=pl) hg hb D0 Gx;have Dn:J8 l y bud pl (i+1:Nat) s=Bg l y bud pl (a+41) (i+1):=by rw[Bg,UC]
  rw[J8] at Bj Dn;obtain⟨k,hk⟩:∃k,k=(gR l s.a 0 2).toNat:=⟨_,rfl⟩;rw[<-hk] at Bj Dn;rw[show gR l s.a 0 2=(k:Int) by omega] at R5;refine uR ?_;intro K hK;refine CY rfl (R5) Ak Ak Ak Ak Ak ?_;refine uS ?_;refine uH ?_;refine hK _ ?_;clear hK K;refine uZ ?_;refine uW ?_;refine Aw (fun q:Nat×Nat×St=>⟨[(0, .p 0 0 0 0 0),(2,I 2),(5, .p 105 1 0 0 0),(8, .p 108 2 0 0 0),(9, .p 109 3 0 0 0),(11, .p 111 11 0 0 0),(13, .p 113 19 0 0 0),(15, .sl (Ai pl) false),(16,I (i+1:Nat)),(17,I ((k:Int) - q.2.1))],(113,some (19, .box [RS q.2.2.p.Q,RS q.2.2.p.R]))::(111,some (11, .box [I bud, .sl (BY (q.2.2.hs.map Ba)) false]))::(109,some (3, .box [.sl [] true, .sl [] true]))::(108,some (2, .box [I 0, .sl [] true]))::(105,some (1, .box [.sl (AA y.U) false, .sl (Ai y.D) false]))::Cf l q.2.2.a,q.1⟩) (fun q=>q.2.1<=k/\q.2.2=GF l y bud pl ⟨s.a+1,s.hs,s.p,s.L⟩ q.2.1/\SI y bud i q.2.1 q.2.2) (fun q=>k - q.2.1) (_,0,⟨s.a+1,s.hs,s.p,s.L⟩) ⟨zL _,rfl,⟨Gx.lok,Gx.len,Gx.lt,Gx.ib⟩⟩ (.of (lR _) (Ax (uI @Int.natCast_zero @Int.sub_zero)) A4) ?_;rintro⟨cj,j,t⟩ ⟨hj,UG,DI⟩;simp only at hj UG DI;refine uZ ?_;refine uW ?_;refine Aj _ rfl (fun c2=>?_) (fun c2=>?_)
  ·have Db:j<k:=oM;have FG:=pH l t.a y hf oM;obtain⟨Cy,FF⟩:=dN hg.g l t.a;obtain⟨g1,g2,UH⟩:=SI.tick (l:=l) (pl:=pl) hg hb D0 (j:=j) oM DI;have hinv:=DI.ib.pi;have fk:Ju y.U []:=⟨sM,sM⟩;have Yo:=hg.g.sx hinv Cy FF fk (zL _);have Yc:=Qeu Yo hinv DI.lok rfl hg.sml hg.val (zL _) (ji hg.g Cy FF fk (zL _));have OS:=Vp Yo hinv DI.lok;have Oz:=hg.dvF OS;have Uv:=Qar y (Cg y t.p (gC l t.a y.U).1 []).1 pl Oz oM (fun d hd=>by rw[EK];exact OS.sees DI.lok Oz hd);have Sj:∀q:Pl,(E9 y q pl).length=y.D.length/\∀i,i<(E9 y q pl).length->((E9 y q pl).getD i default).dv=(i:Int):=fun q=>by
    have h1:(E9 y q pl).length=y.D.length:=by rw[E9,U2]
    refine⟨h1,fun i hi=>?_⟩;unfold E9 LK;rw[gE];simp[show i<y.D.length by omega,MS]
   have hlen:=DI.ib.len;have vC:t.hs.length<=1000:=by
    refine Nat.le_trans hlen ?_
    split
    ·omega
    ·rcases(by omega:j=0\/j=1) with rfl|rfl<;>decide
   have G4:=Qgd hg DI.lok oM DI.ib.all DI.ib.us vC Cy FF pl (E9 y (Cg y t.p (gC l t.a y.U).1 []).1 pl) EK (Sj _).1 (Sj _).2 _ rfl g1 g2;have UJ:QT l y bud pl t=GF l y bud pl ⟨s.a+1,s.hs,s.p,s.L⟩ (j+1):=by rw[GF,UG]
   unfold QT LQ at UJ UH;generalize Ku (fun r X=>(Cg y r (gC l t.a y.U).1 X).1) (fun r=>Gj y r pl bud (E9 y (Cg y t.p (gC l t.a y.U).1 []).1 pl)) bud (gC l t.a y.U).1 t.hs=G at*;have I4:=hg.dl;have Ej:=(Sj (Cg y t.p (gC l t.a y.U).1 []).1).1;generalize E9 y (Cg y t.p (gC l t.a y.U).1 []).1 pl=rs at*;generalize Cg y t.p (gC l t.a y.U).1 []=sy at*;obtain⟨q,mv⟩:=sy;simp only at Yc OS Oz Uv UJ UH;generalize gC l t.a y.U=gc at*;obtain⟨cs,a2⟩:=gc;simp only at FG Cy FF Yo Yc G4 UJ UH;refine uR ?_;intro K hK;refine CY rfl (FG) Ak Ak Ak Ak Ak ?_;refine uS ?_;refine uH ?_;refine hK _ ?_;clear hK K;refine uR ?_;intro K hK;refine cP Yc ?_;refine uS ?_;refine uH ?_;refine hK _ ?_;clear hK K;refine uR ?_;intro K hK;refine cP Uv ?_;refine uS ?_;refine uH ?_;refine hK _ ?_;clear hK K;refine uR ?_;intro K hK;refine cP G4 ?_;refine uS ?_;refine uH ?_;refine hK _ ?_;clear hK K;refine uZ ?_;refine uF ?_;refine uZ ?_;refine uF ?_;refine uZ ?_;refine uD ?_;intro K hK;refine uH ?_;refine hK _ ?_;clear hK K;refine uZ ?_;refine⟨(_,j+1,⟨a2,IP G,q,t.L⟩),⟨uO,UJ,UH⟩,uO, .of (lR _) (Ax (uI @Int.sub_sub @Int.natCast_add)) (AS (uI @Int.sub_sub @Int.natCast_add))⟩
  ·refine At ?_;have Db:j=k:=oM;rw[Db] at UG DI;rw[<-UG] at Bj Dn;have fo:=DI.ib.all;have FJ:∀h∈t.hs,FB y.U h.2:=fun h hh=>(fo h hh).fp;have fZ:=Qb8 y t.p 0 (i+1:Nat) DI.ib.pi.fp;refine uR ?_;intro K hK;refine cP fZ ?_;refine uS ?_;refine uH ?_;refine hK _ ?_;clear hK K;have Du:=fun h0:(CS y t.p 0 (i+1:Nat)).2=0=>DI.enter hg D0 oM h0;obtain⟨qe,Sr⟩:∃qe,qe=CS y t.p 0 (i+1:Nat):=⟨_,rfl⟩;unfold Rm at Bj Dn;rw[<-Sr] at Du Bj Dn fZ ⊢;refine uZ ?_;refine uW ?_;refine Aj _ rfl (fun c3=>?_) (fun c3=>?_)
   ·rw[iN c3] at Bj Dn;refine uZ ?_;refine At ?_;refine uZ ?_;refine⟨(_,i+1,t),⟨uO,Dn,fun h=>⟨Bj.1,Bj.2.1,Bj.2.2.1,?_⟩⟩,uO,Af⟩;have RM:=Bj.2.2.2;rw[iP (show i=0 by simp only at h;omega)] at RM;simp only;rw[iN oM];exact RM
   ·have c3':qe.2=0:=Decidable.not_not.1 c3;rw[iP c3'] at Bj Dn;obtain⟨g1,g2,g3⟩:=Du c3';obtain⟨m,m1,m2,m3,m4,-,-⟩:=cK (Sr ▸ c3':(CS y t.p 0 (i+1:Nat)).2=0);have m0:m=0:=oM;subst m0;have Qh9:=g3.pi;have vD:t.hs.length<=900:=by
     refine Nat.le_trans DI.ib.len ?_
     split
     ·omega
     ·rcases(by omega:k=0\/k=1\/k=2) with rfl|rfl|rfl<;>decide
    have Bx:=gT y bud t.hs 0 (i+1:Nat) (Gd:=fun q=>Bh y q ((i+1:Nat)::t.L)) oM m2 m3 m4 vD FJ (fun h hh he=>(fo h hh).enter (oT he)) (fun q hq=>hq.kyN oM g2) (fun a b ha hb=>ha.inj oM g2 hb) ⟨bud,(IP (Ha (Fh y 0 (i+1:Nat)) t.hs)).map Ba⟩ 0 (.inr ⟨g1,_,Jn _,g3.srt,rfl,rfl⟩);rw[show((0:Nat):Int)=0 from rfl] at Bx;generalize IP (Ha (Fh y 0 (i+1:Nat)) t.hs)=G at*;refine uR ?_;intro K hK;refine cP Bx ?_;refine uS ?_;refine uH ?_;refine hK _ ?_;clear hK K;refine uZ ?_;refine uF ?_;refine uD ?_;intro K hK;refine uH ?_;refine hK _ ?_;clear hK K;refine uZ ?_;refine⟨(_,i+1,⟨t.a,G,qe.1,(i+1:Nat)::t.L⟩),⟨uO,Dn,fun h=>⟨Bj.1,Bj.2.1,Bj.2.2.1,?_⟩⟩,uO,Af⟩;have RM:=Bj.2.2.2;rw[iP (show i=0 by simp only at h;omega)] at RM;simp only;rw[iN oM];exact RM
 ·refine At ?_;have Dw:i=2:=oM;rw[Dw] at UC;rw[<-UC];refine uD ?_;intro K hK;refine uH ?_;refine hK _ ?_;clear hK K;refine Ay ?_;rw[show Tryz.f11.results.toList=[.cell 8 33, .cell 9 36, .tmp 10] from rfl];(refine(Pm (by simp only[go_sem,seval,Bv,BK]<;>trivial) rfl ?_ ?_ ?_ ?_);(iterate 2 (focus (first|exact trivial|(simp only[go_sem,seval,Bv,BK]<;>trivial))));all_goals (try simp only[go_sem,seval,Bv,BK]))
end
open Go.Plant
def strs (l:List ByteArray):List AV:=l.map S
theorem ZL (l:List ByteArray):(strs l).length=l.length:=by simp[strs]
theorem Ge {l:List ByteArray} {i:Nat} (h:i<l.length):(strs l).getD i .bad=S (l.getD i .empty):=by simp[strs,h]
theorem VO (l:List ByteArray):PE (strs l)=True:=by
 refine eq_true fun e he c hc=>?_;simp only[strs,List.mem_map] at he;obtain⟨x,_,rfl⟩:=he;simp only[AV.cells,List.mem_singleton] at hc;subst hc;trivial
theorem VX {l:List ByteArray}:(∀y∈strs l,y.cells.length=1)=True:=by
 refine eq_true fun e he=>?_;simp only[strs,List.mem_map] at he;obtain⟨x,_,rfl⟩:=he;rfl
theorem ZM {l:List ByteArray} {b:ByteArray}:strs l++[.lit (.string b)]=strs (l++[b]):=by simp[strs]
theorem kb {l:List ByteArray} {i:Nat}:(strs l).take i=strs (l.take i):=by simp[strs]
attribute [go_sem] ZL VO VX ZM
def Vh (b:Nat) (c:UInt8) (o:List ByteArray×ByteArray):List ByteArray×ByteArray:=if c.toNat=b then(o.1++[o.2], .empty) else(o.1,o.2++strOf [c])
def GE (s:ByteArray) (b:Nat):Nat->List ByteArray×ByteArray
 |0=>([], .empty)
 |k+1=>Vh b (s.data.toList.getD k 0) (GE s b k)
def Vi (s:ByteArray) (b:Nat):List ByteArray:=(GE s b s.data.toList.length).1++[(GE s b s.data.toList.length).2]
theorem j1 (s:ByteArray) (b:Nat):∀k,(GE s b k).2.size<=k/\(GE s b k).1.length<=k
 |0=>by simp[GE]
 |k+1=>by
  obtain⟨h1,h2⟩:=j1 s b k;have h3:∀c:UInt8,(strOf [c]).size=1:=fun _=>rfl;rw[GE];generalize s.data.toList.getD k 0=c;generalize GE s b k=o at*;unfold Vh
  split
  ·refine⟨zL _,?_⟩;simp only[aL,List.length_singleton];omega
  ·refine⟨?_,uO⟩;show(o.2++strOf [c]).size<=_;rw[ByteArray.size_append,h3];omega
theorem o5 {l:List UInt8} {i:Nat} (h:i<l.length):(l.take (i+1)).drop i=[l.getD i 0]:=by
 rw[Jp (d:=0) h,List.drop_append];simp[List.length_take,Nat.min_eq_left (Nat.le_of_lt h)]
theorem j2 (s:ByteArray) (b:Nat) (hs:s.data.toList.length<=5000):Ag Tryz.prog Ad 124 [] [S s,U8 b] [] (.sl (strs (Vi s b)) false):=by
 have Be:s.size=s.data.toList.length:=by rw[<-M5,L6]
 refine Am Tryz.func124 Tryz.ntmps124 ?_;intro w e X hC;refine uZ ?_;refine uW ?_;refine Aw (fun q:Nat×Nat×Nat=>⟨[(0,S s),(1,U8 b),(5, .l 105 q.2.2 0 (GE s b q.2.1).1.length),(6,S (GE s b q.2.1).2),(7,I q.2.1)],(105,some (q.2.2, .own 9 1 (strs (GE s b q.2.1).1)))::[],q.1⟩) (fun q=>q.2.1<=s.data.toList.length) (fun q=>s.data.toList.length - q.2.1) (_,0,_) (zL _) (.of (lR _) (by repeat first|exact AX.nil|refine Jq ?_|(refine AX.cons ?_ ?_;(focus (simp only[go_sem,seval,-Int.reduceNatCast',GE];done)))) (by repeat first|exact BA.nil|refine Jr ?_|(refine BA.cons ?_ ?_;(focus (simp only[go_sem,seval,-Int.reduceNatCast',GE];done))))) ?_;rintro⟨ck,k,g⟩ hk;simp only at hk;obtain⟨FP,HK⟩:=j1 s b k;have e1:GE s b (k+1)=Vh b (s.data.toList.getD k 0) (GE s b k):=rfl;have e2:k=s.data.toList.length->Vi s b=(GE s b k).1++[(GE s b k).2]:=fun h=>by rw[h];rfl
 generalize GE s b k=o at*;obtain⟨o1,o2⟩:=o;simp only at FP HK e2;refine Ac @Be ?_;refine uW ?_;refine Aj _ rfl (fun h=>?_) (fun h=>?_)
 ·have Aa:k<s.data.toList.length:=oM;have BP:=o5 Aa;have BX:(strOf [s.data.toList.getD k 0]).size=1:=rfl;generalize hc:s.data.toList.getD k 0=c at*;unfold Vh at e1;simp only at e1;refine Ac @hc ?_;refine uW ?_;refine Aj _ rfl (fun c1=>?_) (fun c1=>?_)
  ·rw[iP oM] at e1;refine uZ ?_;refine At ?_;refine uZ ?_;refine⟨(_,k+1,g),uO,uO, .of (lR _) (Ax @e1) (AS (uI @e1 @List.length_singleton.{0}))⟩
  ·rw[iN oM] at e1;have Eg:((k:Int)+1).toNat=k+1:=oM
   repeat refine Ac (uI @Eg (uI @BP @BX)) ?_
   refine⟨(_,k+1,g),uO,uO, .of (lR _) (Ax @e1) (AS @e1)⟩
 ·refine At ?_;have e3:=e2 oM;refine uZ ?_;rw[e3];refine Ay ?_;rw[show Tryz.f124.results.toList=[.tmp 4] from rfl];first|refine MZ @List.length_singleton.{0} ?_|exact MY @List.length_singleton.{0}
open Go.Plant
theorem jq (s:ByteArray) (hs:(bs s).length<=5000):Ag Tryz.prog Ad 219 [] [S s] [] (B ((bs s).all CF)):=by
 have Al:=L6 s;have Es:=M5 s;refine Am Tryz.func219 Tryz.ntmps219 ?_;intro w e X hC;refine uZ ?_;refine uW ?_;refine Aw (fun i:Nat×Nat=>⟨[(0,S s),(3,I i.2)],[],i.1⟩) (fun i=>i.2<=(bs s).length/\∀j,j<i.2->CF ((bs s).getD j 0)=true) (fun i=>(bs s).length - i.2) (_,0) ⟨zL _,fun j hj=>absurd hj (nZ _)⟩ (Af) ?_;rintro⟨ck,i⟩ ⟨hi,hj⟩;simp only at hi hj
 repeat ((repeat first|refine A5 ?_|refine BQ ?_|refine B5 ?_);refine Ep hC rfl fun K hK=>?_;simp only[go_sem,seval,-Int.reduceNatCast',<-Es];(repeat ((with_reducible refine And.intro ?_ ?_);focus (((repeat' apply And.intro)<;>first|omega|(simp;done)|kernel_rfl))));refine hK _ ?_;clear hK K)
 refine uW ?_;refine Aj _ rfl (fun h=>?_) (fun h=>?_)
 ·have Aa:i<(bs s).length:=oM;have hg:=Oa s i;have Bc:CF ((bs s).getD i 0)=false->(bs s).all CF=false:=fun h=>by
   rw[List.all_eq_false];exact⟨_,Fs (d:=0) Aa,by rw[h];decide⟩
  have Cz:CF ((bs s).getD i 0)=true->∀j,j<i+1->CF ((bs s).getD j 0)=true:=fun h j Ah=>by
   by_cases AF:j=i
   ·subst AF;exact h
   ·exact hj j oM
  generalize (bs s).getD i 0=c at*
  cases d1:decide ((c:Int)<48) with
  |true=>
   have g1:=oT d1;rw[Bc (by unfold CF;rw[dF oM];rfl)]
   (repeat first|refine A5 ?_|refine BQ ?_|refine B5 ?_);refine Ep hC rfl fun K hK=>?_;simp only[go_sem,seval,-Int.reduceNatCast',hg,<-Al,d1]
   refine uH ?_;refine hK _ ?_;clear hK K;refine uT ?_;refine uZ ?_;refine uJ ?_;try rfl
  |false=>
   have g1:=oF d1
   cases d2:decide (57<(c:Int)) with
   |true=>
    have g2:=oT d2;rw[Bc (by unfold CF;rw[dF (show ¬(c:Int)<=57 by omega),Bool.and_false])]
    (repeat first|refine A5 ?_|refine BQ ?_|refine B5 ?_);refine Ep hC rfl fun K hK=>?_;simp only[go_sem,seval,-Int.reduceNatCast',hg,<-Al,d1,d2]
    refine uH ?_;refine hK _ ?_;clear hK K;refine uT ?_;refine uZ ?_;refine uJ ?_;try rfl
   |false=>
    have g2:=oF d2
    (repeat first|refine A5 ?_|refine BQ ?_|refine B5 ?_);refine Ep hC rfl fun K hK=>?_;simp only[go_sem,seval,-Int.reduceNatCast',hg,<-Al,d1,d2]
    refine uH ?_;refine hK _ ?_;clear hK K;refine uF ?_;refine uZ ?_;refine⟨(_,i+1),⟨uO,Cz (by unfold CF;rw[dT (show(48:Int)<=c by omega),dT (show(c:Int)<=57 by omega)];rfl)⟩,uO,Af⟩
 ·refine At ?_;have:(bs s).all CF=true:=by
   rw[List.all_eq_true];intro x hx;obtain⟨j,GX,rfl⟩:=List.getElem_of_mem hx;have:=hj j oM
   simpa[GX] using this
  rw[this];refine uZ ?_;refine uJ ?_;try rfl
def Hl (s:ByteArray):Nat->Int
 |0=>0
 |k+1=>Hl s k*10+(((bs s).getD k 0:Nat) - 48)
theorem kM {s:ByteArray} (h:∀j,j<(bs s).length->CF ((bs s).getD j 0)=true):∀k,k<=(bs s).length->0<=Hl s k/\Hl s k<10^k
 |0,_=>by simp[Hl]
 |k+1,hk=>by
  obtain⟨h1,h2⟩:=kM h k oM;have:=h k oM;simp only[CF,Bool.and_eq_true,decide_eq_true_eq] at this;rw[Hl,Int.pow_succ];omega
theorem jI (s:ByteArray) (hs:(bs s).length<=3) (hd:∀j,j<(bs s).length->CF ((bs s).getD j 0)=true):Ag Tryz.prog Ad 220 [] [S s] [] (I (Hl s (bs s).length)):=by
 have Al:=L6 s;have Es:=M5 s;refine Am Tryz.func220 Tryz.ntmps220 ?_;intro w e X hC;refine uZ ?_;refine uW ?_;refine Aw (fun i:Nat×Nat=>⟨[(0,S s),(3,I (Hl s i.2)),(4,I i.2)],[],i.1⟩) (fun i=>i.2<=(bs s).length) (fun i=>(bs s).length - i.2) (_,0) (zL _) (.of (lR _) (by repeat first|exact AX.nil|refine Jq ?_|(refine AX.cons ?_ ?_;(focus (simp only[go_sem,seval,-Int.reduceNatCast',Hl];done)))) (by repeat first|exact BA.nil|refine Jr ?_|(refine BA.cons ?_ ?_;(focus (simp only[go_sem,seval,-Int.reduceNatCast',Hl];done))))) ?_;rintro⟨ck,i⟩ hi;simp only at hi;obtain⟨v1,v2⟩:=kM hd i hi;have hp:(10:Int)^i<=10^3:=by
  have:i=0\/i=1\/i=2\/i=3:=oM;rcases this with rfl|rfl|rfl|rfl<;>decide
 have e1:Hl s (i+1)=Hl s i*10+(((bs s).getD i 0:Nat) - 48):=rfl;have efin:i=(bs s).length->Hl s (bs s).length=Hl s i:=fun h=>by rw[h]
 generalize Hl s i=v at*
 iterate 1 ((repeat first|refine A5 ?_|refine BQ ?_|refine B5 ?_);refine Ep hC rfl fun K hK=>?_;simp only[go_sem,seval,-Int.reduceNatCast',<-Es];(repeat ((with_reducible refine And.intro ?_ ?_);focus (((repeat' apply And.intro)<;>first|omega|(simp;done)|kernel_rfl))));refine hK _ ?_;clear hK K)
 refine uW ?_;refine Aj _ rfl (fun h=>?_) (fun h=>?_)
 ·have Aa:i<(bs s).length:=oM;have hg:=Oa s i;have Ox:=hd i Aa;simp only[CF,Bool.and_eq_true,decide_eq_true_eq] at Ox;generalize (bs s).getD i 0=c at*;have xq:IntKind.u8.wrap ((c:Int) - 48)=(c:Int) - 48:=by
   simp only[IntKind.wrap,IntKind.bits,IntKind.signed,Bool.false_and,Bool.false_eq_true,false_and,if_false];omega
  have xj:IntKind.i64.wrap ((c:Int) - 48)=(c:Int) - 48:=wrap_i64 ⟨oM,oM⟩
  repeat ((repeat first|refine A5 ?_|refine BQ ?_|refine B5 ?_);refine Ep hC rfl fun K hK=>?_;simp only[go_sem,seval,-Int.reduceNatCast',hg,<-Al,xq,xj];(repeat ((with_reducible refine And.intro ?_ ?_);focus (((repeat' apply And.intro)<;>first|omega|(simp;done)|kernel_rfl))));refine hK _ ?_;clear hK K)
  refine⟨(_,i+1),uO,uO, .of (lR _) Cb (AS @e1)⟩
 ·refine At ?_;have hf:=efin oM;rw[hf];refine uZ ?_;refine uJ ?_;try rfl
def SR (s:ByteArray):Bool:=decide (1<=(bs s).length)&&(decide ((bs s).length<=3)&&((bs s).all CF&&!(decide (1<(bs s).length)&&decide ((bs s).getD 0 0=48))))
def Pd (s:ByteArray):Int:=Hl s (bs s).length
theorem Zb (s:ByteArray) (h:SR s=true):Ag Tryz.prog Ad 174 [] [S s] [] (.tup [I (Pd s),B true]):=by
 have Al:=L6 s;have Es:=M5 s;simp only[SR,Bool.and_eq_true,decide_eq_true_eq,Bool.not_eq_true',Bool.and_eq_false_iff,decide_eq_false_iff_not] at h;obtain⟨h1,h2,h3,h4⟩:=h;have Gq:=jq s oM;rw[h3] at Gq;have hd:∀j,j<(bs s).length->CF ((bs s).getD j 0)=true:=fun j hj=>List.all_eq_true.1 h3 _ (Fs hj);have hv:=jI s h2 hd;have hg:=Oa s 0;have d1:=uDf (((bs s).length:Int)<1);have d2:=uDf (3<((bs s).length:Int));have hN:Pd s=Hl s (bs s).length:=rfl;rw[hN];generalize Hl s (bs s).length=v at*;refine Am Tryz.func174 Tryz.ntmps174 ?_;intro w e X hC;refine uZ ?_;by_cases c1:1<(bs s).length
 ·have d3:=uDt (1<((bs s).length:Int));have d4:decide ((((bs s).getD 0 0:Nat):Int)=48)=false:=dF (by have:=h4.resolve_left (fun h=>h c1);omega)
  (repeat first|refine A5 ?_|refine BQ ?_|refine B5 ?_);refine Ep hC rfl fun K hK=>?_;simp only[go_sem,seval,-Int.reduceNatCast',<-Es,d1,d2]
  refine cF Gq ?_;refine uS ?_;simp only[go_sem,seval,-Int.reduceNatCast',<-Es,<-Al,d3,hg,d4,Int.toNat_zero];refine uH ?_;refine hK _ ?_;clear hK K;refine uF ?_;refine uR ?_;intro K hK;refine cF hv ?_;refine uS ?_;refine hK _ ?_;clear hK K;refine Ay ?_;rw[show Tryz.f174.results.toList=[.tmp 2, .tmp 3] from rfl];first|refine Bn ?_|exact Bm
 ·have d3:=uDf (1<((bs s).length:Int))
  (repeat first|refine A5 ?_|refine BQ ?_|refine B5 ?_);refine Ep hC rfl fun K hK=>?_;simp only[go_sem,seval,-Int.reduceNatCast',<-Es,d1,d2]
  refine cF Gq ?_;refine uS ?_;simp only[go_sem,seval,-Int.reduceNatCast',<-Es,d3];refine uH ?_;refine hK _ ?_;clear hK K;refine uF ?_;refine uR ?_;intro K hK;refine cF hv ?_;refine uS ?_;refine hK _ ?_;clear hK K;refine Ay ?_;rw[show Tryz.f174.results.toList=[.tmp 2, .tmp 3] from rfl];first|refine Bn ?_|exact Bm
open Go.Plant
def M2 (kd:Int):Nat:=if AN kd=true then 3 else 2
def Kn (kd:Int):Nat:=(CT kd).toNat
def Vz (kd:Int):Nat:=(if AN kd=true then 4 else 3)+if 0<Kn kd then 1+Kn kd else 0
def Lc (a b:ByteArray):Bool:=decide (a.data.toList=b.data.toList)
def phB:ByteArray:=⟨#[112,104,111,116,111,99,101,108,108]⟩
def scB:ByteArray:=⟨#[115,99,97,110,110,101,114]⟩
def nA:ByteArray:=⟨#[62]⟩
structure VQ (w:List ByteArray) (kd:Int):Prop where
 kr:1<=kd/\kd<=9
 len:w.length=Vz kd
 w0:∀j,1<=j->j<=9->Lc (K3.getD j .empty) (w.getD 0 .empty)=decide ((j:Int)=kd)
 ph:Lc (w.getD 0 .empty) phB=false/\Lc (w.getD 0 .empty) scB=false
 nm:LI (w.getD 1 .empty)=true/\(bs (w.getD 1 .empty)).length<=1000
 n2:AN kd=true->SR (w.getD 2 .empty)=true
 zn:SR (w.getD (M2 kd) .empty)=true
 ar:0<Kn kd->Lc (w.getD (M2 kd+1) .empty) nA=true
 ex:∀k,k<Kn kd->LI (w.getD (M2 kd+2+k) .empty)=true/\(bs (w.getD (M2 kd+2+k) .empty)).length<=1000
structure Ln where
 nm:ByteArray
 kd:Int
 ln:Int
 zn:Int
 ex:List Int
 dk:Int
 dn:Int
 dw:Int
 names:List ByteArray
 deriving Inhabited
abbrev Ln.av (x:Ln):AV:= .agg [S x.nm,I x.kd,I x.ln,I x.zn,IS x.ex,I x.dk,I x.dn,I x.dw, .sl (strs x.names) false]
def J2 (l:List Ln):List AV:=l.map Ln.av
theorem y2 (l:List Ln):(J2 l).length=l.length:=by simp[J2]
theorem is {l:List Ln} {i:Nat} (h:i<l.length):(J2 l).getD i .bad=(l.getD i default).av:=by simp[J2,h]
theorem y4 {l:List Ln} {nm:ByteArray} {kd:Int} {ln:Int} {zn:Int} {ex:List Int} {dk:Int} {dn:Int} {dw:Int} {names:List ByteArray}:J2 l++[.agg [.lit (.string nm), .lit (.int .i64 kd), .lit (.int .i64 ln), .lit (.int .i64 zn), .sl (As ex) false, .lit (.int .i64 dk), .lit (.int .i64 dn), .lit (.int .i64 dw), .sl (strs names) false]]=J2 (l++[⟨nm,kd,ln,zn,ex,dk,dn,dw,names⟩]):=by simp[J2]
theorem y3:J2 []=[]:=rfl
attribute [go_sem] y2 y4
def QK (w:List ByteArray) (kd:Int):Ln:=⟨w.getD 1 .empty,kd,if AN kd=true then Pd (w.getD 2 .empty) else 0,Pd (w.getD (M2 kd) .empty),[],0,0,0,(w.drop (M2 kd+2)).take (Kn kd)⟩
theorem dZ:JE Ad.gl 0=some [.sl (strs K3) false]:=rfl
theorem Z2:K3.length=10:=rfl
theorem jr (s:ByteArray) (ws:List ByteArray) (kd:Int) (hs:s.data.toList.length<=5000) (hw:Vi s 32=ws) (hr:VQ ws kd):Ag Tryz.prog Ad 125 [] [S s] [] (.tup [(QK ws kd).av,B true]):=by
 have Fq:=j2 s 32 hs;rw[hw] at Fq;have MB:=cQ kd;have AM:=Kd kd;have Du:CT kd=(Kn kd:Int)/\Kn kd<=2:=by
  have:CT kd=0\/CT kd=1\/CT kd=2:=by unfold CT;split<;>(try split)<;>simp
  unfold Kn;omega
 rw[Du.1] at MB;obtain⟨⟨Bi,hk9⟩,hlen,SD,fY,FN,EZ,O3,JI,hex⟩:=hr;have IE:3<=ws.length/\ws.length<=7:=by rw[hlen,Vz];split<;>split<;>omega
 have CH:0<ws.length:=oM;have D0:1<ws.length:=oM;have Dw:2<ws.length:=oM;refine Am Tryz.func125 Tryz.ntmps125 ?_;intro w e X hC;refine uA ?_;refine uR ?_;intro K hK;refine cP Fq ?_;refine uS ?_;refine hK _ ?_;clear hK K;refine uA ?_;refine A5 ?_;refine CE (fun q:Nat=>⟨[(2, .p 102 1 0 0 0),(4, .sl (strs ws) false),(5, .p 105 6 0 0 0)],(105,some (6, .box [S .empty,I 0,I 0,I 0, .sl [] true,I 0,I 0,I 0, .sl [] true]))::(102,some (1, .box [S .empty,I 0,I 0,I 0, .sl [] true,I 0,I 0,I 0, .sl [] true]))::[],q⟩) (fun _=>True) ?_ ?_
 ·refine uZ ?_;refine uW ?_;refine Aw (fun q:Nat×Nat=>⟨[(2, .p 102 1 0 0 0),(4, .sl (strs ws) false),(5, .p 105 6 0 0 0),(6,I q.2)],(105,some (6, .box [S .empty,I 0,I 0,I 0, .sl [] true,I 0,I 0,I 0, .sl [] true]))::(102,some (1, .box [S .empty,I 0,I 0,I 0, .sl [] true,I 0,I 0,I 0, .sl [] true]))::[],q.1⟩) (fun q=>1<=q.2/\q.2<=3) (fun q=>3 - q.2) (_,1) ⟨oM,oM⟩ (Af) ?_;rintro⟨ck,k⟩ ⟨hk,fB⟩;simp only at hk fB;refine A5 ?_;refine CE (fun q:Nat=>⟨[(2, .p 102 1 0 0 0),(4, .sl (strs ws) false),(5, .p 105 6 0 0 0),(6,I k)],(105,some (6, .box [S .empty,I 0,I 0,I 0, .sl [] true,I 0,I 0,I 0, .sl [] true]))::(102,some (1, .box [S .empty,I 0,I 0,I 0, .sl [] true,I 0,I 0,I 0, .sl [] true]))::[],q⟩) (fun _=>k<=2/\ws.length=3) ?_ ?_
  ·by_cases c1:k<=2
   ·have d1:=uDt ((k:Int)<=2);by_cases c2:ws.length=3
    ·have d2:=uDt ((ws.length:Int)=3);refine Av (uI @d1 @d2) ?_;intro K hK;refine hK _ ?_;clear hK K;refine uT ?_;refine uW ?_;refine⟨_,⟨c1,c2⟩,Af⟩
    ·have d2:=uDf ((ws.length:Int)=3);refine Av (uI @d1 @d2) ?_;intro K hK;refine hK _ ?_;clear hK K;refine uF ?_;refine At ?_;refine⟨_,trivial,Af⟩
   ·have d1:=uDf ((k:Int)<=2);refine Av @d1 ?_;intro K hK;refine hK _ ?_;clear hK K;refine uF ?_;refine At ?_;refine⟨_,trivial,Af⟩
  rintro ck1 ⟨Ch,Sd⟩;have wd:SR (ws.getD 2 .empty)=true:=by
   have:AN kd=false/\Kn kd=0:=by
    rw[hlen,Vz] at Sd
    cases h:AN kd with
    |true=>rw[h,iP rfl] at Sd;omega
    |false=>rw[h] at Sd;refine⟨rfl,?_⟩;simp only[Bool.false_eq_true,if_false] at Sd;split at Sd<;>omega
   rw[M2,this.1] at O3
   simpa using O3
  have Dm:=Zb _ wd;refine Av (Ge Dw) ?_;intro K hK;refine⟨oM,?_⟩;refine cF Dm ?_;refine uS ?_;refine uH ?_;refine hK _ ?_;clear hK K;have vv:k=1\/k=2:=oM;have II:decide ((ws.getD 0 .empty).data.toList=[112,104,111,116,111,99,101,108,108])=false:=fY.1;have Ie:decide ((ws.getD 0 .empty).data.toList=[115,99,97,110,110,101,114])=false:=fY.2;rcases vv with rfl|rfl
  ·refine CK (uI (Ge CH) (uI @Int.toNat_zero @II)) ?_;intro K hK;refine⟨oM,oM,?_⟩;refine uH ?_;refine hK _ ?_;clear hK K;refine uF ?_;refine uZ ?_;refine⟨(_,2),⟨oM,oM⟩,uO,Af⟩
  ·refine CK (uI (Ge CH) (uI @Int.toNat_zero @Ie)) ?_;intro K hK;refine⟨oM,oM,?_⟩;refine uH ?_;refine hK _ ?_;clear hK K;refine uF ?_;refine uZ ?_;refine⟨(_,3),⟨oM,oM⟩,uO,Af⟩
 ·rintro ck1 -;refine uA ?_;refine uW ?_;refine Aw (fun q:Nat×Nat=>⟨[(2, .p 102 1 0 0 0),(4, .sl (strs ws) false),(5, .p 105 6 0 0 0),(9,I q.2)],(105,some (6, .box [S .empty,I (if kd<q.2 then kd else 0),I 0,I 0, .sl [] true,I 0,I 0,I 0, .sl [] true]))::(102,some (1, .box [S .empty,I 0,I 0,I 0, .sl [] true,I 0,I 0,I 0, .sl [] true]))::[],q.1⟩) (fun q=>1<=q.2/\q.2<=10) (fun q=>10 - q.2) (_,1) ⟨oM,oM⟩ (.of (lR _) (by repeat first|exact AX.nil|refine Jq ?_|(refine AX.cons ?_ ?_;(focus (simp only[go_sem,seval,-Int.reduceNatCast',iN (show ¬kd<(1:Nat) by omega)];done)))) (by repeat first|exact BA.nil|refine Jr ?_|(refine BA.cons ?_ ?_;(focus (simp only[go_sem,seval,-Int.reduceNatCast'];done))))) ?_;rintro⟨ck2,k⟩ ⟨hk,vu⟩;simp only at hk vu;refine uZ ?_;refine uW ?_;refine Aj _ rfl (fun h=>?_) (fun h=>?_)
  ·have A3:k<K3.length:=by rw[Z2];omega
   have NL:decide ((K3.getD k .empty).data.toList=(ws.getD 0 .empty).data.toList)=decide ((k:Int)=kd):=SD k hk oM;by_cases c1:(k:Int)=kd
   ·have d1:decide ((k:Int)=kd)=true:=dT c1;have XH:(if kd<((k+1:Nat):Int) then kd else 0)=kd:=iP oM;have u6:(if kd<(k:Int)+1 then kd else 0)=kd:=iP oM;refine Cv (uI @dZ (uI (Ge A3) (uI (Ge CH) (uI @Int.toNat_zero (uI @NL @d1))))) ?_;intro K hK;refine⟨by rw[Z2];omega,oM,?_⟩;refine hK _ ?_;clear hK K;refine uT ?_;refine uZ ?_;refine⟨(_,k+1),⟨uO,uO⟩,uO, .of (lR _) (Ax (uI @XH (uI @u6 @c1))) A4⟩
   ·have d1:decide ((k:Int)=kd)=false:=dF c1;have XH:(if kd<((k+1:Nat):Int) then kd else 0)=if kd<(k:Int) then kd else 0:=by
     by_cases h:kd<(k:Int)
     ·rw[iP h,iP oM]
     ·rw[iN h,iN oM]
    refine Cv (uI @dZ (uI (Ge A3) (uI (Ge CH) (uI @Int.toNat_zero (uI @NL @d1))))) ?_;intro K hK;refine⟨by rw[Z2];omega,oM,?_⟩;refine hK _ ?_;clear hK K;refine uF ?_;refine uZ ?_;refine⟨(_,k+1),⟨uO,uO⟩,uO, .of (lR _) (Ax @XH) A4⟩
  refine At ?_;rw[iP oM];obtain rfl:k=10:=oM;obtain⟨QhU,QhT⟩:=Du;obtain⟨at',Mk⟩:∃a,a=M2 kd:=⟨_,rfl⟩;rw[<-Mk] at O3 JI hex;have NK:=hlen;unfold Vz at NK;have eH:QK ws kd=_:=QK.eq_1 ws kd;rw[<-Mk] at eH;generalize QK ws kd=rr at*;have QhS:0<=(Kn kd:Int):=oM;generalize Kn kd=en at*;have RL:at'=if AN kd=true then 3 else 2:=Mk
  have T6:(if AN kd=true then 4 else 3)=at'+1:=by rw[RL];split<;>rfl
  have fF:at'<ws.length:=by rw[NK,T6];omega
  have vE:0<en->at'+1<ws.length:=fun h=>by rw[NK,T6,iP h];omega
  have fG:∀k,k<en->at'+2+k<ws.length:=fun k hk=>by rw[NK,T6,iP oM];omega
  clear T6;generalize AN kd=st at*;refine uR ?_;intro K hK;refine cF MB ?_;refine uS ?_;refine hK _ ?_;clear hK K;refine uA ?_;refine A5 ?_;refine CE (fun q:Nat=>⟨[(2, .p 102 1 0 0 0),(4, .sl (strs ws) false),(5, .p 105 6 0 0 0),(10,I en),(11,I 2),(12,I (if st=true then 4 else 3))],(105,some (6, .box [S .empty,I kd,I 0,I 0, .sl [] true,I 0,I 0,I 0, .sl [] true]))::(102,some (1, .box [S .empty,I 0,I 0,I 0, .sl [] true,I 0,I 0,I 0, .sl [] true]))::[],q⟩) (fun _=>True) ?_ ?_
  ·cases st with
   |true=>
    refine uR ?_;intro K hK;refine cF AM ?_;refine uS ?_;refine hK _ ?_;clear hK K;refine uT ?_;refine uZ ?_;refine⟨_,trivial,Af⟩
   |false=>
    refine uR ?_;intro K hK;refine cF AM ?_;refine uS ?_;refine hK _ ?_;clear hK K;refine uF ?_;refine uW ?_;refine⟨_,trivial,Af⟩
  rintro ck3 -;refine A5 ?_;refine CE (fun q:Nat=>⟨[(2, .p 102 1 0 0 0),(4, .sl (strs ws) false),(5, .p 105 6 0 0 0),(10,I en),(11,I 2),(12,I ws.length)],(105,some (6, .box [S .empty,I kd,I 0,I 0, .sl [] true,I 0,I 0,I 0, .sl [] true]))::(102,some (1, .box [S .empty,I 0,I 0,I 0, .sl [] true,I 0,I 0,I 0, .sl [] true]))::[],q⟩) (fun _=>True) ?_ ?_
  ·by_cases c1:0<en
   ·have d1:=uDt (0<(en:Int));rw[iP c1] at NK;have hv:(if st=true then(4:Int) else 3)+(1+(en:Int))=ws.length:=by rw[NK];cases st<;>simp<;>omega
    have SC:3<=(if st=true then(4:Int) else 3)/\(if st=true then(4:Int) else 3)<=4:=by cases st<;>simp
    generalize (if st=true then(4:Int) else 3)=v4 at*
    repeat first|refine uC ?_|refine Ac @d1 ?_
    refine⟨_,trivial, .of (lR _) Cb (AS @hv)⟩
   ·have d1:=uDf (0<(en:Int));rw[iN c1] at NK;have hv:(if st=true then(4:Int) else 3)=ws.length:=by rw[NK];cases st<;>simp
    repeat first|refine uC ?_|refine Ac @d1 ?_
    refine uW ?_;refine⟨_,trivial, .of (lR _) Cb (AS @hv)⟩
  rintro ck4 -;have dk0:=uDf (kd=0);have dwl:decide (¬(ws.length:Int)=ws.length)=false:=dF (fun h=>h rfl);have fO:=Y5 _ FN.2;rw[FN.1] at fO;have DR:=fF;refine Av (uI @dk0 (uI @dwl (uI (Ge D0) @Int.toNat_one))) ?_;intro K hK;refine⟨oM,?_⟩;refine cF fO ?_;refine uS ?_;refine uH ?_;refine hK _ ?_;clear hK K;refine uF ?_
  repeat refine Ac (uI (Ge D0) @Int.toNat_one) ?_
  refine A5 ?_;refine CE (fun q:Nat=>⟨[(2, .p 102 1 0 0 0),(4, .sl (strs ws) false),(5, .p 105 6 0 0 0),(10,I en),(11,I at'),(13,B true)],(105,some (6, .box [S (ws.getD 1 .empty),I kd,I (if st=true then Pd (ws.getD 2 .empty) else 0),I 0, .sl [] true,I 0,I 0,I 0, .sl [] true]))::(102,some (1, .box [S .empty,I 0,I 0,I 0, .sl [] true,I 0,I 0,I 0, .sl [] true]))::[],q⟩) (fun _=>True) ?_ ?_
  ·cases st with
   |true=>
    have vV:=Zb _ (EZ rfl);rw[iP rfl] at RL;subst RL;refine uR ?_;intro K hK;refine cF AM ?_;refine uS ?_;refine hK _ ?_;clear hK K;refine uT ?_;refine Av (Ge Dw) ?_;intro K hK;refine⟨oM,?_⟩;refine cF vV ?_;refine uS ?_;refine uH ?_;refine hK _ ?_;clear hK K;refine uZ ?_;refine⟨_,trivial,Af⟩
   |false=>
    rw[iN dM] at RL;subst RL;refine uR ?_;intro K hK;refine cF AM ?_;refine uS ?_;refine hK _ ?_;clear hK K;refine uF ?_;refine uW ?_;refine⟨_,trivial,Af⟩
  rintro ck5 -;have NO:=Zb _ O3;refine Av (Ge fF) ?_;intro K hK;refine⟨oM,?_⟩;refine cF NO ?_;refine uS ?_;refine uH ?_;refine hK _ ?_;clear hK K;generalize (if st=true then Pd (ws.getD 2 .empty) else 0)=vln at*;generalize Pd (ws.getD at' .empty)=vzn at*;refine uA ?_;refine A5 ?_;refine CE (fun q:Nat=>⟨[(2, .p 102 1 0 0 0),(4, .sl (strs ws) false),(5, .p 105 6 0 0 0),(10,I en),(11,I at')],(105,some (6, .box [S (ws.getD 1 .empty),I kd,I vln,I vzn, .sl [] true,I 0,I 0,I 0, .sl [] true]))::(102,some (1, .box [S .empty,I 0,I 0,I 0, .sl [] true,I 0,I 0,I 0, .sl [] true]))::[],q⟩) (fun _=>True) ?_ ?_
  ·by_cases c1:0<en
   ·have d1:=uDt (0<(en:Int));have BH:=vE c1;have Eg:((at':Int)+1).toNat=at'+1:=oM;have T5:decide (¬(ws.getD (at'+1) .empty).data.toList=[62])=false:=by
     have h1:(ws.getD (at'+1) .empty).data.toList=[62]:=oT (JI c1);exact dF (fun h=>h h1)
    refine Av (uI @d1 (uI @Eg (uI (Ge BH) @T5))) ?_;intro K hK;refine uH ?_;refine hK _ ?_;clear hK K;refine uF ?_;refine uW ?_;refine⟨_,trivial,Af⟩
   ·have d1:=uDf (0<(en:Int));refine Av @d1 ?_;intro K hK;refine hK _ ?_;clear hK K;refine uF ?_;refine uW ?_;refine⟨_,trivial,Af⟩
  rintro ck6 -;refine uZ ?_;refine uW ?_;refine Aw (fun q:Nat×Nat×Nat=>⟨[(2, .p 102 1 0 0 0),(4, .sl (strs ws) false),(5, .p 105 6 0 0 0),(10,I en),(11,I at'),(16,I q.2.1)],(105,some (6, .box [S (ws.getD 1 .empty),I kd,I vln,I vzn, .sl [] true,I 0,I 0,I 0,F8 q.2.1 (.l 280 q.2.2 0 q.2.1)]))::(280,F9 q.2.1 (q.2.2, .own 9 1 (strs ((ws.drop (at'+2)).take q.2.1))))::(102,some (1, .box [S .empty,I 0,I 0,I 0, .sl [] true,I 0,I 0,I 0, .sl [] true]))::[],q.1⟩)
   (fun q=>q.2.1<=en) (fun q=>en - q.2.1) (_,0,0) (zL _) (Af) ?_
  rintro⟨ck7,k,g⟩ hk;simp only at hk;refine uZ ?_;refine uW ?_;refine Aj _ rfl (fun h7=>?_) (fun h7=>?_)
  ·have Aa:k<en:=oM;have Fm:=fG k Aa;have MA:=hex k Aa;have gB:=Y5 _ MA.2;rw[MA.1] at gB;have Eg:((at':Int)+2+(k:Int)).toNat=at'+2+k:=oM;have OX:(ws.drop (at'+2)).take (k+1)=(ws.drop (at'+2)).take k++[ws.getD (at'+2+k) .empty]:=by
    rw[Jp (d:= .empty) (by rw[List.length_drop];omega)]
    congr 2
    simp[gE]
   have Dd:((ws.drop (at'+2)).take k).length=k:=by rw[List.length_take,List.length_drop];omega
   generalize (ws.drop (at'+2)).take k=o at*;refine Av (uI @Eg (Ge Fm)) ?_;intro K hK;refine uH ?_;refine cF gB ?_;refine uS ?_;refine uH ?_;refine hK _ ?_;clear hK K;refine uF ?_;by_cases H9:k=0
   ·subst H9;obtain rfl:o=[]:=List.length_eq_zero_iff.1 Dd;simp only[Ji,Jj];refine CK (uI @Eg (Ge Fm)) ?_;intro K hK;refine uH ?_;refine hK _ ?_;clear hK K;refine uZ ?_;refine⟨(_,0+1,ck7+22),uO,uO, .of (lR _) (by repeat first|exact AX.nil|refine Jq ?_|(refine AX.cons ?_ ?_;(focus (simp only[go_sem,seval,-Int.reduceNatCast',OX,List.nil_append,Nat.add_zero,strs,List.map_cons,List.map_nil,FQ,FR];done)))) (by repeat first|exact BA.nil|refine Jr ?_|(refine BA.cons ?_ ?_;(focus (simp only[go_sem,seval,-Int.reduceNatCast'];done))))⟩
   ·simp only[Hd H9,He H9];refine CK (uI @Eg (uI (Ge Fm) @Dd)) ?_;intro K hK;refine uH ?_;refine hK _ ?_;clear hK K;refine uZ ?_;refine⟨(_,k+1,g),uO,uO, .of (lR _) (Ax (uI @OX (uI @FQ @FR))) A4⟩
  ·refine At ?_;obtain rfl:k=en:=oM;subst eH;by_cases H9:k=0
   ·subst H9;simp only[Ji,Jj];refine uZ ?_;refine Ay ?_;rw[show Tryz.f125.results.toList=[.cell 2 177, .tmp 3] from rfl];first|refine Bn ?_|exact Bm
    rfl
   ·simp only[Hd H9,He H9];refine uZ ?_;have Dd:((ws.drop (at'+2)).take k).length=k:=by rw[List.length_take,List.length_drop];have:=fG (k - 1) oM;omega
    refine Ay ?_;rw[show Tryz.f125.results.toList=[.cell 2 177, .tmp 3] from rfl];first|refine MZ @Dd ?_|exact MY @Dd
    rfl
open Go.Plant
def KU (x:Ln):Nd:=⟨x.nm,x.kd,x.ln,x.zn,x.ex⟩
def Of (x:Ln):T3:=⟨x.dk,x.dn,x.dw⟩
theorem zO {nm:ByteArray} {kd ln zn:Int} {ex:List Int}:[AV.agg [.lit (.string nm), .lit (.int .i64 kd), .lit (.int .i64 ln), .lit (.int .i64 zn), .sl (As ex) false]]=AA [⟨nm,kd,ln,zn,ex⟩]:=rfl
theorem Qfk {a b c:Int}:[AV.agg [.lit (.int .i64 a), .lit (.int .i64 b), .lit (.int .i64 c)]]=Ai [⟨a,b,c⟩]:=rfl
def H1 (ls:List Ln) (m:Nat) (nm:ByteArray):Int:=Fi ((ls.take m).map KU) nm
def Le (ls:List Ln) (m:Nat) (x:Ln) (c:Nat):Nd×Bool:=if c=0 then(KU x,false) else(⟨x.nm,x.kd,x.ln,x.zn,x.ex++(x.names.take c).map (H1 ls m)⟩,true)
def JC (ls:List Ln) (i k j:Nat):Nat:=if j<i then(ls.getD j default).names.length else if j=i then k else 0
def C5 (ls:List Ln) (m i k:Nat):List (Nd×Bool):=(List.range m).map fun j=>Le ls m (ls.getD j default) (JC ls i k j)
theorem NT (ls:List Ln) (m i k:Nat):(C5 ls m i k).length=m:=by simp[C5]
theorem zD {ls:List Ln} {m i k j:Nat} (h:j<m):(C5 ls m i k).getD j default=Le ls m (ls.getD j default) (JC ls i k j):=by simp[C5,h]
theorem iB {l:List (Nd×Bool)} {i:Nat} (h:i<l.length):(Ek l).getD i .bad=LG (l.getD i default):=by simp[Ek,h]
theorem qE (ls:List Ln) (m:Nat) (x:Ln) (c:Nat):(Le ls m x c).1.nm=x.nm:=by unfold Le;split<;>rfl
theorem db (xs:List Nd) (nm:ByteArray):Fi xs nm=match (xs.map (·.nm)).findIdx? (fun z=>decide (z=nm)) with|some i=>i|none=>-1:=by
 rw[Fi,List.findIdx?_map];rfl
theorem zA {ls:List Ln} {m i k:Nat} (hm:m<=ls.length) (nm:ByteArray):Fi ((C5 ls m i k).map (·.1)) nm=H1 ls m nm:=by
 rw[H1,db,db];have:((C5 ls m i k).map (·.1)).map (·.nm)=((ls.take m).map KU).map (·.nm):=by
  apply List.ext_getElem
  ·simp[NT];omega
  ·intro j h1 h2;simp only[List.length_map,NT] at h1;simp only[List.getElem_map,List.getElem_take,C5,List.getElem_range,qE];simp[show j<ls.length by omega,KU]
 rw[this]
theorem zF (ls:List Ln) (m i:Nat):C5 ls m i (ls.getD i default).names.length=C5 ls m (i+1) 0:=by
 unfold C5;refine List.map_congr_left fun j _=>?_
 congr 1
 unfold JC;by_cases h1:j<i
 ·rw[iP h1,iP oM]
 ·rw[iN h1];by_cases h2:j=i
  ·subst h2;rw[iP rfl,iP oM]
  ·rw[iN h2,iN oM];split<;>rfl
theorem zC {ls:List Ln} {m i k k':Nat} (h:m<=i):C5 ls m i k=C5 ls m i k':=by
 unfold C5;refine List.map_congr_left fun j hj=>?_;have:=List.mem_range.1 hj;rw[JC,JC,iP oM,iP oM]
theorem zG {ls:List Ln} {m i k:Nat} (hi:i<m):(C5 ls m i k).set i (Le ls m (ls.getD i default) (k+1))=C5 ls m i (k+1):=by
 apply List.ext_getElem
 ·simp[NT]
 ·intro j h1 h2;simp only[List.length_set,NT] at h1;rw[List.getElem_set];by_cases AF:i=j
  ·subst AF;simp[C5,JC]
  ·rw[iN AF];simp[C5,JC,show ¬j=i from fun h=>AF h.symm]
def EH (ls:List Ln) (m d:Nat):List T3:=(List.range (ls.length - m)).map fun j=>if j<d then⟨(ls.getD (m+j) default).dk,H1 ls m ((ls.getD (m+j) default).names.getD 0 .empty),(ls.getD (m+j) default).dw⟩ else Of (ls.getD (m+j) default)
theorem PX (ls:List Ln) (m d:Nat):(EH ls m d).length=ls.length - m:=by simp[EH]
theorem qd {ls:List Ln} {m d j:Nat} (h:j<ls.length - m):(EH ls m d).getD j default=if j<d then⟨(ls.getD (m+j) default).dk,H1 ls m ((ls.getD (m+j) default).names.getD 0 .empty),(ls.getD (m+j) default).dw⟩ else Of (ls.getD (m+j) default):=by simp only[EH,gE,List.getElem?_map,List.getElem?_range h,Option.map_some,Option.getD_some]
theorem qf {ls:List Ln} {m d:Nat} (h:d<ls.length - m):(EH ls m d).set d ⟨(ls.getD (m+d) default).dk,H1 ls m ((ls.getD (m+d) default).names.getD 0 .empty),(ls.getD (m+d) default).dw⟩=EH ls m (d+1):=by
 apply List.ext_getElem
 ·simp[PX]
 ·intro j h1 h2;simp only[List.length_set,PX] at h1;rw[List.getElem_set];by_cases EB:d=j
  ·subst EB;simp[EH]
  ·rw[iN EB];by_cases Aa:j<d
   ·simp[EH,Aa,show j<d+1 by omega]
   ·simp[EH,Aa,show ¬j<d+1 by omega]
def cD (m i k:Nat):Nat:=if i<m then 0 else i - m+k
theorem pd {m i k:Nat} (h:m<=i->k=1):cD m i k=cD m (i+1) 0:=by
 unfold cD;by_cases h1:i<m
 ·rw[iP h1];split<;>omega
 ·have:=h oM;rw[iN h1,iN oM];omega
def MP (ls:List Ln) (m:Nat):Ly:=⟨(C5 ls m m 0).map (·.1),EH ls m (ls.length - m)⟩
theorem qg {ls:List Ln} {m:Nat}:EH ls m 0=(ls.drop m).map Of:=by
 apply List.ext_getElem
 ·simp[EH]
 ·intro j h1 h2;simp only[PX] at h1;simp[EH,show m+j<ls.length by omega]
structure aw (s:ByteArray) (T:List ByteArray) (ls:List Ln) (m:Nat):Prop where
 len:s.data.toList.length<=4096
 sp:Vi s 10=T++[.empty]
 tl:T.length=ls.length
 ll:ls.length<=100
 ml:m<=ls.length
 m0:0<m
 nd:∀i,i<m->(ls.getD i default).kd≠0
 dv:∀i,m<=i->i<ls.length->(ls.getD i default).kd=0
 fn:∀i,i<ls.length->∀k,k<(ls.getD i default).names.length->0<=H1 ls m ((ls.getD i default).names.getD k .empty)
 x0:∀i,i<ls.length->(ls.getD i default).ex=[]
 d1:∀i,m<=i->i<ls.length->(ls.getD i default).names.length=1
 nl:∀i,i<ls.length->(ls.getD i default).names.length<=100
 rd:∀i,i<ls.length->Ag Tryz.prog Ad 125 [] [S (T.getD i .empty)] [] (.tup [(ls.getD i default).av,B true])
theorem Qbd (s:ByteArray) (T:List ByteArray) (ls:List Ln) (m:Nat) (h:aw s T ls m) (wH:HW (MP ls m)) (G6:Dp (MP ls m)=0):Ag Tryz.prog Ad 70 [] [S s] [] (.tup [(MP ls m).av,I 0,I 0]):=by
 obtain⟨hlen,Fq,Dd,Eh,Gw,HD,Lv,Oz,OB,J1,Hw,Dc,DU⟩:=h;have Be:s.size=s.data.toList.length:=by rw[<-M5,L6]
 have Yk:=j2 s 10 oM;rw[Fq] at Yk;have eK:(T++[ByteArray.empty]).length=ls.length+1:=by rw[aL,Dd];rfl
 have eI:(T++[ByteArray.empty]).getD ls.length .empty= .empty:=by rw[dW,Dd];simp
 have eM:(T++[ByteArray.empty]).take ls.length=T:=by rw[<-Dd,List.take_left]
 have fI:ls.length<(T++[ByteArray.empty]).length:=oM;have Eg:((ls.length:Int)+1 - 1).toNat=ls.length:=oM;have vy:((ls.length:Int)+1 - 1)=ls.length:=oM;refine Am Tryz.func70 Tryz.ntmps70 ?_;intro w e X hC
 repeat refine Ac @Be ?_
 refine uW ?_;refine Aj _ rfl (fun c0=>?_) (fun c0=>?_)
 ·omega
 refine uR ?_;intro K hK;refine cP Yk ?_;refine uS ?_;refine hK _ ?_;clear hK K
 repeat refine Ac (uI @eK (uI @Int.natCast_add (uI @vy (uI @Int.natCast_one (uI (Ge fI) (uI @eI (uI @kb @eM))))))) ?_
 refine uW ?_;refine Aw (fun q:Nat×Nat×Nat×Nat×Nat×Nat×Nat=>⟨[(2, .p 102 1 0 0 0),(5, .sl (strs T) false),(6,S .empty),(7, .l 107 q.2.2.1 0 q.2.1),(8, .p 108 24 0 0 0),(9,I q.2.1)],
  (108,some (24, .box [F8 q.2.2.2.2.2.1 (.l 177 q.2.2.2.1 0 q.2.2.2.2.2.1),F8 q.2.2.2.2.2.2 (.l 184 q.2.2.2.2.1 0 q.2.2.2.2.2.2)]))::(177,F9 q.2.2.2.2.2.1 (q.2.2.2.1, .own 82 5 (AA ((ls.take q.2.2.2.2.2.1).map KU))))::(184,F9 q.2.2.2.2.2.2 (q.2.2.2.2.1, .own 108 3 (Ai (((ls.drop m).take q.2.2.2.2.2.2).map Of))))::(107,some (q.2.2.1, .own 177 9 (J2 (ls.take q.2.1))))::(102,some (1, .box [.sl [] true, .sl [] true]))::[],q.1⟩)
  (fun q=>q.2.1<=ls.length/\q.2.2.2.2.2.1=min q.2.1 m/\q.2.2.2.2.2.2=q.2.1 - m) (fun q=>ls.length - q.2.1) (_,0,23,0,0,0,0) ⟨zL _,sM,sM⟩ (.of (lR _) (Ax @y3) A4) ?_
 rintro⟨ck,i,g,g1,g2,na,nd⟩ ⟨hi,vX,v6⟩;simp only at hi vX v6;have tq:T.length=ls.length:=Dd
 repeat refine Ac @tq ?_
 refine uW ?_;refine Aj _ rfl (fun h1=>?_) (fun h1=>?_)
 ·have Aa:i<ls.length:=oM;have vM:i<T.length:=oM;have wA:=DU i Aa;have fM:=Lv i;have fd:=Oz i;have G4:=Jp (d:=default) Aa;have UI:(ls.take i).length=i:=by rw[List.length_take];omega
  generalize e1:ls.getD i default=x at*;obtain⟨xnm,xkd,xln,xzn,xex,xdk,xdn,xdw,xns⟩:=x;simp only at fM fd;refine Av (Ge vM) ?_;intro K hK;refine⟨oM,?_⟩;refine cP wA ?_;refine uS ?_;refine uH ?_;refine hK _ ?_;clear hK K;by_cases XJ:i<m
  ·have GY:=fM XJ;have dk:decide (¬xkd=0)=true:=dT GY;obtain rfl:na=i:=oM;obtain rfl:nd=0:=oM;have OY:∀l:List Ln,(l++[(⟨xnm,xkd,xln,xzn,xex,xdk,xdn,xdw,xns⟩:Ln)]).map KU=l.map KU++[⟨xnm,xkd,xln,xzn,xex⟩]:=fun l=>by rw[List.map_append];rfl
   have wR:[(⟨xnm,xkd,xln,xzn,xex,xdk,xdn,xdw,xns⟩:Ln)].map KU=[⟨xnm,xkd,xln,xzn,xex⟩]:=rfl;simp only[Ji,Jj];by_cases H9:na=0
   ·subst H9;simp only[Ji,Jj]
    repeat first|refine uC ?_|refine Ac (uI @dk @UI) ?_
    refine⟨(_,0+1,g,ck+43,g2,0+1,0),⟨uO,uO,uO⟩,uO, .of (lR _) (Ax (uI @G4 (uI @OY (uI @wR (uI @zO (uI @FQ @FR)))))) A4⟩
   ·simp only[Hd H9,He H9]
    repeat first|refine uC ?_|refine Ac (uI @dk @UI) ?_
    refine⟨(_,na+1,g,g1,g2,na+1,0),⟨uO,uO,uO⟩,uO, .of (lR _) (Ax (uI @G4 (uI @OY (uI @FQ @FR)))) A4⟩
  ·have GY:=fd oM Aa;have dk:decide (¬xkd=0)=false:=dF (fun h=>h GY);obtain⟨A1,rfl⟩:∃k,na=k+1:=⟨na - 1,oM⟩;obtain rfl:m=A1+1:=oM;have I4:nd<(ls.drop (A1+1)).length:=by rw[List.length_drop];omega
   have Nu:(ls.drop (A1+1)).getD nd default=⟨xnm,xkd,xln,xzn,xex,xdk,xdn,xdw,xns⟩:=by
    rw[<-e1];simp only[gE,List.getElem?_drop]
    congr 2
    omega
   have OY:((ls.drop (A1+1)).take (nd+1)).map Of=((ls.drop (A1+1)).take nd).map Of++[⟨xdk,xdn,xdw⟩]:=by rw[Jp (d:=default) I4,List.map_append,Nu];rfl
   have uj:((ls.drop (A1+1)).take nd).length=nd:=by rw[List.length_take];omega
   simp only[FQ,FR];by_cases H9:nd=0
   ·subst H9;simp only[Ji,Jj]
    repeat first|refine uC ?_|refine Ac (uI @dk @UI) ?_
    refine⟨(_,i+1,g,g1,ck+43,A1+1,0+1),⟨uO,uO,uO⟩,uO, .of (lR _) (Ax (uI @OY (uI @G4 (uI @Qfk (uI @FQ @FR))))) A4⟩
   ·simp only[Hd H9,He H9]
    repeat first|refine uC ?_|refine Ac (uI @dk (uI @UI @uj)) ?_
    refine⟨(_,i+1,g,g1,g2,A1+1,nd+1),⟨uO,uO,uO⟩,uO, .of (lR _) (Ax (uI @OY (uI @G4 (uI @FQ @FR)))) A4⟩
 ·refine At ?_;obtain rfl:i=ls.length:=oM;clear DU Yk eK eI eM fI;obtain rfl:na=m:=oM;obtain⟨A1,rfl⟩:∃k,na=k+1:=⟨na - 1,oM⟩;rw[List.take_length];have um:(ls.drop (A1+1)).take nd=ls.drop (A1+1):=List.take_of_length_le (by rw[List.length_drop];omega);rw[um,<-qg];have vU:AA ((ls.take (A1+1)).map KU)=Ek (C5 ls (A1+1) 0 0):=by
   rw[iC]
   congr 1
   apply List.ext_getElem
   ·simp[NT];omega
   ·intro j h1 h2;simp only[List.length_map,NT] at h2;simp[C5,JC,Le,show j<ls.length by omega]
  rw[vU];simp only[FQ,FR];refine uZ ?_;refine uW ?_;refine Aj _ rfl (fun hh=>?_) (fun hh=>?_)
  ·exact absurd rfl hh
  iterate 3 (first|refine BQ ?_|refine A5 ?_)
  refine CE (fun q:Nat×Nat=>⟨[(2, .p 102 1 0 0 0),(7, .l 107 g 0 ls.length),(8, .p 108 24 0 0 0),(12,I 0)],
   (108,some (24, .box [.l 177 g1 0 (A1+1), .l 184 q.2 0 nd]))::(177,some (g1, .own 82 5 (Ek (C5 ls (A1+1) 0 0))))::(184,some (q.2, .own 108 3 (Ai (EH ls (A1+1) 0))))::(107,some (g, .own 177 9 (J2 ls)))::(102,some (1, .box [.sl [] true, .sl [] true]))::[],q.1⟩) (fun _=>True) ?_ ?_
  ·by_cases IH:nd=0
   ·subst IH;have Uf:EH ls (A1+1) 0=[]:=List.length_eq_zero_iff.1 (by rw[PX];omega);simp only[Ji,Jj,Uf];refine PL 184 108 24 108 3 1 dM rfl rfl rfl ?_
    first|refine uS ?_|exact uX
    refine uZ ?_;refine⟨(_,ck+6), .of (lR _) (Ax @Qfj) A4⟩
   ·simp only[Hd IH,He IH];refine uZ ?_;refine⟨(_,g2),trivial,Af⟩
  rintro⟨ck0,g2⟩ -;refine uZ ?_;refine uW ?_;refine Aw (fun q:Nat×Nat=>⟨[(2, .p 102 1 0 0 0),(7, .l 107 g 0 ls.length),(8, .p 108 24 0 0 0),(12,I q.2)],
   (108,some (24, .box [.l 177 g1 0 (A1+1), .l 184 g2 0 nd]))::(177,some (g1, .own 82 5 (Ek (C5 ls (A1+1) q.2 0))))::(184,some (g2, .own 108 3 (Ai (EH ls (A1+1) (cD (A1+1) q.2 0)))))::(107,some (g, .own 177 9 (J2 ls)))::(102,some (1, .box [.sl [] true, .sl [] true]))::[],q.1⟩)
   (fun q=>q.2<=ls.length) (fun q=>ls.length - q.2) (_,0) (zL _) (.of (lR _) (Ax (show cD (A1+1) 0 0=0 from iP oM)) A4) ?_
  rintro⟨ck,i⟩ hi;simp only at hi;refine uZ ?_;refine uW ?_;refine Aj _ rfl (fun h3=>?_) (fun h3=>?_)
  ·have Aa:i<ls.length:=oM;have Xy:=OB i Aa;have Ox:=Hw i;have X3:=Dc i Aa;have Yy:=J1 i Aa;refine uZ ?_;refine uW ?_;refine Aw (fun q:Nat×Nat=>⟨[(2, .p 102 1 0 0 0),(7, .l 107 g 0 ls.length),(8, .p 108 24 0 0 0),(12,I i),(13,I q.2)],
    (108,some (24, .box [.l 177 g1 0 (A1+1), .l 184 g2 0 nd]))::(177,some (g1, .own 82 5 (Ek (C5 ls (A1+1) i q.2))))::(184,some (g2, .own 108 3 (Ai (EH ls (A1+1) (cD (A1+1) i q.2)))))::(107,some (g, .own 177 9 (J2 ls)))::(102,some (1, .box [.sl [] true, .sl [] true]))::[],q.1⟩)
    (fun q=>q.2<=(ls.getD i default).names.length) (fun q=>(ls.getD i default).names.length - q.2) (_,0) (zL _) (.of (lR _) Cb A4) ?_
   rintro⟨ck2,k⟩ hk;simp only at hk;have EW:=NT ls (A1+1) i k;have uw:=fun nm=>zA (i:=i) (k:=k) Gw nm;have DH:=zG (ls:=ls) (m:=A1+1) (i:=i) (k:=k);have DP:=zD (ls:=ls) (m:=A1+1) (i:=i) (k:=k) (j:=i);generalize e1:ls.getD i default=x at*
   repeat refine Ac (uI (is Aa) @e1) ?_
   refine uW ?_;refine Aj _ rfl (fun h4=>?_) (fun h4=>?_)
   ·have Sb:k<x.names.length:=oM;have hfk:=Xy k Sb;have Bk:=dc ⟨(C5 ls (A1+1) i k).map (·.1),EH ls (A1+1) (cD (A1+1) i k)⟩ (x.names.getD k .empty) (by simp only[List.length_map];omega);simp only[uw] at Bk;have QhW:H1 ls (A1+1) (x.names.getD k .empty)<=1000:=by
     rw[H1,Fi]
     split
     ·rename_i j hj;rw[List.findIdx?_eq_some_iff_getElem] at hj;obtain⟨hj,_⟩:=hj;simp only[List.length_map,List.length_take] at hj;omega
     ·omega
    have JK:Le ls (A1+1) x (k+1)=(⟨x.nm,x.kd,x.ln,x.zn,(x.names.take k).map (H1 ls (A1+1))++[H1 ls (A1+1) (x.names.getD k .empty)]⟩,true):=by
     rw[Le,iN oM,Yy,Jp (d:= .empty) Sb,List.map_append];rfl
    have F2:(EH ls (A1+1) (cD (A1+1) i k)).length=nd:=by rw[PX];omega
    generalize FM:C5 ls (A1+1) i k=ms at*;generalize DO:EH ls (A1+1) (cD (A1+1) i k)=ds at*;generalize ux:H1 ls (A1+1) (x.names.getD k .empty)=f at*;refine Cv (uI (is Aa) (uI @e1 (uI (Ge Sb) (uI @Dx (uI @EW @F2))))) ?_;intro K hK;refine uH ?_;refine JA (rc:=I f) ?_ ?_ ?_ ?_ ?_ ?_;(focus (first|exact trivial|(simp only[go_sem,seval,Ft,Fu,Fv,Dx,EW,F2]<;>trivial)));(focus (simp only[go_sem,seval,Ft,Fu,Fv,Dx,EW,F2];exact Bk));(focus (first|exact trivial|(simp only[go_sem,seval,Ft,Fu,Fv,Dx,EW,F2]<;>trivial)));(focus (first|exact trivial|(simp only[go_sem,seval,Ft,Fu,Fv,Dx,EW,F2]<;>trivial)));(focus (first|exact trivial|(simp only[go_sem,seval,Ft,Fu,Fv,Dx,EW,F2]<;>trivial)));first|refine Ap (uI @Ft (uI @Fu (uI @Fv (uI @Dx (uI @EW @F2))))) ?_|exact Aq (uI @Ft (uI @Fu (uI @Fv (uI @Dx (uI @EW @F2)))))
    refine uH ?_;refine hK _ ?_;clear hK K;refine uZ ?_;refine uW ?_;refine Aj _ rfl (fun h5=>?_) (fun h5=>?_)
    ·omega
    repeat refine Ac (uI @Dx (uI @EW @F2)) ?_
    refine uW ?_;refine Aj _ rfl (fun XJ=>?_) (fun XJ=>?_)
    ·have Jc:i<A1+1:=oM;have XK:i<ms.length:=oM;have JM:=DP Jc;rw[show JC ls i k i=k by rw[JC,iN (Nat.lt_irrefl i),iP rfl]] at JM;have IA:∀v,((Ek ms).set i v).getD i .bad=v:=fun v=>by
      rw[Ef,iP ⟨rfl,by rw[Dx];exact XK⟩]
     have Lu:∀(nm:ByteArray) (kd ln zn:Int) (ex:List Int),(Ek ms).set i (.agg [.lit (.string nm), .lit (.int .i64 kd), .lit (.int .i64 ln), .lit (.int .i64 zn), .kid 3 1 (As ex)])=Ek (ms.set i (⟨nm,kd,ln,zn,ex⟩,true)):=fun _ _ _ _ _=>iD;have Gt:∀j,cD (A1+1) i j=cD (A1+1) i k:=fun j=>by rw[cD,cD,iP Jc,iP Jc]
     by_cases Ck:k=0
     ·have XE:ms.getD i default=(KU x,false):=by rw[JM,Le,iP Ck]
      subst Ck
      (repeat first|refine A5 ?_|refine BQ ?_|refine B5 ?_);refine M4 hC kR kR rfl fun K hK=>?_;simp only[go_sem,seval,Dx,EW,iB XK,XE,LG,KU,Yy,List.length_nil]
      refine uH ?_;refine hK _ ?_;clear hK K;refine uZ ?_;refine⟨(_,0+1),uO,uO, .of (lR _) (by repeat (first|exact AX.nil|refine AX.cons rfl ?_|refine AX.gone ?_|refine AX.opt rfl ?_|(refine AX.cons ?_ ?_;(focus (simp only[go_sem,seval,-Int.reduceNatCast',<-DH Jc,JK,Lu,IA,Gt (_+1),DO,and_self,if_false,AV.cells,List.set_set,List.take_succ_cons,List.take_zero,List.drop_succ_cons,List.drop_zero,List.cons_append,List.nil_append,List.map_nil];done)))|(refine AX.less rfl (FV.ofBW ?_) ?_;(focus ((repeat (first|exact BW.nil|refine BW.same ?_|(refine BW.frz ?_ ?_ ?_ ?_;(focus (first|exact trivial|(simp only[go_sem,seval,-Int.reduceNatCast',<-DH Jc,JK,Lu,IA,Gt (_+1),DO,and_self,if_false,AV.cells,List.set_set,List.take_succ_cons,List.take_zero,List.drop_succ_cons,List.drop_zero,List.cons_append,List.nil_append,List.map_nil]<;>trivial)));(focus (first|rfl|((simp only[go_sem,seval,-Int.reduceNatCast',<-DH Jc,JK,Lu,IA,Gt (_+1),DO,and_self,if_false,AV.cells,List.set_set,List.take_succ_cons,List.take_zero,List.drop_succ_cons,List.drop_zero,List.cons_append,List.nil_append,List.map_nil]<;>rfl);done)));(focus (first|(simp only[go_sem,seval,-Int.reduceNatCast',<-DH Jc,JK,Lu,IA,Gt (_+1),DO,and_self,if_false,AV.cells,List.set_set,List.take_succ_cons,List.take_zero,List.drop_succ_cons,List.drop_zero,List.cons_append,List.nil_append,List.map_nil];done)|((simp only[go_sem,seval,-Int.reduceNatCast',<-DH Jc,JK,Lu,IA,Gt (_+1),DO,and_self,if_false,AV.cells,List.set_set,List.take_succ_cons,List.take_zero,List.drop_succ_cons,List.drop_zero,List.cons_append,List.nil_append,List.map_nil]<;>simp);done)|(simp;done)))))));done)))) A4⟩
     ·have XE:ms.getD i default=(⟨x.nm,x.kd,x.ln,x.zn,(x.names.take k).map (H1 ls (A1+1))⟩,true):=by rw[JM,Le,iN Ck,Yy];rfl
      have ON:((x.names.take k).map (H1 ls (A1+1))).length<=100:=by rw[List.length_map,List.length_take];omega
      generalize (x.names.take k).map (H1 ls (A1+1))=exk at*
      (repeat first|refine A5 ?_|refine BQ ?_|refine B5 ?_);refine M4 hC kR kR rfl fun K hK=>?_;simp only[go_sem,seval,Dx,EW,iB XK,XE,LG]
      refine uH ?_;refine hK _ ?_;clear hK K;refine uZ ?_;refine⟨(_,k+1),uO,uO, .of (lR _) (by repeat (first|exact AX.nil|refine AX.cons rfl ?_|refine AX.gone ?_|refine AX.opt rfl ?_|(refine AX.cons ?_ ?_;(focus (simp only[go_sem,seval,-Int.reduceNatCast',<-DH Jc,JK,Lu,IA,Gt (_+1),DO,and_self,if_false,AV.cells,List.set_set,List.take_succ_cons,List.take_zero,List.drop_succ_cons,List.drop_zero,List.cons_append,List.nil_append,List.map_nil];done)))|(refine AX.less rfl (FV.ofBW ?_) ?_;(focus ((repeat (first|exact BW.nil|refine BW.same ?_|(refine BW.frz ?_ ?_ ?_ ?_;(focus (first|exact trivial|(simp only[go_sem,seval,-Int.reduceNatCast',<-DH Jc,JK,Lu,IA,Gt (_+1),DO,and_self,if_false,AV.cells,List.set_set,List.take_succ_cons,List.take_zero,List.drop_succ_cons,List.drop_zero,List.cons_append,List.nil_append,List.map_nil]<;>trivial)));(focus (first|rfl|((simp only[go_sem,seval,-Int.reduceNatCast',<-DH Jc,JK,Lu,IA,Gt (_+1),DO,and_self,if_false,AV.cells,List.set_set,List.take_succ_cons,List.take_zero,List.drop_succ_cons,List.drop_zero,List.cons_append,List.nil_append,List.map_nil]<;>rfl);done)));(focus (first|(simp only[go_sem,seval,-Int.reduceNatCast',<-DH Jc,JK,Lu,IA,Gt (_+1),DO,and_self,if_false,AV.cells,List.set_set,List.take_succ_cons,List.take_zero,List.drop_succ_cons,List.drop_zero,List.cons_append,List.nil_append,List.map_nil];done)|((simp only[go_sem,seval,-Int.reduceNatCast',<-DH Jc,JK,Lu,IA,Gt (_+1),DO,and_self,if_false,AV.cells,List.set_set,List.take_succ_cons,List.take_zero,List.drop_succ_cons,List.drop_zero,List.cons_append,List.nil_append,List.map_nil]<;>simp);done)|(simp;done)))))));done)))) A4⟩
    ·have QhP:=Ox oM Aa;obtain rfl:k=0:=oM;obtain⟨d,hd⟩:∃d,i=A1+1+d:=⟨i - (A1+1),oM⟩;have tX:cD (A1+1) i 0=d:=by rw[cD,iN oM];omega
     have Ml:cD (A1+1) i (0+1)=d+1:=by rw[cD,iN oM];omega
     have Uf:d<ls.length - (A1+1):=oM;have KE:=qd (ls:=ls) (m:=A1+1) (d:=d) Uf;have IJ:=qf (ls:=ls) (m:=A1+1) (d:=d) Uf;rw[iN (Nat.lt_irrefl d)] at KE;rw[<-hd,e1] at KE IJ;rw[tX] at DO;rw[DO] at KE IJ;rw[ux] at IJ;have I4:d<ds.length:=oM;have vz:(i:Int) - ((A1:Int)+1)=d:=oM;have vA:(i:Int) - ((A1+1:Nat):Int)=d:=oM;have Mr:C5 ls (A1+1) i (0+1)=ms:=by rw[<-FM];exact zC oM
     (repeat first|refine A5 ?_|refine BQ ?_|refine B5 ?_);refine Ep hC rfl fun K hK=>?_;simp only[go_sem,seval,Dx,EW,vz,vA,By I4,KE,Of]
     refine uH ?_;refine hK _ ?_;clear hK K;refine uZ ?_;refine⟨(_,0+1),uO,uO, .of (lR _) (by repeat (first|exact AX.nil|refine AX.cons rfl ?_|refine AX.gone ?_|refine AX.opt rfl ?_|(refine AX.cons ?_ ?_;(focus (simp only[go_sem,seval,-Int.reduceNatCast',Mr,Ml,<-IJ,and_self,if_false];done)))|(refine AX.less rfl (FV.ofBW ?_) ?_;(focus ((repeat (first|exact BW.nil|refine BW.same ?_|(refine BW.frz ?_ ?_ ?_ ?_;(focus (first|exact trivial|(simp only[go_sem,seval,-Int.reduceNatCast',Mr,Ml,<-IJ,and_self,if_false]<;>trivial)));(focus (first|rfl|((simp only[go_sem,seval,-Int.reduceNatCast',Mr,Ml,<-IJ,and_self,if_false]<;>rfl);done)));(focus (first|(simp only[go_sem,seval,-Int.reduceNatCast',Mr,Ml,<-IJ,and_self,if_false];done)|((simp only[go_sem,seval,-Int.reduceNatCast',Mr,Ml,<-IJ,and_self,if_false]<;>simp);done)|(simp;done)))))));done)))) A4⟩
   ·refine At ?_;obtain rfl:k=x.names.length:=oM;have vS:C5 ls (A1+1) i x.names.length=C5 ls (A1+1) (i+1) 0:=by rw[<-e1];exact zF ls (A1+1) i
    have ua:cD (A1+1) i x.names.length=cD (A1+1) (i+1) 0:=pd (fun h=>Ox h Aa);refine uZ ?_;refine⟨(_,i+1),uO,uO, .of (lR _) (Ax (uI @vS @ua)) A4⟩
  ·refine At ?_;obtain rfl:i=ls.length:=oM;have Lt:C5 ls (A1+1) ls.length 0=C5 ls (A1+1) (A1+1) 0:=by
    unfold C5;refine List.map_congr_left fun j hj=>?_;have:=List.mem_range.1 hj;rw[JC,JC,iP oM,iP oM]
   have Lo:cD (A1+1) ls.length 0=ls.length - (A1+1):=by rw[cD,iN oM];rfl
   rw[Lt,Lo];have hv:=Zw (MP ls (A1+1)) wH;rw[G6] at hv;have hY:MP ls (A1+1)=⟨(C5 ls (A1+1) (A1+1) 0).map (·.1),EH ls (A1+1) (ls.length - (A1+1))⟩:=rfl;rw[hY] at hv ⊢;have EW:=NT ls (A1+1) (A1+1) 0;have F2:(EH ls (A1+1) (ls.length - (A1+1))).length=nd:=by rw[PX];omega
   generalize C5 ls (A1+1) (A1+1) 0=ms at*;generalize EH ls (A1+1) (ls.length - (A1+1))=ds at*;refine uR ?_;intro K hK;refine JA (rc:=I 0) ?_ ?_ ?_ ?_ ?_ ?_;(focus (first|exact trivial|(simp only[go_sem,seval,Ft,Fu,Fv,Dx,EW,F2]<;>trivial)));(focus (simp only[go_sem,seval,Ft,Fu,Fv,Dx,EW,F2];exact hv));(focus (first|exact trivial|(simp only[go_sem,seval,Ft,Fu,Fv,Dx,EW,F2]<;>trivial)));(focus (first|exact trivial|(simp only[go_sem,seval,Ft,Fu,Fv,Dx,EW,F2]<;>trivial)));(focus (first|exact trivial|(simp only[go_sem,seval,Ft,Fu,Fv,Dx,EW,F2]<;>trivial)));first|refine Ap (uI @Ft (uI @Fu (uI @Fv (uI @Dx (uI @EW @F2))))) ?_|exact Aq (uI @Ft (uI @Fu (uI @Fv (uI @Dx (uI @EW @F2)))))
   refine uH ?_;refine hK _ ?_;clear hK K;refine uZ ?_;refine uF ?_;refine uZ ?_;refine Ay ?_;rw[show Tryz.f70.results.toList=[.cell 2 28, .tmp 3, .tmp 4] from rfl];first|refine MZ (uI @Ft (uI @Fu (uI @Fv (uI @Dx (uI @EW @F2))))) ?_|exact MY (uI @Ft (uI @Fu (uI @Fv (uI @Dx (uI @EW @F2)))))
open Go.Plant
theorem UX {α β:Type} {f:α->β} (hf:∀x y,f x=f y->x=y):∀(a b:List α),a.map f=b.map f->a=b
 |[],[],_=>rfl
 |[],_::_,h=>by cases h
 |_::_,[],h=>by cases h
 |x::a,y::b,h=>by
  simp only[List.map_cons,List.cons.injEq] at h;rw[hf _ _ h.1,UX hf a b h.2]
open Go.Plant
def bS:ByteArray:=⟨#[101,110,116,114,121,32,65,32,51,32,48,32,62,32,77,10,109,97,110,117,97,108,32,77,32,48,10]⟩
def be:ByteArray:=⟨#[101,110,116,114,121,32,65,32,51,32,48,32,62,32,77]⟩
def TB:List ByteArray:=[⟨#[101,110,116,114,121]⟩,⟨#[65]⟩,⟨#[51]⟩,⟨#[48]⟩,⟨#[62]⟩,⟨#[77]⟩]
def bf:ByteArray:=⟨#[109,97,110,117,97,108,32,77,32,48]⟩
def TC:List ByteArray:=[⟨#[109,97,110,117,97,108]⟩,⟨#[77]⟩,⟨#[48]⟩]
def bT:List ByteArray:=[be,bf]
def bL:List Ln:=[QK TB 1,QK TC 9]
theorem og:VQ TB 1 where
 kr:=dM
 len:=by decide+kernel
 w0:=fun j h1 h2=>(by decide+kernel:∀j,j<10->1<=j->Lc (K3.getD j .empty) (TB.getD 0 .empty)=decide ((j:Int)=1)) j oM h1
 ph:=by decide+kernel
 nm:=by decide+kernel
 n2:=by decide+kernel
 zn:=by decide+kernel
 ar:=by decide+kernel
 ex:=by decide+kernel
theorem oh:VQ TC 9 where
 kr:=dM
 len:=by decide+kernel
 w0:=fun j h1 h2=>(by decide+kernel:∀j,j<10->1<=j->Lc (K3.getD j .empty) (TC.getD 0 .empty)=decide ((j:Int)=9)) j oM h1
 ph:=by decide+kernel
 nm:=by decide+kernel
 n2:=by decide+kernel
 zn:=by decide+kernel
 ar:=by decide+kernel
 ex:=by decide+kernel
theorem ol:aw bS bT bL 2 where
 len:=by decide+kernel
 sp:=by decide+kernel
 tl:=by decide+kernel
 ll:=by decide+kernel
 ml:=by decide+kernel
 m0:=dM
 nd:=by decide+kernel
 dv:=fun i h1 h2=>by
  have h3:i<2:=h2;omega
 fn:=by decide+kernel
 x0:=by decide+kernel
 d1:=fun i h1 h2=>by
  have h3:i<2:=h2;omega
 nl:=by decide+kernel
 rd:=fun i h=>by
  have h3:i<2:=h;have h4:i=0\/i=1:=oM;rcases h4 with rfl|rfl
  ·exact jr be TB 1 (by decide+kernel) (by decide+kernel) og
  ·exact jr bf TC 9 (by decide+kernel) (by decide+kernel) oh
def bY:Ly:=⟨[⟨⟨#[65]⟩,1,3,0,[1]⟩,⟨⟨#[77]⟩,9,0,0,[]⟩],[]⟩
theorem Wc:MP bL 2=bY:=by
 have h1:(MP bL 2).U.map (fun x=>(x.nm,x.kd,x.ln,x.zn,x.ex))=bY.U.map (fun x=>(x.nm,x.kd,x.ln,x.zn,x.ex)):=by decide+kernel
 have h2:(MP bL 2).D.map (fun x=>(x.a,x.b,x.c))=bY.D.map (fun x=>(x.a,x.b,x.c)):=by decide+kernel
 have inj1:=UX (f:=fun x:Nd=>(x.nm,x.kd,x.ln,x.zn,x.ex)) fun x y NM=>by
  cases x;cases y;simp only[Prod.mk.injEq] at NM;obtain⟨rfl,rfl,rfl,rfl,rfl⟩:=NM;rfl
 have inj2:=UX (f:=fun x:T3=>(x.a,x.b,x.c)) fun x y NM=>by
  cases x;cases y;simp only[Prod.mk.injEq] at NM;obtain⟨rfl,rfl,rfl⟩:=NM;rfl
 have e1:=inj1 _ _ h1;have e2:=inj2 _ _ h2;generalize MP bL 2=y at*
 cases y
 simp only at e1 e2;rw[e1,e2]
theorem V9:HW bY:=⟨by decide+kernel,by decide+kernel,by decide+kernel,by decide+kernel⟩
theorem Wb:Dp bY=0:=by decide+kernel
theorem oi:Ag Tryz.prog Ad 70 [] [S bS] [] (.tup [bY.av,I 0,I 0]):=by
 have Uz:=Qbd bS bT bL 2 ol (by rw[Wc];exact V9) (by rw[Wc];exact Wb)
 rwa[Wc] at Uz
open Go.Plant Go.Inf
def bP (a b c:Int):Pl:=⟨[[a,b,c],[]],[[],[]]⟩
def Jz:Pl:=bP 0 0 0
def BB:Pl:=bP 1 0 0
def V7:Pl:=bP 0 1 0
def V8:Pl:=bP 0 0 1
def bC:List Int:=[0,0]
def HX (p:Pl) (X:List T3):List Int×List Int:=H0 bY.U p (Fe bY.U p bC X bY.U.length) (Dz bY.U)
def PN (p:Pl) (X:List T3):Pl:=(EQ bY.U p bC X (HX p X).1).1
def V6 (X:List T3):List T3:=(EQ bY.U BB bC X (HX BB X).1).2
def PO:List T3:=[⟨1,0,0⟩]
def PP:List T3:=[⟨2,0,0⟩]
theorem aZ:CN bC BB=[⟨1,0,0⟩,⟨2,0,0⟩]:=by
 refine UX (f:=fun x:T3=>(x.a,x.b,x.c)) (fun x y NM=>by
  cases x;cases y;simp only[Prod.mk.injEq] at NM;obtain⟨rfl,rfl,rfl⟩:=NM;rfl) _ _ ?_
 decide+kernel
theorem TA {X:List T3} (h:D6 (CN bC BB) X):X=[]\/X=PO\/X=PP:=by
 obtain⟨h1,h2,h3⟩:=h;rw[aZ] at h1
 match X,h1,h2,h3 with
 |[],_,_,_=>exact .inl rfl
 |[f],h1,_,_=>
  have:=h1 f mS;simp only[List.mem_cons,List.not_mem_nil,or_false] at this;rcases this with rfl|rfl
  ·exact .inr (.inl rfl)
  ·exact .inr (.inr rfl)
 |f::g::t,h1,h2,_=>
  exfalso;have hf:=h1 f mS;have hg:=h1 g (mC _ mS);simp only[List.mem_cons,List.not_mem_nil,or_false] at hf hg;have:=(List.pairwise_cons.1 h2).1 g mS;rcases hf with rfl|rfl<;>rcases hg with rfl|rfl<;>exact this rfl
theorem Q7 (a b c:Int):FB bY.U (bP a b c):=⟨dM,rfl,rfl,fun n hn=>by
 have:n=0\/n=1:=by have:n<2:=hn;omega
 rcases this with rfl|rfl<;>rfl,fun n hn=>by
 have:n=0\/n=1:=by have:n<2:=hn;omega
 rcases this with rfl|rfl<;>exact zL _,by decide+kernel,by decide+kernel,by decide+kernel⟩
theorem Tz:N2 bY.U:=by unfold N2;decide+kernel
theorem om (X:List T3) (hX:X=[]\/X=PO\/X=PP):Ag Tryz.prog Ad 166 [] [.P (Df bY (Dz bY.U)),BB.av,IS bC, .sl (Ai X) false] [] (.tup [(PN BB X).av, .sl (Ai (V6 X)) false]):=by
 have hs:Ag Tryz.prog Ad 166 [] [.P (Df bY (Dz bY.U)),BB.av,IS bC, .sl (Ai X) false]
   [(100,some (1, .own 22 1 (BI 3 (EQ bY.U BB bC X (HX BB X).1).1.Q))),(101,some (1, .own 22 1 (BI 3 (EQ bY.U BB bC X (HX BB X).1).1.R))),(102,some (1, .own 107 3 (Ai (EQ bY.U BB bC X (HX BB X).1).2)))]
   (.tup [.agg [.l 100 1 0 (EQ bY.U BB bC X (HX BB X).1).1.Q.length, .l 101 1 0 (EQ bY.U BB bC X (HX BB X).1).1.R.length], .l 102 1 0 (EQ bY.U BB bC X (HX BB X).1).2.length]):=by
  rcases hX with rfl|rfl|rfl
  ·exact TR bY BB (Dz bY.U) bC [] (Q7 _ _ _) (by decide+kernel) (by decide+kernel) ⟨sM,fun i hi=>by simp at hi⟩ (by decide+kernel) (by decide+kernel) (by decide+kernel) (HX BB []).1 (HX BB []).2 (by decide+kernel) (by unfold PG;decide+kernel) Tz (by decide+kernel) rfl
  ·exact TR bY BB (Dz bY.U) bC PO (Q7 _ _ _) (by decide+kernel) (by decide+kernel) ⟨dM,by decide+kernel⟩ (by decide+kernel) (by decide+kernel) (by decide+kernel) (HX BB PO).1 (HX BB PO).2 (by decide+kernel) (by unfold PG;decide+kernel) Tz (by decide+kernel) rfl
  ·exact TR bY BB (Dz bY.U) bC PP (Q7 _ _ _) (by decide+kernel) (by decide+kernel) ⟨dM,by decide+kernel⟩ (by decide+kernel) (by decide+kernel) (by decide+kernel) (HX BB PP).1 (HX BB PP).2 (by decide+kernel) (by unfold PG;decide+kernel) Tz (by decide+kernel) rfl
 unfold PN V6;generalize EQ bY.U BB bC X (HX BB X).1=r at*;obtain⟨⟨q1,q2⟩,mv⟩:=r;simp only at hs ⊢;refine aA hs ?_ ?_
 ·first|refine uS ?_|exact uX
 ·first|refine uS ?_|exact uX
def L4 (q:Pl):Prop:=q=BB\/q=V7\/q=V8
theorem Wa (X:List T3) (hX:X=[]\/X=PO\/X=PP):L4 (PN BB X):=by
 rcases hX with rfl|rfl|rfl
 ·exact .inr (.inl (pl_ext (by decide+kernel) (by decide+kernel)))
 ·exact .inl (pl_ext (by decide+kernel) (by decide+kernel))
 ·exact .inr (.inr (pl_ext (by decide+kernel) (by decide+kernel)))
where pl_ext {p q:Pl} (h1:p.Q=q.Q) (h2:p.R=q.R):p=q:=by cases p;cases q;simp only at h1 h2;rw[h1,h2]
theorem N7 {q:Pl} (h:L4 q):M1 q:=by
 rcases h with rfl|rfl|rfl<;>exact⟨⟨dM,dM,dM,dM⟩,by decide+kernel⟩
theorem a7 {a b:Pl} (ha:L4 a) (hb:L4 b) (h:B3 (AZ a)=B3 (AZ b)):a=b:=by
 have h1:=YN (fun x hx=>((N7 ha).nn x hx).1) (fun x hx=>((N7 hb).nn x hx).1) h;rcases ha with rfl|rfl|rfl<;>rcases hb with rfl|rfl|rfl<;>first|rfl|(exfalso;revert h1;decide+kernel)
def bG:List AY:=[(0,V7),(1,BB),(1,V8)]
def bH:List AY:=[(1,V8),(0,V7),(1,BB)]
theorem n9 (q:Pl) (h:q.Q.length<=1000):K5 bY q:=⟨dM,h,fun d hd=>absurd hd (nZ _)⟩
theorem od:Ku (fun r X=>PN r X) (fun r=>Gj bY r [] 1 []) 1 bC [(0,BB)]=bG:=by decide+kernel
theorem oe:Ag Tryz.prog Ad 21 [] [bY.av,(D5.mk 1 (([(0,BB)]:List AY).map Ba)).av,IS bC, .sl (Ai []) false, .sl (Eu []) false] [] (.tup [(D5.mk 1 (bH.map Ba)).av,I 0]):=by
 have GZ:∀h∈([(0,BB)]:List AY),h=(0,BB):=fun h hh=>List.mem_singleton.1 hh;refine g8 bY 1 [(0,BB)] bC [] [] V9 Wb Tz dM (fun h hh=>by rw[GZ h hh];exact Q7 _ _ _) dM (by decide+kernel) (by decide+kernel) rfl dM (fun i hi=>absurd hi (nZ _)) _ _ ?_;have Xw:∀X∈([]::ext CQ ((1:Int) - 0).toNat (CN bC BB) []),D6 (CN bC BB) X:=fun X hX=>by
  rcases List.mem_cons.1 hX with rfl|hX
  ·exact D6.nil _
  ·exact P1 (Ok:=D6 (CN bC BB)) (F:=CN bC BB) (fun sm f h1 h2 h3 h4=>h1.snoc h2 h3 h4) dM (D6.nil _) (fun f hf=>hf) X hX
 refine aG (Gd:=L4) (stp:=fun r X=>PN r X) (cst:=fun r=>Gj bY r [] 1 []) [(0,BB)] dM (fun h hh=>?_) (fun h hh G' Oo Ou=>?_) (fun h hh G' Oo Ou=>?_) (fun q hq=>(N7 hq).ky) _ ?_
 ·rw[GZ h hh];exact cS bY _ BB bC ⟨dM,dM,dM,dM⟩ dM dM
 ·rw[GZ h hh];exact cB (Ok:=D6 (CN bC BB)) (Gd:=L4) (F:=CN bC BB) (mv:=V6) (stp:=fun X=>PN BB X) (cst:=fun r=>Gj bY r [] 1 []) (hp:=BB) (us:=0)
   (fun X hX=>om X (TA hX))
   (fun X hX=>cC bY _ [] 1 (([(0,BB)]:List AY).map Ba) [] (n9 _ (N7 (Wa X (TA hX))).ky.sl) rfl (fun i hi=>absurd hi (nZ _)) dM (fun d=>kH _ _) dM)
   (fun q=>by have:=Wl bY q [] 1 dM [];omega) (fun X hX=>Wa X (TA hX)) (fun q=>N7) (fun a b=>a7) (fun sm f h1 h2 h3 h4=>h1.snoc h2 h3 h4) (Int.le_refl _) dM
   1 [] (CN bC BB) G' rfl (D6.nil _) (fun f hf=>hf) (by rw[aZ];decide) Oo Ou
 ·rw[GZ h hh];exact⟨Zq (Gd:=L4) (fun X hX=>Wa X (TA (Xw X hX))) Oo,Zr _ _ _ _ _ Ou⟩
 ·refine .inr (.inr ?_);rw[od];exact⟨dM,dM,bH,by decide+kernel,by decide+kernel,rfl⟩
theorem oa:(CS bY Jz 0 1).2=0/\(CS bY Jz 0 1).1=BB:=by decide+kernel
theorem a8:Ha (Fh bY 0 1) [(0,Jz)]=[(0,BB)]:=by decide+kernel
theorem oc:Ag Tryz.prog Ad 32 [] [bY.av,(D5.mk 1 (([(0,Jz)]:List AY).map Ba)).av,I 0,I 1] [] (.tup [(D5.mk 1 (([(0,BB)]:List AY).map Ba)).av,I 0]):=by
 have GZ:∀h∈([(0,Jz)]:List AY),h=(0,Jz):=fun h hh=>List.mem_singleton.1 hh;have Bx:=gT bY 1 [(0,Jz)] 0 1 (Gd:=L4) dM dM dM (by decide+kernel) dM (fun h hh=>by rw[GZ h hh];exact Q7 _ _ _) (fun h hh he=>by
  rw[GZ h hh];exact .inl oa.2) (fun q=>N7) (fun a b=>a7) ⟨1,([(0,BB)]:List AY).map Ba⟩ 0 (.inr ⟨by rw[show((0:Nat):Int)=0 from rfl,a8];decide,[(0,BB)],by rw[show((0:Nat):Int)=0 from rfl,a8],List.pairwise_singleton _ _,rfl,rfl⟩)
 exact Bx
def PM:List T2:=[⟨0,0⟩,⟨0,1⟩,⟨0,2⟩]
theorem oj:Ag Tryz.prog Ad 39 [] [(D5.mk 1 (bH.map Ba)).av,I 1] [] (.sl (Gf PM) false):=by
 have h3:U6 1 bH=[⟨0,2⟩,⟨0,1⟩,⟨0,0⟩]:=rfl;have hk:∀h∈bH,L4 h.2:=fun h hh=>by
  unfold bH at hh;simp only[List.mem_cons,List.not_mem_nil,or_false] at hh;rcases hh with rfl|rfl|rfl
  ·exact .inr (.inr rfl)
  ·exact .inr (.inl rfl)
  ·exact .inl rfl
 refine QbD 1 bH 1 PM dM (fun h hh=>(N7 (hk h hh)).ky) (fun h hh=>?_) (by rw[h3];simp) ?_ ?_
 ·unfold N5;rcases hk h hh with e|e|e<;>rw[e]<;>decide+kernel
 ·rw[h3];exact(List.Perm.swap _ _ _).trans (((List.Perm.swap _ _ _).cons _).trans (List.Perm.swap _ _ _))
 ·unfold PM
  decide+kernel
open Go.Plant Go.Inf
theorem nS:Ag Tryz.prog Ad 22 [] [] [] (B true):=by
 have Uz:=oi;have Lz:=gW bY 1 V9 Wb dM dM;have e0:F7 bY=Jz:=by decide+kernel
 rw[e0] at Lz;have Du:=oc;have AM:=oe;have EK:=oj;have A2:=YL [0,0,1] [0,0,1] dM;have IE:(BY (bH.map Ba)).length=3:=rfl;have H8:(BY (bH.map Ba)).getD 0 .bad=(BU.mk 1 [[0,0,1],[]] [[],[]]).av:=rfl;have EJ:(BY (bH.map Ba)).getD 1 .bad=(BU.mk 0 [[0,1,0],[]] [[],[]]).av:=rfl;have Mu:(Ij [[0,0,1],[]]).getD 0 .bad=IS [0,0,1]:=rfl;have Ej:((Ij [[0,0,1],[]]).length)=2:=rfl;have EI:PM.length=3:=rfl;have Jf:(Gf PM).length=3:=rfl;have eb:(D5.mk 1 [⟨0,Jz.Q,Jz.R⟩]).av=(D5.mk 1 (([(0,Jz)]:List AY).map Ba)).av:=rfl;rw[eb] at Lz;generalize (([(0,Jz)]:List AY).map Ba)=h0 at*;generalize (([(0,BB)]:List AY).map Ba)=h1 at*;generalize bH.map Ba=h2 at*;generalize PM=l3 at*;generalize bY=y at*;unfold bS at Uz;unfold bC at AM;refine Am Tryz.func22 Tryz.ntmps22 ?_;intro w e X hC;refine uZ ?_;refine uR ?_;intro K hK;refine cP Uz ?_;refine uS ?_;refine uH ?_;refine hK _ ?_;clear hK K;refine uR ?_;intro K hK;refine cP Lz ?_;refine uS ?_;refine uH ?_;refine hK _ ?_;clear hK K;refine uR ?_;intro K hK;refine cP Du ?_;refine uS ?_;refine uH ?_;refine hK _ ?_;clear hK K;refine uR ?_;intro K hK;refine cP AM ?_;refine uS ?_;refine uH ?_;refine hK _ ?_;clear hK K;refine uZ ?_;have d3:decide (((3:Nat):Int)=3)=true:=rfl;refine Av (uI @IE (uI @H8 (uI @EJ (uI @Jf (uI @d3 (uI @Mu (uI @Ej (uI @Int.toNat_zero @Bool.and_self)))))))) ?_;intro K hK;refine uH ?_;refine cP A2 ?_;refine uS ?_;refine uH ?_;refine cP EK ?_;refine uS ?_;refine uH ?_;refine hK _ ?_;clear hK K;refine uZ ?_;refine Ay ?_;rw[show Tryz.f22.results.toList=[.tmp 0] from rfl];first|refine Bn ?_|exact Bm
 rw[EI];rfl
open Go.Plant Go.Inf
theorem eQ {p:Pl} {u:Int}:∀{hs:List AY},(hs.Pairwise fun a b=>a.2≠b.2)->(u,p)∈hs->Iw (hs.map Ba) p=(u,true)
 |[],_,h=>by cases h
 |x::t,hs,h=>by
  obtain⟨h1,h2⟩:=List.pairwise_cons.1 hs;rw[List.map_cons,Iw];have e:Pp (Ba x).pl p=decide (x.2=p):=by
   rw[ZQ];unfold Pp;rw[decide_eq_decide];refine⟨fun h=>?_,fun h=>by rw[h];exact⟨rfl,rfl⟩⟩;obtain⟨a,b,c⟩:=x;obtain⟨d,e⟩:=p;simp only at h ⊢;rw[h.1,h.2]
  rw[e];rcases List.mem_cons.1 h with rfl|h
  ·rw[iP (dT rfl)];rfl
  ·rw[iN (by simpa using h1 _ h)];exact eQ h2 h
theorem IB.has {bud:Int} {y:Ly} {L:List Int} {hs:List AY} {p:Pl} {m:Nat} (h:IB bud y L hs p m):Iw (hs.map Ba) p=(0,true):=
 eQ (h.srt.imp fun {a b} KA e=>by rw[e,UV] at KA;cases KA) h.mem
section
variable {y:Ly} {p q:Pl} {L:List Int}
theorem Bh.rowl (h:Bh y p L):(∀r∈p.Q,r.length<=1000)/\(∀r∈p.R,r.length<=1000):=by
 have hx:=h.fp.xl;have hs:=h.fp.sl;have hb:=h.fp.bl;refine⟨fun r hr=>?_,fun r hr=>?_⟩
 ·obtain⟨i,hi,rfl⟩:=P8 (d:=[]) hr;have h1:=h.fp.row i oM;have h2:=h.fp.ln i oM;omega
 ·obtain⟨i,hi,rfl⟩:=P8 (d:=[]) hr;have h1:=h.fp.bin i oM;omega
theorem Bh.same (h:Bh y p L):Ag Tryz.prog Ad 23 [] [p.av,p.av] [] (B true):=by
 have hx:=h.fp.xl;have hs:=h.fp.sl;have hb:=h.fp.bl;have:=QeO p p oM oM (fun r hr=>by have:=h.rowl.1 r hr;omega) (fun r hr=>by have:=h.rowl.2 r hr;omega) oM oM
 rwa[dT ⟨rfl,rfl⟩] at this
theorem Bh.psame (h:Bh y p L) (h':Bh y q L):Ag Tryz.prog Ad 52 [] [p.av,q.av] [] (B (Pp p q)):=by
 have hx:=h.fp.xl;have hs:=h.fp.sl;have hb:=h.fp.bl;have hs':=h'.fp.sl;have CO:=h'.fp.bl;exact QbN p q oM oM oM oM (fun i hi=>h.rowl.1 _ (GQ hi _)) (fun i hi=>h.rowl.2 _ (GQ hi _)) (fun i hi=>h'.rowl.1 _ (GQ hi _)) (fun i hi=>h'.rowl.2 _ (GQ hi _))
end
theorem jz {l:List Int} {y:Ly} {b1 b2:Int} {pl:List T3} (a:Nat):∀i,(Bg l y b1 pl a i).L=(Bg l y b2 pl a i).L
 |0=>rfl
 |i+1=>by
  have tk:∀(bud:Int) (s:St) k,(GF l y bud pl s k).L=s.L:=fun bud s k=>by
   induction k with
   |zero=>rfl
   |succ k ih=>rw[GF,QT];exact ih
  obtain⟨e1,e2⟩:=Zp (l:=l) (y:=y) (bud:=b1) (bd2:=b2) (pl:=pl) a i;have e3:=ZP (l:=l) (y:=y) (bud:=b1) (bd2:=b2) (pl:=pl) (s:=⟨(Bg l y b1 pl a i).a+1,(Bg l y b1 pl a i).hs,(Bg l y b1 pl a i).p,(Bg l y b1 pl a i).L⟩) (t:=⟨(Bg l y b2 pl a i).a+1,(Bg l y b2 pl a i).hs,(Bg l y b2 pl a i).p,(Bg l y b2 pl a i).L⟩) (by simp only[e1]) e2 (gR l (Bg l y b2 pl a i).a 0 2).toNat;have t1:=tk b1 ⟨(Bg l y b1 pl a i).a+1,(Bg l y b1 pl a i).hs,(Bg l y b1 pl a i).p,(Bg l y b1 pl a i).L⟩ (gR l (Bg l y b2 pl a i).a 0 2).toNat;have t2:=tk b2 ⟨(Bg l y b2 pl a i).a+1,(Bg l y b2 pl a i).hs,(Bg l y b2 pl a i).p,(Bg l y b2 pl a i).L⟩ (gR l (Bg l y b2 pl a i).a 0 2).toNat;have ih:=jz (l:=l) (y:=y) (b1:=b1) (b2:=b2) (pl:=pl) a i;unfold Bg J8 Rm;rw[e1] at*;generalize GF l y b1 pl ⟨(Bg l y b2 pl a i).a+1,(Bg l y b1 pl a i).hs,(Bg l y b1 pl a i).p,(Bg l y b1 pl a i).L⟩ (gR l (Bg l y b2 pl a i).a 0 2).toNat=u at*;generalize GF l y b2 pl ⟨(Bg l y b2 pl a i).a+1,(Bg l y b2 pl a i).hs,(Bg l y b2 pl a i).p,(Bg l y b2 pl a i).L⟩ (gR l (Bg l y b2 pl a i).a 0 2).toNat=v at*;simp only at t1 t2;rw[e3.2]
  split
  ·simp only;rw[t1,t2,ih]
  ·rw[t1,t2,ih]
theorem oX (l:List Int) (hl:l.length<=9223372036854775807) (hr:∀x∈l,QZ x):Ag Tryz.prog Ad 4 [] [IS l] [] (B true):=by
 have JR:=zQ l hl;have hf:=pL hr;have tM:=nS;generalize Od l=l' at*;have fH:=yL l' 0 hf;obtain⟨A,n,hg⟩:=r8 l' 0;generalize gL l' 0=gl at*;obtain⟨y,a0⟩:=gl;simp only at hg fH;have st0:=j8 (bud:=0) l' a0 hf hg dM;have AD:=j8 (bud:=1) l' a0 hf hg dM;obtain⟨hL0,ib0⟩:=jC (bud:=0) (l:=l') (pl:=IM l' a0) hg dM (a0+41);obtain⟨Kx,ib1⟩:=jC (bud:=1) (l:=l') (pl:=IM l' a0) hg dM (a0+41);have ep:=(Zp (l:=l') (y:=y) (bud:=0) (bd2:=1) (pl:=IM l' a0) (a0+41) 2).2;have eL:=jz (l:=l') (y:=y) (b1:=0) (b2:=1) (pl:=IM l' a0) (a0+41) 2;have hz:=ib0.zero rfl;generalize Bg l' y 0 (IM l' a0) (a0+41) 2=r0 at*;generalize Bg l' y 1 (IM l' a0) (a0+41) 2=r1 at*;obtain⟨a1,HI,p0,L0⟩:=r0;obtain⟨a2,Gx,p1,L1⟩:=r1;simp only at*;subst ep;subst eL;subst hz;have G0:=ib0.pi.same;have uU:=ib1.has;have fw:=tI 1 (Gx.map Ba) p0 (by have:=ib1.len;simp only[List.length_map];omega) (fun h hh q hq=>by
  obtain⟨x,hx,rfl⟩:=List.mem_map.1 hh;rw[hq];exact(ib1.all x hx).psame ib1.pi)
 rw[uU] at fw;have BH:(BY [Ba (0,p0)]).length=1:=rfl;have H8:(BY [Ba (0,p0)]).getD 0 .bad=(BU.mk 0 p0.Q p0.R).av:=rfl;refine Am Tryz.func4 Tryz.ntmps4 ?_;intro w e X hC;refine uZ ?_;refine uR ?_;intro K hK;refine CL [] [(116,3,100,1)] false (JR) Bz Bz Ab Ab Ab Ab Ab Ab Ab Ab Ab Ab Ab Ab Ab Ab Ab ?_;refine DM ?_;refine hK _ ?_;clear hK K;refine L3 (s':=⟨[(2,B false),(3, .p 116 3 0 0 0)],(116,some (3, .box [IS l',I (min 0 l'.length:Nat)]))::[],_⟩) (.of (lR _) (Ax (uI @Nat.zero_min @Int.natCast_zero)) A4) ?_;refine uR ?_;intro K hK;refine CY rfl (fH) Ak Ak Ak Ak Ak ?_;refine uS ?_;refine uH ?_;refine hK _ ?_;clear hK K;refine uZ ?_;refine uR ?_;intro K hK;refine CY rfl (st0) Ak Ak Ak Ak Ak ?_;refine uS ?_;refine uH ?_;refine hK _ ?_;clear hK K;refine uZ ?_;refine L3 (s':=⟨[(2,B false),(4, .p 104 7 0 0 0),(6, .p 106 21 0 0 0),(7, .p 107 22 0 0 0),(8,B true),(9, .p 109 27 0 0 0)],(107,some (22, .box [RS p0.Q,RS p0.R]))::(106,some (21, .box [I 0, .sl (BY [Ba (0,p0)]) false]))::(104,some (7, .box [.sl (AA y.U) false, .sl (Ai y.D) false]))::(109,some (27, .box [IS l',I (min a0 l'.length:Nat)]))::[],_⟩) (Af) ?_;refine uR ?_;intro K hK;refine CY rfl (AD) Ak Ak Ak Ak Ak ?_;refine uS ?_;refine uH ?_;refine hK _ ?_;clear hK K;have d1:decide (¬((1:Nat):Int)=1)=false:=rfl;refine Cv (uI @BH (uI @H8 (uI @d1 @Int.toNat_zero))) ?_;intro K hK;refine uH ?_;refine cF G0 ?_;refine uS ?_;refine uH ?_;refine hK _ ?_;clear hK K;refine uF ?_;refine Cv (uI @BH (uI @H8 @Int.toNat_zero)) ?_;intro K hK;refine uH ?_;refine cF fw ?_;refine uS ?_;refine uH ?_;refine hK _ ?_;clear hK K;refine uR ?_;intro K hK;refine uH ?_;refine cF tM ?_;refine uS ?_;refine uH ?_;refine hK _ ?_;clear hK K;refine uZ ?_;refine uJ ?_;try rfl
end Go.Proofs.YtfcgkbinohibcaaGreatDoor
namespace Go.Sym
open Go Go.Deep Go.ChangeShapes Go.WideShapes Go.ChangeAt Go.RowKit
section
variable {H:Type} {enc:TypeId×Value->H} {P:Program} {W W':World}
theorem kF (hl:laidOutB P=true) (hb:Below W.heap.size W W'):∀{ts:List TypeId} {vs:List Value} {ds:List (DataW H)} {ps:List MemPlace},(∀t∈ts,P.readableRec t=true/\t<P.types.size)->
  DataW.TrodAll enc P W 0 (fun _=>true) true ts vs ds ps->(∀x∈ps,x.block<W.heap.size)->DataW.TrodAll enc P W' 0 (fun b=>decide (b<W.heap.size)) true ts vs ds ps
 |[],vs,ds,ps,_,h,_=>by obtain⟨rfl,rfl,rfl⟩:=trodAll_nil h;exact trodAll_mk0
 |t::ts,vs,ds,ps,ht,h,Aa=>by
  obtain⟨v,LU,d,ds',p,q,rfl,rfl,rfl,h1,h2⟩:=trodAll_cons h;have:=ht t sM;exact⟨p,q,Below.trod hl this.1 this.2 h1 hb fun x hx=>Aa x (by simp[hx]),kF hl hb (fun t' h'=>ht t' (by simp[h'])) h2 fun x hx=>Aa x (by simp[hx]),rfl⟩
theorem QgX {a:Int} (h:(Lit.int .i64 a).wf=true):-9223372036854775808<=a/\a<=9223372036854775807:=by
 have h1:(decide (IntKind.min .i64<=a)&&decide (a<=IntKind.max .i64))=true:=h;have e1:IntKind.min .i64=-9223372036854775808:=dM;have e2:IntKind.max .i64=9223372036854775807:=dM;rw[e1,e2] at h1
 simpa using h1
variable {U:Nat->Prop} {t e q:TypeId} {v:Value} {d:DataW H} {ps:List MemPlace}
theorem TG {w:World} {a:Addr} {x:Value} (h:w.cell? a=some x):a=⟨a.block,a.off,none⟩/\a.block<w.heap.size:=by
 unfold World.cell? at h
 split at h
 ·rename_i c _ _ hb
  split at h
  ·cases h
  ·rename_i hs;refine⟨?_,(Array.getElem?_eq_some_iff.1 hb).1⟩
   cases a with
   |mk b o s=>cases s<;>simp_all
 ·cases h
theorem VD.ints_mk (hU:∀b,U b) {a:Addr} {len cap:Nat} {zs:List Int} (hl:len<=cap) (hm:cap<=maxLen) (hz:zs.length=cap) (hc:∀i,i<cap->W.cell? (a.add i)=some (.int .i64 (zs.getD i 0))):
  VD W U (IS (zs.take len)) (.slice (some a) len cap):=by
 by_cases h0:cap=0
 ·obtain rfl:len=0:=oM;subst h0;rw[List.take_zero];exact .nil _ _
 ·have h1:=TG (hc 0 oM);have e:a=⟨a.block,a.off,none⟩:=h1.1;have hlen:(zs.take len).length=len:=by simp;omega
  have:=VD.sl (w:=W) (U:=U) (As (zs.take len)) false a.block a.off cap 1 (fun i=> .int .i64 (zs.getD i 0)) (hU _) h1.2 (by rw[HL,hlen];exact hl) hm sM oM
   (by intro i hi;simp[As,AV.cells,I]) (by
    intro j hj;rw[HL,hlen,Nat.mul_one] at hj;have h2:=hc j oM;rw[e,add_plain] at h2;exact h2) (by
    intro i hi j hj;simp only[As,List.getElem_map,I,AV.cells] at hj ⊢;simp at hj;subst hj;rfl) (by
    intro i hi j hj;rw[HL,hlen] at hi;simp only[As,List.getElem_map,I,AV.cells,List.getElem_take] at hj ⊢;simp at hj;subst hj;simp only[List.getElem_cons_zero,Nat.mul_one,Nat.add_zero];have:zs.getD i 0=zs[i]'oM:=by simp[show i<zs.length by omega]
    rw[this];exact .lit _ rfl)
  rw[HL,hlen] at this;rw[<-e] at this;exact this
theorem nB (hU:∀b,U b) (ht:P.underlying t=some (.slice e)) (he:P.underlying e=some (.int .i64)) (hc:P.cellsOf e=1) (G6:Value.okWide P W .any 0 t v)
  (hd:DataW.Trod enc P W 0 (fun _=>true) true t v d ps):∃zs:List Int,zs.length<=9223372036854775807/\(∀x∈zs,-9223372036854775808<=x/\x<=9223372036854775807)/\VD W U (IS zs) v:=by
 obtain⟨a,len,cap,rfl⟩:=okWide_slice ht G6;obtain⟨fuel,hf⟩:=hd;rcases open_ints ht he hc hf with ⟨h1,_⟩|⟨a',Qij,CZ,zs,h1,_,hl,hm,hz,_,GV,hw⟩
 ·simp[Value.cells] at h1;obtain⟨rfl,rfl,rfl⟩:=h1;exact⟨[],sM,sM, .nil _ _⟩
 ·simp[Value.cells] at h1;obtain⟨rfl,rfl,rfl⟩:=h1;simp only[if_true] at hz;have ND:cap<=9223372036854775807:=by unfold maxLen at hm;omega
  exact⟨zs.take len,by simp;omega,fun x hx=>QgX (hw x (List.mem_of_mem_take hx)),VD.ints_mk hU hl hm hz fun i hi=>GV i oM⟩
def Ip:An:=⟨fun _=>none,fun _=>False,fun _=>none⟩
theorem NY (b:Nat):¬AQ Ip b:=by
 rintro(⟨id,ee,c,h,_⟩|⟨B,c,h,_⟩)<;>cases h
theorem PJ (b:Nat):UE Ip b:=⟨fun h=>h,NY b⟩
theorem lO (w:World):AU w Ip (Az 1) [] where
 dead:=fun _ _=>rfl
 live:=fun id g ob h=>by simp[Hp.get] at h
 inj:=fun id Br ee Au b c c' h=>by cases h
 lt:=fun id ee b c h=>by cases h
 nz:=fun id ee b c h=>by cases h
 kl:=fun b B c h=>by cases h
 ko:=fun b h=>rfl
 kk:=fun b B c h=>by cases h
theorem yJ {T:AE} {f:FuncId} {as1:List AV} {vals:Array Value} (h:Ag P T f [] as1 [] (B true)) (hg:Gg T W (UE Ip)) (Be:as1.length=vals.size) (hv:∀i (hi:i<as1.length),VD W (UE Ip) as1[i] (vals.getD i undef)):
  Calls P f vals W fun e W'=>e= .returned (.bool true)/\Below W.heap.size W W':=by
 have h:=h.2 W Ip vals (lO W) (fun b hb=>hb.elim) hg Be (fun i hi=> .dat _ _ (hv i hi));refine h.mono ?_;rintro e W' ⟨v,e',rfl,_,hv,_,_,_,hf⟩
 cases hv with
 |dat _ _ hv=>
  cases hv with
  |lit _ _=>exact⟨rfl,hf.os,hf.tape,hf.output,hf.size,fun k hk=>hf.same k hk (NY k)⟩
theorem ik {g fuel n:Nat} {nm:String} {zs:List Int} {cs:Array Value} {p:List MemPlace} {enc:TypeId×Value->Unit} {spare:Nat->Bool} {held:Bool} (hg:P.globalNamed nm=some g) (hU:∀b,U b) (ht:P.underlying t=some (.array n e)) (he:P.underlying e=some (.int .u8)) (hc:P.cellsOf e=1)
  (hv:W.var? P nm=some cs) (hd:DataW.trod enc P W 0 spare held fuel t cs.toList=some (.agg (zs.map fun z=> .lit (.int .u8 z)),p)) (hn:zs.length=n) (h0:0<n):VD W U (.P (zs.map fun z=> .lit (.int .u8 z))) (.pointer (some ⟨g,0,none⟩)):=by
 obtain⟨xs,m,_,ex,_,hl,AJ⟩:=DataW.trod_array ht hd;have cell:∀r,r<n->W.cell? ⟨g,r,none⟩=some (.int .u8 (zs.getD r 0)):=by
  intro r hr;have hE:=AJ r hr;rw[hc,Nat.mul_one,gG oM] at hE;obtain⟨z,e1,e2,_⟩:=DataW.trod_int he hE;have e3:(xs.map (·.1))=zs.map fun n=> .lit (.int .u8 n):=(DataW.agg.inj (Prod.mk.inj ex).1).symm;have e4:(xs.map (·.1))[r]?=(zs.map fun n=>(DataW.lit (.int .u8 n):DataW Unit))[r]?:=by rw[e3]
  rw[List.getElem?_map,List.getElem?_map,gG (by omega:r<xs.length),gG (by omega:r<zs.length),e2] at e4;have hz:z=zs.getD r 0:=by
   simp only[Option.map_some,Option.some.injEq,DataW.lit.injEq,Lit.int.injEq,true_and] at e4;rw[e4,List.getD,gG (by omega:r<zs.length)];rfl
  rw[World.var?_cell hg hv r,<-hz];have:cs.toList[r]?=some (.int .u8 z):=by
   have h0:((cs.toList.drop r).take 1)[0]?=some (.int .u8 z):=by rw[e1];rfl
   simpa using h0
  simpa using this
 refine .P _ g 0 (fun i=> .int .u8 (zs.getD i 0)) (hU _) (TG (cell 0 h0)).2 ?_ ?_ ?_
 ·intro j hj;rw[Nat.zero_add];exact cell j (by simpa[hn] using hj)
 ·intro j hj;simp[AV.one]
 ·intro j hj;rw[List.length_map] at hj;simp only[List.getElem_map];have:zs.getD j 0=zs[j]'oM:=by simp[show j<zs.length by omega]
  rw[this];exact .lit _ rfl
theorem yI {g fuel:Nat} {nm:String} {ss:List ByteArray} {cs:Array Value} {p:List MemPlace} {enc:TypeId×Value->Unit} {spare:Nat->Bool} {held:Bool} (hg:P.globalNamed nm=some g) (hU:∀b,U b) (ht:P.underlying t=some (.slice e)) (he:P.underlying e=some .string) (hc:P.cellsOf e=1)
  (hv:W.var? P nm=some cs) (hd:DataW.trod enc P W 0 spare held fuel t cs.toList=some (.slice (ss.map fun z=> .lit (.string z.data.toList)) [],p)) (h0:0<ss.length):VD W U (.P [.sl (ss.map S) false]) (.pointer (some ⟨g,0,none⟩)):=by
 rcases open_strs ht he hc hd with ⟨_,hx⟩|⟨a,len,cap,m,Sx,Dt,_,F4,hm,DF,hx,GV⟩
 ·simp at hx
 ·simp only[Prod.mk.injEq,DataW.slice.injEq] at hx;obtain⟨⟨hx,Fq⟩,_⟩:=hx;have hlen:ss.length=len:=by simpa using congrArg List.length hx
  have OK:len<=m:=by rw[DF];split<;>omega
  have hS:∀i (hi:i<ss.length),Sx i=ss[i]:=by
   intro i hi;have h1:(ss.map fun z=>(DataW.lit (.string z.data.toList):DataW Unit))[i]?=((List.range len).map fun i=>(DataW.lit (.string (Sx i).data.toList):DataW Unit))[i]?:=by rw[hx]
   rw[List.getElem?_map,List.getElem?_map,gG hi,gG (by simpa[hlen] using hi)] at h1;simp only[Option.map_some,Option.some.injEq,DataW.lit.injEq,Lit.string.injEq,List.getElem_range] at h1;have h2:=Array.toList_inj.1 h1
   cases h3:ss[i] with|mk d1=>cases h4:Sx i with|mk d2=>rw[h3,h4] at h2;simp only at h2;rw[h2]
  have HJ:=World.var?_cell hg hv 0;rw[Array.eq_one_of_toList Dt] at HJ;have HJ:W.cell? ⟨g,0,none⟩=some (.slice (some a) len cap):=by simpa using HJ
  have ha:=TG (GV 0 oM).1;have ea:a=⟨a.block,a.off,none⟩:=ha.1;refine .P _ g 0 (fun _=> .slice (some a) len cap) (hU _) (TG HJ).2 ?_ (by intro j hj;simp at hj;subst hj;rfl) ?_
  ·intro j hj;simp at hj;subst hj;exact HJ
  ·intro j hj;simp at hj;subst hj;have:=VD.sl (w:=W) (U:=U) (ss.map S) false a.block a.off cap 1 (fun i=> .string (Sx i)) (hU _) ha.2 (by simp[hlen,F4]) hm sM oM
    (by intro i hi;simp[AV.cells,S]) (by
     intro j hj;rw[List.length_map,hlen,Nat.mul_one] at hj;have h2:=(GV j oM).1;rw[ea,add_plain] at h2;exact h2) (by
     intro i hi j hj;simp only[List.getElem_map,S,AV.cells] at hj ⊢;simp at hj;subst hj;rfl) (by
     intro i hi j hj;simp only[List.getElem_map,S,AV.cells] at hj ⊢;simp at hj;subst hj;simp only[List.getElem_cons_zero,Nat.mul_one,Nat.add_zero];rw[hS i (by simpa using hi)];exact .lit _ rfl)
   rw[List.length_map,hlen] at this;rw[<-ea] at this;exact this
end
end Go.Sym
