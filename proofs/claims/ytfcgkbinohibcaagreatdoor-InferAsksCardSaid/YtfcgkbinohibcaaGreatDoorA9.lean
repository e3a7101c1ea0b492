/- Lemmas towards inferAsks_card: no conditions of their own. -/
import Derived.Test.YtfcgkbinohibcaaGreatDoorA8
import Derived.Shelf.SlSortCmp.WholeK
import Derived.Ground.SlsfProg
import Derived.Test.YtfcgkbinohibcaaGreatDoorProg
import Derived.Shelf.Slices.In.SortNone
import Derived.Shelf.SlSortCmp.NoneTotal
set_option linter.all false
namespace Go.Proofs
open Go.Shelf
def Tryz.sortHyp_ren:Go.Shelf.Ren:=⟨fun|6=>136|15=>151|14=>180|28=>199|29=>200|20=>225|21=>226|22=>227|23=>228|24=>229|25=>230|26=>231|27=>232|46=>263|47=>242|48=>243|49=>264|50=>265|57=>281|n=>n,fun|22=>31|24=>63|25=>198|3=>3|39=>210|0=>0|53=>240|55=>242|4=>4|46=>234|45=>233|50=>43|5=>5|9=>9|66=>267|70=>271|76=>291|77=>292|n=>n,fun|n=>n⟩
theorem Tryz.sortHyp:Go.Proofs.SlLaysF0.n6 prog Tryz.sortHyp_ren:={
 mixed:=kR
 f6:=⟨f136.name,dM,func136.trans (congrArg some kR)⟩
 f14:=⟨f180.name,dM,func180.trans (congrArg some kR)⟩
 f15:=func151.trans (congrArg some kR)
 f20:=⟨f225.name,dM,func225.trans (congrArg some kR)⟩
 f21:=⟨f226.name,dM,func226.trans (congrArg some kR)⟩
 f22:=⟨f227.name,dM,func227.trans (congrArg some kR)⟩
 f23:=⟨f228.name,dM,func228.trans (congrArg some kR)⟩
 f24:=⟨f229.name,dM,func229.trans (congrArg some kR)⟩
 f25:=⟨f230.name,dM,func230.trans (congrArg some kR)⟩
 f26:=⟨f231.name,dM,func231.trans (congrArg some kR)⟩
 f27:=⟨f232.name,dM,func232.trans (congrArg some kR)⟩
 f28:=func199.trans (congrArg some kR)
 f29:=func200.trans (congrArg some kR)
 f46:=⟨f263.name,dM,func263.trans (congrArg some kR)⟩
 f47:=func242.trans (congrArg some kR)
 f48:=func243.trans (congrArg some kR)
 f49:=⟨f264.name,dM,func264.trans (congrArg some kR)⟩
 f50:=⟨f265.name,dM,func265.trans (congrArg some kR)⟩
 f57:=⟨f281.name,dM,func281.trans (congrArg some kR)⟩
 t0:=underlying0
 a0:=isAgg0
 z0:=sizeOf0
 v0:=zeroValue0
 t3:=underlying3
 a3:=isAgg3
 z3:=sizeOf3
 v3:=zeroValue3
 t4:=underlying4
 a4:=isAgg4
 z4:=sizeOf4
 v4:=zeroValue4
 t5:=underlying5
 a5:=isAgg5
 z5:=sizeOf5
 v5:=zeroValue5
 t9:=underlying9
 a9:=isAgg9
 z9:=sizeOf9
 v9:=zeroValue9
 t22:=underlying31
 a22:=isAgg31
 z22:=sizeOf31
 v22:=zeroValue31
 t25:=underlying198
 a25:=isAgg198
 z25:=sizeOf198
 v25:=zeroValue198
 t39:=underlying210
 a39:=isAgg210
 z39:=sizeOf210
 v39:=zeroValue210
 t45:=underlying233
 a45:=isAgg233
 z45:=sizeOf233
 v45:=zeroValue233
 t46:=underlying234
 a46:=isAgg234
 z46:=sizeOf234
 v46:=zeroValue234
 t50:=underlying43
 a50:=isAgg43
 z50:=sizeOf43
 v50:=zeroValue43
 t53:=underlying240
 a53:=isAgg240
 z53:=sizeOf240
 v53:=zeroValue240
 t55:=underlying242
 a55:=isAgg242
 z55:=sizeOf242
 v55:=zeroValue242
 t66:=underlying267
 a66:=isAgg267
 z66:=sizeOf267
 v66:=zeroValue267
 t70:=underlying271
 a70:=isAgg271
 z70:=sizeOf271
 v70:=zeroValue271
 t76:=underlying291
 a76:=isAgg291
 z76:=sizeOf291
 v76:=zeroValue291
 t77:=underlying292
 a77:=isAgg292
 z77:=sizeOf292
 v77:=zeroValue292}
def Tryz.sortPlc_ren:Go.Shelf.Ren:=⟨fun|6=>92|15=>151|14=>153|28=>199|29=>200|20=>201|21=>202|22=>203|23=>204|24=>205|25=>206|26=>207|27=>208|46=>246|47=>242|48=>243|49=>247|50=>248|57=>267|n=>n,fun|22=>74|24=>77|25=>140|3=>3|39=>210|0=>0|53=>240|55=>242|4=>4|46=>234|45=>233|50=>43|5=>5|9=>9|66=>267|70=>271|76=>291|77=>292|n=>n,fun|n=>n⟩
theorem Tryz.sortPlc:Go.Proofs.SlLaysF0.n6 prog Tryz.sortPlc_ren:={
 mixed:=kR
 f6:=⟨f92.name,dM,func92.trans (congrArg some kR)⟩
 f14:=⟨f153.name,dM,func153.trans (congrArg some kR)⟩
 f15:=func151.trans (congrArg some kR)
 f20:=⟨f201.name,dM,func201.trans (congrArg some kR)⟩
 f21:=⟨f202.name,dM,func202.trans (congrArg some kR)⟩
 f22:=⟨f203.name,dM,func203.trans (congrArg some kR)⟩
 f23:=⟨f204.name,dM,func204.trans (congrArg some kR)⟩
 f24:=⟨f205.name,dM,func205.trans (congrArg some kR)⟩
 f25:=⟨f206.name,dM,func206.trans (congrArg some kR)⟩
 f26:=⟨f207.name,dM,func207.trans (congrArg some kR)⟩
 f27:=⟨f208.name,dM,func208.trans (congrArg some kR)⟩
 f28:=func199.trans (congrArg some kR)
 f29:=func200.trans (congrArg some kR)
 f46:=⟨Tryz.f246.name,dM,func246.trans (congrArg some kR)⟩
 f47:=func242.trans (congrArg some kR)
 f48:=func243.trans (congrArg some kR)
 f49:=⟨f247.name,dM,func247.trans (congrArg some kR)⟩
 f50:=⟨f248.name,dM,func248.trans (congrArg some kR)⟩
 f57:=⟨f267.name,dM,func267.trans (congrArg some kR)⟩
 t0:=underlying0
 a0:=isAgg0
 z0:=sizeOf0
 v0:=zeroValue0
 t3:=underlying3
 a3:=isAgg3
 z3:=sizeOf3
 v3:=zeroValue3
 t4:=underlying4
 a4:=isAgg4
 z4:=sizeOf4
 v4:=zeroValue4
 t5:=underlying5
 a5:=isAgg5
 z5:=sizeOf5
 v5:=zeroValue5
 t9:=underlying9
 a9:=isAgg9
 z9:=sizeOf9
 v9:=zeroValue9
 t22:=underlying74
 a22:=isAgg74
 z22:=sizeOf74
 v22:=zeroValue74
 t25:=underlying140
 a25:=isAgg140
 z25:=sizeOf140
 v25:=zeroValue140
 t39:=underlying210
 a39:=isAgg210
 z39:=sizeOf210
 v39:=zeroValue210
 t45:=underlying233
 a45:=isAgg233
 z45:=sizeOf233
 v45:=zeroValue233
 t46:=underlying234
 a46:=isAgg234
 z46:=sizeOf234
 v46:=zeroValue234
 t50:=underlying43
 a50:=isAgg43
 z50:=sizeOf43
 v50:=zeroValue43
 t53:=underlying240
 a53:=isAgg240
 z53:=sizeOf240
 v53:=zeroValue240
 t55:=underlying242
 a55:=isAgg242
 z55:=sizeOf242
 v55:=zeroValue242
 t66:=underlying267
 a66:=isAgg267
 z66:=sizeOf267
 v66:=zeroValue267
 t70:=underlying271
 a70:=isAgg271
 z70:=sizeOf271
 v70:=zeroValue271
 t76:=underlying291
 a76:=isAgg291
 z76:=sizeOf291
 v76:=zeroValue291
 t77:=underlying292
 a77:=isAgg292
 z77:=sizeOf292
 v77:=zeroValue292}
end Go.Proofs
namespace Go.Proofs.YtfcgkbinohibcaaGreatDoor
open Go Go.Sym Go.Proofs.Tryz
open Go.Inf Go.Sort
theorem pz:SWO (ltOf fun a b:BU=>cmpL (AZ a.pl) (AZ b.pl)):=by
 have e:∀a b:BU,ltOf (fun a b:BU=>cmpL (AZ a.pl) (AZ b.pl)) a b=CJ (AZ a.pl) (AZ b.pl):=fun a b=>by unfold ltOf;rw[Bool.eq_iff_iff,decide_eq_true_iff,Wk]
 refine⟨fun x=>by rw[e];exact UV _,fun x y z h1 h2=>by rw[e] at*;exact SN h1 h2,fun x y z h1 h2=>?_⟩;rw[e] at*;cases h3:CJ (AZ x.pl) (AZ z.pl) with
 |false=>rfl|true=>
  cases h4:CJ (AZ y.pl) (AZ x.pl) with
  |true=>have:=SN h4 h3;rw[h2] at this;cases this
  |false=>have:=UW h1 h4;rw[this] at h3;rw[h2] at h3;cases h3
theorem wK (G G':List BU) (h0:G≠[]) (hG:∀x∈G,Jw x.pl) (hl:G.length<=1000000) (hp:G'.Perm G) (hs:G'.Pairwise fun a b=>CJ (AZ a.pl) (AZ b.pl)=true):
  Ag prog Ad 136 [(0,some (0, .own 63 3 (BY G)))] [.l 0 0 0 G.length, .fn 137 []] [(0,some (0, .own 63 3 (BY G')))] (.tup []):=
 jW (T:=Ad) Go.Proofs.Tryz.sortHyp rfl ⟨f136,func136,xv4,xv4⟩ (enters_of func137 kR rfl) dM isAgg63 sizeOf63
  (fun x:BU=>[I x.us,RS x.sl,RS x.bn]) (fun x=>⟨rfl,fun c hc=>by
   simp only[List.mem_cons,List.not_mem_nil,or_false] at hc;rcases hc with rfl|rfl|rfl<;>trivial⟩) (fun x=>Jw x.pl) (fun a b=>cmpL (AZ a.pl) (AZ b.pl)) pz (fun x y hx hy=>oJ x y hx hy) G G' h0 hG hl hp (hs.imp fun h=>(Wk _ _).2 h)
theorem bk (bud:Int) (G G':List BU) (h0:G≠[]) (hG:∀x∈G,Jw x.pl) (hl:G.length<=1000000) (hp:G'.Perm G) (hs:G'.Pairwise fun a b=>CJ (AZ a.pl) (AZ b.pl)=true):
  Ag prog Ad 78 (Kj G) [.p 0 0 0 0 0,I bud] [(0,some (0, .box [.mpO 1 0, .l 2 0 0 G.length])),(1,some (0, .ms (Eb 0 G))),(2,some (0, .own 63 3 (BY G')))] (.agg [I bud, .l 2 0 0 G.length]):=by
 have h1:=wK G G' h0 hG hl hp hs;have KF:G'.length=G.length:=hp.length_eq;unfold Kj;refine Am func78 ntmps78 ?_;intro w e X hC;refine xz8 ?_;intro K hK;refine CL [(0,0,2,0)] [(2,0,0,0)] false (h1) Bz Bz Ab Ab Ab Ab Ab Ab Ab Ab Ab Ab Ab Ab Ab Ab Ab ?_;refine xq7 ?_;refine hK _ ?_;clear hK K;refine xz4 ?_;rw[show f78.results.toList=[.cell 4 33] from rfl];(refine DB [(0,0,0,0),(1,0,1,0),(2,0,2,0)] vx1 sM sM sM ?_ ?_ ?_ ?_ ?_;(iterate 3 (focus (first|exact trivial|(simp only[go_sem,seval,Bv,BK,A9,AT,BR,BM]<;>first|trivial|(simp;done)))));all_goals (try simp only[go_sem,seval,Bv,BK,A9,AT,BR,BM,A7,BZ]));all_goals rfl
open Go.Plant Go.Inf
def Oi (stp:Pl->List T3->Pl) (cst:Pl->Int×Bool) (bud:Int) (cs:List Int) (G:List AY) (h:AY):List AY:=GD (stp h.2) cst h.1 bud ([]::ext CQ (bud - h.1).toNat (CN cs h.2) []) G
def Ku (stp:Pl->List T3->Pl) (cst:Pl->Int×Bool) (bud:Int) (cs:List Int) (hs:List AY):List AY:=hs.foldl (Oi stp cst bud cs) []
abbrev VI:AV:=(D5.mk 0 []).av
theorem YH {hs:List AY} {i:Nat} (h:i<hs.length):(BY (hs.map Ba)).getD i .bad=(Ba (hs.getD i (0,⟨[],[]⟩))).av:=by
 rw[SF vy0];congr 1
 simp[gE,h]
section
variable {plc:List AV} {cs:List Int} {bud:Int} {kf:Nat} {cp:List (List AV)} {stp:Pl->List T3->Pl} {cst:Pl->Int×Bool} {Gd:Pl->Prop}
theorem aG (hs:List AY) (C3:hs.length<=1000)
  (uG:∀h∈hs,Ag prog Ad 120 [] [.P plc,h.2.av,IS cs] [] (.sl (Ai (CN cs h.2)) false))
  (uq:∀h∈hs,∀G,(∀x∈G,Gd x.2)->G.length<=41->Ag prog Ad 119 (Kc plc cs bud kf cp G) [.p 0 0 0 0 0,(Ba h).av, .sl (Ai (CN cs h.2)) false, .sl [] false] (Kc plc cs bud kf cp (Oi stp cst bud cs G h)) (.tup []))
  (Sp:∀h∈hs,∀G,(∀x∈G,Gd x.2)->G.length<=41->(∀x∈Oi stp cst bud cs G h,Gd x.2)/\(Oi stp cst bud cs G h).length<=41) (XS:∀q,Gd q->Jw q) (r:AV)
  (hr:(Ku stp cst bud cs hs=[]/\r= .tup [VI,I 11])\/(40<(Ku stp cst bud cs hs).length/\r= .tup [VI,I 2])\/
   (Ku stp cst bud cs hs≠[]/\(Ku stp cst bud cs hs).length<=40/\∃L:List AY,L.Perm (Ku stp cst bud cs hs)/\(L.Pairwise fun a b=>CJ (AZ a.2) (AZ b.2)=true)/\r= .tup [(D5.mk bud (L.map Ba)).av,I 0])):
  Ag prog Ad 67 [] [.P plc,(D5.mk bud (hs.map Ba)).av,IS cs, .fn kf (L1 cp)] [] r:=by
 refine Am func67 ntmps67 ?_;intro w e X hC;refine uZ ?_;refine PL 301 116 6 63 3 1 dM rfl rfl rfl ?_;refine uW ?_;refine Aw (fun i:Nat×Nat×List AY=>⟨[(0, .P plc),(2,IS cs),(5, .p 105 1 0 0 0),(8, .p 108 2 0 0 0),(9,I 0),(10, .p 116 6 0 0 0),(11, .p 124 15 0 0 0),(26, .sl (BY (hs.map Ba)) false),(27,I hs.length),(28,I i.2.1)],(124,some (15, .box [.P plc, .p 116 6 0 0 0,IS cs,I bud, .fn kf (L1 cp)]))::(116,some (6, .box [.mpO 114 4, .l 301 21 0 i.2.2.length]))::(114,some (4, .ms (Eb 0 (i.2.2.map Ba))))::(301,some (21, .own 63 3 (BY (i.2.2.map Ba))))::(108,some (2, .box [I 0, .sl [] true]))::(105,some (1, .box [I bud, .sl (BY (hs.map Ba)) false]))::[],i.1⟩)
  (fun i=>i.2.1<=hs.length/\Ku stp cst bud cs hs=(hs.drop i.2.1).foldl (Oi stp cst bud cs) i.2.2/\(∀x∈i.2.2,Gd x.2)/\i.2.2.length<=41) (fun i=>hs.length - i.2.1) (_,0,[]) ⟨zL _,rfl,(fun x hx=>by cases hx),zL _⟩ (Af) ?_
 rintro⟨ck,i,Gi⟩ ⟨hi,AL,Fk,JH⟩;simp only at hi AL Fk JH;refine xy1 (fun c=>?_) (fun c=>?_)
 .have Aa:i<hs.length:=oM;have hg:=YH Aa;have hm:hs.getD i (0,⟨[],[]⟩)∈hs:=GQ Aa _;have Oy:hs.drop i=hs.getD i (0,⟨[],[]⟩)::hs.drop (i+1):=by rw[List.drop_eq_getElem_cons Aa,gE,gG Aa];rfl
  rw[Oy,List.foldl_cons] at AL;have w1:=uG _ hm;have w2:=uq _ hm Gi Fk JH;obtain⟨Qa,RB⟩:=Sp _ hm Gi Fk JH;generalize hs.getD i (0,⟨[],[]⟩)=h at*;generalize Oi stp cst bud cs Gi h=Gn at*;unfold Kc at w2;obtain⟨hu,EK⟩:=h;simp only[Ba] at hg w2;refine Bg @hg ?_;refine uD ?_;intro K hK;refine xw1 w1 ?_;refine uH ?_;refine CL [(0,0,124,15),(1,0,116,6),(2,0,114,4),(3,0,301,21)] [(124,15,0,0),(116,6,1,0),(114,4,2,0),(301,21,3,0)] false (w2) Bz Bz Ab Ab Ab Ab Ab Ab Ab Ab Ab Ab Ab Ab Ab Ab Ab ?_;refine xq7 ?_;refine hK _ ?_;clear hK K;refine uZ ?_;refine⟨(_,i+1,Gn),⟨uO,AL,Qa,RB⟩,uO,Af⟩
 refine At ?_;have Bx:i=hs.length:=oM;rw[Bx,List.drop_length,List.foldl_nil] at AL;rw[AL] at hr;refine xy1 (fun c0=>?_) (fun c0=>?_)
 .have WZ:Gi=[]:=List.eq_nil_of_length_eq_zero oM;rcases hr with ⟨_,rfl⟩|⟨h,_⟩|⟨h,_⟩
  .refine xz4 ?_;rw[show f67.results.toList=[.cell 8 33, .tmp 9] from rfl];first|refine Bn ?_|exact Bm
   rfl
  .omega
  exact absurd WZ h
 refine xy1 (fun c1=>?_) (fun c1=>?_)
 .rcases hr with ⟨h,_⟩|⟨_,rfl⟩|⟨_,h,_⟩
  .rw[h] at c0;simp at c0
  .refine xz4 ?_;rw[show f67.results.toList=[.cell 8 33, .tmp 9] from rfl];first|refine Bn ?_|exact Bm
   rfl
  omega
 rcases hr with ⟨h,_⟩|⟨h,_⟩|⟨Bj,hle,L,RD,W5,rfl⟩
 .rw[h] at c0;simp at c0
 .omega
 have wb:=bk bud (Gi.map Ba) (L.map Ba) (by simpa using Bj) (fun x hx=>by
  obtain⟨z,hz,rfl⟩:=List.mem_map.1 hx;exact XS _ (Fk z hz)) vv2 (RD.map _) (by rw[List.pairwise_map];exact W5)
 have Qd:L.length=Gi.length:=RD.length_eq;unfold Kj at wb;refine uR ?_;intro K hK;refine uH ?_;refine CL [(0,0,116,6),(1,0,114,4),(2,0,301,21)] [(116,6,0,0),(114,4,1,0),(301,21,2,0)] false (wb) Bz Bz Ab Ab Ab Ab Ab Ab Ab Ab Ab Ab Ab Ab Ab Ab Ab ?_;refine xq7 ?_;refine hK _ ?_;clear hK K;refine Ay ?_;rw[show f67.results.toList=[.cell 8 33, .tmp 9] from rfl];exact Bm
end
open Go.Plant Go.Inf
def SL (of:Pl->Pl×Bool) (G:List AY) (h:AY):List AY:=if(of h.2).2=true then Inf.gadd G (h.1,(of h.2).1) else G
def Ha (of:Pl->Pl×Bool) (hs:List AY):List AY:=hs.foldl (SL of) []
section
variable {bud:Int} {kf:Nat} {cp:List (List AV)} {of:Pl->Pl×Bool} {Gd:Pl->Prop}
theorem yn (hs:List AY) (C3:hs.length<=900)
  (Uw:∀h∈hs,Ag prog Ad kf [] (h.2.av::L1 cp) [] (.tup [(of h.2).1.av,B (of h.2).2]))
  (Gu:∀h∈hs,(of h.2).2=true->Gd (of h.2).1) (Cp:∀q,Gd q->M1 q) (OH:∀a b,Gd a->Gd b->B3 (AZ a)=B3 (AZ b)->a=b) (r:AV)
  (hr:(Ha of hs=[]/\r= .tup [VI,I 11])\/
   (Ha of hs≠[]/\∃L:List AY,L.Perm (Ha of hs)/\(L.Pairwise fun a b=>CJ (AZ a.2) (AZ b.2)=true)/\r= .tup [(D5.mk bud (L.map Ba)).av,I 0])):
  Ag prog Ad 80 [] [(D5.mk bud (hs.map Ba)).av, .fn kf (L1 cp)] [] r:=by
 refine Am func80 ntmps80 ?_;intro w e X hC;refine uZ ?_;refine PL 301 106 6 63 3 1 dM rfl rfl rfl ?_;refine uW ?_;refine Aw (fun i:Nat×Nat×List AY=>⟨[(1, .fn kf (L1 cp)),(2, .p 102 1 0 0 0),(4, .p 104 2 0 0 0),(5,I 0),(6, .p 106 6 0 0 0),(14, .sl (BY (hs.map Ba)) false),(15,I hs.length),(16,I i.2.1)],(106,some (6, .box [.mpO 111 4, .l 301 12 0 i.2.2.length]))::(111,some (4, .ms (Eb 0 (i.2.2.map Ba))))::(301,some (12, .own 63 3 (BY (i.2.2.map Ba))))::(104,some (2, .box [I 0, .sl [] true]))::(102,some (1, .box [I bud, .sl (BY (hs.map Ba)) false]))::[],i.1⟩)
  (fun i=>i.2.1<=hs.length/\Ha of hs=(hs.drop i.2.1).foldl (SL of) i.2.2/\(∀x∈i.2.2,Gd x.2)/\i.2.2.length<=i.2.1) (fun i=>hs.length - i.2.1) (_,0,[]) ⟨zL _,rfl,(fun x hx=>by cases hx),zL _⟩ (Af) ?_
 rintro⟨ck,i,Gi⟩ ⟨hi,AL,Fk,JH⟩;simp only at hi AL Fk JH;refine xy1 (fun c=>?_) (fun c=>?_)
 .have Aa:i<hs.length:=oM;have hg:=YH Aa;have hm:hs.getD i (0,⟨[],[]⟩)∈hs:=GQ Aa _;have Oy:hs.drop i=hs.getD i (0,⟨[],[]⟩)::hs.drop (i+1):=by rw[List.drop_eq_getElem_cons Aa,gE,gG Aa];rfl
  rw[Oy,List.foldl_cons] at AL;have w1:=Uw _ hm;have KG:=Gu _ hm;have R8:SL of Gi (hs.getD i (0,⟨[],[]⟩))=if(of (hs.getD i (0,⟨[],[]⟩)).2).2=true then Inf.gadd Gi ((hs.getD i (0,⟨[],[]⟩)).1,(of (hs.getD i (0,⟨[],[]⟩)).2).1) else Gi:=rfl
  rw[R8] at AL;clear R8;generalize hs.getD i (0,⟨[],[]⟩)=h at*;obtain⟨hu,EK⟩:=h;simp only[Ba] at hg w1 KG AL;generalize of EK=qo at*;obtain⟨q,o⟩:=qo;simp only at w1 KG AL;cases o with
  |false=>rw[iN dM] at AL;refine xk3 @hg ?_;intro K hK;refine CL [] [] false (w1) Bz Bz Ab Ab Ab Ab Ab Ab Ab Ab Ab Ab Ab Ab Ab Ab Ab ?_;refine xq7 ?_;refine hK _ ?_;clear hK K;refine uZ ?_;refine xy9 ?_;refine⟨(_,i+1,Gi),⟨uO,AL,Fk,uO⟩,uO,Af⟩|true=>
   rw[iP rfl] at AL;have KG:=KG rfl;have w2:=bv q hu Gi (Cp _ KG) (fun x hx e=>OH _ _ (Fk x hx) KG e) oM;have Qa:∀x∈Inf.gadd Gi (hu,q),Gd x.2:=fun x hx=>by
    rcases TV hx with e|⟨z,hz,e⟩
    .rw[e];exact KG
    rw[<-e];exact Fk z hz
   have RB:=P5 Gi (hu,q);unfold Kj at w2;generalize Inf.gadd Gi (hu,q)=Gn at*;refine xk3 @hg ?_;intro K hK;refine CL [] [] false (w1) Bz Bz Ab Ab Ab Ab Ab Ab Ab Ab Ab Ab Ab Ab Ab Ab Ab ?_;refine xq7 ?_;refine hK _ ?_;clear hK K;refine uZ ?_;refine uT ?_;refine uR ?_;intro K hK;refine uH ?_;refine CL [(0,0,106,6),(1,0,111,4),(2,0,301,12)] [(106,6,0,0),(111,4,1,0),(301,12,2,0)] false (w2) Bz Bz Ab Ab Ab Ab Ab Ab Ab Ab Ab Ab Ab Ab Ab Ab Ab ?_;refine xq7 ?_;refine hK _ ?_;clear hK K;refine uZ ?_;refine⟨(_,i+1,Gn),⟨uO,AL,Qa,uO⟩,uO,Af⟩
 refine At ?_;have Bx:i=hs.length:=oM;rw[Bx,List.drop_length,List.foldl_nil] at AL;rw[AL] at hr;refine xy1 (fun c0=>?_) (fun c0=>?_)
 .have WZ:Gi=[]:=List.eq_nil_of_length_eq_zero oM;rcases hr with ⟨_,rfl⟩|⟨h,_⟩
  .refine xz4 ?_;rw[show f80.results.toList=[.cell 4 33, .tmp 5] from rfl];first|refine Bn ?_|exact Bm
   rfl
  exact absurd WZ h
 rcases hr with ⟨h,_⟩|⟨Bj,L,RD,W5,rfl⟩
 .rw[h] at c0;simp at c0
 have wb:=bk bud (Gi.map Ba) (L.map Ba) (by simpa using Bj) (fun x hx=>by
  obtain⟨z,hz,rfl⟩:=List.mem_map.1 hx;exact(Cp _ (Fk z hz)).ky) vv2 (RD.map _) (by rw[List.pairwise_map];exact W5)
 have Qd:L.length=Gi.length:=RD.length_eq;unfold Kj at wb;refine uR ?_;intro K hK;refine uH ?_;refine CL [(0,0,106,6),(1,0,111,4),(2,0,301,12)] [(106,6,0,0),(111,4,1,0),(301,12,2,0)] false (wb) Bz Bz Ab Ab Ab Ab Ab Ab Ab Ab Ab Ab Ab Ab Ab Ab Ab ?_;refine xq7 ?_;refine hK _ ?_;clear hK K;refine Ay ?_;rw[show f80.results.toList=[.cell 4 33, .tmp 5] from rfl];exact Bm
end
def J5 (n:Nat):List AV:=List.replicate n (.sl [] true)
theorem zW (n:Nat):(J5 n).length=n:=by simp[J5]
theorem zY (n:Nat):J5 n++[.sl [] true]=J5 (n+1):=by simp[J5,List.replicate_succ']
theorem zT {f:AV->Prop} (n:Nat) (h:f (.sl [] true)):(∀e∈J5 n,∀c∈e.cells,f c)=True:=by refine eq_true fun e he c hc=>?_;obtain rfl:=(List.mem_replicate.1 he).2;rw[show(AV.sl [] true).cells=[.sl [] true] from rfl,List.mem_singleton] at hc;rw[hc];exact h
theorem zX {f:AV->AV} {v:AV} (n:Nat) (h:f (.sl [] true)=v):(J5 n).map (AH f)=List.replicate n v:=by rw[J5,List.map_replicate];congr 1
theorem Qb9 (n:Nat):List.replicate n (AV.sl [] false)=Ij (List.replicate n []):=by simp[Ij,As]
theorem zU (k n:Nat) (hp:Hp):(J5 n).map (AH (fz k hp))=Ij (List.replicate n []):=by rw[zX n (dI k hp [] true),Qb9]
theorem zV (k n:Nat) (hp:Hp):(∀e∈J5 n,∀c∈e.cells,fzP k hp c)=True:=zT n (by cases k<;>trivial)
attribute [go_sem] zW zY zU zV
def GN (xs:List Nd) (k:Nat):Pl:=⟨(List.range k).map fun i=>List.replicate (xs.getD i default).ln.toNat 0,List.replicate k []⟩
theorem cH (xs:List Nd) (k:Nat):(GN xs (k+1)).Q=(GN xs k).Q++[List.replicate (xs.getD k default).ln.toNat 0]:=by simp[GN,List.range_succ]
theorem TN (xs:List Nd) (k:Nat):(GN xs k).Q.length=k/\(GN xs k).R.length=k:=by simp[GN]
def F7 (y:Ly):Pl:=if Dp y=0 then GN y.U y.U.length else⟨[],[]⟩
theorem QbI (y:Ly) (hs:HW y) (C2:Dp y=0->0<y.U.length):Ag prog Ad 72 [] [y.av] [] (.tup [(F7 y).av,I (Dp y)]):=by
 have h1:=Z0 y hs;have hE:F7 y=_:=F7.eq_1 y;have AK:=fun h:Dp y=0=>fun i hi=>(⟨(J6 (Te h i hi)).1,(J6 (Te h i hi)).2.1⟩:0<=(y.U.getD i default).ln/\(y.U.getD i default).ln<=8);have hN:=hs.n;generalize F7 y=r at*;generalize Dp y=v at*;refine Am func72 ntmps72 ?_;intro w e X hC;refine uA ?_;refine xx9 h1 ?_;refine xy1 (fun c=>?_) (fun c=>?_)
 .rw[iN c] at hE;subst hE;refine xz4 ?_;rw[show f72.results.toList=[.cell 2 36, .tmp 3] from rfl];first|refine Bn ?_|exact Bm
  rfl
 have c':=Decidable.byContradiction c;rw[iP c'] at hE;replace AK:=AK c';replace C2:=C2 c';subst hE;refine xy4 ?_;refine Aw (fun q:Nat×Nat×Nat×Nat=>⟨[(1, .p 101 1 0 0 0),(2, .p 102 2 0 0 0),(5, .p 105 9 0 0 0),(15, .sl (AA y.U) false),(16,I y.U.length),(17,I q.2.1)],
  (105,some (9, .box [F8 q.2.1 (.l 127 q.2.2.1 0 q.2.1),F8 q.2.1 (.l 132 q.2.2.2 0 q.2.1)]))::(127,F9 q.2.1 (q.2.2.1, .own 22 1 (BI 3 (GN y.U q.2.1).Q)))::(132,F9 q.2.1 (q.2.2.2, .own 22 1 (J5 q.2.1)))::(102,some (2, .box [.sl [] true, .sl [] true]))::(101,some (1, .box [.sl (AA y.U) false, .sl (Ai y.D) false]))::[],q.1⟩)
  (fun q=>q.2.1<=y.U.length) (fun q=>y.U.length - q.2.1) (_,0,0,0) (zL _) (Af) ?_
 rintro⟨ck,i,g1,g2⟩ hi;simp only at hi;obtain⟨AR,-⟩:=TN y.U i;have e1:=cH y.U i;refine xy1 (fun h=>?_) (fun h=>?_)
 .have Aa:i<y.U.length:=oM;have Qm:=AK i Aa;generalize (GN y.U i).Q=o at*;generalize e2:y.U.getD i default=x at*;obtain⟨m,hm⟩:∃m:Nat,m=x.ln.toNat:=⟨_,rfl⟩;have DF:x.ln=(m:Int):=oM;rw[<-hm] at e1;by_cases CH:i=0
  .subst CH;simp only[Ji,Jj];obtain rfl:o=[]:=List.length_eq_zero_iff.1 AR;refine Bg (uI (AG Aa) (uI @e2 @DF)) ?_;refine xq2 @UT ?_;refine uZ ?_;refine⟨(_,0+1,ck+11,ck+17),uO,uO, .of (lR _) (Ax (uI @e1 (uI @FQ @FR))) A4⟩
  simp only[Hd CH,He CH];refine Bg (uI (AG Aa) (uI @e2 (uI @DF @AR))) ?_;refine xq2 @AR ?_;refine uZ ?_;refine⟨(_,i+1,g1,g2),uO,uO, .of (lR _) (Ax (uI @e1 (uI @FQ @FR))) A4⟩
 refine At ?_;obtain rfl:i=y.U.length:=oM;have IH:y.U.length≠0:=oM;simp only[Hd IH,He IH];refine xz4 ?_;rw[show f72.results.toList=[.cell 2 36, .tmp 3] from rfl];first|refine MZ @AR ?_|exact MY @AR
 rw[c'];rfl
theorem QdD (y:Ly) (hs:HW y) (C2:Dp y=0->0<y.U.length):Ag prog Ad 50 [] [y.av] [] (.tup [(F7 y).av,I (Dp y)]):=by
 have h1:=Zw y hs;have hE:F7 y=_:=F7.eq_1 y;have AK:=fun h:Dp y=0=>fun i hi=>(⟨(J6 (Te h i hi)).1,(J6 (Te h i hi)).2.1⟩:0<=(y.U.getD i default).ln/\(y.U.getD i default).ln<=8);have hN:=hs.n;generalize F7 y=r at*;generalize Dp y=v at*;refine Am func50 ntmps50 ?_;intro w e X hC;refine uA ?_;refine xx9 h1 ?_;refine xy1 (fun c=>?_) (fun c=>?_)
 .rw[iN c] at hE;subst hE;refine xz4 ?_;rw[show Tryz.f50.results.toList=[.cell 2 36, .tmp 3] from rfl];first|refine Bn ?_|exact Bm
  rfl
 have c':=Decidable.byContradiction c;rw[iP c'] at hE;replace AK:=AK c';replace C2:=C2 c';subst hE;refine xy4 ?_;refine Aw (fun q:Nat×Nat×Nat×Nat=>⟨[(1, .p 101 1 0 0 0),(2, .p 102 2 0 0 0),(5, .p 105 9 0 0 0),(6,I q.2.1)],(105,some (9, .box [F8 q.2.1 (.l 130 q.2.2.1 0 q.2.1),F8 q.2.1 (.l 134 q.2.2.2 0 q.2.1)]))::(130,F9 q.2.1 (q.2.2.1, .own 22 1 (BI 3 (GN y.U q.2.1).Q)))::(134,F9 q.2.1 (q.2.2.2, .own 22 1 (J5 q.2.1)))::(102,some (2, .box [.sl [] true, .sl [] true]))::(101,some (1, .box [.sl (AA y.U) false, .sl (Ai y.D) false]))::[],q.1⟩)
  (fun q=>q.2.1<=y.U.length) (fun q=>y.U.length - q.2.1) (_,0,0,0) (zL _) (Af) ?_
 rintro⟨ck,i,g1,g2⟩ hi;simp only at hi;obtain⟨AR,-⟩:=TN y.U i;have e1:=cH y.U i;refine xy1 (fun h=>?_) (fun h=>?_)
 .have Aa:i<y.U.length:=oM;have Qm:=AK i Aa;generalize (GN y.U i).Q=o at*;generalize e2:y.U.getD i default=x at*;obtain⟨m,hm⟩:∃m:Nat,m=x.ln.toNat:=⟨_,rfl⟩;have DF:x.ln=(m:Int):=oM;rw[<-hm] at e1;by_cases CH:i=0
  .subst CH;simp only[Ji,Jj];obtain rfl:o=[]:=List.length_eq_zero_iff.1 AR;refine xq2 (uI (AG Aa) (uI @e2 (uI @DF @UT))) ?_;refine uZ ?_;refine⟨(_,0+1,ck+15,ck+19),uO,uO, .of (lR _) (Ax (uI @e1 (uI @FQ @FR))) A4⟩
  simp only[Hd CH,He CH];refine xq2 (uI (AG Aa) (uI @e2 (uI @DF @AR))) ?_;refine uZ ?_;refine⟨(_,i+1,g1,g2),uO,uO, .of (lR _) (Ax (uI @e1 (uI @FQ @FR))) A4⟩
 refine At ?_;obtain rfl:i=y.U.length:=oM;have IH:y.U.length≠0:=oM;simp only[Hd IH,He IH];refine xz4 ?_;rw[show Tryz.f50.results.toList=[.cell 2 36, .tmp 3] from rfl];first|refine MZ @AR ?_|exact MY @AR
 rw[c'];rfl
open Go.Plant
def Hm (p:Pl) (b:Int):Int×Int×Bool:=if b=0 then(0,0,false) else GG p b
theorem xI {l:List Int} {b:Int}:DK (fun y=>decide (b=y)) l=DK (fun y=>decide (y=b)) l:=by
 have:(fun y:Int=>decide (b=y))=fun y=>decide (y=b):=by
  funext y
  by_cases h:b=y
  .subst h;rfl
  rw[dF h,dF (fun h2=>h h2.symm)]
 rw[this]
theorem xH {l:List Int} {b:Int}:(b∈l/\∃k:Nat,k<l.length/\DK (fun y=>decide (y=b)) l=k/\(l.findIdx? fun x=>decide (x=b))=some k)\/(b∉l/\DK (fun y=>decide (y=b)) l=-1):=by
 by_cases h:b∈l
 .refine .inl ⟨h,?_⟩;cases hf:(l.findIdx? fun x=>decide (x=b)) with
  |none=>rw[List.findIdx?_eq_none_iff] at hf;have:=hf b h;simp at this|some k=>have h2:=hf;rw[List.findIdx?_eq_some_iff_getElem] at h2;obtain⟨h3,_⟩:=h2;exact⟨k,h3,by rw[DK,hf],rfl⟩
 refine .inr ⟨h,?_⟩;have:(l.findIdx? fun x=>decide (x=b))=none:=by rw[List.findIdx?_eq_none_iff];intro x hx;simp only[decide_eq_false_iff_not];rintro rfl;exact h hx
 rw[DK,this]
theorem jp (p:Pl) (b:Int) (h1:p.Q.length<=1000) (h2:p.R.length<=1000) (h3:∀i,i<p.Q.length->(p.Q.getD i []).length<=1000) (h4:∀i,i<p.R.length->(p.R.getD i []).length<=1000):
  Ag prog Ad 90 [] [p.av,I b] [] (Z1 (Hm p b)):=by
 refine Am func90 ntmps90 ?_;intro w e X hC;refine xy1 (fun c0=>?_) (fun c0=>?_)
 .have hE:Hm p b=(0,0,false):=iP c0;rw[hE];exact xw2
 have hE:Hm p b=GG p b:=iN c0;rw[hE];refine xy4 ?_;refine Aw (fun q:Nat×Nat=>⟨[(1,I b),(2, .p 102 1 0 0 0),(4, .p 104 2 0 0 0),(15,RS p.Q),(16,I p.Q.length),(17,I q.2)],(102,some (1, .box [RS p.Q,RS p.R]))::(104,some (2, .box [I 0,I 0]))::[],q.1⟩) (fun q=>q.2<=p.Q.length/\∀j,j<q.2->b∉p.Q.getD j []) (fun q=>p.Q.length - q.2) (_,0) ⟨zL _,fun j hj=>absurd hj (nZ _)⟩ (Af) ?_;rintro⟨ck,i⟩ ⟨hi,hj⟩;simp only at hi hj;refine xy1 (fun h=>?_) (fun h=>?_)
 .have Aa:i<p.Q.length:=oM;have OW:=h3 i Aa;have B8:=fun h=>TT Aa h hj;have Gu:b∉p.Q.getD i []->∀j,j<i+1->b∉p.Q.getD j []:=fun h j Ah=>by
   by_cases AF:j=i
   .subst AF;exact h
   exact hj j oM
  have vg:=xH (l:=p.Q.getD i []) (b:=b);have JM:(p.Q.findIdx? fun r=>decide (b∈r))=some i->GG p b=((i:Int),((((p.Q.getD i []).findIdx? fun x=>decide (x=b)).getD 0:Nat):Int),true):=fun h=>by rw[GG,iN c0,h]
  generalize e1:p.Q.getD i []=sl at*;have Bk:=gV sl b oM;rw[xI] at Bk;generalize DK (fun y=>decide (y=b)) sl=ix at*;refine Ac (uI (BF Aa) @e1) ?_;refine xx9 Bk ?_;refine uZ ?_;rcases vg with ⟨hm,k,hk,rfl,hf⟩|⟨hm,rfl⟩
  .have hw:=JM (B8 hm);rw[hf] at hw;rw[hw];refine GF (fun h5=>?_) (fun h5=>?_)
   .exact xw2
   omega
  refine GF (fun h5=>?_) (fun h5=>?_)
  .omega
  refine uZ ?_;refine⟨(_,i+1),⟨uO,Gu hm⟩,uO,Af⟩
 refine At ?_;obtain rfl:i=p.Q.length:=oM;have CP:=TS hj;have JM:GG p b=(match p.R.findIdx? fun r=>decide (b∈r) with|some n=>((n:Int),-1,true)|none=>(0,0,false)):=by rw[GG,iN c0,CP];rfl
 rw[JM];refine xy4 ?_;refine Aw (fun q:Nat×Nat=>⟨[(1,I b),(2, .p 102 1 0 0 0),(4, .p 104 2 0 0 0),(32,RS p.R),(33,I p.R.length),(34,I q.2)],(102,some (1, .box [RS p.Q,RS p.R]))::(104,some (2, .box [I 0,I 0]))::[],q.1⟩) (fun q=>q.2<=p.R.length/\∀j,j<q.2->b∉p.R.getD j []) (fun q=>p.R.length - q.2) (_,0) ⟨zL _,fun j hj=>absurd hj (nZ _)⟩ (Af) ?_;rintro⟨ck2,i⟩ ⟨hi,GX⟩;simp only at hi GX;refine xy1 (fun h5=>?_) (fun h5=>?_)
 .have Aa:i<p.R.length:=oM;have OW:=h4 i Aa;have B8:=fun h=>TT Aa h GX;have Gu:b∉p.R.getD i []->∀j,j<i+1->b∉p.R.getD j []:=fun h j Ah=>by
   by_cases AF:j=i
   .subst AF;exact h
   exact GX j oM
  generalize e1:p.R.getD i []=sl at*;have Bk:=TH sl b oM;have Qf:sl.any (fun y=>decide (b=y))=decide (b∈sl):=by
   rw[Bool.eq_iff_iff,List.any_eq_true,decide_eq_true_eq];constructor
   .rintro⟨z,hz,h⟩;rw[decide_eq_true_eq] at h;rw[h];exact hz
   intro h;exact⟨b,h,sM⟩
  rw[Qf] at Bk;refine Ac (uI (BF Aa) @e1) ?_;refine xx9 Bk ?_;refine GF (fun h6=>?_) (fun h6=>?_)
  .have:=B8 h6;rw[this];exact xw2
  refine uZ ?_;refine⟨(_,i+1),⟨uO,Gu h6⟩,uO,Af⟩
 refine At ?_;obtain rfl:i=p.R.length:=oM;rw[TS GX];exact xw2
def QJ (s:List Int) (b:Int):Bool:=!(decide (s.length=0)||(decide (¬s.getD 0 0=0)||decide (b=0)))
theorem QbR (s:List Int) (b:Int) (hs:s.length<=1000) (h:QJ s b=true):Ag prog Ad 140 [] [IS s,I b] [(100,some (1, .own 3 1 (As (s.set 0 b))))] (.tup [.l 100 1 0 s.length,B true]):=by simp only[QJ,Bool.not_eq_true',Bool.or_eq_false_iff,decide_eq_false_iff_not] at h;obtain⟨h0,h1,h2⟩:=h;have d0:=uDf ((s.length:Int)=0);have d1:decide (¬s.getD 0 0=0)=false:=dF h1;have d2:decide (b=0)=false:=dF h2;have DR:0<s.length:=oM;refine Am func140 ntmps140 ?_;intro w e X hC;refine uZ ?_;refine xz2 (uI @d0 (uI (Ao DR) (uI @Int.toNat_zero (uI @d1 @d2)))) ?_;refine uF ?_;refine uR ?_;intro K hK;refine CL [] [(121,17,100,1)] false ((bF s DR hs)) Bz Bz Ab Ab Ab Ab Ab Ab Ab Ab Ab Ab Ab Ab Ab Ab Ab ?_;refine DM ?_;refine hK _ ?_;clear hK K;refine xz4 ?_;rw[show f140.results.toList=[.tmp 4, .tmp 5] from rfl];(refine DB [(100,1,121,17)] D4 sM sM sM Bp Bp Bp ?_ ?_;all_goals (first|refine Fb ?_|exact Fc|skip))
theorem QbP (s:List Int) (b:Int) (hs:s.length<=1000) (h:QJ s b=false):Ag prog Ad 140 [] [IS s,I b] [] (.tup [.sl [] false,B false]):=by
 simp only[QJ,Bool.not_eq_false',Bool.or_eq_true,decide_eq_true_eq] at h;refine Am func140 ntmps140 ?_;intro w e X hC;refine uZ ?_;by_cases h0:s.length=0
 .have d0:=uDt ((s.length:Int)=0);refine xy8 @d0 ?_;refine xq0 ?_;rw[show f140.results.toList=[.tmp 4, .tmp 5] from rfl];exact Bm
 have d0:=uDf ((s.length:Int)=0);have DR:0<s.length:=oM;by_cases h1:s.getD 0 0=0
 .have d1:decide (¬s.getD 0 0=0)=false:=dF (fun h=>h h1);have d2:decide (b=0)=true:=dT ((h.resolve_left h0).resolve_left (fun h=>h h1));refine xz2 (uI @d0 (uI (Ao DR) (uI @Int.toNat_zero (uI @d1 @d2)))) ?_;refine xq0 ?_;rw[show f140.results.toList=[.tmp 4, .tmp 5] from rfl];exact Bm
 have d1:decide (¬s.getD 0 0=0)=true:=dT h1;refine xz2 (uI @d0 (uI (Ao DR) (uI @Int.toNat_zero @d1))) ?_;refine xq0 ?_;rw[show f140.results.toList=[.tmp 4, .tmp 5] from rfl];exact Bm
def CS (y:Ly) (p:Pl) (node bag:Int):Pl×Int:=
 if node<0\/y.U.length<=node\/bag<1\/40<bag then(⟨[],[]⟩,1)
 else if ¬(y.U.getD node.toNat default).kd=1 then(⟨[],[]⟩,4)
 else if(GG p bag).2.2=true then(⟨[],[]⟩,5)
 else if ¬(p.Q.getD node.toNat []).getD 0 0=0 then(⟨[],[]⟩,8)
 else(⟨p.Q.set node.toNat ((p.Q.getD node.toNat []).set 0 bag),p.R⟩,0)
theorem Qbz (y:Ly) (p:Pl) (node bag:Int) (hp:FB y.U p):Ag prog Ad 82 [] [y.av,p.av,I node,I bag] [] (.tup [(CS y p node bag).1.av,I (CS y p node bag).2]):=by
 have C4:=hp.xl;have C3:=hp.sl;have Al:=hp.bl;have BJ:∀i,i<p.Q.length->(p.Q.getD i []).length<=1000:=fun i hi=>by rw[hp.sl] at hi;have:=hp.row i hi;have:=hp.ln i hi;omega
 have BE:∀i,i<p.R.length->(p.R.getD i []).length<=1000:=fun i hi=>by rw[hp.bl] at hi;have:=hp.bin i hi;omega
 have Qw:=jp p bag oM oM BJ BE;have Cy:=bE p oM oM BJ BE;have hE:CS y p node bag=_:=CS.eq_1 y p node bag;generalize CS y p node bag=r at*;refine Am func82 ntmps82 ?_;intro w e X hC;refine uZ ?_;cases d1:decide (node<0) with
 |true=>
  rw[iP (.inl (oT d1))] at hE;subst hE;refine xy8 @d1 ?_;refine xq0 ?_;rw[show f82.results.toList=[.cell 8 36, .tmp 9] from rfl];first|refine Bn ?_|exact Bm
  rfl
 |false=>
 have g1:=oF d1;cases d2:decide ((y.U.length:Int)<=node) with
 |true=>
  rw[iP (.inr (.inl (oT d2)))] at hE;subst hE;refine xy8 (uI @d1 @d2) ?_;refine xq0 ?_;rw[show f82.results.toList=[.cell 8 36, .tmp 9] from rfl];first|refine Bn ?_|exact Bm
  rfl
 |false=>
 have g2:=oF d2;cases d3:decide (bag<1) with
 |true=>
  rw[iP (.inr (.inr (.inl (oT d3))))] at hE;subst hE;refine xy8 (uI @d1 (uI @d2 @d3)) ?_;refine xq0 ?_;rw[show f82.results.toList=[.cell 8 36, .tmp 9] from rfl];first|refine Bn ?_|exact Bm
  rfl
 |false=>
 have g3:=oF d3;cases d4:decide (40<bag) with
 |true=>
  rw[iP (.inr (.inr (.inr (oT d4))))] at hE;subst hE;refine xy8 (uI @d1 (uI @d2 (uI @d3 @d4))) ?_;refine xq0 ?_;rw[show f82.results.toList=[.cell 8 36, .tmp 9] from rfl];first|refine Bn ?_|exact Bm
  rfl
 |false=>
 have g4:=oF d4;rw[iN (fun h=>by rcases h with h|h|h|h<;>omega)] at hE;obtain⟨m,hm⟩:∃m,m=node.toNat:=⟨_,rfl⟩;have DF:node=(m:Int):=oM;rw[<-hm] at hE;subst DF;have CW:m<y.U.length:=oM;have FM:m<p.Q.length:=oM;have AM:=hp.st m CW;have NG:=hp.row m CW;have Ej:=BJ m FM;have hw:Hm p bag=GG p bag:=iN oM;rw[hw] at Qw;generalize GG p bag=wq at*;obtain⟨q1,q2,q3⟩:=wq;simp only at hE Qw;generalize e2:y.U.getD m default=x at*;generalize e3:p.Q.getD m []=sl at*;refine xy8 (uI @d1 (uI @d2 (uI @d3 @d4))) ?_;refine xq8 (uI (AG CW) @e2) ?_;refine GF (fun c1=>?_) (fun c1=>?_)
 .rw[iP c1] at hE;subst hE;refine xz4 ?_;rw[show f82.results.toList=[.cell 8 36, .tmp 9] from rfl];first|refine Bn ?_|exact Bm
  rfl
 rw[iN c1] at hE;have c1':x.kd=1:=Decidable.byContradiction c1;have DR:0<sl.length:=by have:=AM (by rw[c1'];decide);omega
 refine xz1 Qw ?_;refine uZ ?_;cases q3 with
 |true=>
  rw[iP rfl] at hE;subst hE;refine xq0 ?_;rw[show f82.results.toList=[.cell 8 36, .tmp 9] from rfl];first|refine Bn ?_|exact Bm
  rfl
 |false=>
 rw[iN dM] at hE;refine uF ?_;refine xy1 (fun c2=>?_) (fun c2=>?_)
 .omega
 by_cases c3:sl.getD 0 0=0
 .rw[iN (fun h=>h c3)] at hE;subst hE;have X7:=QbR sl bag Ej (by
   simp only[QJ,Bool.not_eq_true',Bool.or_eq_false_iff,decide_eq_false_iff_not];exact⟨oM,fun h=>h c3,oM⟩)
  refine Av (uI (BF FM) @e3) ?_;intro K hK;refine uH ?_;refine CL [] [(162,50,100,1)] false (X7) Bz Bz Ab Ab Ab Ab Ab Ab Ab Ab Ab Ab Ab Ab Ab Ab Ab ?_;refine DM ?_;refine hK _ ?_;clear hK K;refine uZ ?_;refine uF ?_;refine uR ?_;intro K hK;have z:=@Bool.or_true;refine CL [] [(169,59,100,1),(401,59,101,1)] false (Cy) (Ke z) (Ke z) (AW z) (AW z) (AW z) (AW z) (AW z) (AW z) (AW z) (AW z) (AW z) (AW z) (AW z) (AW z) (AW z) (AW z) (AW z) ?_;refine QV z ?_;clear z;refine hK _ ?_;clear hK K;refine xz4 ?_;rw[show f82.results.toList=[.cell 8 36, .tmp 9] from rfl];exact Bm
 rw[iP c3] at hE;subst hE;have X7:=QbP sl bag Ej (by
  simp only[QJ,Bool.not_eq_false',Bool.or_eq_true,decide_eq_true_eq];exact .inr (.inl c3))
 refine Av (uI (BF FM) @e3) ?_;intro K hK;refine xw1 X7 ?_;refine hK _ ?_;clear hK K;refine uZ ?_;refine xq0 ?_;rw[show f82.results.toList=[.cell 8 36, .tmp 9] from rfl];first|refine Bn ?_|exact Bm
 rfl
open Go.Plant
theorem Qb8 (y:Ly) (p:Pl) (node bag:Int) (hp:FB y.U p):Ag prog Ad 51 [] [y.av,p.av,I node,I bag] [] (.tup [(CS y p node bag).1.av,I (CS y p node bag).2]):=by
 have C4:=hp.xl;have C3:=hp.sl;have Al:=hp.bl;have BJ:∀i,i<p.Q.length->(p.Q.getD i []).length<=1000:=fun i hi=>by rw[hp.sl] at hi;have:=hp.row i hi;have:=hp.ln i hi;omega
 have BE:∀i,i<p.R.length->(p.R.getD i []).length<=1000:=fun i hi=>by rw[hp.bl] at hi;have:=hp.bin i hi;omega
 have Qw:=QgY p bag oM oM BJ (fun i hi=>by have:=BE i hi;omega);have Cy:=fun h=>bX p ⟨h,oM⟩ ⟨oM,oM⟩ BJ BE;have hE:CS y p node bag=_:=CS.eq_1 y p node bag;generalize CS y p node bag=r at*;refine Am func51 ntmps51 ?_;intro w e X hC;refine uZ ?_;cases d1:decide (node<0) with
 |true=>
  rw[iP (.inl (oT d1))] at hE;subst hE;refine xy8 @d1 ?_;refine xq0 ?_;rw[show f51.results.toList=[.cell 8 36, .tmp 9] from rfl];first|refine Bn ?_|exact Bm
  rfl
 |false=>
 have g1:=oF d1;cases d2:decide ((y.U.length:Int)<=node) with
 |true=>
  rw[iP (.inr (.inl (oT d2)))] at hE;subst hE;refine xy8 (uI @d1 @d2) ?_;refine xq0 ?_;rw[show f51.results.toList=[.cell 8 36, .tmp 9] from rfl];first|refine Bn ?_|exact Bm
  rfl
 |false=>
 have g2:=oF d2;cases d3:decide (bag<1) with
 |true=>
  rw[iP (.inr (.inr (.inl (oT d3))))] at hE;subst hE;refine xy8 (uI @d1 (uI @d2 @d3)) ?_;refine xq0 ?_;rw[show f51.results.toList=[.cell 8 36, .tmp 9] from rfl];first|refine Bn ?_|exact Bm
  rfl
 |false=>
 have g3:=oF d3;cases d4:decide (40<bag) with
 |true=>
  rw[iP (.inr (.inr (.inr (oT d4))))] at hE;subst hE;refine xy8 (uI @d1 (uI @d2 (uI @d3 @d4))) ?_;refine xq0 ?_;rw[show f51.results.toList=[.cell 8 36, .tmp 9] from rfl];first|refine Bn ?_|exact Bm
  rfl
 |false=>
 have g4:=oF d4;rw[iN (fun h=>by rcases h with h|h|h|h<;>omega)] at hE;obtain⟨m,hm⟩:∃m,m=node.toNat:=⟨_,rfl⟩;have DF:node=(m:Int):=oM;rw[<-hm] at hE;subst DF;have CW:m<y.U.length:=oM;have FM:m<p.Q.length:=oM;have AM:=hp.st m CW;have NG:=hp.row m CW;have Ej:=BJ m FM;generalize GG p bag=wq at*;obtain⟨q1,q2,q3⟩:=wq;simp only at hE Qw;generalize e2:y.U.getD m default=x at*;generalize e3:p.Q.getD m []=sl at*;refine xy8 (uI @d1 (uI @d2 (uI @d3 @d4))) ?_;refine xq8 (uI (AG CW) @e2) ?_;refine GF (fun c1=>?_) (fun c1=>?_)
 .rw[iP c1] at hE;subst hE;refine xz4 ?_;rw[show f51.results.toList=[.cell 8 36, .tmp 9] from rfl];first|refine Bn ?_|exact Bm
  rfl
 rw[iN c1] at hE;have c1':x.kd=1:=Decidable.byContradiction c1;have DR:0<sl.length:=by have:=AM (by rw[c1'];decide);omega
 refine xz1 Qw ?_;refine uZ ?_;cases q3 with
 |true=>
  rw[iP rfl] at hE;subst hE;refine xq0 ?_;rw[show f51.results.toList=[.cell 8 36, .tmp 9] from rfl];first|refine Bn ?_|exact Bm
  rfl
 |false=>
 rw[iN dM] at hE;refine xq8 (uI (BF FM) (uI @e3 (uI (Ao DR) @Int.toNat_zero))) ?_;refine GF (fun c3=>?_) (fun c3=>?_)
 .rw[iP c3] at hE;subst hE;refine xz4 ?_;rw[show f51.results.toList=[.cell 8 36, .tmp 9] from rfl];first|refine Bn ?_|exact Bm
  rfl
 rw[iN c3] at hE;subst hE;refine uR ?_;intro K hK;have z:=@Bool.or_true;refine CL [] [(157,48,100,1),(401,48,101,1)] false ((Cy oM)) (Ke z) (Ke z) (AW z) (AW z) (AW z) (AW z) (AW z) (AW z) (AW z) (AW z) (AW z) (AW z) (AW z) (AW z) (AW z) (AW z) (AW z) ?_;refine QV z ?_;clear z;refine hK _ ?_;clear hK K;(repeat first|refine A5 ?_|refine BQ ?_|refine B5 ?_);refine Ep hC rfl fun K hK=>?_;simp only[go_sem,seval,O7 FM,e3,Int.toNat_zero]
 refine uH ?_;refine hK _ ?_;clear hK K;have Sv:∀v,((BI 3 p.Q).set m v).getD m .bad=v:=fun v=>by rw[Ef,iP ⟨rfl,by rw[O8];exact FM⟩]
 have Fm:(sl.set 0 bag).length=sl.length:=List.length_set;refine V4 (id:=157) (gi:=48) (t:=22) (k:=1) (i:=m) (rid:=162) (rg:=55) (n:=sl.length) rfl (by rw[List.length_set,O8];exact FM) (Sv _) dM ?_ ?_
 .simp only[go_sem,seval,attP,Fm]
 simp only[go_sem,seval,att,List.set_set];refine xz4 ?_;rw[show f51.results.toList=[.cell 8 36, .tmp 9] from rfl];exact Bm
open Go.Plant Go.Inf
theorem qn (y:Ly) (p:Pl) (node bag:Int) (hp:FB y.U p):Ag prog Ad 81 [] [p.av, .P [.sl (AA y.U) false, .sl (Ai y.D) false], .P [I node], .P [I bag]] [] (.tup [(CS y p node bag).1.av,B (decide ((CS y p node bag).2=0))]):=by have h1:=Qbz y p node bag hp;generalize CS y p node bag=qe at*;obtain⟨q,e⟩:=qe;simp only at h1 ⊢;refine Am func81 ntmps81 ?_;intro w e X hC;refine xz8 ?_;refine xy5 h1 ?_;refine xz4 ?_;rw[show f81.results.toList=[.cell 5 36, .tmp 6] from rfl];exact Bm
def Fh (y:Ly) (node bag:Int) (p:Pl):Pl×Bool:=((CS y p node bag).1,decide ((CS y p node bag).2=0))
theorem gT (y:Ly) (bud:Int) (hs:List AY) (n:Nat) (bag:Int) {Gd:Pl->Prop} (hny:y.U.length<=1000) (hn:n<y.U.length) (hb:1<=bag/\bag<=40) (GY:(y.U.getD n default).kd=1) (C3:hs.length<=900) (R1:∀h∈hs,FB y.U h.2)
  (Gu:∀h∈hs,(Fh y n bag h.2).2=true->Gd (Fh y n bag h.2).1) (Cp:∀q,Gd q->M1 q) (OH:∀a b,Gd a->Gd b->B3 (AZ a)=B3 (AZ b)->a=b) (r:D5) (e:Int)
  (hr:(Ha (Fh y n bag) hs=[]/\r=⟨0,[]⟩/\e=11)\/
   (Ha (Fh y n bag) hs≠[]/\∃L:List AY,L.Perm (Ha (Fh y n bag) hs)/\(L.Pairwise fun a b=>CJ (AZ a.2) (AZ b.2)=true)/\r=⟨bud,L.map Ba⟩/\e=0)):
  Ag prog Ad 32 [] [y.av,(D5.mk bud (hs.map Ba)).av,I n,I bag] [] (.tup [r.av,I e]):=by
 have h1:=yn (bud:=bud) (kf:=81) (cp:=[[.sl (AA y.U) false, .sl (Ai y.D) false],[I n],[I bag]]) (of:=Fh y n bag) hs C3 (fun h hh=>qn y h.2 n bag (R1 h hh)) Gu Cp OH (.tup [r.av,I e]) (by
  rcases hr with ⟨h1,h2,h3⟩|⟨h1,L,h2,h3,h4,h5⟩
  ·exact .inl ⟨h1,by rw[h2,h3]⟩
  exact .inr ⟨h1,L,h2,h3,by rw[h4,h5]⟩)
 have hg:=AG hn;have d0:=uDf ((n:Int)<0);have d1:=uDf ((y.U.length:Int)<=(n:Int));have d2:=uDf (bag<1);have d3:=uDf (40<bag);obtain⟨rb,rl⟩:=r;generalize y.U.getD n default=x at*;refine Am func32 ntmps32 ?_;intro w e X hC;refine Bg (uI @d0 (uI @d1 (uI @d2 @d3))) ?_;refine xq8 (uI @hg @GY) ?_;refine uF ?_;refine uR ?_;refine xy6 h1 ?_;refine xz4 ?_;rw[show f32.results.toList=[.cell 8 33, .tmp 9] from rfl];exact Bm
open Go.Plant Go.Inf
theorem ye (l:List BU) (k:Nat) (cs:List AV) (p:BU->Bool) (hl:l.length<=1000) (hk:∀y∈l,Ag prog Ad k [] [y.av, .P cs] [] (B (p y))):Ag prog Ad 154 [] [.sl (BY l) false, .fn k [.P cs]] [] (I (DK p l)):=by
 refine Am func154 ntmps154 ?_;intro w e X hC;refine xy4 ?_;refine Aw (fun i:Nat×Nat=>⟨[(1, .fn k [.P cs]),(0, .sl (BY l) false),(6, .sl (BY l) false),(7,I l.length),(8,I i.2)],[],i.1⟩) (fun i=>i.2<=l.length/\∀j,j<i.2->p (l.getD j default)=false) (fun i=>l.length - i.2) (_,0) ⟨zL _,fun j hj=>absurd hj (nZ _)⟩ (Af) ?_;rintro⟨ck,i⟩ ⟨hi,hj⟩;simp only at hi hj;refine xy1 (fun h=>?_) (fun h=>?_)
 .have Aa:i<l.length:=oM;have Bk:=hk (l.getD i default) (Fs Aa);cases c1:p (l.getD i default) with
  |true=>
   have e1:=Kr (p:=p) (d:=default) Aa hj c1;rw[c1] at Bk;refine xw0 (SF Aa) Bk ?_;refine xq4 ?_;try rfl
   exact Aq @e1
  |false=>
   rw[c1] at Bk;refine xw0 (SF Aa) Bk ?_;refine xy9 ?_;refine⟨(_,i+1),⟨uO,fun j Ah=>?_⟩,uO,Af⟩;by_cases AF:j=i
   .subst AF;exact c1
   exact hj j vv6
 refine At ?_;have e1:=Lf (l:=l) (p:=p) fun j h=>hj j oM;refine xz3 ?_;try rfl
 exact Aq @e1
theorem pN (l:List BU) (k:Nat) (cs:List AV) (p:BU->Bool) (hl:l.length<=1000) (hk:∀y∈l,Ag prog Ad k [] [y.av, .P cs] [] (B (p y))):Ag prog Ad 96 [] [.sl (BY l) false, .fn k [.P cs]] [] (B (l.any p)):=by
 refine Am func96 ntmps96 ?_;intro w e X hC;refine xw4 ((ye l k cs p hl hk)) ?_;try rfl
 exact Aq @IK
theorem QbE (y:Ly) (x:BU) (ord:List Int) (hp:FB y.U x.pl):Ag prog Ad 114 [] [x.av, .P [.P (Df y ord)]] [] (B false):=by have h1:=qN y x.pl ord hp;obtain⟨xu,xs,xb⟩:=x;simp only[BU.pl] at h1;refine Am func114 ntmps114 ?_;intro w e X hC;refine xz8 ?_;intro K hK;refine xw6 h1 ?_;refine hK _ ?_;clear hK K;exact uP
theorem QbF (y:Ly) (bud:Int) (hs:List AY) (G0:HW y) (hv:Dp y=0) (hr:N2 y.U) (C3:hs.length<=1000) (R1:∀h∈hs,FB y.U h.2):
  Ag prog Ad 65 [] [y.av,(D5.mk bud (hs.map Ba)).av] [] (.tup [.P (Df y (Dz y.U)),B true]):=by
 have h1:=qk y G0 hv hr;have h2:=pN (hs.map Ba) 114 [.P (Df y (Dz y.U))] (fun _=>false) (by simpa using C3) (fun x hx=>by
  obtain⟨z,hz,rfl⟩:=List.mem_map.1 hx;exact QbE y (Ba z) (Dz y.U) (R1 z hz))
 have e1:(hs.map Ba).any (fun _=>false)=false:=sM;rw[e1] at h2;refine Am func65 ntmps65 ?_;intro w e X hC;refine xz8 ?_;refine xy6 h1 ?_;refine uR ?_;intro K hK;refine xw6 h2 ?_;refine hK _ ?_;clear hK K;refine xk1 ?_;rw[show f65.results.toList=[.tmp 4, .tmp 5] from rfl];exact Bm
open Go.Plant Go.Inf
theorem g8 (y:Ly) (bud:Int) (hs:List AY) (cs:List Int) (pl:List T3) (rs:List Dh) (G0:HW y) (hv:Dp y=0) (hr:N2 y.U) (C3:hs.length<=1000) (R1:∀h∈hs,FB y.U h.2) (Cy:cs.length<=1000) (hex:∀n,n<y.U.length->(y.U.getD n default).ex.length<=500)
  (hb:Hf y.U cs []=0) (hl:rs.length=y.D.length) (Ej:rs.length<=1000) (hd:∀i,i<rs.length->(rs.getD i default).dv=(i:Int)) (r:D5) (e:Int)
  (ha:Ag prog Ad 67 [] [.P (Df y (Dz y.U)),(D5.mk bud (hs.map Ba)).av,IS cs, .fn 68 [.P [.sl (Eu rs) false], .P [.sl (AA y.U) false, .sl (Ai y.D) false], .P [.sl (Ai pl) false], .P [I bud, .sl (BY (hs.map Ba)) false]]] [] (.tup [r.av,I e])):
  Ag prog Ad 21 [] [y.av,(D5.mk bud (hs.map Ba)).av,IS cs, .sl (Ai pl) false, .sl (Eu rs) false] [] (.tup [r.av,I e]):=by
 have h1:=QbF y bud hs G0 hv hr C3 R1;have h2:Ag prog Ad 66 [] [.P (Df y (Dz y.U)),IS cs, .sl [] false] [] (I 0):=by have:=Qb7 y (Dz y.U) cs [] G0.n Cy (zL _) hex;rw[hb] at this;exact this
 have d0:=uDf ((rs.length:Int)≠(y.D.length:Int));obtain⟨rb,rl⟩:=r;refine Am func21 ntmps21 ?_;intro w e X hC;refine xz8 ?_;refine xy6 h1 ?_;refine uZ ?_;refine uF ?_;refine uR ?_;intro K hK;refine xw6 h2 ?_;refine hK _ ?_;clear hK K;refine uZ ?_;refine xq8 @d0 ?_;refine uF ?_;refine xy4 ?_;refine Aw (fun i:Nat×Nat=>⟨[(2,IS cs),(5, .p 105 1 0 0 0),(6, .p 106 2 0 0 0),(8, .p 108 3 0 0 0),(9, .p 109 4 0 0 0),(10, .p 110 5 0 0 0),(11,I 0),(12, .P (Df y (Dz y.U))),(40, .sl (Eu rs) false),(41,I rs.length),(42,I i.2)],(110,some (5, .box [I 0, .sl [] true]))::(109,some (4, .box [.sl (Eu rs) false]))::(108,some (3, .box [.sl (Ai pl) false]))::(106,some (2, .box [I bud, .sl (BY (hs.map Ba)) false]))::(105,some (1, .box [.sl (AA y.U) false, .sl (Ai y.D) false]))::[],i.1⟩)
  (fun i=>i.2<=rs.length) (fun i=>rs.length - i.2) (_,0) (zL _) (Af) ?_
 rintro⟨ck,i⟩ hi;simp only at hi;refine xy1 (fun c=>?_) (fun c=>?_)
 .have Aa:i<rs.length:=oM;have hg:=SY Aa;have Oz:=hd i Aa;generalize rs.getD i default=x at*;refine Bg (uI @hg @Oz) ?_;refine xy9 ?_;refine⟨(_,i+1),uO,uO,Af⟩
 refine At ?_;refine uR ?_;refine xy6 ha ?_;refine Ay ?_;rw[show Tryz.f21.results.toList=[.cell 10 33, .tmp 11] from rfl];exact Bm
open Go.Plant Go.Inf
def LJ (l:List Int) (c:Int) (a:Nat):Nat->List T3
 |0=>[]|i+1=>LJ l c a i++[⟨0,117+c,(i:Int)*(1+gN l (a+i) 2)⟩]
theorem zZ (l:List Int) (c:Int) (a:Nat):Ai (LJ l c a 0)=[]:=rfl
theorem U1 (l:List Int) (c:Int) (a:Nat):∀i,(LJ l c a i).length=i
 |0=>rfl|i+1=>by rw[LJ,aL,U1 l c a i];rfl
def Rg (o:List T3) (i j:Nat):List T3:=if CD (o.getD j default) (o.getD i default)=true then o.set i ⟨1,(o.getD i default).b,i⟩ else o
def Ma (o:List T3) (i:Nat):Nat->List T3
 |0=>o|j+1=>Rg (Ma o i j) i j
def L9 (o:List T3):Nat->List T3
 |0=>o|i+1=>Ma (L9 o i) i i
theorem pR (o:List T3) (i j:Nat):(Rg o i j).length=o.length:=by unfold Rg;split<;>simp
theorem Wn (o:List T3) (i:Nat):∀j,(Ma o i j).length=o.length
 |0=>rfl|j+1=>by rw[Ma,pR,Wn o i j]
theorem Wm (o:List T3):∀i,(L9 o i).length=o.length
 |0=>rfl|i+1=>by rw[L9,Wn,Wm o i]
def IM (l:List Int) (a:Nat):List T3:=L9 (LJ l (gN l a 3) (a+1) 40) 40
theorem Qal (l:List Int) (a:Nat):(IM l a).length=40:=by rw[IM,Wm,U1]
theorem Qam (l:List Int) (a:Nat) (hf:GI l):Ag prog Ad 13 (Cf l a) [.p 0 0 0 0 0] (Cf l (a+41)) (.sl (Ai (IM l a)) false):=by
 have hc:=Lh (l:=l) (a:=a) (n:=3) dM;unfold IM;refine Am func13 ntmps13 ?_;intro w e X hC;refine xz8 ?_;intro K hK;refine CY rfl ((Nk l a 3 hf dM)) Ak Ak Ak Ak Ak ?_;refine uS ?_;refine hK _ ?_;clear hK K;generalize gN l a 3=c0 at*;refine xy4 ?_;refine Aw (fun i:Nat×Nat=>⟨[(0, .p 0 0 0 0 0),(3, .l 103 2 0 i.2),(4,I c0),(5,I i.2)],(103,some (2, .own 92 3 (Ai (LJ l c0 (a+1) i.2))))::Cf l (a+1+i.2),i.1⟩) (fun i=>i.2<=40) (fun i=>40 - i.2) (_,0) (zL _) (.of (lR _) (Ax @zZ) A4) ?_;rintro⟨ck,i⟩ hi;simp only at hi;refine xy1 (fun c=>?_) (fun c=>?_)
 .have Aa:i<40:=oM;have hg:=Lh (l:=l) (a:=a+1+i) (n:=2) dM;have w1:=Nk l (a+1+i) 2 hf dM;have e1:LJ l c0 (a+1) (i+1)=LJ l c0 (a+1) i++[⟨0,117+c0,(i:Int)*(1+gN l (a+1+i) 2)⟩]:=rfl;have AK:=U1 l c0 (a+1) i;generalize gN l (a+1+i) 2=g at*;have hm:0<=(i:Int)*(1+g)/\(i:Int)*(1+g)<=80:=by have:g=0\/g=1:=oM;rcases this with h|h<;>rw[h]<;>omega
  generalize LJ l c0 (a+1) i=o at*;have Ig:Cf l (a+1+(i+1))=Cf l (a+1+i+1):=rfl;refine uR ?_;intro K hK;refine uH ?_;refine CY rfl (w1) Ak Ak Ak Ak Ak ?_;refine uS ?_;refine uH ?_;refine hK _ ?_;clear hK K;refine uZ ?_;refine⟨(_,i+1),uO,uO, .of (lR _) (Ax (uI @e1 @Ig)) A4⟩
 refine At ?_;have Bx:i=40:=oM;subst Bx;have Ig:Cf l (a+1+40)=Cf l (a+41):=by rw[show a+1+40=a+41 by omega]
 rw[Ig];have Dc:=U1 l c0 (a+1) 40;generalize LJ l c0 (a+1) 40=o0 at*;refine xy4 ?_;refine Aw (fun i:Nat×Nat=>⟨[(0, .p 0 0 0 0 0),(3, .l 103 2 0 40),(6,I i.2)],(103,some (2, .own 92 3 (Ai (L9 o0 i.2))))::Cf l (a+41),i.1⟩) (fun i=>i.2<=40) (fun i=>40 - i.2) (_,0) (zL _) (Af) ?_;rintro⟨ck2,i⟩ Dw;simp only at Dw;have I4:=Wm o0 i;rw[Dc] at I4;refine xy1 (fun c2=>?_) (fun c2=>?_)
 .have Aa:i<40:=oM;have e1:L9 o0 (i+1)=Ma (L9 o0 i) i i:=rfl;generalize L9 o0 i=o1 at*;refine xy4 ?_;refine Aw (fun j:Nat×Nat=>⟨[(0, .p 0 0 0 0 0),(3, .l 103 2 0 40),(6,I i),(7,I j.2)],(103,some (2, .own 92 3 (Ai (Ma o1 i j.2))))::Cf l (a+41),j.1⟩) (fun j=>j.2<=i) (fun j=>i - j.2) (_,0) (zL _) (Af) ?_;rintro⟨ck3,j⟩ hj;simp only at hj;refine xy1 (fun c3=>?_) (fun c3=>?_)
  .have Co:j<i:=oM;have e2:Ma o1 i (j+1)=Rg (Ma o1 i j) i j:=rfl;have vp:=Wn o1 i j;rw[I4] at vp;generalize Ma o1 i j=o2 at*;unfold Rg at e2;have g1:=By (l:=o2) (i:=j) oM;have g2:=By (l:=o2) (i:=i) oM;generalize o2.getD j default=x1 at*;generalize o2.getD i default=x2 at*;have hq:(decide (x1.a=x2.a)&&(decide (x1.b=x2.b)&&(decide (x1.c=x2.c)&&true)))=CD x1 x2:=rfl;cases Sr:CD x1 x2 with
   |false=>rw[Sr] at e2 hq;rw[iN dM] at e2;refine Cv (uI @g1 @g2) ?_;intro K hK;refine⟨oM,oM,oM,oM,?_⟩;simp only[hq];refine hK _ ?_;clear hK K;refine xy9 ?_;refine⟨(_,j+1),uO,uO, .of (lR _) (Ax @e2) A4⟩|true=>
    rw[Sr] at e2 hq;rw[iP rfl] at e2;refine Cv (uI @g1 @g2) ?_;intro K hK;refine⟨oM,oM,oM,oM,?_⟩;simp only[hq];refine hK _ ?_;clear hK K;refine uT ?_;have g3:=By (l:=o2.set i ⟨1,x2.b,x2.c⟩) (i:=i) (by rw[List.length_set];omega);have e3:(o2.set i ⟨1,x2.b,x2.c⟩).getD i default=⟨1,x2.b,x2.c⟩:=by rw[gE,List.getElem?_set_self oM];rfl
    rw[e3] at g3;have e4:(o2.set i ⟨1,x2.b,x2.c⟩).set i ⟨1,x2.b,(i:Int)⟩=o2.set i ⟨1,x2.b,(i:Int)⟩:=List.set_set _;refine Av (uI @g1 (uI @g2 @g3)) ?_;intro K hK;refine uH ?_;rw[iN (fun h:False/\False=>h.1)];simp only[kv,e4];refine hK _ ?_;clear hK K;refine uZ ?_;refine⟨(_,j+1),uO,uO, .of (lR _) (Ax @e2) A4⟩
  refine At ?_;have XN:j=i:=oM;subst XN;refine uZ ?_;refine⟨(_,j+1),uO,uO, .of (lR _) (Ax @e1) A4⟩
 refine At ?_;have Bx:i=40:=oM;subst Bx;generalize L9 o0 40=oF at*;refine xz4 ?_;rw[show f13.results.toList=[.tmp 2] from rfl];(refine(Pm vx1 rfl ?_ ?_ ?_ ?_);(iterate 2 (focus (first|exact trivial|(simp only[go_sem,seval,Bv,BK]<;>trivial))));all_goals (try simp only[go_sem,seval,Bv,BK]))
end Go.Proofs.YtfcgkbinohibcaaGreatDoor
namespace Go.Sym
open Go Go.Great Go.Sort Go.Shelf Go.RowKit Go.Proofs
theorem AU.up {w:World} {e:An} {hp:Hp} (h:AU w e (Az 1) hp) (hh:∀id g ob,hp.get id=some (g,ob)->∀ee,Gh w e (Az 1) ob ee->Gh w e (Az 2) ob ee):AU w e (Az 2) hp:=
 ⟨h.dead,fun id g ob hg=>by
  obtain⟨ee,h1,h2,h3,h4⟩:=h.live id g ob hg;exact⟨ee,h1,h2,tL h3 dM,hh id g ob hg ee h4⟩,h.inj,h.lt,h.nz,h.kl,h.ko,h.kk⟩
theorem QjV {P:Program} {T:AE} {fS t k:Nat} {az:List AV} (hE:Enters P fS)
  (hc:∀(p:Option Addr) (cap:Nat) (vs:List Value) (w:World),vs.length=az.length->Calls P fS (.slice p 0 cap::vs).toArray w fun en w'=>en= .returned (.tuple #[])/\w'=w):
  Ag P T fS [(0,some (0, .own t k []))] (.l 0 0 0 0::az) [(0,some (0, .own t k []))] (.tup []):=by
 refine⟨hE,fun w e vals hr hz hg hlen Iv=>?_⟩;obtain⟨ee,he,RX,I2,A8⟩:=hr.live 0 0 _ rfl;have Qkp:=A8;obtain⟨Bi,EY,Ck,Cy,Cq,hblk⟩:=A8;have Xg:=Iv 0 sM;simp only[List.getElem_cons_zero] at Xg;obtain⟨_,_,A2⟩:=Xg.slO_inv;obtain⟨_,C3⟩:=A2 ee he RX;have C3:=C3 (by simpa using EY);have hv:∃p cap,vals.getD 0 undef= .slice p 0 cap:=by
  unfold Ex at C3;split at C3
  ·obtain⟨_,_,a,h⟩:=C3;exact⟨a,0,h⟩
  obtain⟨cap,h,_⟩:=C3;exact⟨_,cap,h⟩
 obtain⟨p,cap,hv⟩:=hv;have Be:vals.size=az.length+1:=xv3;have Yv:vals=(.slice p 0 cap::vals.toList.drop 1).toArray:=by
  obtain⟨l⟩:=vals;cases l with
  |nil=>simp at Be|cons a l=>
   have:a= .slice p 0 cap:=by simpa using hv
   subst this;rfl
 rw[Yv];refine(hc p cap (vals.toList.drop 1) w vv2).mono ?_;rintro en w' ⟨rfl,rfl⟩;refine⟨_,e,rfl,hr.up fun id g ob hg Au h=>?_, .dat _ _ (.tup [] #[] rfl fun i hi=>vy6),⟨lR _,fun g h=>tL h dM,fun _ _ h=>h,fun _ _ _=>rfl,fun id Au h _=>⟨Au,h,rfl,rfl, .inl ⟨rfl,rfl⟩⟩⟩,rfl,fun b' h=> .inr h,⟨rfl,rfl,rfl,lR _,fun _ _ _=>rfl,lR _⟩⟩
 simp only[Hp.get] at hg;split at hg
 ·cases hg
  obtain⟨q1,q2,q3,q4,q5,q6⟩:=h;refine⟨q1,q2,q3,q4,q5,?_⟩;cases hb:Au.blk with
  |none=>rfl|some q=>rw[hb] at q6;obtain⟨r1,r2,cs,r3,r4,r5⟩:=q6;exact⟨r1,r2,cs,r3,r4,fun i hi=>absurd hi (nZ _)⟩
 cases hg
theorem Qkg {P:Program} {T:AE} {fS t:Nat} (hE:Enters P fS)
  (hc:∀(b cap:Nat) (zs:List Int) (w:World),Holds (Value.int .i64) w b 0 zs.toArray->b<w.heap.size->zs.length<4611686018427387904->
   Calls P fS #[.slice (some ⟨b,0,none⟩) zs.length cap] w fun en w'=>en= .returned (.tuple #[])/\∃n os,w'=grow (putRow (Value.int .i64) (Sort.ahead w n) b 0 (zs.mergeSort fun x y=>decide (x<=y)).toArray) os)
  (l:List Int) (h0:l≠[]) (hl:l.length<=1000000):
  Ag P T fS [(0,some (0, .own t 1 (As l)))] [.l 0 0 0 l.length] [(0,some (0, .own t 1 (As (l.mergeSort fun x y=>decide (x<=y)))))] (.tup []):=by
 refine⟨hE,fun w e vals hr hz hg hlen Iv=>?_⟩;obtain⟨ee,he,RX,I2,A8⟩:=hr.live 0 0 _ rfl;obtain⟨Bi,EY,_,Cy,Cq,hblk⟩:=A8;have DQ:(As l).length=l.length:=xv6;have Dc:ee.n=l.length:=by rw[EY,DQ]
 cases hb:ee.blk with
 |none=>rw[hb] at hblk;exact absurd (by simpa[As] using hblk) h0|some q=>
  obtain⟨b,bcap⟩:=q;rw[hb] at hblk;obtain⟨tP,hle,cs,WY,Dt,CI⟩:=hblk;rw[DQ] at hle;have Xg:=Iv 0 sM;simp only[List.getElem_cons_zero] at Xg;obtain⟨_,_,A2⟩:=Xg.slO_inv;obtain⟨_,C3⟩:=A2 ee he RX;have C3:=C3 (by rw[Dc];omega);unfold Ex at C3;rw[hb] at C3;obtain⟨cap,HJ,Gs,_⟩:=C3;simp only[Nat.zero_mul] at HJ;have Yv:vals=#[.slice (some ⟨b,0,none⟩) l.length cap]:=by
   have Be:vals.size=1:=xv3;refine Array.ext (by simp[Be]) fun i h1 h2=>?_;have hi:i=0:=by simp at h2;omega
   subst hi;rw[gA,Array.getElem?_eq_getElem h1] at HJ;simpa using HJ
  subst Yv;have RQ:b<w.heap.size:=hr.lt 0 ee b bcap he hb;have RN:∀b',UE e b'->b'≠b:=fun b' hu KB=>hu.2 (.inl ⟨0,ee,bcap,he,by rw[KB];exact hb⟩);have QjG:cs.size=bcap:=xv1;have RT:∀i (hi:i<l.length),cs[i]?=some (.int .i64 l[i]):=fun i hi=>by
   have h1:=CI i (by rw[DQ];exact hi) 0 vw6;have h2:=(show dat (AV.lit (.int .i64 l[i])) from trivial).vc (by simpa[As,AV.cells] using h1);have h3:cs.getD i undef= .int .i64 l[i]:=by simpa using(VR.dat (w:=w) (U:=UE e) (e:=e) (G:=Az 1) _ _ h2).lit_inv.1
   rw[Array.getElem?_eq_getElem oM,<-h3];simp[gA,show i<cs.size by omega]
  have hH:Holds (Value.int .i64) w b 0 l.toArray:=fun j hj=>by have Ah:j<l.length:=vx2;rw[Nat.zero_add];refine⟨?_,WY.frozen oM⟩;rw[WY.cell j,RT j Ah,getElem!_pos l.toArray j hj];simp
  refine(hc b cap l w hH RQ oM).mono ?_;rintro en W ⟨rfl,n,os,hW⟩;obtain⟨l',JP⟩:∃l',l'=l.mergeSort fun x y=>decide (x<=y):=⟨_,rfl⟩;rw[<-JP] at hW ⊢;have Ot:l'.length=l.length:=by rw[JP];exact(List.mergeSort_perm _ _).length_eq
  obtain⟨AO,Hv⟩:∃AO,AO=putCells (Value.int .i64) 0 l'.toArray cs:=⟨_,rfl⟩;have eY:AO.size=cs.size:=by rw[Hv];simp[putCells]
  have G6:∀i (hi:i<l'.length),AO[i]?=some (.int .i64 l'[i]):=fun i hi=>by rw[Hv,putCells,Array.getElem?_mapIdx,RT i oM];simp[hi]
  obtain⟨fz,C1,I7,Ui⟩:=WY;have Mz:w.heap.size<=W.heap.size:=by rw[hW];show w.heap.size<=((w.heap.modify b _)++os).size;simp
  have JU:∀b',b'<w.heap.size->b'≠b->W.heap[b']?=w.heap[b']?:=fun b' h1 h2=>by rw[hW];show((w.heap.modify b _)++os)[b']?=_;rw[Array.getElem?_append_left vy9,Array.getElem?_modify,iN (Ne.symm h2)]
  have Yq:W.heap[b]?=some (.cells AO t fz):=by rw[hW,Hv];show((w.heap.modify b (onCells (putCells (Value.int .i64) 0 l'.toArray)))++os)[b]?=_;rw[Array.getElem?_append_left (by simpa using RQ),Array.getElem?_modify,iP rfl,C1];rfl
  have eu:Cl W b AO t:=⟨fz,Yq,by rw[eY];exact I7,Ui⟩;have ext:AB w e (Az 1) W e (Az 2):=⟨Mz,fun g h=>tL h dM,fun _ _ h=>h,fun b' h1 h2=>JU b' h1 (RN b' h2),fun id Au h _=>⟨Au,h,rfl,rfl, .inl ⟨rfl,rfl⟩⟩⟩;refine⟨_,e,rfl,⟨fun id hid=>?_,fun id g ob hid=>?_,hr.inj,fun id ee b c h1 h2=>tL (hr.lt id ee b c h1 h2) Mz,hr.nz,fun b' B c h=>?_,hr.ko,hr.kk⟩, .dat _ _ (.tup [] #[] rfl fun i hi=>vy6),ext,rfl,fun b' h=> .inr h,⟨?_,?_,?_,Mz,fun b' h1 h2=>JU b' h1 (fun KB=>h2 (.inl ⟨0,ee,bcap,he,by rw[KB];exact hb⟩)),?_⟩⟩
  ·refine hr.dead id ?_;simp only[Hp.get] at hid ⊢;split at hid
   ·cases hid
   rename_i h;rw[iN h]
  ·simp only[Hp.get] at hid;split at hid
   ·rename_i sU;subst sU;cases hid
    refine⟨ee,he,RX,xx1,Bi,by rw[Dc];simp[As,Ot],dM,fun i hi=>vw6,fun i hi j hj=>?_,?_⟩
    ·simp only[As,List.getElem_map,AV.cells,List.length_singleton] at hj ⊢;obtain rfl:j=0:=oM;rfl
    rw[hb];refine⟨tP,by simp[As];omega,AO,eu,by rw[eY,Dt],fun i hi j hj=>?_⟩;have Ar:i<l'.length:=by simpa[As] using hi
    have JN:j=0:=by simp[As,AV.cells] at hj;omega
    subst JN;have e1:AO.getD (i*1+0) undef= .int .i64 l'[i]:=by rw[Nat.mul_one,Nat.add_zero,gA,G6 i Ar];rfl
    rw[e1];refine .val _ _ (.dat _ _ ?_);have e2:(As l')[i].cells[0]'hj= .lit (.int .i64 l'[i]):=vw6
    rw[e2];exact .lit _ rfl
   cases hid
  ·obtain⟨h1,h2,h3⟩:=hr.kl b' B c h;exact⟨tL h1 Mz,tL h2 Mz,h3⟩
  ·rw[hW];rfl
  ·rw[hW];rfl
  ·rw[hW];rfl
  rw[hW];exact Nat.le_add_right _ _
end Go.Sym
namespace Go.Proofs.YtfcgkbinohibcaaGreatDoor
open Go Go.Sym Go.Proofs.Tryz
open Go.Plant Go.Inf Go.Sort
structure T2 where
 a:Int
 b:Int
 deriving Inhabited
abbrev T2.av (x:T2):AV:= .agg [I x.a,I x.b]
def Gf (l:List T2):List AV:=l.map T2.av
theorem Qfh (l:List T2):(Gf l).length=l.length:=by simp[Gf]
theorem kq {l:List T2} {i:Nat} (h:i<l.length):(Gf l).getD i .bad=(l.getD i default).av:=by simp[Gf,h]
theorem mU (l:List T2):PE (Gf l)=True:=by refine eq_true fun e he c hc=>?_;simp only[Gf,List.mem_map] at he;obtain⟨x,_,rfl⟩:=he;simp only[AV.cells,List.mem_cons,List.not_mem_nil,or_false] at hc;rcases hc with rfl|rfl<;>first|trivial|rfl
theorem QiN {l:List T2}:(∀y∈Gf l,y.cells.length=2)=True:=by refine eq_true fun e he=>?_;simp only[Gf,List.mem_map] at he;obtain⟨x,_,rfl⟩:=he;rfl
theorem Qfi {l:List T2} {a:Int} {b:Int}:Gf l++[.agg [.lit (.int .i64 a), .lit (.int .i64 b)]]=Gf (l++[⟨a,b⟩]):=by simp[Gf]
attribute [go_sem] Qfh mU QiN Qfi
def Kp (x y:T2):Bool:=decide (x.a=y.a)&&(decide (x.b=y.b)&&true)
theorem xM (l:List T2) (x:T2) (hl:l.length<=1000):Ag prog Ad 152 [] [.sl (Gf l) false,x.av] [] (I (DK (fun y:T2=>Kp x y) l)):=by
 refine Am func152 ntmps152 ?_;intro w e X hC;refine xy4 ?_;refine Aw (fun i:Nat×Nat=>⟨[(3, .p 103 1 0 0 0),(0, .sl (Gf l) false),(6, .sl (Gf l) false),(7,I l.length),(8,I i.2)],(103,some (1, .box [I x.a,I x.b]))::[],i.1⟩) (fun i=>i.2<=l.length/\∀j,j<i.2->(fun y:T2=>Kp x y) (l.getD j default)=false) (fun i=>l.length - i.2) (_,0) ⟨zL _,fun j hj=>absurd hj (nZ _)⟩ (Af) ?_;rintro⟨ck,i⟩ ⟨hi,hj⟩;simp only at hi hj;refine xy1 (fun h=>?_) (fun h=>?_)
 .have Aa:i<l.length:=oM
  skip
  cases c1:(fun y:T2=>Kp x y) (l.getD i default) with
  |true=>
   have e1:=Kr (p:=(fun y:T2=>Kp x y)) (d:=default) Aa hj c1;have d1:=c1;simp only[Kp] at d1;refine uA ?_;refine xq1 (uI (kq Aa) @d1) ?_;refine xq4 ?_;try rfl
   exact Aq @e1
  |false=>
   have d1:=c1;simp only[Kp] at d1;refine uA ?_;refine xq1 (uI (kq Aa) @d1) ?_;refine xy9 ?_;refine⟨(_,i+1),⟨uO,fun j Ah=>?_⟩,uO,Af⟩;by_cases AF:j=i
   .subst AF;exact c1
   exact hj j vv6
 refine At ?_;have e1:=Lf (l:=l) (p:=(fun y:T2=>Kp x y)) fun j h=>hj j oM;refine xz3 ?_;try rfl
 exact Aq @e1
theorem pJ (l:List T2) (x:T2) (hl:l.length<=1000):Ag prog Ad 91 [] [.sl (Gf l) false,x.av] [] (B (l.any (fun y:T2=>Kp x y))):=by
 refine Am func91 ntmps91 ?_;intro w e X hC;refine xw4 ((xM l x hl)) ?_;try rfl
 exact Aq @IK
def MO:List Int->Int
 |[]=>0|x::l=>if x≠0 then x else MO l
theorem Qa9 {l:List Int} {i:Nat} (h:i<l.length):MO (l.drop i)=if l.getD i 0≠0 then l.getD i 0 else MO (l.drop (i+1)):=by rw[List.drop_eq_getElem_cons h,MO,gE,gG h];rfl
theorem Qba (l:List Int) (hl:l.length<=1000):Ag prog Ad 94 [] [IS l] [] (I (MO l)):=by
 refine Am func94 ntmps94 ?_;intro w e X hC;refine xy4 ?_;refine Aw (fun i:Nat×Nat=>⟨[(3,I 0),(6,IS l),(7,I l.length),(8,I i.2)],[],i.1⟩) (fun i=>i.2<=l.length/\MO l=MO (l.drop i.2)) (fun i=>l.length - i.2) (_,0) ⟨zL _,rfl⟩ (Af) ?_;rintro⟨ck,i⟩ ⟨hi,ho⟩;simp only at hi ho;refine xy1 (fun c=>?_) (fun c=>?_)
 .have Aa:i<l.length:=oM;have hg:=Ao Aa;have hs:=Qa9 Aa;rw[<-ho] at hs;generalize l.getD i 0=x at*;refine Bg @hg ?_;refine GF (fun c2=>?_) (fun c2=>?_)
  .rw[iP c2] at hs;rw[hs];exact xz5
  rw[iN c2] at hs;refine uZ ?_;refine⟨(_,i+1),⟨uO,hs⟩,uO,Af⟩
 refine At ?_;have Bx:i=l.length:=oM;rw[ho,Bx,List.drop_length,MO];exact xz5
def M6 (x y:T2):Int:=MO [x.a - y.a,x.b - y.b]
theorem pA (x y:T2):M6 x y=if x.a - y.a≠0 then x.a - y.a else if x.b - y.b≠0 then x.b - y.b else 0:=rfl
theorem pB:SWO (ltOf M6):=by
 have e:∀x y:T2,ltOf M6 x y=decide (x.a<y.a\/(x.a=y.a/\x.b<y.b)):=fun x y=>by
  unfold ltOf;rw[Bool.eq_iff_iff,decide_eq_true_iff,decide_eq_true_iff,pA];split
  .omega
  split<;>omega
 refine⟨fun x=>?_,fun x y z h1 h2=>?_,fun x y z h1 h2=>?_⟩
 .rw[e,decide_eq_false_iff_not];omega
 .rw[e,decide_eq_true_iff] at*;omega
 rw[e,decide_eq_false_iff_not] at*;omega
def N5 (x:T2):Prop:=-1000000<=x.a/\x.a<=1000000/\-1000000<=x.b/\x.b<=1000000
theorem QbG (x y:T2) (hx:N5 x) (hy:N5 y):Ag prog Ad 93 [] [x.av,y.av] [] (I (M6 x y)):=by obtain⟨h1,h2,h3,h4⟩:=hx;obtain⟨h5,h6,h7,h8⟩:=hy;have wo:=Qba [x.a - y.a,x.b - y.b] sM;unfold M6;refine Am func93 ntmps93 ?_;intro w e X hC;refine xz8 ?_;intro K hK;refine⟨oM,oM,?_⟩;refine xw6 wo ?_;refine hK _ ?_;clear hK K;exact uP
theorem QbO (G G':List T2) (hG:∀x∈G,N5 x) (hl:G.length<=1000000) (hp:G'.Perm G) (hs:G'.Pairwise fun a b=>M6 a b<0):
  Ag prog Ad 92 [(0,some (0, .own 77 2 (Gf G)))] [.l 0 0 0 G.length, .fn 93 []] [(0,some (0, .own 77 2 (Gf G')))] (.tup []):=by
 have hE:Go.Sym.Enters prog 92:=⟨f92,func92,xv4,xv4⟩;by_cases h0:G=[]
 .subst h0;obtain rfl:=List.perm_nil.1 hp;refine QjV hE fun p cap vs w hv=>?_;obtain⟨fv,rfl⟩:=List.length_eq_one_iff.1 hv;exact AnyF.slices_SortFunc_none Go.Proofs.Tryz.sortPlc p cap fv w
 exact jW (T:=Ad) Go.Proofs.Tryz.sortPlc rfl hE (enters_of func93 kR rfl) dM isAgg77 sizeOf77
  (fun x:T2=>[I x.a,I x.b]) (fun x=>⟨rfl,fun c hc=>by
   simp only[List.mem_cons,List.not_mem_nil,or_false] at hc;rcases hc with rfl|rfl<;>trivial⟩) N5 M6 pB (fun x y hx hy=>QbG x y hx hy) G G' h0 hG hl hp hs
def Zf (bag:Int) (G:List T2) (h:AY):List T2:=if(Hm h.2 bag).2.2=true then(if G.any (fun y=>Kp ⟨(Hm h.2 bag).1,(Hm h.2 bag).2.1⟩ y)=true then G else G++[⟨(Hm h.2 bag).1,(Hm h.2 bag).2.1⟩]) else G
def U6 (bag:Int) (hs:List AY):List T2:=hs.foldl (Zf bag) []
theorem QbD (bud:Int) (hs:List AY) (bag:Int) (L:List T2) (C3:hs.length<=900) (XS:∀h∈hs,Jw h.2) (G0:∀h∈hs,N5 ⟨(Hm h.2 bag).1,(Hm h.2 bag).2.1⟩) (hp:L.Perm (U6 bag hs)) (Fp:L.Pairwise fun a b=>M6 a b<0):
  Ag prog Ad 39 [] [(D5.mk bud (hs.map Ba)).av,I bag] [] (.sl (Gf L) false):=by
 refine Am func39 ntmps39 ?_;intro w e X hC;refine xy4 ?_;refine Aw (fun i:Nat×Nat×List T2=>⟨[(1,I bag),(2, .p 102 1 0 0 0),(5, .l 105 3 0 i.2.2.length),(11, .sl (BY (hs.map Ba)) false),(12,I hs.length),(13,I i.2.1)],(105,some (3, .own 77 2 (Gf i.2.2)))::(102,some (1, .box [I bud, .sl (BY (hs.map Ba)) false]))::[],i.1⟩)
  (fun i=>i.2.1<=hs.length/\U6 bag hs=(hs.drop i.2.1).foldl (Zf bag) i.2.2/\(∀x∈i.2.2,N5 x)/\i.2.2.length<=i.2.1) (fun i=>hs.length - i.2.1) (_,0,[]) ⟨zL _,rfl,(fun x hx=>by cases hx),zL _⟩ (Af) ?_
 rintro⟨ck,i,Gi⟩ ⟨hi,AL,Fk,JH⟩;simp only at hi AL Fk JH;refine xy1 (fun c=>?_) (fun c=>?_)
 .have Aa:i<hs.length:=oM;have hg:=YH Aa;have hm:hs.getD i (0,⟨[],[]⟩)∈hs:=GQ Aa _;have Oy:hs.drop i=hs.getD i (0,⟨[],[]⟩)::hs.drop (i+1):=by rw[List.drop_eq_getElem_cons Aa,gE,gG Aa];rfl
  rw[Oy,List.foldl_cons] at AL;have hk:=XS _ hm;have Yl:=G0 _ hm;generalize hs.getD i (0,⟨[],[]⟩)=h at*;obtain⟨hu,EK⟩:=h;have w1:=jp EK bag hk.sl hk.bl (fun i hi=>hk.sr _ (GQ hi [])) (fun i hi=>hk.br _ (GQ hi []));have R8:∀h:AY,Zf bag Gi h=if(Hm h.2 bag).2.2=true then(if Gi.any (fun y=>Kp ⟨(Hm h.2 bag).1,(Hm h.2 bag).2.1⟩ y)=true then Gi else Gi++[⟨(Hm h.2 bag).1,(Hm h.2 bag).2.1⟩]) else Gi:=fun h=>rfl
  rw[R8] at AL;clear R8;simp only[Ba] at hg AL Yl;generalize Hm EK bag=q at*;obtain⟨qa,qb,qo⟩:=q;simp only[Z1] at w1 AL Yl;cases qo with
  |false=>rw[iN dM] at AL;refine xk3 @hg ?_;refine xy6 w1 ?_;refine uZ ?_;refine xy9 ?_;refine⟨(_,i+1,Gi),⟨uO,AL,Fk,uO⟩,uO,Af⟩|true=>
   rw[iP rfl] at AL;have w2:=pJ Gi ⟨qa,qb⟩ oM;cases hc:Gi.any (fun y=>Kp ⟨qa,qb⟩ y) with
   |true=>rw[hc] at w2 AL;rw[iP rfl] at AL;refine xk3 @hg ?_;refine xy6 w1 ?_;refine uR ?_;intro K hK;refine CL [] [] true (w2) Bz Bz Ab Ab Ab Ab Ab Ab Ab Ab Ab Ab Ab Ab Ab Ab Ab ?_;refine xq7 ?_;refine hK _ ?_;clear hK K;refine xy9 ?_;refine⟨(_,i+1,Gi),⟨uO,AL,Fk,uO⟩,uO,Af⟩|false=>
    rw[hc] at w2 AL;rw[iN dM] at AL;refine xk3 @hg ?_;refine xy6 w1 ?_;refine uR ?_;intro K hK;refine CL [] [] true (w2) Bz Bz Ab Ab Ab Ab Ab Ab Ab Ab Ab Ab Ab Ab Ab Ab Ab ?_;refine xq7 ?_;refine hK _ ?_;clear hK K;refine xy3 ?_;refine⟨(_,i+1,Gi++[⟨qa,qb⟩]),⟨uO,AL,fun x hx=>?_,by simp only[aL,List.length_singleton];omega⟩,uO,Af⟩;rcases List.mem_append.1 hx with hx|hx
    .exact Fk x hx
    rw[List.mem_singleton.1 hx];exact Yl
 refine At ?_;have Bx:i=hs.length:=oM;rw[Bx,List.drop_length,List.foldl_nil] at AL;rw[AL] at hp;have ws:=QbO Gi L Fk oM hp Fp;have Qd:Gi.length=L.length:=hp.length_eq.symm;rw[Qd] at ws ⊢;refine uR ?_;intro K hK;refine CL [(0,0,105,3)] [(105,3,0,0)] false (ws) Bz Bz Ab Ab Ab Ab Ab Ab Ab Ab Ab Ab Ab Ab Ab Ab Ab ?_;refine xq7 ?_;refine hK _ ?_;clear hK K;refine xz4 ?_;rw[show Tryz.f39.results.toList=[.tmp 4] from rfl];exact Bm
open Go.Plant Go.Inf
section
variable {A n:Nat} {y:Ly} {L:List Int} {p:Pl}
theorem Bh.slot (h:Bh y p L) {t:Nat} (ht:t<y.U.length) {x:Int} (hx:x∈p.Q.getD t []):x=0\/x∈L:=by
 by_cases h0:x=0
 .exact .inl h0
 exact .inr (h.mem.1 (Tq.2 ⟨t,ht,List.mem_append_left _ ((zz h0).2 hx)⟩))
theorem Bh.binm (h:Bh y p L) {t:Nat} (ht:t<y.U.length) {x:Int} (hx:x∈p.R.getD t []):x∈L:=h.mem.1 (Tq.2 ⟨t,ht,List.mem_append_right _ hx⟩)
theorem P8 {α:Type} {l:List α} {x d:α} (h:x∈l):∃i,i<l.length/\l.getD i d=x:=by obtain⟨i,hi,e⟩:=List.getElem_of_mem h;exact⟨i,hi,by rw[gE,gG hi,<-e];rfl⟩
theorem Bh.kyP (hn:y.U.length<=11) (h:Bh y p L):Jw p:=by
 have hs:=h.fp.sl;have hb:=h.fp.bl;refine⟨oM,oM,fun r hr=>?_,fun r hr=>?_⟩
 .obtain⟨i,hi,rfl⟩:=P8 (d:=[]) hr;rw[h.fp.row i oM];have:=h.fp.ln i oM;omega
 obtain⟨i,hi,rfl⟩:=P8 (d:=[]) hr;have:=h.fp.bin i oM;omega
theorem Bh.kyN (hn:y.U.length<=11) (hL:FU L) (h:Bh y p L):M1 p:=by
 have hs:=h.fp.sl;have hb:=h.fp.bl;refine⟨h.kyP hn,fun x hx=>?_⟩;rw[YQ] at hx;rcases List.mem_append.1 hx with hx|hx
 .obtain⟨r,hr,hx⟩:=List.mem_flatten.1 hx;obtain⟨i,hi,rfl⟩:=P8 (d:=[]) hr;rcases h.slot oM hx with e|e
  .omega
  have:=hL.pos x e;omega
 obtain⟨r,hr,hx⟩:=List.mem_flatMap.1 hx;obtain⟨i,hi,rfl⟩:=P8 (d:=[]) hr;rcases List.mem_cons.1 hx with e|hx
 .have:=h.fp.bin i oM;omega
 have:=hL.pos x (h.binm oM hx);omega
theorem Bh.inj {a b:Pl} (hn:y.U.length<=11) (hL:FU L) (ha:Bh y a L) (hb:Bh y b L) (h:B3 (AZ a)=B3 (AZ b)):a=b:=by
 have h1:=YN (fun x hx=>((ha.kyN hn hL).nn x hx).1) (fun x hx=>((hb.kyN hn hL).nn x hx).1) h;have h2:a.Q.map List.length=b.Q.map List.length:=by
  refine List.ext_getElem (by simp[ha.fp.sl,hb.fp.sl]) fun i h1 h2=>?_;have hi:i<y.U.length:=by rw[List.length_map,ha.fp.sl] at h1;exact h1
  have e1:=ha.fp.row i hi;have e2:=hb.fp.row i hi;rw[gE,gG (by rw[ha.fp.sl];exact hi)] at e1;rw[gE,gG (by rw[hb.fp.sl];exact hi)] at e2;simp only[List.getElem_map];exact e1.trans e2.symm
 obtain⟨h3,h4⟩:=yr h2 (ha.fp.bl.trans hb.fp.bl.symm) h1;obtain⟨a1,a2⟩:=a;obtain⟨b1,b2⟩:=b;simp only at h3 h4;rw[h3,h4]
theorem qX {cs:List Int} {m:Nat} {s:List Int} {k:Nat} (hk:k<s.length) {f:T3} (h:f∈Mg cs m s k):(f.a=1\/f.a=2)/\f.b=m/\f.c=k/\s.getD k 0≠0:=by
 unfold Mg at h;by_cases h0:s.getD k 0=0
 .rw[iP h0] at h;cases h
 rw[iN h0] at h;by_cases h1:k+1=s.length
 .rw[iP h1] at h;by_cases h2:cs.getD m 0<0
  .rw[iP h2] at h;cases h
  rw[iN h2] at h;rw[List.mem_singleton.1 h];exact⟨.inl rfl,rfl,rfl,h0⟩
 rw[iN h1] at h;by_cases h2:s.getD (k+1) 0≠0
 .rw[iP h2] at h;cases h
 rw[iN h2] at h;rcases List.mem_cons.1 h with e|h
 .rw[e];exact⟨.inl rfl,rfl,rfl,h0⟩
 by_cases h3:k+2<s.length
 .rw[iP h3] at h;by_cases h4:s.getD (k+2) 0=0
  .rw[iP h4] at h;rw[List.mem_singleton.1 h];exact⟨.inr rfl,rfl,rfl,h0⟩
  rw[iN h4] at h;cases h
 rw[iN h3] at h;cases h
theorem du {cs:List Int} {m:Nat} {s:List Int} {f:T3}:∀{K:Nat},K<=s.length->f∈CU cs m s K->(f.a=1\/f.a=2)/\f.b=m/\∃k:Nat,f.c=k/\k<s.length
 |0,_,h=>vx0|K+1,hK,h=>by
  rcases List.mem_append.1 h with h|h
  .exact du oM h
  obtain⟨h1,h2,h3,_⟩:=qX oM h;exact⟨h1,h2,K,h3,oM⟩
theorem dq {cs:List Int} {ss:List (List Int)} {f:T3}:∀{N:Nat},f∈I0 cs ss N->(f.a=1\/f.a=2)/\∃m k:Nat,m<N/\f.b=m/\f.c=k/\k<(ss.getD m []).length
 |0,h=>vx0|N+1,h=>by
  rcases List.mem_append.1 h with h|h
  .obtain⟨h1,m,k,h2,h3⟩:=dq h;exact⟨h1,m,k,oM,h3⟩
  obtain⟨h1,h2,k,h3,h4⟩:=du (lR _) h;exact⟨h1,N,k,oM,h2,h3,h4⟩
theorem Qaq (s:List Int) {k:Nat} (h:k<s.length):nz (s.take (k+1))=nz (s.take k)++(if s.getD k 0=0 then[] else[s.getD k 0]):=by
 rw[Vr h 0,Qap];congr 1
 split
 .rename_i h0;rw[h0];rfl
 rename_i h0;exact iS h0
theorem dt {cs:List Int} {m:Nat} {s:List Int}:∀{K:Nat},K<=s.length->(CU cs m s K).length<=2*(nz (s.take K)).length
 |0,_=>zL _|K+1,hK=>by
  have h1:=dt (cs:=cs) (m:=m) (s:=s) (K:=K) oM;have h2:=dy cs m s K;rw[CU,aL,Qaq s oM,aL];by_cases h0:s.getD K 0=0
  .have:Mg cs m s K=[]:=by unfold Mg;rw[iP h0]
   rw[this,iP h0];simp;omega
  rw[iN h0];simp;omega
theorem dm {cs:List Int} {p:Pl}:∀{N:Nat},(I0 cs p.Q N).length<=2*(ED p N).length
 |0=>zL _|N+1=>by have h1:=dm (cs:=cs) (p:=p) (N:=N);have h2:=dt (cs:=cs) (m:=N) (s:=p.Q.getD N []) (lR _);rw[List.take_length] at h2;rw[I0,aL,ED,aL,FS,aL];omega
theorem Bh.flt_len (h:Bh y p L) (cs:List Int):(CN cs p).length<=2*L.length:=by have:=dm (cs:=cs) (p:=p) (N:=p.Q.length);rw[h.fp.sl] at this;rw[h.perm.length_eq] at this;unfold CN;rw[h.fp.sl];exact this
theorem Bh.flt_mem (h:Bh y p L) {cs:List Int} {f:T3} (hf:f∈CN cs p):(f.a=1\/f.a=2)/\0<=f.b/\f.b<y.U.length/\0<=f.c/\f.c<(y.U.getD f.b.toNat default).ln:=by obtain⟨h1,m,k,h2,h3,h4,h5⟩:=dq hf;rw[h.fp.sl] at h2;rw[h.fp.row m h2] at h5;have:=h.fp.ln m h2;have e:f.b.toNat=m:=oM;rw[e];exact⟨h1,oM,oM,oM,oM⟩
def D6 (F X:List T3):Prop:=(∀f∈X,f∈F)/\(X.Pairwise fun f g=>CQ f≠CQ g)/\X.length<=2
theorem D6.nil (F:List T3):D6 F []:=⟨fun f h=>vx0, .nil,zL _⟩
theorem D6.snoc {F sm:List T3} {f:T3} (h:D6 F sm) (hf:f∈F) (ha:∀g∈sm,CQ f≠CQ g) (hl:sm.length<2):D6 F (sm++[f]):=by
 refine⟨fun g hg=>?_,?_,by rw[aL,List.length_singleton];omega⟩
 .rcases List.mem_append.1 hg with hg|hg
  .exact h.1 g hg
  rw[List.mem_singleton.1 hg];exact hf
 rw[List.pairwise_append];refine⟨h.2.1,List.pairwise_singleton _ _,fun a BV b hb=>?_⟩;rw[List.mem_singleton.1 hb];exact fun e=>ha a BV e.symm
theorem Bh.ftOk (h:Bh y p L) {cs:List Int} {X:List T3} (hX:D6 (CN cs p) X):Ju y.U X:=
 ⟨fun f hf=>h.flt_mem (hX.1 f hf),hX.2.1.imp fun {f g} uy he=>uy (by unfold CQ;rw[he.1,he.2])⟩
theorem cK {node bag:Int} (h:(CS y p node bag).2=0):∃m:Nat,node=m/\m<y.U.length/\(1<=bag/\bag<=40)/\(y.U.getD m default).kd=1/\(p.Q.getD m []).getD 0 0=0/\(CS y p node bag).1=⟨p.Q.set m ((p.Q.getD m []).set 0 bag),p.R⟩:=by
 unfold CS at h ⊢;by_cases h1:node<0\/y.U.length<=node\/bag<1\/40<bag
 .rw[iP h1] at h;cases h
 rw[iN h1] at h ⊢;by_cases h2:¬(y.U.getD node.toNat default).kd=1
 .rw[iP h2] at h;cases h
 rw[iN h2] at h ⊢;by_cases h3:(GG p bag).2.2=true
 .rw[iP h3] at h;cases h
 rw[iN h3] at h ⊢;by_cases h4:¬(p.Q.getD node.toNat []).getD 0 0=0
 .rw[iP h4] at h;cases h
 rw[iN h4];exact⟨node.toNat,oM,oM,oM,Decidable.not_not.1 h2,Decidable.not_not.1 h4,rfl⟩
theorem qp {m:Nat} {bag:Int} (hb:bag≠0) (hl:(p.Q.getD m []).length≠0) (h0:(p.Q.getD m []).getD 0 0=0) (hm:m<p.Q.length) (t:Nat):
  FS ⟨p.Q.set m ((p.Q.getD m []).set 0 bag),p.R⟩ t=if t=m then bag::FS p t else FS p t:=by
 unfold FS;simp only;by_cases e:t=m
 .subst e;rw[iP rfl,gE (l:=p.Q.set t _),List.getElem?_set_self hm,Option.getD_some];cases hr:p.Q.getD t [] with
  |nil=>rw[hr] at hl;exact absurd rfl hl|cons x r=>rw[hr] at h0;have h0:x=0:=h0;subst h0;rw[List.set_cons_zero,Pe hb,NU,List.cons_append]
 rw[iN e,gE (l:=p.Q.set m _),List.getElem?_set_ne (fun h=>e h.symm),<-gE]
theorem cJ {m:Nat} {bag:Int} (hb:bag≠0) (hl:(p.Q.getD m []).length≠0) (h0:(p.Q.getD m []).getD 0 0=0) (hm:m<p.Q.length):∀N,(ED ⟨p.Q.set m ((p.Q.getD m []).set 0 bag),p.R⟩ N).Perm (if m<N then bag::ED p N else ED p N)
 |0=> .refl _|N+1=>by
  have ih:=cJ hb hl h0 hm N;rw[ED,ED,qp hb hl h0 hm N];by_cases e:N=m
  .subst e;rw[iP rfl,iP oM];rw[iN oM] at ih;exact(ih.append_right _).trans List.perm_middle
  rw[iN e];by_cases e2:m<N
  .rw[iP e2] at ih;rw[iP oM];exact ih.append_right _
  rw[iN e2] at ih;rw[iN oM];exact ih.append_right _
theorem Bh.enter (h:Bh y p L) {node bag:Int} (he:(CS y p node bag).2=0):Bh y (CS y p node bag).1 (bag::L):=by
 obtain⟨m,h1,h2,h3,h4,h5,h6⟩:=cK he;rw[h6];have AM:=h.fp.st m h2 (by rw[h4];rfl);have NG:=h.fp.row m h2;have FM:m<p.Q.length:=by rw[h.fp.sl];exact h2
 refine⟨{h.fp with sl:=by simpa using h.fp.sl,row:=fun t ht=>?_},?_,h.srt⟩
 .by_cases e:t=m
  .subst e;rw[gE,List.getElem?_set_self FM,Option.getD_some,List.length_set];exact NG
  rw[gE,List.getElem?_set_ne (fun h=>e h.symm),<-gE];exact h.fp.row t ht
 have:=cJ (p:=p) (m:=m) (bag:=bag) oM oM h5 FM y.U.length;rw[iP h2] at this;exact this.trans (h.perm.cons _)
theorem Bh.dvF (h:Bh y p L) (hn:y.U.length<=11) (hd:JD y.U y.D=0) (I4:y.D.length<=24):K5 y p:=by
 have Cq:∀j,j<y.D.length->Ez y.U (y.D.getD j default)=0:=fun j hj=>by
  unfold JD at hd;split at hd
  .rename_i d hf;have:=List.find?_some hf;simp[hd] at this
  rename_i hf;rw[List.find?_eq_none] at hf;have:=hf _ (Fs (d:=default) hj);simpa using this
 refine⟨oM,by have:=h.fp.sl;omega,fun d hd=>?_⟩;have h1:=Cq d hd;unfold Ez at h1;split at h1
 .cases h1
 split at h1
 .cases h1
 rename_i h2;unfold M9 Og;have e:((y.D.getD d default).b.toNat:Int)=(y.D.getD d default).b:=oM;refine⟨e.symm,oM,by rw[h.fp.sl];omega,?_⟩;rw[h.fp.row _ oM];omega
theorem Bh.sees (h:Bh y p L) (hL:FU L) (hf:K5 y p) {d:Nat} (hd:d<y.D.length):0<=Hh y p d/\Hh y p d<=40:=by
 obtain⟨_,_,h3,h4⟩:=hf.at_ d hd;unfold Hh;rcases h.slot (by rw[<-h.fp.sl];exact h3) (GQ h4 0) with e|e
 .omega
 have:=hL.pos _ e;omega
theorem Qch (y:Ly) (p:Pl) (pl:List T3) (d:Nat):Kb (E8 y p pl d)=MS y p pl d:=by
 unfold Kb E8 MS;simp only;by_cases h1:Hh y p d≠0
 .by_cases h2:Rj y d=2
  .rw[iP ⟨h2,h1⟩,iP ⟨h1,h2⟩]
  rw[iN (fun h=>h2 h.1),iN (fun h=>h2 h.2)]
 rw[iN (fun h=>h1 h.2),iN (fun h=>h1 h.1)]
theorem b7 (y:Ly) (p:Pl) (pl:List T3) (bud:Int) (hb:0<=bud):Gj y p pl bud (E9 y p pl)=(0,true):=by
 have key:∀d k,k+d=y.D.length->Kk y p pl bud k ((E9 y p pl).drop k) 0=(0,true):=by
  intro d;induction d with
  |zero=>intro k hk;rw[List.drop_of_length_le (by rw[E9,U2];omega)];rfl|succ d ih=>
   intro k hk;have A3:k<(E9 y p pl).length:=by rw[E9,U2];omega
   have hg:(E9 y p pl).getD k default=MS y p pl k:=by unfold E9 LK;rw[gE];simp[show k<y.D.length by omega]
   rw[b5 A3,hg,Gk,iP (Qch y p pl k).symm,iN (by
    intro h;rcases h with h|h
    ·cases h
    have h:bud<0+0:=h;omega)]
   exact ih (k+1) oM
 exact key y.D.length 0 oM
end
open Go.Plant Go.Inf
def IP (G:List AY):List AY:=G.mergeSort (fun a b=>!CJ (AZ b.2) (AZ a.2))
theorem Jn (G:List AY):(IP G).Perm G:=List.mergeSort_perm _ _
theorem QeX (G:List AY):(IP G).Pairwise fun a b=>CJ (AZ b.2) (AZ a.2)=false:=by
 have:=List.pairwise_mergeSort (le:=fun a b:AY=>!CJ (AZ b.2) (AZ a.2)) (fun a b c h1 h2=>?_) (fun a b=>?_) G
 .exact this.imp fun h=>vy0
 .simp only[Bool.not_eq_true'] at h1 h2 ⊢;cases h3:CJ (AZ c.2) (AZ a.2) with
  |false=>rfl|true=>
   cases h4:CJ (AZ a.2) (AZ b.2) with
   |true=>have:=SN h3 h4;rw[h2] at this;cases this
   |false=>have:=UW h4 h1;rw[this] at h3;rw[h2] at h3;cases h3
 cases h3:CJ (AZ b.2) (AZ a.2) with
 |false=>rfl|true=>rw[yT h3];rfl
theorem ZD {G:List AY} (h1:G.Pairwise fun a b=>a.2≠b.2) (inj:∀a∈G,∀b∈G,AZ a.2=AZ b.2->a.2=b.2):(IP G).Pairwise fun a b=>CJ (AZ a.2) (AZ b.2)=true:=by
 have Cq:(IP G).Pairwise fun a b=>a.2≠b.2:=((Jn G).pairwise_iff (fun h=>Ne.symm h)).2 h1;refine List.Pairwise.imp_of_mem ?_ ((QeX G).and Cq);intro a b ha hb KA;cases c:CJ (AZ a.2) (AZ b.2) with
 |true=>rfl|false=>exact absurd (inj a ((Jn G).mem_iff.1 ha) b ((Jn G).mem_iff.1 hb) (UW c KA.1)) KA.2
def Ki (stp:Pl->List T3->Pl) (cst:Pl->Int×Bool) (bud:Int) (cs:List Int) (hs:List AY):List AY:=hs.flatMap fun h=>Kh (stp h.2) (L7 cst) h.1 bud ([]::ext CQ (bud - h.1).toNat (CN cs h.2) [])
theorem dU (stp:Pl->List T3->Pl) (cst:Pl->Int×Bool) (bud:Int) (cs:List Int):∀(hs G:List AY),hs.foldl (Oi stp cst bud cs) G=(Ki stp cst bud cs hs).foldl (FW 40) G
 |[],_=>rfl|h::t,G=>by have e:Ki stp cst bud cs (h::t)=Kh (stp h.2) (L7 cst) h.1 bud ([]::ext CQ (bud - h.1).toNat (CN cs h.2) [])++Ki stp cst bud cs t:=List.flatMap_cons;rw[List.foldl_cons,dU stp cst bud cs t,e,List.foldl_append];rfl
theorem WP (stp:Pl->List T3->Pl) (cst:Pl->Int×Bool) (bud:Int) (cs:List Int) (hs:List AY):Ku stp cst bud cs hs=(Ki stp cst bud cs hs).foldl (FW 40) []:=dU _ _ _ _ _ _
theorem aK {stp:Pl->List T3->Pl} {cst:Pl->Int×Bool} {bud:Int} {cs:List Int} {hs:List AY} (hb:∀h∈hs,bud - h.1<=2) {x:AY} (hx:x∈Ki stp cst bud cs hs):
  ∃h∈hs,∃S,D6 (CN cs h.2) S/\(cst (stp h.2 S)).2=true/\x=(h.1+S.length+(cst (stp h.2 S)).1,stp h.2 S)/\h.1+S.length+(cst (stp h.2 S)).1<=bud:=by
 obtain⟨h,hh,hx⟩:=List.mem_flatMap.1 hx;have hb:=hb h hh;obtain⟨S,hS,c,hc,hl,rfl⟩:=VU.1 hx;refine⟨h,hh,S,?_,?_⟩
 .rcases List.mem_cons.1 hS with rfl|hS
  .exact D6.nil _
  exact P1 (Ok:=D6 (CN cs h.2)) (F:=CN cs h.2) (fun sm f h1 h2 h3 h4=>h1.snoc h2 h3 h4) vz5 (D6.nil _) (fun f hf=>hf) S hS
 unfold L7 at hc;split at hc
 .rename_i h2;cases hc
  exact⟨h2,rfl,hl⟩
 cases hc
open Go.Plant Go.Inf
theorem bZ (y:Ly) (p:Pl) (pl:List T3) (bud:Int):∀(rs:List Dh) (i:Nat) (t:Int),0<=t->t<=bud->0<=(Kk y p pl bud i rs t).1/\(Kk y p pl bud i rs t).1<=bud
 |[],i,t,h0,h1=>⟨h0,h1⟩|r::l,i,t,h0,h1=>by
  rw[Kk];have hc:=b6 (E8 y p pl i) r;by_cases c:(Gk (E8 y p pl i) r).2=false\/bud<t+(Gk (E8 y p pl i) r).1
  .rw[iP c];exact⟨Int.le_refl _,by show(0:Int)<=bud;omega⟩
  rw[iN c];exact bZ y p pl bud l (i+1) _ oM oM
theorem Wl (y:Ly) (p:Pl) (pl:List T3) (bud:Int) (hb:0<=bud) (rs:List Dh):0<=(Gj y p pl bud rs).1/\(Gj y p pl bud rs).1<=bud:=bZ y p pl bud rs 0 0 (Int.le_refl _) hb
def LQ (y:Ly) (bud:Int) (pl:List T3) (c:List Int) (q:Pl) (hs:List AY):List AY:=Ku (fun r X=>(Cg y r c X).1) (fun r=>Gj y r pl bud (E9 y q pl)) bud c hs
section
variable {A n:Nat} {y:Ly} {L:List Int} {p:Pl} {bud:Int} {hs:List AY} {m:Nat} {c:List Int}
theorem ER.sxX (hg:ER A n y) (h:Bh y p L) (hc:c.length=n) (hk:∀i,i<n->CM (y.U.getD i default) (c.getD i 0)=true) {X:List T3} (hX:D6 (CN c p) X):Sx A n y p c X:=
 hg.g.sx h hc hk (h.ftOk hX) (by have:=hX.2.2;omega)
theorem YO (hg:ER A n y) (hL:FU L) {a b:Pl} (ha:Bh y a L) (hb:Bh y b L) (e:AZ a=AZ b):a=b:=by have hn:=hg.g.n11;have hl:=hg.g.len;exact ha.inj oM hL hb (by rw[e])
end
open Go.Plant Go.Inf
def Rn (y:Ly) (node bag:Int) (hs:List AY):List AY:=hs.filterMap fun h=>if(Fh y node bag h.2).2=true then some (h.1,(Fh y node bag h.2).1) else none
theorem ia (y:Ly) (node bag:Int):∀(hs G:List AY),hs.foldl (SL (Fh y node bag)) G=(Rn y node bag hs).foldl Inf.gadd G
 |[],_=>rfl|h::t,G=>by
  unfold Rn;rw[List.foldl_cons,ia y node bag t,List.filterMap_cons];unfold SL Rn;by_cases c:(Fh y node bag h.2).2=true
  .rw[iP c,iP c];rfl
  rw[iN c,iN c]
theorem g7:∀{Y X G:List AY},Jv X G->Jv (X++Y) (Y.foldl Inf.gadd G)
 |[],X,G,h=>by rw[List.append_nil];exact h|a::Y,X,G,h=>by
  have:=g7 (Y:=Y) (h.gadd (h:=a))
  rwa[List.append_assoc,List.singleton_append] at this
theorem dY:∀(Y G:List AY),(Y.foldl Inf.gadd G).length<=G.length+Y.length
 |[],_=>lR _|y::Y,G=>by rw[List.foldl_cons];have h1:=dY Y (Inf.gadd G y);have h2:=P5 G y;simp only[List.length_cons];omega
section
variable {A n:Nat} {y:Ly} {L:List Int} {p:Pl} {bud:Int} {hs:List AY} {m:Nat} {c:List Int} {node bag:Int}
theorem zP (hg:ER A n y):Bh y (F7 y) []:=by
 have hv:=hg.val;have hs:=hg.sml;have e:F7 y=GN y.U y.U.length:=by unfold F7;rw[iP hv]
 have Dc:=hg.g.len;have hN:=hs.n;have l1:=(TN y.U y.U.length).1;have l2:=(TN y.U y.U.length).2;have hr:∀t,t<y.U.length->(GN y.U y.U.length).Q.getD t []=List.replicate (y.U.getD t default).ln.toNat 0:=fun t ht=>by simp[GN,ht]
 have hb:∀t,(GN y.U y.U.length).R.getD t []=[]:=fun t=>by simp[GN,List.getElem?_replicate];split<;>rfl
 have IH:∀k,nz (List.replicate k (0:Int))=[]:=fun k=>by
  induction k with
  |zero=>rfl|succ k ih=>rw[List.replicate_succ,NU,ih]
 have DZ:∀N,N<=y.U.length->ED (GN y.U y.U.length) N=[]:=fun N=>by
  induction N with
  |zero=>intro _;rfl|succ N ih=>intro h;rw[ED,ih oM];unfold FS;rw[hr N oM,hb,IH];rfl
 have AK:=fun i hi=>J6 (Te hv i hi);rw[e];refine⟨⟨oM,l1,l2,fun t ht=>?_,fun t ht=>?_,fun t ht=>?_,fun t ht=>?_,fun t ht=>?_⟩,by rw[DZ _ (lR _)],fun t ht=>?_⟩
 .rw[hr t ht,List.length_replicate]
 .rw[hb];exact zL _
 .have:=AK t ht;omega
 .have Fp:=(hg.g.shp t oM).ln;intro AM;rw[AN,Bool.and_eq_true,decide_eq_true_eq,decide_eq_true_eq] at AM;exact(Fp AM.2).1
 .have:=hg.g.exl (m:=t) oM;rw[CT] at this;split at this
  .omega
  split at this<;>omega
 rw[hb];exact .nil
end
open Go.Plant Go.Inf
theorem kH (pl:List T3) (b:Int):MW pl b=[]\/(MW pl b).length=10:=by
 unfold MW;split
 .unfold Go.Scr.Plt.fmt;split
  .exact .inr (Go.Scr.digs_length _ _)
  exact .inl rfl
 exact .inl rfl
section
variable {A n:Nat} {y:Ly} {L:List Int} {p:Pl} {bud:Int} {hs:List AY} {c:List Int}
theorem ER.dvF (hg:ER A n y) (h:Bh y p L):K5 y p:=by have h1:=hg.g.n11;have h2:=hg.g.len;exact h.dvF oM hg.d hg.dl
theorem QiR (hg:ER A n y) (hL:FU L) (hb:0<=bud/\bud<=2) (DZ:∀h∈hs,Bh y h.2 L) (O2:∀h∈hs,0<=h.1/\h.1<=bud) (C3:hs.length<=1000)
  (hc:c.length=n) (hk:∀i,i<n->CM (y.U.getD i default) (c.getD i 0)=true) {kf:Nat} {cp:List (List AV)} {cst:Pl->Int×Bool}
  (hco:∀h∈hs,∀X,D6 (CN c h.2) X->Ag prog Ad kf [] ((Cg y h.2 c X).1.av::L1 cp) [] (.tup [I (cst (Cg y h.2 c X).1).1,B (cst (Cg y h.2 c X).1).2])) (Xs:∀q,0<=(cst q).1/\(cst q).1<=1000)
  (G:List AY) (hG:Ku (fun r X=>(Cg y r c X).1) cst bud c hs=G) (r:D5) (e:Int) (hr:(G=[]/\r=⟨0,[]⟩/\e=11)\/(40<G.length/\r=⟨0,[]⟩/\e=2)\/(G≠[]/\G.length<=40/\r=⟨bud,(IP G).map Ba⟩/\e=0)):
  Ag prog Ad 67 [] [.P (Df y (Dz y.U)),(D5.mk bud (hs.map Ba)).av,IS c, .fn kf (L1 cp)] [] (.tup [r.av,I e]):=by
 have hn:=hg.g.n11;have KF:=hg.g.len;have Qd:=hL.len;have AM:∀h∈hs,∀X,D6 (CN c h.2) X->Bh y (Cg y h.2 c X).1 L:=fun h hh X hX=>Vp (hg.sxX (DZ h hh) hc hk hX) (DZ h hh) hL;have OH:∀a b,Bh y a L->Bh y b L->B3 (AZ a)=B3 (AZ b)->a=b:=fun a b ha hb=>ha.inj oM hL hb;have Cp:∀q,Bh y q L->M1 q:=fun q h=>h.kyN oM hL;have Xw:∀h∈hs,∀X∈([]::ext CQ (bud - h.1).toNat (CN c h.2) []),D6 (CN c h.2) X:=fun h hh X hX=>by
  have hu:=O2 h hh;rcases List.mem_cons.1 hX with rfl|hX
  .exact D6.nil _
  exact P1 (Ok:=D6 (CN c h.2)) (F:=CN c h.2) (fun sm f h1 h2 h3 h4=>h1.snoc h2 h3 h4) vz5 (D6.nil _) (fun f hf=>hf) X hX
 have Ny:=HV.foldl (Y:=Ki (fun r X=>(Cg y r c X).1) cst bud c hs) (HV.nil (P:=Pl) 40);rw[WP] at hG;rw[List.nil_append,hG] at Ny;have Gu:∀x∈G,Bh y x.2 L:=fun x hx=>by
  have hm:∃z∈Ki (fun r X=>(Cg y r c X).1) cst bud c hs,z.2=x.2:=by
   rcases Ny.2 with ⟨_,h1⟩|⟨_,_,h1⟩
   .exact⟨x,h1.mem x hx,rfl⟩
   exact h1 x hx
  obtain⟨z,hz,xF⟩:=hm;obtain⟨g,EJ,S,hS,h2,h3,h4⟩:=aK (fun g hg=>by have:=O2 g hg;omega) hz;rw[<-xF,h3];exact AM g EJ S hS
 have Cq:G.length<=40->G.Pairwise fun a b=>a.2≠b.2:=fun h1=>by
  rcases Ny.2 with ⟨_,h1⟩|⟨h1,_⟩
  .exact h1.one
  omega
 refine aG (Gd:=fun q=>Bh y q L) (stp:=fun r X=>(Cg y r c X).1) (cst:=cst) hs C3 (fun h hh=>?_) (fun h hh G' Oo Ou=>?_) (fun h hh G' Oo Ou=>?_) (fun q hq=>hq.kyP oM) _ ?_
 .exact cS y _ h.2 c ((DZ h hh).kyP oM) (by have:=(DZ h hh).fp.sl;omega) oM
 .have hu:=O2 h hh;have Dv:=(DZ h hh).flt_len c;exact cB (Ok:=D6 (CN c h.2)) (Gd:=fun q=>Bh y q L) (F:=CN c h.2) (mv:=fun X=>(Cg y h.2 c X).2) (stp:=fun X=>(Cg y h.2 c X).1) (cst:=cst) (hp:=h.2) (us:=h.1)
   (fun X hX=>qz hg (hg.sxX (DZ h hh) hc hk hX) (DZ h hh)) (hco h hh) Xs (fun X hX=>AM h hh X hX) Cp OH (fun sm f h1 h2 h3 h4=>h1.snoc h2 h3 h4) hu.1 hb.2
   (bud - h.1).toNat [] (CN c h.2) G' vz5 (D6.nil _) (fun f hf=>hf) oM Oo Ou
 .exact⟨Zq (Gd:=fun q=>Bh y q L) (fun X hX=>AM h hh X (Xw h hh X hX)) Oo,Zr _ _ _ _ _ Ou⟩
 rw[WP,hG];rcases hr with ⟨h1,h2,h3⟩|⟨h1,h2,h3⟩|⟨h0,h1,h2,h3⟩
 .exact .inl ⟨h1,by rw[h2,h3]⟩
 .exact .inr (.inl ⟨h1,by rw[h2,h3]⟩)
 exact .inr (.inr ⟨h0,h1,IP G,Jn G,ZD (Cq h1) fun a ha b hb e=>YO hg hL (Gu a ha) (Gu b hb) e,by rw[h2,h3]⟩)
theorem ER.ex5 (hg:ER A n y):∀m,m<y.U.length->(y.U.getD m default).ex.length<=500:=fun m hm=>by
 have KF:=hg.g.len;have:=hg.g.exl (m:=m) oM;rw[CT] at this;split at this
 .omega
 split at this<;>omega
theorem QiH (hg:ER A n y) (hL:FU L) (hb:0<=bud/\bud<=2) (DZ:∀h∈hs,Bh y h.2 L) (O2:∀h∈hs,0<=h.1/\h.1<=bud) (C3:hs.length<=1000)
  (hc:c.length=n) (hk:∀i,i<n->CM (y.U.getD i default) (c.getD i 0)=true) (pl:List T3) (rs:List Dh) (EK:pl.length=40)
  (hl:rs.length=y.D.length) (hd:∀i,i<rs.length->(rs.getD i default).dv=(i:Int)) (G:List AY) (hG:Ku (fun r X=>(Cg y r c X).1) (fun r=>Gj y r pl bud rs) bud c hs=G) (r:D5) (e:Int)
  (hr:(G=[]/\r=⟨0,[]⟩/\e=11)\/(40<G.length/\r=⟨0,[]⟩/\e=2)\/(G≠[]/\G.length<=40/\r=⟨bud,(IP G).map Ba⟩/\e=0)):
  Ag prog Ad 21 [] [y.av,(D5.mk bud (hs.map Ba)).av,IS c, .sl (Ai pl) false, .sl (Eu rs) false] [] (.tup [r.av,I e]):=by
 have hn:=hg.g.n11;have KF:=hg.g.len;have I4:=hg.dl;refine g8 y bud hs c pl rs hg.sml hg.val hg.g.ex C3 (fun h hh=>(DZ h hh).fp) oM hg.ex5 (ji hg.g hc hk ⟨sM,sM⟩ (zL _)) hl oM hd _ _ ?_;exact QiR (cp:=[[.sl (Eu rs) false],[.sl (AA y.U) false, .sl (Ai y.D) false],[.sl (Ai pl) false],[I bud, .sl (BY (hs.map Ba)) false]]) hg hL hb DZ O2 C3 hc hk
  (fun h hh X hX=>cC y _ pl bud (hs.map Ba) rs (hg.dvF (Vp (hg.sxX (DZ h hh) hc hk hX) (DZ h hh) hL)) hl hd oM (fun d=>kH _ _) hb)
  (fun q=>by have:=Wl y q pl bud hb.1 rs;omega) G hG r e hr
end
open Go.Plant Go.Inf
theorem jC {α:Type} {l:List α} {i:Nat} (h:i<l.length) {d:α}:l.getD i d=l[i]:=by simp[gE,h]
open Go.Plant Go.Inf
theorem Qhx {cs:List Int} {m:Nat} {s:List Int} {f:T3}:∀{K:Nat},K<=s.length->(f∈CU cs m s K↔∃k:Nat,k<K/\f.c=k/\f∈Mg cs m s k)
 |0,_=>⟨fun h=>vx0,fun⟨k,h,_⟩=>absurd h (nZ _)⟩|K+1,hK=>by
  rw[CU,List.mem_append,Qhx oM];constructor
  .rintro(⟨k,h1,h2⟩|h)
   .exact⟨k,oM,h2⟩
   exact⟨K,oM,(qX oM h).2.2.1,h⟩
  rintro⟨k,h1,h2,h3⟩;by_cases e:k=K
  .subst e;exact .inr h3
  exact .inl ⟨k,oM,h2,h3⟩
theorem QhH {cs:List Int} {ss:List (List Int)} {f:T3}:∀{N:Nat},f∈I0 cs ss N↔∃m k:Nat,m<N/\k<(ss.getD m []).length/\f.b=m/\f.c=k/\f∈Mg cs m (ss.getD m []) k
 |0=>⟨fun h=>vx0,fun⟨m,k,h,_⟩=>absurd h (nZ _)⟩|N+1=>by
  rw[I0,List.mem_append,QhH,Qhx (lR _)];constructor
  .rintro(⟨m,k,h1,h2⟩|⟨k,h1,h2,h3⟩)
   .exact⟨m,k,oM,h2⟩
   exact⟨N,k,oM,h1,(qX h1 h3).2.1,h2,h3⟩
  rintro⟨m,k,h1,h2,h3,h4,h5⟩;by_cases e:m=N
  .subst e;exact .inr ⟨k,h2,h4,h5⟩
  exact .inl ⟨m,k,oM,h2,h3,h4,h5⟩
theorem Qib {cs:List Int} {p:Pl} {a:Int} {m k:Nat} (hm:m<p.Q.length) (hk:k<(p.Q.getD m []).length):(⟨a,m,k⟩:T3)∈CN cs p↔(⟨a,m,k⟩:T3)∈Mg cs m (p.Q.getD m []) k:=by
 unfold CN;rw[QhH];constructor
 .rintro⟨m',k',_,_,h3,h4,h5⟩;have e1:m=m':=by simp only at h3;omega
  have e2:k=k':=by simp only at h4;omega
  rw[e1,e2] at h5 ⊢;exact h5
 intro h;exact⟨m,k,hm,hk,rfl,rfl,h⟩
theorem QiY (cs:List Int) (m:Nat) (s:List Int) (k:Nat):(Mg cs m s k).Nodup:=by
 unfold Mg;split
 .exact .nil
 split
 .split
  .exact .nil
  simp
 split
 .exact .nil
 split
 .split<;>simp
 simp
theorem Qic (cs:List Int) (m:Nat) (s:List Int):∀{K:Nat},K<=s.length->(CU cs m s K).Nodup
 |0,_=> .nil|K+1,hK=>by rw[CU,List.nodup_append];refine⟨Qic cs m s oM,QiY _ _ _ _,fun f hf g hg e=>?_⟩;obtain⟨k,h1,h2,_⟩:=(Qhx oM).1 hf;have:=(qX oM hg).2.2.1;rw[<-e] at this;omega
theorem Qia (cs:List Int) (ss:List (List Int)):∀N,(I0 cs ss N).Nodup
 |0=> .nil|N+1=>by rw[I0,List.nodup_append];refine⟨Qia cs ss N,Qic _ _ _ (lR _),fun f hf g hg e=>?_⟩;obtain⟨m,k,h1,_,h2,_⟩:=QhH.1 hf;obtain⟨k',h3,_,h4⟩:=(Qhx (lR _)).1 hg;have:=(qX h3 h4).2.1;rw[<-e] at this;omega
def Zp (cs:List Int) (p:Pl) (X:List T3):List T3:=(CN cs p).filter fun f=>X.any (CD f)
theorem j8 {cs:List Int} {p:Pl} {X:List T3} {f:T3}:f∈Zp cs p X↔f∈CN cs p/\f∈X:=by
 unfold Zp;rw[List.mem_filter,List.any_eq_true];constructor
 .rintro⟨h1,g,h2,h3⟩;rw[Wx.1 h3];exact⟨Wx.1 h3 ▸ h1,h2⟩
 rintro⟨h1,h2⟩;exact⟨h1,f,h2,Wx.2 rfl⟩
theorem Qiy (cs:List Int) (p:Pl) (X:List T3):(Zp cs p X).Nodup:=(Qia _ _ _).sublist List.filter_sublist
theorem QhD {fs:List T3} {n:Int} {ln k:Nat} (hk:k<ln) (a:Int) (hu:∀f∈fs,f.b=n->f.c.toNat=k->f.a=a):∀i,i<=fs.length->(Fg fs n ln i).getD k 0=if(∃j,j<i/\(fs.getD j default).b=n/\(fs.getD j default).c.toNat=k) then a else 0
 |0,_=>by rw[iN (fun⟨j,h,_⟩=>absurd h (nZ _))];simp only[Fg,gE,List.getElem?_replicate];split<;>rfl
 |i+1,hi=>by
  have ih:=QhD hk a hu i oM;have hl:=Q5 fs n ln i;rw[Fg,M3];by_cases c:(fs.getD i default).b=n
  .rw[iP c];by_cases c2:(fs.getD i default).c.toNat=k
   .rw[iP ⟨i,oM,c,c2⟩,c2,gE,List.getElem?_set_self oM];exact hu _ (GQ oM _) c c2
   rw[gE,List.getElem?_set_ne c2,<-gE,ih];refine ite_congr (propext ⟨fun⟨j,h1,h2⟩=>⟨j,oM,h2⟩,fun⟨j,h1,h2,h3⟩=>⟨j,?_,h2,h3⟩⟩) (fun _=>rfl) (fun _=>rfl);rcases(by omega:j<i\/j=i) with h|rfl
   .exact h
   exact absurd h3 c2
  rw[iN c,ih];refine ite_congr (propext ⟨fun⟨j,h1,h2⟩=>⟨j,oM,h2⟩,fun⟨j,h1,h2,h3⟩=>⟨j,?_,h2,h3⟩⟩) (fun _=>rfl) (fun _=>rfl);rcases(by omega:j<i\/j=i) with h|rfl
  .exact h
  exact absurd h2 c
theorem Qh0 {fs:List T3} {n:Int} {ln k:Nat} (hk:k<ln) {f:T3} (hf:f∈fs) (hb:f.b=n) (hc:f.c.toNat=k) (hu:∀g∈fs,g.b=n->g.c.toNat=k->g.a=f.a):(DW fs n ln).getD k 0=f.a:=by unfold DW;rw[QhD hk f.a hu _ (lR _),iP];obtain⟨j,hj,rfl⟩:=List.getElem_of_mem hf;exact⟨j,hj,by rw[jC hj];exact hb,by rw[jC hj];exact hc⟩
theorem QhC {fs:List T3} {n:Int} {ln k:Nat} (hk:k<ln) (hu:∀g∈fs,g.b=n->g.c.toNat=k->False):(DW fs n ln).getD k 0=0:=by unfold DW;rw[QhD hk 0 (fun g h1 h2 h3=>(hu g h1 h2 h3).elim) _ (lR _)];split<;>rfl
end Go.Proofs.YtfcgkbinohibcaaGreatDoor
namespace Go.Plant
def QbA (b:Int) (r:List Int) (f c:Int):Int:=
 if b=0 then 0
 else if r=[] then(if 0<=c/\f=1 then 1 else 0)
 else if r.getD 0 0≠0 then 0
 else if f=1 then 1
 else if f=2/\1<r.length/\r.getD 1 0=0 then 2 else 0
def jQ:List Int->List Int->Int->List Int
 |[],_,_=>[]|b::r,fs,c=>QbA b r (fs.getD 0 0) c::jQ r (fs.drop 1) c
theorem QhN:∀(s fs:List Int) {c:Int} {op:Bool},(c<0->op=false)->BO s (jQ s fs c) op=BO s fs op
 |[],_,_,_,_=>rfl|b::r,fs,c,op,h=>by
  have ih:=QhN r (fs.drop 1) h;have e1:(jQ (b::r) fs c).drop 1=jQ r (fs.drop 1) c:=rfl;have e2:(jQ (b::r) fs c).getD 0 0=QbA b r (fs.getD 0 0) c:=rfl;rw[BO,BO,e1,e2,ih];generalize fs.getD 0 0=f;generalize BO r (fs.drop 1) op=A;unfold QbA;by_cases hb:b=0
  .rw[iP hb,iP hb]
  rw[iN hb,iN hb,iN hb];by_cases hr:r=[]
  .rw[iP hr,iP hr,iP hr];cases op with
   |false=>simp|true=>
    have hc:0<=c:=by
     rcases Int.lt_or_le c 0 with h1|h1
     .exact absurd (h h1) sM
     exact h1
    by_cases hf:f=1
    .rw[iP (show 0<=c/\f=1 from⟨hc,hf⟩)];simp[hf]
    rw[iN (show ¬(0<=c/\f=1) from fun h=>hf h.2)];simp[hf]
  rw[iN hr,iN hr,iN hr];by_cases h0:r.getD 0 0=0
  .rw[iN (show ¬r.getD 0 0≠0 from fun h=>h h0)];by_cases hf:f=1
   .rw[iP hf,iP (.inl rfl),iP (.inl hf)]
   rw[iN hf,iN (show ¬(f=1\/r.getD 0 0≠0) from fun h=>h.elim hf fun h=>h h0)];by_cases h2:f=2/\1<r.length/\r.getD 1 0=0
   .rw[iP h2];obtain⟨h3,h4⟩:=h2;rw[iN (show ¬((2:Int)=1\/r.getD 0 0≠0) from fun h=>h.elim dM fun h=>h h0),iP ⟨rfl,h4⟩,iP ⟨h3,h4⟩]
   rw[iN h2,iN (show ¬((0:Int)=1\/r.getD 0 0≠0) from fun h=>h.elim dM fun h=>h h0),iN (show ¬((0:Int)=2/\1<r.length/\r.getD 1 0=0) from fun h=>absurd h.1 dM),iN h2]
  rw[iP (show r.getD 0 0≠0 from h0),iP (.inr h0),iP (.inr h0)]
theorem Qiw:∀(s fs:List Int) (c:Int),(jQ s fs c).length=s.length
 |[],_,_=>rfl|b::r,fs,c=>by rw[jQ,List.length_cons,List.length_cons,Qiw r]
theorem Qiv:∀(s fs:List Int) (c:Int) (k:Nat),k<s.length->(jQ s fs c).getD k 0=QbA (s.getD k 0) (s.drop (k+1)) (fs.getD k 0) c
 |[],_,_,_,h=>absurd h (nZ _)|b::r,fs,c,0,_=>rfl|b::r,fs,c,k+1,h=>by
  have:=Qiv r (fs.drop 1) c k vy0;rw[jQ,List.getD_cons_succ,this,List.getD_cons_succ,List.drop_succ_cons];have e:(fs.drop 1).getD k 0=fs.getD (k+1) 0:=by simp[gE,Nat.add_comm]
  rw[e]
end Go.Plant
namespace Go.Proofs.YtfcgkbinohibcaaGreatDoor
open Go Go.Sym Go.Proofs.Tryz
open Go.Plant Go.Inf
section
variable {A n:Nat} {y:Ly} {L:List Int} {p:Pl} {cs:List Int} {X:List T3}
theorem Ju.win (h:Ju y.U X) {f g:T3} (hf:f∈X) (hg:g∈X) (hb:f.b=g.b) (hc:f.c=g.c):f=g:=by
 obtain⟨i,hi,rfl⟩:=List.getElem_of_mem hf;obtain⟨j,hj,rfl⟩:=List.getElem_of_mem hg;rcases Nat.lt_trichotomy i j with h1|h1|h1
 .exact absurd ⟨hb.symm,hc.symm⟩ ((List.pairwise_iff_getElem.1 h.dif) i j hi hj h1)
 .subst h1;rfl
 exact absurd ⟨hb,hc⟩ ((List.pairwise_iff_getElem.1 h.dif) j i hj hi h1)
theorem Qix:(Zp cs p X).length<=X.length:=by
 have h:∀{l m:List T3},l.Nodup->(∀a∈l,a∈m)->l.length<=m.length:=fun {l m} hn hs=>by
  have:=QiA (l:=l.map fun f=>(f.a,f.b,f.c)) (m:=m.map fun f=>(f.a,f.b,f.c)) (List.pairwise_map.2 (hn.imp fun {a b} KA e=>KA (by
   obtain⟨a1,a2,a3⟩:=a;obtain⟨b1,b2,b3⟩:=b;simp only[Prod.mk.injEq] at e;obtain⟨rfl,rfl,rfl⟩:=e;rfl))) fun x hx=>by obtain⟨f,hf,rfl⟩:=List.mem_map.1 hx;exact List.mem_map.2 ⟨f,hs f hf,rfl⟩
  simpa using this
 exact h (Qiy _ _ _) fun a ha=>(j8.1 ha).2
theorem Qjj (h:Ju y.U X) (hl:X.length<=2):D6 (CN cs p) (Zp cs p X):=by refine⟨fun f hf=>(j8.1 hf).1,(Qiy cs p X).imp_of_mem fun {f g} hf hg Bj he=>?_,by have:=Qix (cs:=cs) (p:=p) (X:=X);omega⟩;unfold CQ at he;rw[Prod.mk.injEq] at he;exact Bj (h.win (j8.1 hf).2 (j8.1 hg).2 he.1 he.2)
theorem Qjg {s:List Int} {k m:Nat} (hk:k<s.length) {a:Int} (ha:a=1\/a=2):QbA (s.getD k 0) (s.drop (k+1)) a (cs.getD m 0)=if(Mg cs m s k).any (CD ⟨a,m,k⟩)=true then a else 0:=by
 have e0:(s.drop (k+1)).getD 0 0=s.getD (k+1) 0:=by simp[gE]
 have e1:(s.drop (k+1)).getD 1 0=s.getD (k+2) 0:=by simp[gE]
 have el:(s.drop (k+1)).length=s.length - (k+1):=List.length_drop;have q1:CD ⟨a,m,k⟩ ⟨1,m,k⟩=decide (a=1):=by simp[CD]
 have q2:CD ⟨a,m,k⟩ ⟨2,m,k⟩=decide (a=2):=by simp[CD]
 unfold QbA Mg;rw[e0,e1,el];by_cases h0:s.getD k 0=0
 .rw[iP h0,iP h0];rfl
 rw[iN h0,iN h0];by_cases h1:k+1=s.length
 .rw[iP h1,iP (by rw[h1,List.drop_length])];by_cases h2:cs.getD m 0<0
  .rw[iP h2,iN (fun h=>oM)];rfl
  rw[iN h2,List.any_cons,List.any_nil,Bool.or_false,q1];rcases ha with rfl|rfl
  .rw[iP ⟨oM,rfl⟩];rfl
  rw[iN (fun h=>by cases h.2)];rfl
 rw[iN h1,iN (fun h=>by rw[List.drop_eq_nil_iff] at h;omega)];by_cases h2:s.getD (k+1) 0≠0
 .rw[iP h2,iP h2];rfl
 rw[iN h2,iN h2,List.any_cons,q1];rcases ha with rfl|rfl
 .rw[iP rfl];rfl
 rw[iN dM];by_cases h3:k+2<s.length
 .rw[iP h3];by_cases h4:s.getD (k+2) 0=0
  .rw[iP h4,iP ⟨rfl,oM,h4⟩,List.any_cons,q2];rfl
  rw[iN h4,iN (fun h=>h4 h.2.2)];rfl
 rw[iN h3,iN (fun h=>oM)];rfl
theorem Qjk (hi:Bh y p L) (hX:Ju y.U X) {m:Nat} (hm:m<y.U.length):DW (Zp cs p X) m (y.U.getD m default).ln.toNat=jQ (p.Q.getD m []) (DW X m (y.U.getD m default).ln.toNat) (cs.getD m 0):=by
 have hr:=hi.fp.row m hm;have C3:=hi.fp.sl;have l1:=aR (Zp cs p X) m (y.U.getD m default).ln.toNat;have l2:=Qiw (p.Q.getD m []) (DW X m (y.U.getD m default).ln.toNat) (cs.getD m 0);refine List.ext_getElem oM fun k h1 h2=>?_;rw[<-jC h1 (d:=0),<-jC h2 (d:=0),Qiv _ _ _ _ oM];have hk:k<(y.U.getD m default).ln.toNat:=oM;by_cases c:∃f∈X,f.b=(m:Int)/\f.c.toNat=k
 .obtain⟨f,hf,hb,hc⟩:=c;have ho:=hX.ok f hf;have hu:∀g∈X,g.b=(m:Int)->g.c.toNat=k->g=f:=fun g hg h3 h4=>hX.win hg hf (h3.trans hb.symm) (by have:=hX.ok g hg;omega);have JL:f=⟨f.a,m,k⟩:=by obtain⟨a,b,c⟩:=f;simp only at hb hc ho ⊢;rw[hb,show c=(k:Int) by omega]
  rw[Qh0 hk hf hb hc (fun g hg h3 h4=>by rw[hu g hg h3 h4]),Qjg oM ho.1];have Qiq:(Mg cs m (p.Q.getD m []) k).any (CD ⟨f.a,m,k⟩)=true↔f∈CN cs p:=by rw[List.any_eq_true];have:=Qib (cs:=cs) (p:=p) (a:=f.a) (m:=m) (k:=k) oM oM;rw[<-JL] at this ⊢;rw[this];exact⟨fun⟨g,h3,h4⟩=>by rw[Wx.1 h4];exact h3,fun h3=>⟨f,h3,Wx.2 rfl⟩⟩
  by_cases c2:f∈CN cs p
  .rw[iP (Qiq.2 c2)];exact Qh0 hk (j8.2 ⟨c2,hf⟩) hb hc (fun g hg h3 h4=>by rw[hu g (j8.1 hg).2 h3 h4])
  rw[iN (fun h=>c2 (Qiq.1 h))];exact QhC hk fun g hg h3 h4=>c2 (by rw[<-hu g (j8.1 hg).2 h3 h4];exact(j8.1 hg).1)
 rw[QhC hk (fun g hg h3 h4=>c ⟨g,(j8.1 hg).2,h3,h4⟩),QhC hk (fun g hg h3 h4=>c ⟨g,hg,h3,h4⟩)];unfold QbA;split
 .rfl
 split
 .rw[iN (fun h=>oM)]
 split
 .rfl
 rw[iN dM,iN (fun h=>oM)]
end
open Go.Plant Go.Inf
section
variable {A n:Nat} {y:Ly} {L:List Int} {p:Pl} {cs:List Int} {X:List T3}
theorem QjO (hx:Sx A n y p cs X) (hi:Bh y p L) (hX:Ju y.U X):WN y p cs (Zp cs p X)=WN y p cs X:=by
 have KF:=hx.good.len;refine List.ext_getElem (by simp[WN,Fe]) fun m h1 h2=>?_;have hm:m<y.U.length:=by simp[WN,Fe] at h1;exact h1
 rw[<-jC h1 (d:=0),<-jC h2 (d:=0)];unfold WN;rw[kP hm,kP hm];unfold IQ;by_cases c7:(y.U.getD m default).kd=7
 .rw[iP c7,iP c7]
 rw[iN c7,iN c7];by_cases cst:AN (y.U.getD m default).kd=false
 .rw[iP cst,iP cst]
 rw[iN cst,iN cst];by_cases c0:(p.Q.getD m []).getD ((y.U.getD m default).ln.toNat - 1) 0=0
 .rw[iP (.inl c0),iP (.inl c0)]
 have AM:=hi.fp.st m hm (by simpa using cst);have NG:=hi.fp.row m hm;obtain⟨k,hk⟩:∃k:Nat,(y.U.getD m default).ln=(k:Int)+1:=⟨((y.U.getD m default).ln - 1).toNat,oM⟩;have Bi:(y.U.getD m default).ln - 1=(k:Int):=oM;have Ch:(y.U.getD m default).ln.toNat - 1=k:=oM;rw[Bi];rw[Ch] at c0;have GZ:(⟨1,m,k⟩:T3)∈Zp cs p X↔(⟨1,m,k⟩:T3)∈X/\¬cs.getD m 0<0:=by
  rw[j8,Qib (by have:=hi.fp.sl;omega) oM,And.comm];refine and_congr_right fun _=>?_;unfold Mg;rw[iN c0,iP oM];by_cases c:cs.getD m 0<0
  .rw[iP c];exact⟨fun h=>vx0,fun h=>absurd c h⟩
  rw[iN c];exact⟨fun _=>c,fun _=>List.mem_singleton.2 rfl⟩
 have ha:∀Z:List T3,Z.any (fun z=>CD ⟨1,m,k⟩ z)=true↔(⟨1,m,k⟩:T3)∈Z:=fun Z=>by rw[List.any_eq_true];exact⟨fun⟨g,h3,h4⟩=>by rw[Wx.1 h4];exact h3,fun h=>⟨_,h,Wx.2 rfl⟩⟩
 have QhJ:=hx.cmd m oM;have Ml:cs.getD m 0<0->cs.getD m 0=-1:=fun h=>by
  unfold CM at QhJ;rw[iN c7,iN cst] at QhJ;by_cases c:cs.getD m 0=-1
  .exact c
  rw[iN c,Bool.and_eq_true,decide_eq_true_eq] at QhJ;omega
 rw[Ch];by_cases c1:(⟨1,m,k⟩:T3)∈X
 .rw[iP (c:=_\/X.any _=true) (.inr ((ha X).2 c1))];by_cases c2:cs.getD m 0<0
  .rw[iN (fun h=>h.elim c0 fun h=>(GZ.1 ((ha _).1 h)).2 c2)];exact Ml c2
  rw[iP (.inr ((ha _).2 (GZ.2 ⟨c1,c2⟩)))]
 rw[iN (c:=_\/X.any _=true) (fun h=>h.elim c0 fun h=>c1 ((ha X).1 h)),iN (fun h=>h.elim c0 fun h=>c1 (GZ.1 ((ha _).1 h)).1)]
theorem QhV (hx:Sx A n y p cs X) (hi:Bh y p L) (hX:Ju y.U X) {m:Nat} (hm:m<y.U.length) (hs:AN (y.U.getD m default).kd=true):
  BO (p.Q.getD m []) (DW (Zp cs p X) m (y.U.getD m default).ln.toNat) (decide (0<=(Bd y p cs X).getD m 0))=BO (p.Q.getD m []) (DW X m (y.U.getD m default).ln.toNat) (decide (0<=(Bd y p cs X).getD m 0)):=by
 have KF:=hx.good.len;rw[Qjk hi hX hm];refine QhN _ _ fun hc=>dF fun h0=>?_;obtain⟨h1,_⟩:=Lk hx oM h0;obtain⟨_,h2⟩:=Py hx oM h1;rcases h2 with ⟨h3,_⟩|⟨_,h3,_⟩
 .rw[AN,h3] at hs;simp at hs
 omega
theorem QiF (hx:Sx A n y p cs X) (hi:Bh y p L) (hX:Ju y.U X):∀i,i<=y.U.length->AD y.U p cs (Zp cs p X) (Bd y p cs X) i=AD y.U p cs X (Bd y p cs X) i
 |0,_=>rfl|i+1,hle=>by
  have hb:D9 y.U p cs (Zp cs p X) (Bd y p cs X) i=D9 y.U p cs X (Bd y p cs X) i:=by
   unfold D9;by_cases c:AN (y.U.getD i default).kd=true
   .rw[iP c,iP c,QhV hx hi hX oM c]
   rw[iN c,iN c]
  rw[AD,AD,QiF hx hi hX i oM,hb];by_cases c:AN (y.U.getD i default).kd=true
  .rw[QhV hx hi hX oM c]
  simp only[iN c]
theorem QjI (hx:Sx A n y p cs X) (hi:Bh y p L) (hX:Ju y.U X):Cg y p cs (Zp cs p X)=Cg y p cs X:=by
 have e1:Bd y p cs (Zp cs p X)=Bd y p cs X:=by unfold Bd;rw[QjO hx hi hX]
 have e2:∀fs,Cg y p cs fs=EQ y.U p cs fs (Bd y p cs fs):=fun _=>rfl;rw[e2,e2,e1];unfold EQ;rw[QiF hx hi hX _ (lR _)]
end
open Go.Plant Go.Inf
structure CB (bud:Int) (y:Ly) (L:List Int) (hs:List AY) (p:Pl) (u:Int):Prop where
 pi:Bh y p L
 all:∀h∈hs,Bh y h.2 L
 us:∀h∈hs,0<=h.1/\h.1<=bud
 srt:hs.Pairwise fun a b=>CJ (AZ a.2) (AZ b.2)=true
 mem:∃v,v<=u/\(v,p)∈hs
 len:hs.length<=40
def xO (y:Ly) (bud:Int) (pl:List T3) (c:List Int) (rs:List Dh) (hs:List AY):List AY:=Ku (fun r X=>(Cg y r c X).1) (fun r=>Gj y r pl bud rs) bud c hs
section
variable {A n:Nat} {y:Ly} {L:List Int} {p:Pl} {bud u:Int} {hs:List AY} {c:List Int}
theorem CB.tick (hg:ER A n y) (hL:FU L) (hb:0<=bud/\bud<=2) (h:CB bud y L hs p u) (hc:c.length=n) (hk:∀i,i<n->CM (y.U.getD i default) (c.getD i 0)=true) (pl:List T3)
  {X:List T3} (hX:Ju y.U X) (tB:X.length<=2) {rs:List Dh} {w:Int} (hw:(Gj y (Cg y p c X).1 pl bud rs).2=true/\(Gj y (Cg y p c X).1 pl bud rs).1<=w) (eT:u+X.length+w<=bud)
  (hl:(xO y bud pl c rs hs).length<=40):
  xO y bud pl c rs hs≠[]/\CB bud y L (IP (xO y bud pl c rs hs)) (Cg y p c X).1 (u+X.length+w):=by
 obtain⟨q,hq⟩:∃q,q=(Cg y p c X).1:=⟨_,rfl⟩;have Yo:=hg.g.sx h.pi hc hk hX oM;have OS:Bh y q L:=by rw[hq];exact Vp Yo h.pi hL
 obtain⟨Z,hZ⟩:∃Z,Z=Ki (fun r X=>(Cg y r c X).1) (fun r=>Gj y r pl bud rs) bud c hs:=⟨_,rfl⟩;have JG:xO y bud pl c rs hs=Z.foldl (FW 40) []:=by rw[hZ];exact WP _ _ _ _ _
 have hZm:∀x∈Z,Bh y x.2 L/\0<=x.1/\x.1<=bud:=fun x hx=>by rw[hZ] at hx;obtain⟨g,EJ,S,hS,h2,h3,h4⟩:=aK (fun g hg=>by have:=h.us g hg;omega) hx;have JM:=h.all g EJ;have hu:=h.us g EJ;have Xs:=Wl y (Cg y g.2 c S).1 pl bud hb.1 rs;rw[h3];refine⟨Vp (hg.sxX JM hc hk hS) JM hL,?_,h4⟩;show 0<=g.1+(S.length:Int)+(Gj y (Cg y g.2 c S).1 pl bud rs).1;omega
 obtain⟨v,hv,jz⟩:=h.mem;have SC:=h.us _ jz;have Gw:=Qix (cs:=c) (p:=p) (X:=X);have XZ:=Qjj (cs:=c) (p:=p) hX tB;have Us:Cg y p c (Zp c p X)=Cg y p c X:=QjI Yo h.pi hX;have Qis:(v+(Zp c p X).length+(Gj y q pl bud rs).1,q)∈Z:=by
  rw[hZ];refine List.mem_flatMap.2 ⟨(v,p),jz,?_⟩;refine VU.2 ⟨Zp c p X,?_,(Gj y q pl bud rs).1,?_,?_,?_⟩
  .have:=(QjJ (win:=CQ) (k:=(bud - v).toNat) (others:=CN c p) (X:=Zp c p X)).2 ⟨List.filter_sublist,?_,XZ.2.1⟩
   .exact this
   rw[<-hq] at hw;have:=Wl y q pl bud hb.1 rs;simp only at SC;omega
  .unfold L7;simp only[Us,<-hq];rw[<-hq] at hw;rw[iP hw.1]
  .rw[<-hq] at hw;simp only;omega
  simp only[Us,<-hq]
 have Ny:=HV.foldl (Y:=Z) (HV.nil (P:=Pl) 40);rw[List.nil_append,<-JG] at Ny;have hI:Jv Z (xO y bud pl c rs hs):=by
  rcases Ny.2 with ⟨_,h1⟩|⟨h1,_⟩
  .exact h1
  omega
 obtain⟨g,HC,Nz⟩:=hI.all _ Qis;have EJ:=hI.least g HC _ Qis Nz.symm;have DZ:∀x∈xO y bud pl c rs hs,Bh y x.2 L:=fun x hx=>(hZm x (hI.mem x hx)).1;rw[<-hq] at hw ⊢;refine⟨fun e=>(by rw[e] at HC;cases HC),OS,fun x hx=>DZ x ((Jn _).mem_iff.1 hx),fun x hx=>(hZm x (hI.mem x ((Jn _).mem_iff.1 hx))).2,ZD hI.one fun a ha b hb e=>YO hg hL (DZ a ha) (DZ b hb) e,⟨g.1,?_,?_⟩,?_⟩
 .simp only at EJ;omega
 .rw[(Jn _).mem_iff];have:(g.1,q)=g:=Prod.ext rfl Nz.symm;rw[this];exact HC
 rw[(Jn _).length_eq];exact hl
end
open Go.Plant Go.Inf
section
variable {A n:Nat} {y:Ly} {L:List Int} {p:Pl} {bud u:Int} {hs:List AY} {node bag:Int}
theorem CB.enter (hg:ER A n y) (hL:FU (bag::L)) (h:CB bud y L hs p u) (he:(CS y p node bag).2=0):
  Ha (Fh y node bag) hs≠[]/\CB bud y (bag::L) (IP (Ha (Fh y node bag) hs)) (CS y p node bag).1 u:=by
 obtain⟨q,hq⟩:∃q,q=(CS y p node bag).1:=⟨_,rfl⟩;rw[<-hq];have OS:Bh y q (bag::L):=by rw[hq];exact h.pi.enter he
 obtain⟨X,hX⟩:∃X,X=Rn y node bag hs:=⟨_,rfl⟩;have JG:Ha (Fh y node bag) hs=X.foldl Inf.gadd []:=by rw[hX];exact ia _ _ _ _ _
 have Ov:∀x∈X,Bh y x.2 (bag::L)/\0<=x.1/\x.1<=bud:=fun x hx=>by
  rw[hX] at hx;obtain⟨g,EJ,hx⟩:=List.mem_filterMap.1 hx;split at hx
  .rename_i c;cases hx
   have c:(CS y g.2 node bag).2=0:=oT c;exact⟨(h.all g EJ).enter c,h.us g EJ⟩
  cases hx
 have tB:X.length<=40:=by rw[hX];exact Nat.le_trans (List.length_filterMap_le _ _) h.len
 have RW:(Fh y node bag p).2=true:=dT he;obtain⟨v,hv,jz⟩:=h.mem;have Sg:(v,q)∈X:=by rw[hX];refine List.mem_filterMap.2 ⟨(v,p),jz,?_⟩;simp only;rw[iP RW,hq];rfl
 have Ot:=dY X [];have hI:=g7 (Y:=X) (Jv.nil (P:=Pl));rw[List.nil_append,<-JG] at hI;rw[<-JG,List.length_nil,Nat.zero_add] at Ot;obtain⟨g,HC,Nz⟩:=hI.all _ Sg;have EJ:=hI.least g HC _ Sg Nz.symm;have DZ:∀x∈Ha (Fh y node bag) hs,Bh y x.2 (bag::L):=fun x hx=>(Ov x (hI.mem x hx)).1;refine⟨fun e=>(by rw[e] at HC;cases HC),OS,fun x hx=>DZ x ((Jn _).mem_iff.1 hx),fun x hx=>(Ov x (hI.mem x ((Jn _).mem_iff.1 hx))).2,ZD hI.one fun a ha b hb e=>YO hg hL (DZ a ha) (DZ b hb) e,⟨g.1,?_,?_⟩,?_⟩
 .simp only at EJ;omega
 .rw[(Jn _).mem_iff];have:(g.1,q)=g:=Prod.ext rfl Nz.symm;rw[this];exact HC
 rw[(Jn _).length_eq];omega
theorem CB.new (hg:ER A n y) (hb:0<=bud):CB bud y [] [(0,F7 y)] (F7 y) 0:=by
 have h:=zP hg;refine⟨h,fun x hx=>?_,fun x hx=>?_,List.pairwise_singleton _ _,⟨0,Int.le_refl _,List.mem_singleton.2 rfl⟩,sM⟩
 .rw[List.mem_singleton.1 hx];exact h
 rw[List.mem_singleton.1 hx];exact⟨Int.le_refl _,hb⟩
end
open Go.Plant Go.Inf
structure St where
 a:Nat
 hs:List AY
 p:Pl
 L:List Int
section
variable (l:List Int) (y:Ly) (bud:Int) (pl:List T3)
def QT (s:St):St:=⟨(gC l s.a y.U).2,IP (LQ y bud pl (gC l s.a y.U).1 (Cg y s.p (gC l s.a y.U).1 []).1 s.hs),(Cg y s.p (gC l s.a y.U).1 []).1,s.L⟩
def Rm (i:Int) (s:St):St:=if(CS y s.p 0 i).2=0 then⟨s.a,IP (Ha (Fh y 0 i) s.hs),(CS y s.p 0 i).1,i::s.L⟩ else s
def s0 (a:Nat):St:=⟨a,[(0,F7 y)],F7 y,[]⟩
end
section
variable {l:List Int} {y:Ly} {bud bd2:Int} {pl:List T3}
variable {A n:Nat}
end
def Pp (q p:Pl):Bool:=decide (q.Q=p.Q/\q.R=p.R)
def Iw:List BU->Pl->Int×Bool
 |[],_=>(0,false)|h::t,p=>if Pp h.pl p=true then(h.us,true) else Iw t p
theorem tH {l:List BU} {p:Pl} {i:Nat} (h:i<l.length):Iw (l.drop i) p=if Pp (l.getD i default).pl p=true then((l.getD i default).us,true) else Iw (l.drop (i+1)) p:=by rw[List.drop_eq_getElem_cons h,Iw,gE,gG h];rfl
theorem tI (bud:Int) (l:List BU) (p:Pl) (hl:l.length<=1000) (hs:∀h∈l,∀q:Pl,q=h.pl->Ag prog Ad 52 [] [q.av,p.av] [] (B (Pp q p))):
  Ag prog Ad 15 [] [(D5.mk bud l).av,p.av] [] (.tup [I (Iw l p).1,B (Iw l p).2]):=by
 have h0:Iw l p=Iw (l.drop 0) p:=rfl;refine Am func15 ntmps15 ?_;intro w e X hC;refine xy4 ?_;refine Aw (fun i:Nat×Nat=>⟨[(3, .p 103 2 0 0 0),(9, .sl (BY l) false),(10,I l.length),(11,I i.2)],(103,some (2, .box [RS p.Q,RS p.R]))::[],i.1⟩) (fun i=>i.2<=l.length/\Iw l p=Iw (l.drop i.2) p) (fun i=>l.length - i.2) (_,0) ⟨zL _,h0⟩ (Af) ?_;rintro⟨ck,i⟩ ⟨hi,he⟩;simp only at hi he;refine xw9 (fun c=>?_) (fun c=>?_)
 .have Aa:i<l.length:=oM;have hg:=SF Aa;rw[tH Aa] at he;have Qt:=hs _ (GQ Aa default) _ rfl;generalize l.getD i default=x at*;generalize Pp x.pl p=b at Qt he;simp only[BU.pl] at Qt;refine xk3 @hg ?_;refine xy2 Qt ?_;cases b with
  |true=>rw[iP rfl] at he;rw[he];refine xq0 ?_;rw[show Tryz.f15.results.toList=[.tmp 4, .tmp 5] from rfl];exact Bm|false=>rw[iN sM] at he;refine xy9 ?_;refine⟨(_,i+1),⟨uO,he⟩,uO,Af⟩
 refine At ?_;have Bx:i=l.length:=oM;subst Bx;rw[List.drop_length] at he;rw[he,Iw];refine xz4 ?_;rw[show Tryz.f15.results.toList=[.tmp 4, .tmp 5] from rfl];exact Bm
theorem gW (y:Ly) (bd:Int) (hs:HW y) (hv:Dp y=0) (hn:0<y.U.length) (hb:0<=bd/\bd<=2):
  Ag prog Ad 24 [] [y.av,I bd] [] (.tup [(D5.mk bd [⟨0,(F7 y).Q,(F7 y).R⟩]).av,I 0]):=by
 have h1:=QbI y hs fun _=>hn;rw[hv] at h1;generalize F7 y=q at*;have d0:=uDf (bd<0);have d2:=uDf (2<bd);refine Am func24 ntmps24 ?_;intro w e X hC;refine xz8 ?_;refine xy6 h1 ?_;refine uZ ?_;refine xq8 (uI @d0 @d2) ?_;refine xk1 ?_;rw[show Tryz.f24.results.toList=[.cell 4 33, .tmp 5] from rfl];first|refine Bn ?_|exact Bm
 rfl
open Go.Plant
def strs (l:List ByteArray):List AV:=l.map S
theorem ZL (l:List ByteArray):(strs l).length=l.length:=by simp[strs]
theorem Ge {l:List ByteArray} {i:Nat} (h:i<l.length):(strs l).getD i .bad=S (l.getD i .empty):=by simp[strs,h]
theorem VO (l:List ByteArray):PE (strs l)=True:=by refine eq_true fun e he c hc=>?_;simp only[strs,List.mem_map] at he;obtain⟨x,_,rfl⟩:=he;simp only[AV.cells,List.mem_singleton] at hc;subst hc;trivial
theorem VX {l:List ByteArray}:(∀y∈strs l,y.cells.length=1)=True:=by refine eq_true fun e he=>?_;simp only[strs,List.mem_map] at he;obtain⟨x,_,rfl⟩:=he;rfl
theorem ZM {l:List ByteArray} {b:ByteArray}:strs l++[.lit (.string b)]=strs (l++[b]):=by simp[strs]
theorem kb {l:List ByteArray} {i:Nat}:(strs l).take i=strs (l.take i):=by simp[strs]
attribute [go_sem] ZL VO VX ZM
def Vh (b:Nat) (c:UInt8) (o:List ByteArray×ByteArray):List ByteArray×ByteArray:=if c.toNat=b then(o.1++[o.2], .empty) else(o.1,o.2++strOf [c])
def GE (s:ByteArray) (b:Nat):Nat->List ByteArray×ByteArray
 |0=>([], .empty)|k+1=>Vh b (s.data.toList.getD k 0) (GE s b k)
def Vi (s:ByteArray) (b:Nat):List ByteArray:=(GE s b s.data.toList.length).1++[(GE s b s.data.toList.length).2]
theorem j1 (s:ByteArray) (b:Nat):∀k,(GE s b k).2.size<=k/\(GE s b k).1.length<=k
 |0=>by simp[GE]|k+1=>by
  obtain⟨h1,h2⟩:=j1 s b k;have h3:∀c:UInt8,(strOf [c]).size=1:=fun _=>rfl;rw[GE];generalize s.data.toList.getD k 0=c;generalize GE s b k=o at*;unfold Vh;split
  .refine⟨zL _,?_⟩;simp only[aL,List.length_singleton];omega
  refine⟨?_,uO⟩;show(o.2++strOf [c]).size<=_;rw[ByteArray.size_append,h3];omega
theorem o5 {l:List UInt8} {i:Nat} (h:i<l.length):(l.take (i+1)).drop i=[l.getD i 0]:=by rw[Jp (d:=0) h,List.drop_append];simp[List.length_take,Nat.min_eq_left (Nat.le_of_lt h)]
theorem j2 (s:ByteArray) (b:Nat) (hs:s.data.toList.length<=5000):Ag prog Ad 124 [] [S s,U8 b] [] (.sl (strs (Vi s b)) false):=by
 have Be:s.size=s.data.toList.length:=by rw[<-M5,L6]
 refine Am func124 ntmps124 ?_;intro w e X hC;refine xy4 ?_;refine Aw (fun q:Nat×Nat×Nat=>⟨[(0,S s),(1,U8 b),(5, .l 105 q.2.2 0 (GE s b q.2.1).1.length),(6,S (GE s b q.2.1).2),(7,I q.2.1)],(105,some (q.2.2, .own 9 1 (strs (GE s b q.2.1).1)))::[],q.1⟩) (fun q=>q.2.1<=s.data.toList.length) (fun q=>s.data.toList.length - q.2.1) (_,0,_) (zL _) (.of (lR _) (by repeat first|exact AX.nil|refine Jq ?_|(refine AX.cons ?_ ?_;(focus (simp only[go_sem,seval,-Int.reduceNatCast',GE];done)))) (by repeat first|exact BA.nil|refine Jr ?_|(refine BA.cons ?_ ?_;(focus (simp only[go_sem,seval,-Int.reduceNatCast',GE];done))))) ?_;rintro⟨ck,k,g⟩ hk;simp only at hk;obtain⟨FP,HK⟩:=j1 s b k;have e1:GE s b (k+1)=Vh b (s.data.toList.getD k 0) (GE s b k):=rfl;have e2:k=s.data.toList.length->Vi s b=(GE s b k).1++[(GE s b k).2]:=fun h=>by rw[h];rfl
 generalize GE s b k=o at*;obtain⟨o1,o2⟩:=o;simp only at FP HK e2;refine Ac @Be ?_;refine GF (fun h=>?_) (fun h=>?_)
 .have Aa:k<s.data.toList.length:=oM;have BP:=o5 Aa;have BX:(strOf [s.data.toList.getD k 0]).size=1:=rfl;generalize hc:s.data.toList.getD k 0=c at*;unfold Vh at e1;simp only at e1;refine Ac @hc ?_;refine GF (fun c1=>?_) (fun c1=>?_)
  .rw[iP oM] at e1;refine uZ ?_;refine xq6 ?_;refine⟨(_,k+1,g),uO,uO, .of (lR _) (Ax @e1) (AS (uI @e1 @List.length_singleton.{0}))⟩
  rw[iN oM] at e1;have Eg:((k:Int)+1).toNat=k+1:=oM;refine Bg (uI @Eg (uI @BP @BX)) ?_;refine⟨(_,k+1,g),uO,uO, .of (lR _) (Ax @e1) (AS @e1)⟩
 refine At ?_;have e3:=e2 oM;refine uZ ?_;rw[e3];refine Ay ?_;rw[show f124.results.toList=[.tmp 4] from rfl];exact MY @List.length_singleton.{0}
open Go.Plant
theorem jq (s:ByteArray) (hs:(bs s).length<=5000):Ag prog Ad 219 [] [S s] [] (B ((bs s).all CF)):=by
 have Al:=L6 s;have Es:=M5 s;refine Am func219 ntmps219 ?_;intro w e X hC;refine xy4 ?_;refine Aw (fun i:Nat×Nat=>⟨[(0,S s),(3,I i.2)],[],i.1⟩) (fun i=>i.2<=(bs s).length/\∀j,j<i.2->CF ((bs s).getD j 0)=true) (fun i=>(bs s).length - i.2) (_,0) ⟨zL _,fun j hj=>absurd hj (nZ _)⟩ (Af) ?_;rintro⟨ck,i⟩ ⟨hi,hj⟩;simp only at hi hj;repeat ((repeat first|refine A5 ?_|refine BQ ?_|refine B5 ?_);refine Ep hC rfl fun K hK=>?_;simp only[go_sem,seval,-Int.reduceNatCast',<-Es];(repeat ((with_reducible refine And.intro ?_ ?_);focus (((repeat' apply And.intro)<;>first|omega|(simp;done)|kernel_rfl))));refine hK _ ?_;clear hK K)
 refine GF (fun h=>?_) (fun h=>?_)
 .have Aa:i<(bs s).length:=oM;have hg:=Oa s i;have Bc:CF ((bs s).getD i 0)=false->(bs s).all CF=false:=fun h=>by rw[List.all_eq_false];exact⟨_,Fs (d:=0) Aa,by rw[h];decide⟩
  have Cz:CF ((bs s).getD i 0)=true->∀j,j<i+1->CF ((bs s).getD j 0)=true:=fun h j Ah=>by
   by_cases AF:j=i
   .subst AF;exact h
   exact hj j oM
  generalize (bs s).getD i 0=c at*;cases d1:decide ((c:Int)<48) with
  |true=>
   have g1:=oT d1;rw[Bc (by unfold CF;rw[dF oM];rfl)];(repeat first|refine A5 ?_|refine BQ ?_|refine B5 ?_);refine Ep hC rfl fun K hK=>?_;simp only[go_sem,seval,-Int.reduceNatCast',hg,<-Al,d1]
   refine uH ?_;refine hK _ ?_;clear hK K;exact xz7
  |false=>
   have g1:=oF d1;cases d2:decide (57<(c:Int)) with
   |true=>
    have g2:=oT d2;rw[Bc (by unfold CF;rw[dF (show ¬(c:Int)<=57 by omega),Bool.and_false])];(repeat first|refine A5 ?_|refine BQ ?_|refine B5 ?_);refine Ep hC rfl fun K hK=>?_;simp only[go_sem,seval,-Int.reduceNatCast',hg,<-Al,d1,d2]
    refine uH ?_;refine hK _ ?_;clear hK K;exact xz7
   |false=>
    have g2:=oF d2;(repeat first|refine A5 ?_|refine BQ ?_|refine B5 ?_);refine Ep hC rfl fun K hK=>?_;simp only[go_sem,seval,-Int.reduceNatCast',hg,<-Al,d1,d2]
    refine uH ?_;refine hK _ ?_;clear hK K;refine xy9 ?_;refine⟨(_,i+1),⟨uO,Cz (by unfold CF;rw[dT (show(48:Int)<=c by omega),dT (show(c:Int)<=57 by omega)];rfl)⟩,uO,Af⟩
 refine At ?_;have:(bs s).all CF=true:=by rw[List.all_eq_true];intro x hx;obtain⟨j,GX,rfl⟩:=List.getElem_of_mem hx;have:=hj j oM;simpa[GX] using this
 rw[this];exact xz5
def Hl (s:ByteArray):Nat->Int
 |0=>0|k+1=>Hl s k*10+(((bs s).getD k 0:Nat) - 48)
theorem kM {s:ByteArray} (h:∀j,j<(bs s).length->CF ((bs s).getD j 0)=true):∀k,k<=(bs s).length->0<=Hl s k/\Hl s k<10^k
 |0,_=>by simp[Hl]|k+1,hk=>by obtain⟨h1,h2⟩:=kM h k oM;have:=h k oM;simp only[CF,Bool.and_eq_true,decide_eq_true_eq] at this;rw[Hl,Int.pow_succ];omega
theorem jI (s:ByteArray) (hs:(bs s).length<=3) (hd:∀j,j<(bs s).length->CF ((bs s).getD j 0)=true):Ag prog Ad 220 [] [S s] [] (I (Hl s (bs s).length)):=by
 have Al:=L6 s;have Es:=M5 s;refine Am func220 ntmps220 ?_;intro w e X hC;refine xy4 ?_;refine Aw (fun i:Nat×Nat=>⟨[(0,S s),(3,I (Hl s i.2)),(4,I i.2)],[],i.1⟩) (fun i=>i.2<=(bs s).length) (fun i=>(bs s).length - i.2) (_,0) (zL _) (.of (lR _) (by repeat first|exact AX.nil|refine Jq ?_|(refine AX.cons ?_ ?_;(focus (simp only[go_sem,seval,-Int.reduceNatCast',Hl];done)))) (by repeat first|exact BA.nil|refine Jr ?_|(refine BA.cons ?_ ?_;(focus (simp only[go_sem,seval,-Int.reduceNatCast',Hl];done))))) ?_;rintro⟨ck,i⟩ hi;simp only at hi;obtain⟨v1,v2⟩:=kM hd i hi;have hp:(10:Int)^i<=10^3:=by have:i=0\/i=1\/i=2\/i=3:=oM;rcases this with rfl|rfl|rfl|rfl<;>decide
 have e1:Hl s (i+1)=Hl s i*10+(((bs s).getD i 0:Nat) - 48):=rfl;have efin:i=(bs s).length->Hl s (bs s).length=Hl s i:=fun h=>xv5;generalize Hl s i=v at*;iterate 1 ((repeat first|refine A5 ?_|refine BQ ?_|refine B5 ?_);refine Ep hC rfl fun K hK=>?_;simp only[go_sem,seval,-Int.reduceNatCast',<-Es];(repeat ((with_reducible refine And.intro ?_ ?_);focus (((repeat' apply And.intro)<;>first|omega|(simp;done)|kernel_rfl))));refine hK _ ?_;clear hK K)
 refine GF (fun h=>?_) (fun h=>?_)
 .have Aa:i<(bs s).length:=oM;have hg:=Oa s i;have Ox:=hd i Aa;simp only[CF,Bool.and_eq_true,decide_eq_true_eq] at Ox;generalize (bs s).getD i 0=c at*;have xq:IntKind.u8.wrap ((c:Int) - 48)=(c:Int) - 48:=by simp only[IntKind.wrap,IntKind.bits,IntKind.signed,Bool.false_and,Bool.false_eq_true,false_and,if_false];omega
  have xj:IntKind.i64.wrap ((c:Int) - 48)=(c:Int) - 48:=wrap_i64 ⟨oM,oM⟩;repeat ((repeat first|refine A5 ?_|refine BQ ?_|refine B5 ?_);refine Ep hC rfl fun K hK=>?_;simp only[go_sem,seval,-Int.reduceNatCast',hg,<-Al,xq,xj];(repeat ((with_reducible refine And.intro ?_ ?_);focus (((repeat' apply And.intro)<;>first|omega|(simp;done)|kernel_rfl))));refine hK _ ?_;clear hK K)
  refine⟨(_,i+1),uO,uO, .of (lR _) Cb (AS @e1)⟩
 refine At ?_;have hf:=efin oM;rw[hf];exact xz5
def SR (s:ByteArray):Bool:=decide (1<=(bs s).length)&&(decide ((bs s).length<=3)&&((bs s).all CF&&!(decide (1<(bs s).length)&&decide ((bs s).getD 0 0=48))))
def Pd (s:ByteArray):Int:=Hl s (bs s).length
theorem Zb (s:ByteArray) (h:SR s=true):Ag prog Ad 174 [] [S s] [] (.tup [I (Pd s),B true]):=by
 have Al:=L6 s;have Es:=M5 s;simp only[SR,Bool.and_eq_true,decide_eq_true_eq,Bool.not_eq_true',Bool.and_eq_false_iff,decide_eq_false_iff_not] at h;obtain⟨h1,h2,h3,h4⟩:=h;have Gq:=jq s oM;rw[h3] at Gq;have hd:∀j,j<(bs s).length->CF ((bs s).getD j 0)=true:=fun j hj=>List.all_eq_true.1 h3 _ (Fs hj);have hv:=jI s h2 hd;have hg:=Oa s 0;have d1:=uDf (((bs s).length:Int)<1);have d2:=uDf (3<((bs s).length:Int));have hN:Pd s=Hl s (bs s).length:=rfl;rw[hN];generalize Hl s (bs s).length=v at*;refine Am func174 ntmps174 ?_;intro w e X hC;refine uZ ?_;by_cases c1:1<(bs s).length
 .have d3:=uDt (1<((bs s).length:Int));have d4:decide ((((bs s).getD 0 0:Nat):Int)=48)=false:=dF (by have:=h4.resolve_left (fun h=>h c1);omega);(repeat first|refine A5 ?_|refine BQ ?_|refine B5 ?_);refine Ep hC rfl fun K hK=>?_;simp only[go_sem,seval,-Int.reduceNatCast',<-Es,d1,d2]
  refine xz0 Gq ?_;simp only[go_sem,seval,-Int.reduceNatCast',<-Es,<-Al,d3,hg,d4,Int.toNat_zero];refine uH ?_;refine hK _ ?_;clear hK K;refine uF ?_;refine xx9 hv ?_;refine Ay ?_;rw[show f174.results.toList=[.tmp 2, .tmp 3] from rfl];exact Bm
 have d3:=uDf (1<((bs s).length:Int));(repeat first|refine A5 ?_|refine BQ ?_|refine B5 ?_);refine Ep hC rfl fun K hK=>?_;simp only[go_sem,seval,-Int.reduceNatCast',<-Es,d1,d2]
 refine xz0 Gq ?_;simp only[go_sem,seval,-Int.reduceNatCast',<-Es,d3];refine uH ?_;refine hK _ ?_;clear hK K;refine uF ?_;refine xx9 hv ?_;refine Ay ?_;rw[show f174.results.toList=[.tmp 2, .tmp 3] from rfl];exact Bm
open Go.Plant
def M2 (kd:Int):Nat:=if AN kd=true then 3 else 2
def Kn (kd:Int):Nat:=(CT kd).toNat
def Vz (kd:Int):Nat:=(if AN kd=true then 4 else 3)+if 0<Kn kd then 1+Kn kd else 0
def Lc (a b:ByteArray):Bool:=decide (a.data.toList=b.data.toList)
def phB:ByteArray:=⟨#[112,104,111,116,111,99,101,108,108]⟩
def scB:ByteArray:=⟨#[115,99,97,110,110,101,114]⟩
def nA:ByteArray:=⟨#[62]⟩
structure VQ (w:List ByteArray) (kd:Int):Prop where
 kr:1<=kd/\kd<=9
 len:w.length=Vz kd
 w0:∀j,1<=j->j<=9->Lc (K3.getD j .empty) (w.getD 0 .empty)=decide ((j:Int)=kd)
 ph:Lc (w.getD 0 .empty) phB=false/\Lc (w.getD 0 .empty) scB=false
 nm:LI (w.getD 1 .empty)=true/\(bs (w.getD 1 .empty)).length<=1000
 n2:AN kd=true->SR (w.getD 2 .empty)=true
 zn:SR (w.getD (M2 kd) .empty)=true
 ar:0<Kn kd->Lc (w.getD (M2 kd+1) .empty) nA=true
 ex:∀k,k<Kn kd->LI (w.getD (M2 kd+2+k) .empty)=true/\(bs (w.getD (M2 kd+2+k) .empty)).length<=1000
structure Ln where
 nm:ByteArray
 kd:Int
 ln:Int
 zn:Int
 ex:List Int
 dk:Int
 dn:Int
 dw:Int
 names:List ByteArray
 deriving Inhabited
abbrev Ln.av (x:Ln):AV:= .agg [S x.nm,I x.kd,I x.ln,I x.zn,IS x.ex,I x.dk,I x.dn,I x.dw, .sl (strs x.names) false]
def J2 (l:List Ln):List AV:=l.map Ln.av
theorem y2 (l:List Ln):(J2 l).length=l.length:=by simp[J2]
theorem is {l:List Ln} {i:Nat} (h:i<l.length):(J2 l).getD i .bad=(l.getD i default).av:=by simp[J2,h]
theorem y4 {l:List Ln} {nm:ByteArray} {kd:Int} {ln:Int} {zn:Int} {ex:List Int} {dk:Int} {dn:Int} {dw:Int} {names:List ByteArray}:J2 l++[.agg [.lit (.string nm), .lit (.int .i64 kd), .lit (.int .i64 ln), .lit (.int .i64 zn), .sl (As ex) false, .lit (.int .i64 dk), .lit (.int .i64 dn), .lit (.int .i64 dw), .sl (strs names) false]]=J2 (l++[⟨nm,kd,ln,zn,ex,dk,dn,dw,names⟩]):=by simp[J2]
theorem y3:J2 []=[]:=rfl
attribute [go_sem] y2 y4
def QK (w:List ByteArray) (kd:Int):Ln:=⟨w.getD 1 .empty,kd,if AN kd=true then Pd (w.getD 2 .empty) else 0,Pd (w.getD (M2 kd) .empty),[],0,0,0,(w.drop (M2 kd+2)).take (Kn kd)⟩
theorem dZ:JE Ad.gl 0=some [.sl (strs K3) false]:=rfl
theorem Z2:K3.length=10:=rfl
theorem jr (s:ByteArray) (ws:List ByteArray) (kd:Int) (hs:s.data.toList.length<=5000) (hw:Vi s 32=ws) (hr:VQ ws kd):Ag prog Ad 125 [] [S s] [] (.tup [(QK ws kd).av,B true]):=by
 have Fq:=j2 s 32 hs;rw[hw] at Fq;have MB:=cQ kd;have AM:=Kd kd;have Du:CT kd=(Kn kd:Int)/\Kn kd<=2:=by
  have:CT kd=0\/CT kd=1\/CT kd=2:=by unfold CT;split<;>(try split)<;>simp
  unfold Kn;omega
 rw[Du.1] at MB;obtain⟨⟨Bi,hk9⟩,hlen,SD,fY,FN,EZ,O3,JI,hex⟩:=hr;have IE:3<=ws.length/\ws.length<=7:=by rw[hlen,Vz];split<;>split<;>omega
 have CH:0<ws.length:=oM;have D0:1<ws.length:=oM;have Dw:2<ws.length:=oM;refine Am func125 ntmps125 ?_;intro w e X hC;refine uA ?_;refine xz1 Fq ?_;refine uA ?_;refine A5 ?_;refine CE (fun q:Nat=>⟨[(2, .p 102 1 0 0 0),(4, .sl (strs ws) false),(5, .p 105 6 0 0 0)],(105,some (6, .box [S .empty,I 0,I 0,I 0, .sl [] true,I 0,I 0,I 0, .sl [] true]))::(102,some (1, .box [S .empty,I 0,I 0,I 0, .sl [] true,I 0,I 0,I 0, .sl [] true]))::[],q⟩) (fun _=>True) ?_ ?_
 .refine xy4 ?_;refine Aw (fun q:Nat×Nat=>⟨[(2, .p 102 1 0 0 0),(4, .sl (strs ws) false),(5, .p 105 6 0 0 0),(6,I q.2)],(105,some (6, .box [S .empty,I 0,I 0,I 0, .sl [] true,I 0,I 0,I 0, .sl [] true]))::(102,some (1, .box [S .empty,I 0,I 0,I 0, .sl [] true,I 0,I 0,I 0, .sl [] true]))::[],q.1⟩) (fun q=>1<=q.2/\q.2<=3) (fun q=>3 - q.2) (_,1) ⟨oM,oM⟩ (Af) ?_;rintro⟨ck,k⟩ ⟨hk,fB⟩;simp only at hk fB;refine A5 ?_;refine CE (fun q:Nat=>⟨[(2, .p 102 1 0 0 0),(4, .sl (strs ws) false),(5, .p 105 6 0 0 0),(6,I k)],(105,some (6, .box [S .empty,I 0,I 0,I 0, .sl [] true,I 0,I 0,I 0, .sl [] true]))::(102,some (1, .box [S .empty,I 0,I 0,I 0, .sl [] true,I 0,I 0,I 0, .sl [] true]))::[],q⟩) (fun _=>k<=2/\ws.length=3) ?_ ?_
  .by_cases c1:k<=2
   .have d1:=uDt ((k:Int)<=2);by_cases c2:ws.length=3
    .have d2:=uDt ((ws.length:Int)=3);refine xy8 (uI @d1 @d2) ?_;refine uT ?_;refine uW ?_;refine⟨_,⟨c1,c2⟩,Af⟩
    have d2:=uDf ((ws.length:Int)=3);refine xy8 (uI @d1 @d2) ?_;refine xk0 ?_;refine⟨_,trivial,Af⟩
   have d1:=uDf ((k:Int)<=2);refine xy8 @d1 ?_;refine xk0 ?_;refine⟨_,trivial,Af⟩
  rintro ck1 ⟨Ch,Sd⟩;have wd:SR (ws.getD 2 .empty)=true:=by
   have:AN kd=false/\Kn kd=0:=by
    rw[hlen,Vz] at Sd;cases h:AN kd with
    |true=>rw[h,iP rfl] at Sd;omega|false=>rw[h] at Sd;refine⟨rfl,?_⟩;simp only[Bool.false_eq_true,if_false] at Sd;split at Sd<;>omega
   rw[M2,this.1] at O3;simpa using O3
  have Dm:=Zb _ wd;refine Av (Ge Dw) ?_;intro K hK;refine⟨oM,?_⟩;refine xw6 Dm ?_;refine hK _ ?_;clear hK K;have vv:k=1\/k=2:=oM;have II:decide ((ws.getD 0 .empty).data.toList=[112,104,111,116,111,99,101,108,108])=false:=fY.1;have Ie:decide ((ws.getD 0 .empty).data.toList=[115,99,97,110,110,101,114])=false:=fY.2;rcases vv with rfl|rfl
  .refine CK (uI (Ge CH) (uI @Int.toNat_zero @II)) ?_;intro K hK;refine⟨oM,oM,?_⟩;refine uH ?_;refine hK _ ?_;clear hK K;refine xy9 ?_;refine⟨(_,2),⟨oM,oM⟩,uO,Af⟩
  refine CK (uI (Ge CH) (uI @Int.toNat_zero @Ie)) ?_;intro K hK;refine⟨oM,oM,?_⟩;refine uH ?_;refine hK _ ?_;clear hK K;refine xy9 ?_;refine⟨(_,3),⟨oM,oM⟩,uO,Af⟩
 rintro ck1 -;refine uA ?_;refine uW ?_;refine Aw (fun q:Nat×Nat=>⟨[(2, .p 102 1 0 0 0),(4, .sl (strs ws) false),(5, .p 105 6 0 0 0),(9,I q.2)],(105,some (6, .box [S .empty,I (if kd<q.2 then kd else 0),I 0,I 0, .sl [] true,I 0,I 0,I 0, .sl [] true]))::(102,some (1, .box [S .empty,I 0,I 0,I 0, .sl [] true,I 0,I 0,I 0, .sl [] true]))::[],q.1⟩) (fun q=>1<=q.2/\q.2<=10) (fun q=>10 - q.2) (_,1) ⟨oM,oM⟩ (.of (lR _) (by repeat first|exact AX.nil|refine Jq ?_|(refine AX.cons ?_ ?_;(focus (simp only[go_sem,seval,-Int.reduceNatCast',iN (show ¬kd<(1:Nat) by omega)];done)))) vv4) ?_;rintro⟨ck2,k⟩ ⟨hk,vu⟩;simp only at hk vu;refine xy1 (fun h=>?_) (fun h=>?_)
 .have A3:k<K3.length:=by rw[Z2];omega
  have NL:decide ((K3.getD k .empty).data.toList=(ws.getD 0 .empty).data.toList)=decide ((k:Int)=kd):=SD k hk oM;by_cases c1:(k:Int)=kd
  .have d1:decide ((k:Int)=kd)=true:=dT c1;have XH:(if kd<((k+1:Nat):Int) then kd else 0)=kd:=iP oM;have u6:(if kd<(k:Int)+1 then kd else 0)=kd:=iP oM;refine Cv (uI @dZ (uI (Ge A3) (uI (Ge CH) (uI @Int.toNat_zero (uI @NL @d1))))) ?_;intro K hK;refine⟨by rw[Z2];omega,oM,?_⟩;refine hK _ ?_;clear hK K;refine xy3 ?_;refine⟨(_,k+1),⟨uO,uO⟩,uO, .of (lR _) (Ax (uI @XH (uI @u6 @c1))) A4⟩
  have d1:decide ((k:Int)=kd)=false:=dF c1;have XH:(if kd<((k+1:Nat):Int) then kd else 0)=if kd<(k:Int) then kd else 0:=by
   by_cases h:kd<(k:Int)
   .rw[iP h,iP oM]
   rw[iN h,iN oM]
  refine Cv (uI @dZ (uI (Ge A3) (uI (Ge CH) (uI @Int.toNat_zero (uI @NL @d1))))) ?_;intro K hK;refine⟨by rw[Z2];omega,oM,?_⟩;refine hK _ ?_;clear hK K;refine xy9 ?_;refine⟨(_,k+1),⟨uO,uO⟩,uO, .of (lR _) (Ax @XH) A4⟩
 refine At ?_;rw[iP oM];obtain rfl:k=10:=oM;obtain⟨QhU,QhT⟩:=Du;obtain⟨at',Mk⟩:∃a,a=M2 kd:=⟨_,rfl⟩;rw[<-Mk] at O3 JI hex;have NK:=hlen;unfold Vz at NK;have eH:QK ws kd=_:=QK.eq_1 ws kd;rw[<-Mk] at eH;generalize QK ws kd=rr at*;have QhS:0<=(Kn kd:Int):=oM;generalize Kn kd=en at*;have RL:at'=if AN kd=true then 3 else 2:=Mk
 have T6:(if AN kd=true then 4 else 3)=at'+1:=by rw[RL];split<;>rfl
 have fF:at'<ws.length:=by rw[NK,T6];omega
 have vE:0<en->at'+1<ws.length:=fun h=>by rw[NK,T6,iP h];omega
 have fG:∀k,k<en->at'+2+k<ws.length:=fun k hk=>by rw[NK,T6,iP oM];omega
 clear T6;generalize AN kd=st at*;refine xx9 MB ?_;refine uA ?_;refine A5 ?_;refine CE (fun q:Nat=>⟨[(2, .p 102 1 0 0 0),(4, .sl (strs ws) false),(5, .p 105 6 0 0 0),(10,I en),(11,I 2),(12,I (if st=true then 4 else 3))],(105,some (6, .box [S .empty,I kd,I 0,I 0, .sl [] true,I 0,I 0,I 0, .sl [] true]))::(102,some (1, .box [S .empty,I 0,I 0,I 0, .sl [] true,I 0,I 0,I 0, .sl [] true]))::[],q⟩) (fun _=>True) ?_ ?_
 .cases st with
  |true=>refine xx9 AM ?_;refine xy3 ?_;refine⟨_,trivial,Af⟩|false=>refine xx9 AM ?_;refine xq9 ?_;refine⟨_,trivial,Af⟩
 rintro ck3 -;refine A5 ?_;refine CE (fun q:Nat=>⟨[(2, .p 102 1 0 0 0),(4, .sl (strs ws) false),(5, .p 105 6 0 0 0),(10,I en),(11,I 2),(12,I ws.length)],(105,some (6, .box [S .empty,I kd,I 0,I 0, .sl [] true,I 0,I 0,I 0, .sl [] true]))::(102,some (1, .box [S .empty,I 0,I 0,I 0, .sl [] true,I 0,I 0,I 0, .sl [] true]))::[],q⟩) (fun _=>True) ?_ ?_
 .by_cases c1:0<en
  .have d1:=uDt (0<(en:Int));rw[iP c1] at NK;have hv:(if st=true then(4:Int) else 3)+(1+(en:Int))=ws.length:=by rw[NK];cases st<;>simp<;>omega
   have SC:3<=(if st=true then(4:Int) else 3)/\(if st=true then(4:Int) else 3)<=4:=by cases st<;>simp
   generalize (if st=true then(4:Int) else 3)=v4 at*;refine IB @d1 ?_;refine⟨_,trivial, .of (lR _) Cb (AS @hv)⟩
  have d1:=uDf (0<(en:Int));rw[iN c1] at NK;have hv:(if st=true then(4:Int) else 3)=ws.length:=by rw[NK];cases st<;>simp
  refine xq5 @d1 ?_;refine⟨_,trivial, .of (lR _) Cb (AS @hv)⟩
 rintro ck4 -;have dk0:=uDf (kd=0);have dwl:decide (¬(ws.length:Int)=ws.length)=false:=dF (fun h=>h rfl);have fO:=Y5 _ FN.2;rw[FN.1] at fO;have DR:=fF;refine Av (uI @dk0 (uI @dwl (uI (Ge D0) @Int.toNat_one))) ?_;intro K hK;refine⟨oM,?_⟩;refine xw6 fO ?_;refine hK _ ?_;clear hK K;refine xq8 (uI (Ge D0) @Int.toNat_one) ?_;refine A5 ?_;refine CE (fun q:Nat=>⟨[(2, .p 102 1 0 0 0),(4, .sl (strs ws) false),(5, .p 105 6 0 0 0),(10,I en),(11,I at'),(13,B true)],(105,some (6, .box [S (ws.getD 1 .empty),I kd,I (if st=true then Pd (ws.getD 2 .empty) else 0),I 0, .sl [] true,I 0,I 0,I 0, .sl [] true]))::(102,some (1, .box [S .empty,I 0,I 0,I 0, .sl [] true,I 0,I 0,I 0, .sl [] true]))::[],q⟩) (fun _=>True) ?_ ?_
 .cases st with
  |true=>have vV:=Zb _ (EZ rfl);rw[iP rfl] at RL;subst RL;refine xx9 AM ?_;refine uT ?_;refine Av (Ge Dw) ?_;intro K hK;refine⟨oM,?_⟩;refine xw6 vV ?_;refine hK _ ?_;clear hK K;refine uZ ?_;refine⟨_,trivial,Af⟩|false=>rw[iN dM] at RL;subst RL;refine xx9 AM ?_;refine xq9 ?_;refine⟨_,trivial,Af⟩
 rintro ck5 -;have NO:=Zb _ O3;refine Av (Ge fF) ?_;intro K hK;refine⟨oM,?_⟩;refine xw6 NO ?_;refine hK _ ?_;clear hK K;generalize (if st=true then Pd (ws.getD 2 .empty) else 0)=vln at*;generalize Pd (ws.getD at' .empty)=vzn at*;refine uA ?_;refine A5 ?_;refine CE (fun q:Nat=>⟨[(2, .p 102 1 0 0 0),(4, .sl (strs ws) false),(5, .p 105 6 0 0 0),(10,I en),(11,I at')],(105,some (6, .box [S (ws.getD 1 .empty),I kd,I vln,I vzn, .sl [] true,I 0,I 0,I 0, .sl [] true]))::(102,some (1, .box [S .empty,I 0,I 0,I 0, .sl [] true,I 0,I 0,I 0, .sl [] true]))::[],q⟩) (fun _=>True) ?_ ?_
 .by_cases c1:0<en
  .have d1:=uDt (0<(en:Int));have BH:=vE c1;have Eg:((at':Int)+1).toNat=at'+1:=oM;have T5:decide (¬(ws.getD (at'+1) .empty).data.toList=[62])=false:=by have h1:(ws.getD (at'+1) .empty).data.toList=[62]:=oT (JI c1);exact dF (fun h=>h h1)
   refine xz2 (uI @d1 (uI @Eg (uI (Ge BH) @T5))) ?_;refine xq9 ?_;refine⟨_,trivial,Af⟩
  have d1:=uDf (0<(en:Int));refine xy8 @d1 ?_;refine xq9 ?_;refine⟨_,trivial,Af⟩
 rintro ck6 -;refine xy4 ?_;refine Aw (fun q:Nat×Nat×Nat=>⟨[(2, .p 102 1 0 0 0),(4, .sl (strs ws) false),(5, .p 105 6 0 0 0),(10,I en),(11,I at'),(16,I q.2.1)],(105,some (6, .box [S (ws.getD 1 .empty),I kd,I vln,I vzn, .sl [] true,I 0,I 0,I 0,F8 q.2.1 (.l 280 q.2.2 0 q.2.1)]))::(280,F9 q.2.1 (q.2.2, .own 9 1 (strs ((ws.drop (at'+2)).take q.2.1))))::(102,some (1, .box [S .empty,I 0,I 0,I 0, .sl [] true,I 0,I 0,I 0, .sl [] true]))::[],q.1⟩)
  (fun q=>q.2.1<=en) (fun q=>en - q.2.1) (_,0,0) (zL _) (Af) ?_
 rintro⟨ck7,k,g⟩ hk;simp only at hk;refine xy1 (fun h7=>?_) (fun h7=>?_)
 .have Aa:k<en:=oM;have Fm:=fG k Aa;have MA:=hex k Aa;have gB:=Y5 _ MA.2;rw[MA.1] at gB;have Eg:((at':Int)+2+(k:Int)).toNat=at'+2+k:=oM;have OX:(ws.drop (at'+2)).take (k+1)=(ws.drop (at'+2)).take k++[ws.getD (at'+2+k) .empty]:=by
   rw[Jp (d:= .empty) vq9];congr 2
   simp[gE]
  have Dd:((ws.drop (at'+2)).take k).length=k:=by rw[List.length_take,List.length_drop];omega
  generalize (ws.drop (at'+2)).take k=o at*;refine Av (uI @Eg (Ge Fm)) ?_;refine xy2 gB ?_;refine uF ?_;by_cases H9:k=0
  .subst H9;obtain rfl:o=[]:=List.length_eq_zero_iff.1 Dd;simp only[Ji,Jj];refine xq2 (uI @Eg (Ge Fm)) ?_;refine uZ ?_;refine⟨(_,0+1,ck7+22),uO,uO, .of (lR _) (by repeat first|exact AX.nil|refine Jq ?_|(refine AX.cons ?_ ?_;(focus (simp only[go_sem,seval,-Int.reduceNatCast',OX,List.nil_append,Nat.add_zero,strs,List.map_cons,List.map_nil,FQ,FR];done)))) vv4⟩
  simp only[Hd H9,He H9];refine xq2 (uI @Eg (uI (Ge Fm) @Dd)) ?_;refine uZ ?_;refine⟨(_,k+1,g),uO,uO, .of (lR _) (Ax (uI @OX (uI @FQ @FR))) A4⟩
 refine At ?_;obtain rfl:k=en:=oM;subst eH;by_cases H9:k=0
 .subst H9;simp only[Ji,Jj];refine xz4 ?_;rw[show Tryz.f125.results.toList=[.cell 2 177, .tmp 3] from rfl];first|refine Bn ?_|exact Bm
  rfl
 simp only[Hd H9,He H9];refine uZ ?_;have Dd:((ws.drop (at'+2)).take k).length=k:=by rw[List.length_take,List.length_drop];have:=fG (k - 1) oM;omega
 refine Ay ?_;rw[show Tryz.f125.results.toList=[.cell 2 177, .tmp 3] from rfl];first|refine MZ @Dd ?_|exact MY @Dd
 rfl
open Go.Plant
def KU (x:Ln):Nd:=⟨x.nm,x.kd,x.ln,x.zn,x.ex⟩
def Of (x:Ln):T3:=⟨x.dk,x.dn,x.dw⟩
theorem zO {nm:ByteArray} {kd ln zn:Int} {ex:List Int}:[AV.agg [.lit (.string nm), .lit (.int .i64 kd), .lit (.int .i64 ln), .lit (.int .i64 zn), .sl (As ex) false]]=AA [⟨nm,kd,ln,zn,ex⟩]:=rfl
theorem Qfk {a b c:Int}:[AV.agg [.lit (.int .i64 a), .lit (.int .i64 b), .lit (.int .i64 c)]]=Ai [⟨a,b,c⟩]:=rfl
def H1 (ls:List Ln) (m:Nat) (nm:ByteArray):Int:=Fi ((ls.take m).map KU) nm
def Le (ls:List Ln) (m:Nat) (x:Ln) (c:Nat):Nd×Bool:=if c=0 then(KU x,false) else(⟨x.nm,x.kd,x.ln,x.zn,x.ex++(x.names.take c).map (H1 ls m)⟩,true)
def JC (ls:List Ln) (i k j:Nat):Nat:=if j<i then(ls.getD j default).names.length else if j=i then k else 0
def C5 (ls:List Ln) (m i k:Nat):List (Nd×Bool):=(List.range m).map fun j=>Le ls m (ls.getD j default) (JC ls i k j)
theorem NT (ls:List Ln) (m i k:Nat):(C5 ls m i k).length=m:=by simp[C5]
theorem zD {ls:List Ln} {m i k j:Nat} (h:j<m):(C5 ls m i k).getD j default=Le ls m (ls.getD j default) (JC ls i k j):=by simp[C5,h]
theorem iB {l:List (Nd×Bool)} {i:Nat} (h:i<l.length):(Ek l).getD i .bad=LG (l.getD i default):=by simp[Ek,h]
theorem qE (ls:List Ln) (m:Nat) (x:Ln) (c:Nat):(Le ls m x c).1.nm=x.nm:=by unfold Le;split<;>rfl
theorem db (xs:List Nd) (nm:ByteArray):Fi xs nm=match (xs.map (·.nm)).findIdx? (fun z=>decide (z=nm)) with|some i=>i|none=>-1:=by rw[Fi,List.findIdx?_map];rfl
theorem zA {ls:List Ln} {m i k:Nat} (hm:m<=ls.length) (nm:ByteArray):Fi ((C5 ls m i k).map (·.1)) nm=H1 ls m nm:=by
 rw[H1,db,db];have:((C5 ls m i k).map (·.1)).map (·.nm)=((ls.take m).map KU).map (·.nm):=by
  apply List.ext_getElem
  .simp[NT];omega
  intro j h1 h2;simp only[List.length_map,NT] at h1;simp only[List.getElem_map,List.getElem_take,C5,List.getElem_range,qE];simp[show j<ls.length by omega,KU]
 rw[this]
theorem zF (ls:List Ln) (m i:Nat):C5 ls m i (ls.getD i default).names.length=C5 ls m (i+1) 0:=by
 unfold C5;refine List.map_congr_left fun j _=>?_;congr 1
 unfold JC;by_cases h1:j<i
 .rw[iP h1,iP oM]
 rw[iN h1];by_cases h2:j=i
 .subst h2;rw[iP rfl,iP oM]
 rw[iN h2,iN oM];split<;>rfl
theorem zC {ls:List Ln} {m i k k':Nat} (h:m<=i):C5 ls m i k=C5 ls m i k':=by unfold C5;refine List.map_congr_left fun j hj=>?_;have:=List.mem_range.1 hj;rw[JC,JC,iP oM,iP oM]
theorem zG {ls:List Ln} {m i k:Nat} (hi:i<m):(C5 ls m i k).set i (Le ls m (ls.getD i default) (k+1))=C5 ls m i (k+1):=by
 apply List.ext_getElem
 .simp[NT]
 intro j h1 h2;simp only[List.length_set,NT] at h1;rw[List.getElem_set];by_cases AF:i=j
 .subst AF;simp[C5,JC]
 rw[iN AF];simp[C5,JC,show ¬j=i from fun h=>AF h.symm]
def EH (ls:List Ln) (m d:Nat):List T3:=(List.range (ls.length - m)).map fun j=>if j<d then⟨(ls.getD (m+j) default).dk,H1 ls m ((ls.getD (m+j) default).names.getD 0 .empty),(ls.getD (m+j) default).dw⟩ else Of (ls.getD (m+j) default)
theorem PX (ls:List Ln) (m d:Nat):(EH ls m d).length=ls.length - m:=by simp[EH]
theorem qd {ls:List Ln} {m d j:Nat} (h:j<ls.length - m):(EH ls m d).getD j default=if j<d then⟨(ls.getD (m+j) default).dk,H1 ls m ((ls.getD (m+j) default).names.getD 0 .empty),(ls.getD (m+j) default).dw⟩ else Of (ls.getD (m+j) default):=by simp only[EH,gE,List.getElem?_map,List.getElem?_range h,Option.map_some,Option.getD_some]
theorem qf {ls:List Ln} {m d:Nat} (h:d<ls.length - m):(EH ls m d).set d ⟨(ls.getD (m+d) default).dk,H1 ls m ((ls.getD (m+d) default).names.getD 0 .empty),(ls.getD (m+d) default).dw⟩=EH ls m (d+1):=by
 apply List.ext_getElem
 .simp[PX]
 intro j h1 h2;simp only[List.length_set,PX] at h1;rw[List.getElem_set];by_cases EB:d=j
 .subst EB;simp[EH]
 rw[iN EB];by_cases Aa:j<d
 .simp[EH,Aa,show j<d+1 by omega]
 simp[EH,Aa,show ¬j<d+1 by omega]
def cD (m i k:Nat):Nat:=if i<m then 0 else i - m+k
theorem pd {m i k:Nat} (h:m<=i->k=1):cD m i k=cD m (i+1) 0:=by
 unfold cD;by_cases h1:i<m
 .rw[iP h1];split<;>omega
 have:=h oM;rw[iN h1,iN oM];omega
def MP (ls:List Ln) (m:Nat):Ly:=⟨(C5 ls m m 0).map (·.1),EH ls m (ls.length - m)⟩
theorem qg {ls:List Ln} {m:Nat}:EH ls m 0=(ls.drop m).map Of:=by
 apply List.ext_getElem
 .simp[EH]
 intro j h1 h2;simp only[PX] at h1;simp[EH,show m+j<ls.length by omega]
structure aw (s:ByteArray) (T:List ByteArray) (ls:List Ln) (m:Nat):Prop where
 len:s.data.toList.length<=4096
 sp:Vi s 10=T++[.empty]
 tl:T.length=ls.length
 ll:ls.length<=100
 ml:m<=ls.length
 m0:0<m
 nd:∀i,i<m->(ls.getD i default).kd≠0
 dv:∀i,m<=i->i<ls.length->(ls.getD i default).kd=0
 fn:∀i,i<ls.length->∀k,k<(ls.getD i default).names.length->0<=H1 ls m ((ls.getD i default).names.getD k .empty)
 x0:∀i,i<ls.length->(ls.getD i default).ex=[]
 d1:∀i,m<=i->i<ls.length->(ls.getD i default).names.length=1
 nl:∀i,i<ls.length->(ls.getD i default).names.length<=100
 rd:∀i,i<ls.length->Ag prog Ad 125 [] [S (T.getD i .empty)] [] (.tup [(ls.getD i default).av,B true])
theorem Qbd (s:ByteArray) (T:List ByteArray) (ls:List Ln) (m:Nat) (h:aw s T ls m) (wH:HW (MP ls m)) (G6:Dp (MP ls m)=0):Ag prog Ad 70 [] [S s] [] (.tup [(MP ls m).av,I 0,I 0]):=by
 obtain⟨hlen,Fq,Dd,Eh,Gw,HD,Lv,Oz,OB,J1,Hw,Dc,DU⟩:=h;have Be:s.size=s.data.toList.length:=by rw[<-M5,L6]
 have Yk:=j2 s 10 oM;rw[Fq] at Yk;have eK:(T++[ByteArray.empty]).length=ls.length+1:=by rw[aL,Dd];rfl
 have eI:(T++[ByteArray.empty]).getD ls.length .empty= .empty:=by rw[dW,Dd];simp
 have eM:(T++[ByteArray.empty]).take ls.length=T:=by rw[<-Dd,List.take_left]
 have fI:ls.length<(T++[ByteArray.empty]).length:=oM;have Eg:((ls.length:Int)+1 - 1).toNat=ls.length:=oM;have vy:((ls.length:Int)+1 - 1)=ls.length:=oM;refine Am func70 ntmps70 ?_;intro w e X hC;refine Bg @Be ?_;refine GF (fun c0=>?_) (fun c0=>?_)
 .omega
 refine xz1 Yk ?_;refine Bg (uI @eK (uI @Int.natCast_add (uI @vy (uI @Int.natCast_one (uI (Ge fI) (uI @eI (uI @kb @eM))))))) ?_;refine uW ?_;refine Aw (fun q:Nat×Nat×Nat×Nat×Nat×Nat×Nat=>⟨[(2, .p 102 1 0 0 0),(5, .sl (strs T) false),(6,S .empty),(7, .l 107 q.2.2.1 0 q.2.1),(8, .p 108 24 0 0 0),(9,I q.2.1)],
  (108,some (24, .box [F8 q.2.2.2.2.2.1 (.l 177 q.2.2.2.1 0 q.2.2.2.2.2.1),F8 q.2.2.2.2.2.2 (.l 184 q.2.2.2.2.1 0 q.2.2.2.2.2.2)]))::(177,F9 q.2.2.2.2.2.1 (q.2.2.2.1, .own 82 5 (AA ((ls.take q.2.2.2.2.2.1).map KU))))::(184,F9 q.2.2.2.2.2.2 (q.2.2.2.2.1, .own 108 3 (Ai (((ls.drop m).take q.2.2.2.2.2.2).map Of))))::(107,some (q.2.2.1, .own 177 9 (J2 (ls.take q.2.1))))::(102,some (1, .box [.sl [] true, .sl [] true]))::[],q.1⟩)
  (fun q=>q.2.1<=ls.length/\q.2.2.2.2.2.1=min q.2.1 m/\q.2.2.2.2.2.2=q.2.1 - m) (fun q=>ls.length - q.2.1) (_,0,23,0,0,0,0) ⟨zL _,sM,sM⟩ (.of (lR _) (Ax @y3) A4) ?_
 rintro⟨ck,i,g,g1,g2,na,nd⟩ ⟨hi,vX,v6⟩;simp only at hi vX v6;have tq:T.length=ls.length:=Dd;refine Bg @tq ?_;refine GF (fun h1=>?_) (fun h1=>?_)
 .have Aa:i<ls.length:=oM;have vM:i<T.length:=oM;have wA:=DU i Aa;have fM:=Lv i;have fd:=Oz i;have G4:=Jp (d:=default) Aa;have UI:(ls.take i).length=i:=vv9;generalize e1:ls.getD i default=x at*;obtain⟨xnm,xkd,xln,xzn,xex,xdk,xdn,xdw,xns⟩:=x;simp only at fM fd;refine Av (Ge vM) ?_;intro K hK;refine⟨oM,?_⟩;refine cP wA ?_;refine uS ?_;refine uH ?_;refine hK _ ?_;clear hK K;by_cases XJ:i<m
  .have GY:=fM XJ;have dk:decide (¬xkd=0)=true:=dT GY;obtain rfl:na=i:=oM;obtain rfl:nd=0:=oM;have OY:∀l:List Ln,(l++[(⟨xnm,xkd,xln,xzn,xex,xdk,xdn,xdw,xns⟩:Ln)]).map KU=l.map KU++[⟨xnm,xkd,xln,xzn,xex⟩]:=fun l=>by rw[List.map_append];rfl
   have wR:[(⟨xnm,xkd,xln,xzn,xex,xdk,xdn,xdw,xns⟩:Ln)].map KU=[⟨xnm,xkd,xln,xzn,xex⟩]:=rfl;simp only[Ji,Jj];by_cases H9:na=0
   .subst H9;simp only[Ji,Jj];refine IB (uI @dk @UI) ?_;refine⟨(_,0+1,g,ck+43,g2,0+1,0),⟨uO,uO,uO⟩,uO, .of (lR _) (Ax (uI @G4 (uI @OY (uI @wR (uI @zO (uI @FQ @FR)))))) A4⟩
   simp only[Hd H9,He H9];refine IB (uI @dk @UI) ?_;refine⟨(_,na+1,g,g1,g2,na+1,0),⟨uO,uO,uO⟩,uO, .of (lR _) (Ax (uI @G4 (uI @OY (uI @FQ @FR)))) A4⟩
  have GY:=fd oM Aa;have dk:decide (¬xkd=0)=false:=dF (fun h=>h GY);obtain⟨A1,rfl⟩:∃k,na=k+1:=⟨na - 1,oM⟩;obtain rfl:m=A1+1:=oM;have I4:nd<(ls.drop (A1+1)).length:=vq9;have Nu:(ls.drop (A1+1)).getD nd default=⟨xnm,xkd,xln,xzn,xex,xdk,xdn,xdw,xns⟩:=by
   rw[<-e1];simp only[gE,List.getElem?_drop];congr 2
   omega
  have OY:((ls.drop (A1+1)).take (nd+1)).map Of=((ls.drop (A1+1)).take nd).map Of++[⟨xdk,xdn,xdw⟩]:=by rw[Jp (d:=default) I4,List.map_append,Nu];rfl
  have uj:((ls.drop (A1+1)).take nd).length=nd:=vv9;simp only[FQ,FR];by_cases H9:nd=0
  .subst H9;simp only[Ji,Jj];refine IB (uI @dk @UI) ?_;refine⟨(_,i+1,g,g1,ck+43,A1+1,0+1),⟨uO,uO,uO⟩,uO, .of (lR _) (Ax (uI @OY (uI @G4 (uI @Qfk (uI @FQ @FR))))) A4⟩
  simp only[Hd H9,He H9];refine IB (uI @dk (uI @UI @uj)) ?_;refine⟨(_,i+1,g,g1,g2,A1+1,nd+1),⟨uO,uO,uO⟩,uO, .of (lR _) (Ax (uI @OY (uI @G4 (uI @FQ @FR)))) A4⟩
 refine At ?_;obtain rfl:i=ls.length:=oM;clear DU Yk eK eI eM fI;obtain rfl:na=m:=oM;obtain⟨A1,rfl⟩:∃k,na=k+1:=⟨na - 1,oM⟩;rw[List.take_length];have um:(ls.drop (A1+1)).take nd=ls.drop (A1+1):=List.take_of_length_le vq9;rw[um,<-qg];have vU:AA ((ls.take (A1+1)).map KU)=Ek (C5 ls (A1+1) 0 0):=by
  rw[iC];congr 1
  apply List.ext_getElem
  .simp[NT];omega
  intro j h1 h2;simp only[List.length_map,NT] at h2;simp[C5,JC,Le,show j<ls.length by omega]
 rw[vU];simp only[FQ,FR];refine xy1 (fun hh=>?_) (fun hh=>?_)
 .exact absurd rfl hh
 iterate 3 (first|refine BQ ?_|refine A5 ?_)
 refine CE (fun q:Nat×Nat=>⟨[(2, .p 102 1 0 0 0),(7, .l 107 g 0 ls.length),(8, .p 108 24 0 0 0),(12,I 0)],
  (108,some (24, .box [.l 177 g1 0 (A1+1), .l 184 q.2 0 nd]))::(177,some (g1, .own 82 5 (Ek (C5 ls (A1+1) 0 0))))::(184,some (q.2, .own 108 3 (Ai (EH ls (A1+1) 0))))::(107,some (g, .own 177 9 (J2 ls)))::(102,some (1, .box [.sl [] true, .sl [] true]))::[],q.1⟩) (fun _=>True) ?_ ?_
 .by_cases IH:nd=0
  .subst IH;have Uf:EH ls (A1+1) 0=[]:=List.length_eq_zero_iff.1 (by rw[PX];omega);simp only[Ji,Jj,Uf];refine PL 184 108 24 108 3 1 dM rfl rfl rfl ?_;first|refine uS ?_|exact uX
   refine uZ ?_;refine⟨(_,ck+6), .of (lR _) (Ax @Qfj) A4⟩
  simp only[Hd IH,He IH];refine uZ ?_;refine⟨(_,g2),trivial,Af⟩
 rintro⟨ck0,g2⟩ -;refine xy4 ?_;refine Aw (fun q:Nat×Nat=>⟨[(2, .p 102 1 0 0 0),(7, .l 107 g 0 ls.length),(8, .p 108 24 0 0 0),(12,I q.2)],
  (108,some (24, .box [.l 177 g1 0 (A1+1), .l 184 g2 0 nd]))::(177,some (g1, .own 82 5 (Ek (C5 ls (A1+1) q.2 0))))::(184,some (g2, .own 108 3 (Ai (EH ls (A1+1) (cD (A1+1) q.2 0)))))::(107,some (g, .own 177 9 (J2 ls)))::(102,some (1, .box [.sl [] true, .sl [] true]))::[],q.1⟩)
  (fun q=>q.2<=ls.length) (fun q=>ls.length - q.2) (_,0) (zL _) (.of (lR _) (Ax (show cD (A1+1) 0 0=0 from iP oM)) A4) ?_
 rintro⟨ck,i⟩ hi;simp only at hi;refine xy1 (fun h3=>?_) (fun h3=>?_)
 .have Aa:i<ls.length:=oM;have Xy:=OB i Aa;have Ox:=Hw i;have X3:=Dc i Aa;have Yy:=J1 i Aa;refine xy4 ?_;refine Aw (fun q:Nat×Nat=>⟨[(2, .p 102 1 0 0 0),(7, .l 107 g 0 ls.length),(8, .p 108 24 0 0 0),(12,I i),(13,I q.2)],
   (108,some (24, .box [.l 177 g1 0 (A1+1), .l 184 g2 0 nd]))::(177,some (g1, .own 82 5 (Ek (C5 ls (A1+1) i q.2))))::(184,some (g2, .own 108 3 (Ai (EH ls (A1+1) (cD (A1+1) i q.2)))))::(107,some (g, .own 177 9 (J2 ls)))::(102,some (1, .box [.sl [] true, .sl [] true]))::[],q.1⟩)
   (fun q=>q.2<=(ls.getD i default).names.length) (fun q=>(ls.getD i default).names.length - q.2) (_,0) (zL _) (.of (lR _) Cb A4) ?_
  rintro⟨ck2,k⟩ hk;simp only at hk;have EW:=NT ls (A1+1) i k;have uw:=fun nm=>zA (i:=i) (k:=k) Gw nm;have DH:=zG (ls:=ls) (m:=A1+1) (i:=i) (k:=k);have DP:=zD (ls:=ls) (m:=A1+1) (i:=i) (k:=k) (j:=i);generalize e1:ls.getD i default=x at*;refine Bg (uI (is Aa) @e1) ?_;refine GF (fun h4=>?_) (fun h4=>?_)
  .have Sb:k<x.names.length:=oM;have hfk:=Xy k Sb;have Bk:=dc ⟨(C5 ls (A1+1) i k).map (·.1),EH ls (A1+1) (cD (A1+1) i k)⟩ (x.names.getD k .empty) vq0;simp only[uw] at Bk;have QhW:H1 ls (A1+1) (x.names.getD k .empty)<=1000:=by
    rw[H1,Fi];split
    .rename_i j hj;rw[List.findIdx?_eq_some_iff_getElem] at hj;obtain⟨hj,_⟩:=hj;simp only[List.length_map,List.length_take] at hj;omega
    omega
   have JK:Le ls (A1+1) x (k+1)=(⟨x.nm,x.kd,x.ln,x.zn,(x.names.take k).map (H1 ls (A1+1))++[H1 ls (A1+1) (x.names.getD k .empty)]⟩,true):=by rw[Le,iN oM,Yy,Jp (d:= .empty) Sb,List.map_append];rfl
   have F2:(EH ls (A1+1) (cD (A1+1) i k)).length=nd:=by rw[PX];omega
   generalize FM:C5 ls (A1+1) i k=ms at*;generalize DO:EH ls (A1+1) (cD (A1+1) i k)=ds at*;generalize ux:H1 ls (A1+1) (x.names.getD k .empty)=f at*;refine Cv (uI (is Aa) (uI @e1 (uI (Ge Sb) (uI @Dx (uI @EW @F2))))) ?_;intro K hK;refine uH ?_;refine JA (rc:=I f) ?_ ?_ ?_ ?_ ?_ ?_;(focus (first|exact trivial|(simp only[go_sem,seval,Ft,Fu,Fv,Dx,EW,F2]<;>trivial)));(focus (simp only[go_sem,seval,Ft,Fu,Fv,Dx,EW,F2];exact Bk));(focus (first|exact trivial|(simp only[go_sem,seval,Ft,Fu,Fv,Dx,EW,F2]<;>trivial)));(focus (first|exact trivial|(simp only[go_sem,seval,Ft,Fu,Fv,Dx,EW,F2]<;>trivial)));(focus (first|exact trivial|(simp only[go_sem,seval,Ft,Fu,Fv,Dx,EW,F2]<;>trivial)));first|refine Ap (uI @Ft (uI @Fu (uI @Fv (uI @Dx (uI @EW @F2))))) ?_|exact Aq (uI @Ft (uI @Fu (uI @Fv (uI @Dx (uI @EW @F2)))))
   refine uH ?_;refine hK _ ?_;clear hK K;refine xy1 (fun h5=>?_) (fun h5=>?_)
   .omega
   refine Bg (uI @Dx (uI @EW @F2)) ?_;refine GF (fun XJ=>?_) (fun XJ=>?_)
   .have Jc:i<A1+1:=oM;have XK:i<ms.length:=oM;have JM:=DP Jc;rw[show JC ls i k i=k by rw[JC,iN (Nat.lt_irrefl i),iP rfl]] at JM;have IA:∀v,((Ek ms).set i v).getD i .bad=v:=fun v=>by rw[Ef,iP ⟨rfl,by rw[Dx];exact XK⟩]
    have Lu:∀(nm:ByteArray) (kd ln zn:Int) (ex:List Int),(Ek ms).set i (.agg [.lit (.string nm), .lit (.int .i64 kd), .lit (.int .i64 ln), .lit (.int .i64 zn), .kid 3 1 (As ex)])=Ek (ms.set i (⟨nm,kd,ln,zn,ex⟩,true)):=fun _ _ _ _ _=>iD;have Gt:∀j,cD (A1+1) i j=cD (A1+1) i k:=fun j=>by rw[cD,cD,iP Jc,iP Jc]
    by_cases Ck:k=0
    .have XE:ms.getD i default=(KU x,false):=by rw[JM,Le,iP Ck]
     subst Ck;(repeat first|refine A5 ?_|refine BQ ?_|refine B5 ?_);refine M4 hC kR kR rfl fun K hK=>?_;simp only[go_sem,seval,Dx,EW,iB XK,XE,LG,KU,Yy,List.length_nil]
     refine uH ?_;refine hK _ ?_;clear hK K;refine uZ ?_;refine⟨(_,0+1),uO,uO, .of (lR _) (by repeat (first|exact AX.nil|refine AX.cons rfl ?_|refine AX.gone ?_|refine AX.opt rfl ?_|(refine AX.cons ?_ ?_;(focus (simp only[go_sem,seval,-Int.reduceNatCast',<-DH Jc,JK,Lu,IA,Gt (_+1),DO,and_self,if_false,AV.cells,List.set_set,List.take_succ_cons,List.take_zero,List.drop_succ_cons,List.drop_zero,List.cons_append,List.nil_append,List.map_nil];done)))|(refine AX.less rfl (FV.ofBW ?_) ?_;(focus ((repeat (first|exact BW.nil|refine BW.same ?_|(refine BW.frz ?_ ?_ ?_ ?_;(focus (first|exact trivial|(simp only[go_sem,seval,-Int.reduceNatCast',<-DH Jc,JK,Lu,IA,Gt (_+1),DO,and_self,if_false,AV.cells,List.set_set,List.take_succ_cons,List.take_zero,List.drop_succ_cons,List.drop_zero,List.cons_append,List.nil_append,List.map_nil]<;>trivial)));(focus (first|rfl|((simp only[go_sem,seval,-Int.reduceNatCast',<-DH Jc,JK,Lu,IA,Gt (_+1),DO,and_self,if_false,AV.cells,List.set_set,List.take_succ_cons,List.take_zero,List.drop_succ_cons,List.drop_zero,List.cons_append,List.nil_append,List.map_nil]<;>rfl);done)));(focus (first|(simp only[go_sem,seval,-Int.reduceNatCast',<-DH Jc,JK,Lu,IA,Gt (_+1),DO,and_self,if_false,AV.cells,List.set_set,List.take_succ_cons,List.take_zero,List.drop_succ_cons,List.drop_zero,List.cons_append,List.nil_append,List.map_nil];done)|((simp only[go_sem,seval,-Int.reduceNatCast',<-DH Jc,JK,Lu,IA,Gt (_+1),DO,and_self,if_false,AV.cells,List.set_set,List.take_succ_cons,List.take_zero,List.drop_succ_cons,List.drop_zero,List.cons_append,List.nil_append,List.map_nil]<;>simp);done)|(simp;done)))))));done)))) A4⟩
    have XE:ms.getD i default=(⟨x.nm,x.kd,x.ln,x.zn,(x.names.take k).map (H1 ls (A1+1))⟩,true):=by rw[JM,Le,iN Ck,Yy];rfl
    have ON:((x.names.take k).map (H1 ls (A1+1))).length<=100:=by rw[List.length_map,List.length_take];omega
    generalize (x.names.take k).map (H1 ls (A1+1))=exk at*;(repeat first|refine A5 ?_|refine BQ ?_|refine B5 ?_);refine M4 hC kR kR rfl fun K hK=>?_;simp only[go_sem,seval,Dx,EW,iB XK,XE,LG]
    refine uH ?_;refine hK _ ?_;clear hK K;refine uZ ?_;refine⟨(_,k+1),uO,uO, .of (lR _) (by repeat (first|exact AX.nil|refine AX.cons rfl ?_|refine AX.gone ?_|refine AX.opt rfl ?_|(refine AX.cons ?_ ?_;(focus (simp only[go_sem,seval,-Int.reduceNatCast',<-DH Jc,JK,Lu,IA,Gt (_+1),DO,and_self,if_false,AV.cells,List.set_set,List.take_succ_cons,List.take_zero,List.drop_succ_cons,List.drop_zero,List.cons_append,List.nil_append,List.map_nil];done)))|(refine AX.less rfl (FV.ofBW ?_) ?_;(focus ((repeat (first|exact BW.nil|refine BW.same ?_|(refine BW.frz ?_ ?_ ?_ ?_;(focus (first|exact trivial|(simp only[go_sem,seval,-Int.reduceNatCast',<-DH Jc,JK,Lu,IA,Gt (_+1),DO,and_self,if_false,AV.cells,List.set_set,List.take_succ_cons,List.take_zero,List.drop_succ_cons,List.drop_zero,List.cons_append,List.nil_append,List.map_nil]<;>trivial)));(focus (first|rfl|((simp only[go_sem,seval,-Int.reduceNatCast',<-DH Jc,JK,Lu,IA,Gt (_+1),DO,and_self,if_false,AV.cells,List.set_set,List.take_succ_cons,List.take_zero,List.drop_succ_cons,List.drop_zero,List.cons_append,List.nil_append,List.map_nil]<;>rfl);done)));(focus (first|(simp only[go_sem,seval,-Int.reduceNatCast',<-DH Jc,JK,Lu,IA,Gt (_+1),DO,and_self,if_false,AV.cells,List.set_set,List.take_succ_cons,List.take_zero,List.drop_succ_cons,List.drop_zero,List.cons_append,List.nil_append,List.map_nil];done)|((simp only[go_sem,seval,-Int.reduceNatCast',<-DH Jc,JK,Lu,IA,Gt (_+1),DO,and_self,if_false,AV.cells,List.set_set,List.take_succ_cons,List.take_zero,List.drop_succ_cons,List.drop_zero,List.cons_append,List.nil_append,List.map_nil]<;>simp);done)|(simp;done)))))));done)))) A4⟩
   have QhP:=Ox oM Aa;obtain rfl:k=0:=oM;obtain⟨d,hd⟩:∃d,i=A1+1+d:=⟨i - (A1+1),oM⟩;have tX:cD (A1+1) i 0=d:=by rw[cD,iN oM];omega
   have Ml:cD (A1+1) i (0+1)=d+1:=by rw[cD,iN oM];omega
   have Uf:d<ls.length - (A1+1):=oM;have KE:=qd (ls:=ls) (m:=A1+1) (d:=d) Uf;have IJ:=qf (ls:=ls) (m:=A1+1) (d:=d) Uf;rw[iN (Nat.lt_irrefl d)] at KE;rw[<-hd,e1] at KE IJ;rw[tX] at DO;rw[DO] at KE IJ;rw[ux] at IJ;have I4:d<ds.length:=oM;have vz:(i:Int) - ((A1:Int)+1)=d:=oM;have vA:(i:Int) - ((A1+1:Nat):Int)=d:=oM;have Mr:C5 ls (A1+1) i (0+1)=ms:=by rw[<-FM];exact zC oM
   (repeat first|refine A5 ?_|refine BQ ?_|refine B5 ?_);refine Ep hC rfl fun K hK=>?_;simp only[go_sem,seval,Dx,EW,vz,vA,By I4,KE,Of]
   refine uH ?_;refine hK _ ?_;clear hK K;refine uZ ?_;refine⟨(_,0+1),uO,uO, .of (lR _) (by repeat (first|exact AX.nil|refine AX.cons rfl ?_|refine AX.gone ?_|refine AX.opt rfl ?_|(refine AX.cons ?_ ?_;(focus (simp only[go_sem,seval,-Int.reduceNatCast',Mr,Ml,<-IJ,and_self,if_false];done)))|(refine AX.less rfl (FV.ofBW ?_) ?_;(focus ((repeat (first|exact BW.nil|refine BW.same ?_|(refine BW.frz ?_ ?_ ?_ ?_;(focus (first|exact trivial|(simp only[go_sem,seval,-Int.reduceNatCast',Mr,Ml,<-IJ,and_self,if_false]<;>trivial)));(focus (first|rfl|((simp only[go_sem,seval,-Int.reduceNatCast',Mr,Ml,<-IJ,and_self,if_false]<;>rfl);done)));(focus (first|(simp only[go_sem,seval,-Int.reduceNatCast',Mr,Ml,<-IJ,and_self,if_false];done)|((simp only[go_sem,seval,-Int.reduceNatCast',Mr,Ml,<-IJ,and_self,if_false]<;>simp);done)|(simp;done)))))));done)))) A4⟩
  refine At ?_;obtain rfl:k=x.names.length:=oM;have vS:C5 ls (A1+1) i x.names.length=C5 ls (A1+1) (i+1) 0:=by rw[<-e1];exact zF ls (A1+1) i
  have QjF:cD (A1+1) i x.names.length=cD (A1+1) (i+1) 0:=pd (fun h=>Ox h Aa);refine uZ ?_;refine⟨(_,i+1),uO,uO, .of (lR _) (Ax (uI @vS @QjF)) A4⟩
 refine At ?_;obtain rfl:i=ls.length:=oM;have Lt:C5 ls (A1+1) ls.length 0=C5 ls (A1+1) (A1+1) 0:=by unfold C5;refine List.map_congr_left fun j hj=>?_;have:=List.mem_range.1 hj;rw[JC,JC,iP oM,iP oM]
 have Lo:cD (A1+1) ls.length 0=ls.length - (A1+1):=by rw[cD,iN oM];rfl
 rw[Lt,Lo];have hv:=Zw (MP ls (A1+1)) wH;rw[G6] at hv;have hY:MP ls (A1+1)=⟨(C5 ls (A1+1) (A1+1) 0).map (·.1),EH ls (A1+1) (ls.length - (A1+1))⟩:=rfl;rw[hY] at hv ⊢;have EW:=NT ls (A1+1) (A1+1) 0;have F2:(EH ls (A1+1) (ls.length - (A1+1))).length=nd:=by rw[PX];omega
 generalize C5 ls (A1+1) (A1+1) 0=ms at*;generalize EH ls (A1+1) (ls.length - (A1+1))=ds at*;refine uR ?_;intro K hK;refine JA (rc:=I 0) ?_ ?_ ?_ ?_ ?_ ?_;(focus (first|exact trivial|(simp only[go_sem,seval,Ft,Fu,Fv,Dx,EW,F2]<;>trivial)));(focus (simp only[go_sem,seval,Ft,Fu,Fv,Dx,EW,F2];exact hv));(focus (first|exact trivial|(simp only[go_sem,seval,Ft,Fu,Fv,Dx,EW,F2]<;>trivial)));(focus (first|exact trivial|(simp only[go_sem,seval,Ft,Fu,Fv,Dx,EW,F2]<;>trivial)));(focus (first|exact trivial|(simp only[go_sem,seval,Ft,Fu,Fv,Dx,EW,F2]<;>trivial)));first|refine Ap (uI @Ft (uI @Fu (uI @Fv (uI @Dx (uI @EW @F2))))) ?_|exact Aq (uI @Ft (uI @Fu (uI @Fv (uI @Dx (uI @EW @F2)))))
 refine uH ?_;refine hK _ ?_;clear hK K;refine uZ ?_;refine xk1 ?_;rw[show f70.results.toList=[.cell 2 28, .tmp 3, .tmp 4] from rfl];exact MY (uI @Ft (uI @Fu (uI @Fv (uI @Dx (uI @EW @F2)))))
open Go.Plant
theorem UX {α β:Type} {f:α->β} (hf:∀x y,f x=f y->x=y):∀(a b:List α),a.map f=b.map f->a=b
 |[],[],_=>rfl|[],_::_,h=>vx0|_::_,[],h=>vx0|x::a,y::b,h=>by simp only[List.map_cons,List.cons.injEq] at h;rw[hf _ _ h.1,UX hf a b h.2]
open Go.Plant
def bS:ByteArray:=⟨#[101,110,116,114,121,32,65,32,51,32,48,32,62,32,77,10,109,97,110,117,97,108,32,77,32,48,10]⟩
def be:ByteArray:=⟨#[101,110,116,114,121,32,65,32,51,32,48,32,62,32,77]⟩
def TB:List ByteArray:=[⟨#[101,110,116,114,121]⟩,⟨#[65]⟩,⟨#[51]⟩,⟨#[48]⟩,⟨#[62]⟩,⟨#[77]⟩]
def bf:ByteArray:=⟨#[109,97,110,117,97,108,32,77,32,48]⟩
def TC:List ByteArray:=[⟨#[109,97,110,117,97,108]⟩,⟨#[77]⟩,⟨#[48]⟩]
def bT:List ByteArray:=[be,bf]
def bL:List Ln:=[QK TB 1,QK TC 9]
theorem og:VQ TB 1 where
 kr:=dM
 len:=vv1
 w0:=fun j h1 h2=>(by decide+kernel:∀j,j<10->1<=j->Lc (K3.getD j .empty) (TB.getD 0 .empty)=decide ((j:Int)=1)) j oM h1
 ph:=vv1
 nm:=vv1
 n2:=vv1
 zn:=vv1
 ar:=vv1
 ex:=vv1
theorem oh:VQ TC 9 where
 kr:=dM
 len:=vv1
 w0:=fun j h1 h2=>(by decide+kernel:∀j,j<10->1<=j->Lc (K3.getD j .empty) (TC.getD 0 .empty)=decide ((j:Int)=9)) j oM h1
 ph:=vv1
 nm:=vv1
 n2:=vv1
 zn:=vv1
 ar:=vv1
 ex:=vv1
theorem ol:aw bS bT bL 2 where
 len:=vv1
 sp:=vv1
 tl:=vv1
 ll:=vv1
 ml:=vv1
 m0:=dM
 nd:=vv1
 dv:=fun i h1 h2=>by have h3:i<2:=h2;omega
 fn:=vv1
 x0:=vv1
 d1:=fun i h1 h2=>by have h3:i<2:=h2;omega
 nl:=vv1
 rd:=fun i h=>by
  have h3:i<2:=h;have h4:i=0\/i=1:=oM;rcases h4 with rfl|rfl
  .exact jr be TB 1 vv1 vv1 og
  exact jr bf TC 9 vv1 vv1 oh
def bY:Ly:=⟨[⟨⟨#[65]⟩,1,3,0,[1]⟩,⟨⟨#[77]⟩,9,0,0,[]⟩],[]⟩
theorem Wc:MP bL 2=bY:=by
 have h1:(MP bL 2).U.map (fun x=>(x.nm,x.kd,x.ln,x.zn,x.ex))=bY.U.map (fun x=>(x.nm,x.kd,x.ln,x.zn,x.ex)):=vv1;have h2:(MP bL 2).D.map (fun x=>(x.a,x.b,x.c))=bY.D.map (fun x=>(x.a,x.b,x.c)):=vv1;have inj1:=UX (f:=fun x:Nd=>(x.nm,x.kd,x.ln,x.zn,x.ex)) fun x y NM=>by cases x;cases y;simp only[Prod.mk.injEq] at NM;obtain⟨rfl,rfl,rfl,rfl,rfl⟩:=NM;rfl
 have inj2:=UX (f:=fun x:T3=>(x.a,x.b,x.c)) fun x y NM=>by cases x;cases y;simp only[Prod.mk.injEq] at NM;obtain⟨rfl,rfl,rfl⟩:=NM;rfl
 have e1:=inj1 _ _ h1;have e2:=inj2 _ _ h2;generalize MP bL 2=y at*;cases y
 simp only at e1 e2;rw[e1,e2]
theorem V9:HW bY:=⟨vv1,vv1,vv1,vv1⟩
theorem Wb:Dp bY=0:=vv1
theorem oi:Ag prog Ad 70 [] [S bS] [] (.tup [bY.av,I 0,I 0]):=by
 have Uz:=Qbd bS bT bL 2 ol (by rw[Wc];exact V9) (by rw[Wc];exact Wb)
 rwa[Wc] at Uz
open Go.Plant Go.Inf
def bP (a b c:Int):Pl:=⟨[[a,b,c],[]],[[],[]]⟩
def Jz:Pl:=bP 0 0 0
def BB:Pl:=bP 1 0 0
def V7:Pl:=bP 0 1 0
def V8:Pl:=bP 0 0 1
def bC:List Int:=[0,0]
def HX (p:Pl) (X:List T3):List Int×List Int:=H0 bY.U p (Fe bY.U p bC X bY.U.length) (Dz bY.U)
def PN (p:Pl) (X:List T3):Pl:=(EQ bY.U p bC X (HX p X).1).1
def V6 (X:List T3):List T3:=(EQ bY.U BB bC X (HX BB X).1).2
def PO:List T3:=[⟨1,0,0⟩]
def PP:List T3:=[⟨2,0,0⟩]
theorem aZ:CN bC BB=[⟨1,0,0⟩,⟨2,0,0⟩]:=by
 refine UX (f:=fun x:T3=>(x.a,x.b,x.c)) (fun x y NM=>by
  cases x;cases y;simp only[Prod.mk.injEq] at NM;obtain⟨rfl,rfl,rfl⟩:=NM;rfl) _ _ ?_
 decide+kernel
theorem TA {X:List T3} (h:D6 (CN bC BB) X):X=[]\/X=PO\/X=PP:=by
 obtain⟨h1,h2,h3⟩:=h;rw[aZ] at h1
 match X,h1,h2,h3 with
 |[],_,_,_=>exact .inl rfl|[f],h1,_,_=>
  have:=h1 f mS;simp only[List.mem_cons,List.not_mem_nil,or_false] at this;rcases this with rfl|rfl
  .exact .inr (.inl rfl)
  exact .inr (.inr rfl)
 |f::g::t,h1,h2,_=>exfalso;have hf:=h1 f mS;have hg:=h1 g (mC _ mS);simp only[List.mem_cons,List.not_mem_nil,or_false] at hf hg;have:=(List.pairwise_cons.1 h2).1 g mS;rcases hf with rfl|rfl<;>rcases hg with rfl|rfl<;>exact this rfl
theorem Q7 (a b c:Int):FB bY.U (bP a b c):=⟨dM,rfl,rfl,fun n hn=>by
 have:n=0\/n=1:=by have:n<2:=hn;omega
 rcases this with rfl|rfl<;>rfl,fun n hn=>by
 have:n=0\/n=1:=by have:n<2:=hn;omega
 rcases this with rfl|rfl<;>exact zL _,vv1,vv1,vv1⟩
theorem Tz:N2 bY.U:=by unfold N2;decide+kernel
theorem om (X:List T3) (hX:X=[]\/X=PO\/X=PP):Ag prog Ad 166 [] [.P (Df bY (Dz bY.U)),BB.av,IS bC, .sl (Ai X) false] [] (.tup [(PN BB X).av, .sl (Ai (V6 X)) false]):=by
 have hs:Ag prog Ad 166 [] [.P (Df bY (Dz bY.U)),BB.av,IS bC, .sl (Ai X) false]
   [(100,some (1, .own 22 1 (BI 3 (EQ bY.U BB bC X (HX BB X).1).1.Q))),(101,some (1, .own 22 1 (BI 3 (EQ bY.U BB bC X (HX BB X).1).1.R))),(102,some (1, .own 107 3 (Ai (EQ bY.U BB bC X (HX BB X).1).2)))]
   (.tup [.agg [.l 100 1 0 (EQ bY.U BB bC X (HX BB X).1).1.Q.length, .l 101 1 0 (EQ bY.U BB bC X (HX BB X).1).1.R.length], .l 102 1 0 (EQ bY.U BB bC X (HX BB X).1).2.length]):=by
  rcases hX with rfl|rfl|rfl
  .exact TR bY BB (Dz bY.U) bC [] (Q7 _ _ _) vv1 vv1 ⟨sM,fun i hi=>vy6⟩ vv1 vv1 vv1 (HX BB []).1 (HX BB []).2 vv1 (by unfold PG;decide+kernel) Tz vv1 rfl
  .exact TR bY BB (Dz bY.U) bC PO (Q7 _ _ _) vv1 vv1 ⟨dM,vv1⟩ vv1 vv1 vv1 (HX BB PO).1 (HX BB PO).2 vv1 (by unfold PG;decide+kernel) Tz vv1 rfl
  exact TR bY BB (Dz bY.U) bC PP (Q7 _ _ _) vv1 vv1 ⟨dM,vv1⟩ vv1 vv1 vv1 (HX BB PP).1 (HX BB PP).2 vv1 (by unfold PG;decide+kernel) Tz vv1 rfl
 unfold PN V6;generalize EQ bY.U BB bC X (HX BB X).1=r at*;obtain⟨⟨q1,q2⟩,mv⟩:=r;simp only at hs ⊢;refine aA hs ?_ ?_
 .exact uX
 exact uX
def L4 (q:Pl):Prop:=q=BB\/q=V7\/q=V8
theorem Wa (X:List T3) (hX:X=[]\/X=PO\/X=PP):L4 (PN BB X):=by
 rcases hX with rfl|rfl|rfl
 .exact .inr (.inl (pl_ext vv1 vv1))
 .exact .inl (pl_ext vv1 vv1)
 exact .inr (.inr (pl_ext vv1 vv1))
where pl_ext {p q:Pl} (h1:p.Q=q.Q) (h2:p.R=q.R):p=q:=by cases p;cases q;simp only at h1 h2;rw[h1,h2]
theorem N7 {q:Pl} (h:L4 q):M1 q:=by rcases h with rfl|rfl|rfl<;>exact⟨⟨dM,dM,dM,dM⟩,vv1⟩
theorem a7 {a b:Pl} (ha:L4 a) (hb:L4 b) (h:B3 (AZ a)=B3 (AZ b)):a=b:=by have h1:=YN (fun x hx=>((N7 ha).nn x hx).1) (fun x hx=>((N7 hb).nn x hx).1) h;rcases ha with rfl|rfl|rfl<;>rcases hb with rfl|rfl|rfl<;>first|rfl|(exfalso;revert h1;decide+kernel)
def bG:List AY:=[(0,V7),(1,BB),(1,V8)]
def bH:List AY:=[(1,V8),(0,V7),(1,BB)]
theorem n9 (q:Pl) (h:q.Q.length<=1000):K5 bY q:=⟨dM,h,fun d hd=>absurd hd (nZ _)⟩
theorem od:Ku (fun r X=>PN r X) (fun r=>Gj bY r [] 1 []) 1 bC [(0,BB)]=bG:=vv1
theorem oe:Ag prog Ad 21 [] [bY.av,(D5.mk 1 (([(0,BB)]:List AY).map Ba)).av,IS bC, .sl (Ai []) false, .sl (Eu []) false] [] (.tup [(D5.mk 1 (bH.map Ba)).av,I 0]):=by
 have GZ:∀h∈([(0,BB)]:List AY),h=(0,BB):=fun h hh=>List.mem_singleton.1 hh;refine g8 bY 1 [(0,BB)] bC [] [] V9 Wb Tz dM (fun h hh=>by rw[GZ h hh];exact Q7 _ _ _) dM vv1 vv1 rfl dM (fun i hi=>absurd hi (nZ _)) _ _ ?_;have Xw:∀X∈([]::ext CQ ((1:Int) - 0).toNat (CN bC BB) []),D6 (CN bC BB) X:=fun X hX=>by
  rcases List.mem_cons.1 hX with rfl|hX
  .exact D6.nil _
  exact P1 (Ok:=D6 (CN bC BB)) (F:=CN bC BB) (fun sm f h1 h2 h3 h4=>h1.snoc h2 h3 h4) dM (D6.nil _) (fun f hf=>hf) X hX
 refine aG (cp:=[[.sl (Eu []) false],[.sl (AA bY.U) false, .sl (Ai bY.D) false],[.sl (Ai []) false],[I 1, .sl (BY (([(0,BB)]:List AY).map Ba)) false]]) (Gd:=L4) (stp:=fun r X=>PN r X) (cst:=fun r=>Gj bY r [] 1 []) [(0,BB)] dM (fun h hh=>?_) (fun h hh G' Oo Ou=>?_) (fun h hh G' Oo Ou=>?_) (fun q hq=>(N7 hq).ky) _ ?_
 .rw[GZ h hh];exact cS bY _ BB bC ⟨dM,dM,dM,dM⟩ dM dM
 .rw[GZ h hh];exact cB (Ok:=D6 (CN bC BB)) (Gd:=L4) (F:=CN bC BB) (mv:=V6) (stp:=fun X=>PN BB X) (cst:=fun r=>Gj bY r [] 1 []) (hp:=BB) (us:=0)
   (fun X hX=>om X (TA hX))
   (fun X hX=>cC bY _ [] 1 (([(0,BB)]:List AY).map Ba) [] (n9 _ (N7 (Wa X (TA hX))).ky.sl) rfl (fun i hi=>absurd hi (nZ _)) dM (fun d=>kH _ _) dM)
   (fun q=>by have:=Wl bY q [] 1 dM [];omega) (fun X hX=>Wa X (TA hX)) (fun q=>N7) (fun a b=>a7) (fun sm f h1 h2 h3 h4=>h1.snoc h2 h3 h4) (Int.le_refl _) dM
   1 [] (CN bC BB) G' rfl (D6.nil _) (fun f hf=>hf) (by rw[aZ];decide) Oo Ou
 .rw[GZ h hh];exact⟨Zq (Gd:=L4) (fun X hX=>Wa X (TA (Xw X hX))) Oo,Zr _ _ _ _ _ Ou⟩
 refine .inr (.inr ?_);rw[od];exact⟨dM,dM,bH,vv1,vv1,rfl⟩
theorem oa:(CS bY Jz 0 1).2=0/\(CS bY Jz 0 1).1=BB:=vv1
theorem a8:Ha (Fh bY 0 1) [(0,Jz)]=[(0,BB)]:=vv1
theorem oc:Ag prog Ad 32 [] [bY.av,(D5.mk 1 (([(0,Jz)]:List AY).map Ba)).av,I 0,I 1] [] (.tup [(D5.mk 1 (([(0,BB)]:List AY).map Ba)).av,I 0]):=by
 have GZ:∀h∈([(0,Jz)]:List AY),h=(0,Jz):=fun h hh=>List.mem_singleton.1 hh;have Bx:=gT bY 1 [(0,Jz)] 0 1 (Gd:=L4) dM dM dM vv1 dM (fun h hh=>by rw[GZ h hh];exact Q7 _ _ _) (fun h hh he=>by
  rw[GZ h hh];exact .inl oa.2) (fun q=>N7) (fun a b=>a7) ⟨1,([(0,BB)]:List AY).map Ba⟩ 0 (.inr ⟨by rw[show((0:Nat):Int)=0 from rfl,a8];decide,[(0,BB)],by rw[show((0:Nat):Int)=0 from rfl,a8],List.pairwise_singleton _ _,rfl,rfl⟩)
 exact Bx
def PM:List T2:=[⟨0,0⟩,⟨0,1⟩,⟨0,2⟩]
theorem oj:Ag prog Ad 39 [] [(D5.mk 1 (bH.map Ba)).av,I 1] [] (.sl (Gf PM) false):=by
 have h3:U6 1 bH=[⟨0,2⟩,⟨0,1⟩,⟨0,0⟩]:=rfl;have hk:∀h∈bH,L4 h.2:=fun h hh=>by
  unfold bH at hh;simp only[List.mem_cons,List.not_mem_nil,or_false] at hh;rcases hh with rfl|rfl|rfl
  .exact .inr (.inr rfl)
  .exact .inr (.inl rfl)
  exact .inl rfl
 refine QbD 1 bH 1 PM dM (fun h hh=>(N7 (hk h hh)).ky) (fun h hh=>?_) ?_ ?_
 .unfold N5;rcases hk h hh with e|e|e<;>rw[e]<;>decide+kernel
 .rw[h3];exact(List.Perm.swap _ _ _).trans (((List.Perm.swap _ _ _).cons _).trans (List.Perm.swap _ _ _))
 unfold PM
 decide+kernel
open Go.Plant Go.Inf
theorem nS:Ag prog Ad 22 [] [] [] (B true):=by
 have Uz:=oi;have Lz:=gW bY 1 V9 Wb dM dM;have e0:F7 bY=Jz:=vv1;rw[e0] at Lz;have Du:=oc;have AM:=oe;have EK:=oj;have A2:=YL [0,0,1] [0,0,1] dM;have IE:(BY (bH.map Ba)).length=3:=rfl;have H8:(BY (bH.map Ba)).getD 0 .bad=(BU.mk 1 [[0,0,1],[]] [[],[]]).av:=rfl;have EJ:(BY (bH.map Ba)).getD 1 .bad=(BU.mk 0 [[0,1,0],[]] [[],[]]).av:=rfl;have Mu:(Ij [[0,0,1],[]]).getD 0 .bad=IS [0,0,1]:=rfl;have Ej:((Ij [[0,0,1],[]]).length)=2:=rfl;have EI:PM.length=3:=rfl;have Jf:(Gf PM).length=3:=rfl;have eb:(D5.mk 1 [⟨0,Jz.Q,Jz.R⟩]).av=(D5.mk 1 (([(0,Jz)]:List AY).map Ba)).av:=rfl;rw[eb] at Lz;generalize (([(0,Jz)]:List AY).map Ba)=h0 at*;generalize (([(0,BB)]:List AY).map Ba)=h1 at*;generalize bH.map Ba=h2 at*;generalize PM=l3 at*;generalize bY=y at*;unfold bS at Uz;unfold bC at AM;refine Am func22 ntmps22 ?_;intro w e X hC;refine xz8 ?_;refine xy5 Uz ?_;refine xw7 Lz ?_;refine xw7 Du ?_;refine xw7 AM ?_;refine uZ ?_;have d3:decide (((3:Nat):Int)=3)=true:=rfl;refine Av (uI @IE (uI @H8 (uI @EJ (uI @Jf (uI @d3 (uI @Mu (uI @Ej (uI @Int.toNat_zero @Bool.and_self)))))))) ?_;intro K hK;refine xw1 A2 ?_;refine xw1 EK ?_;refine uH ?_;refine hK _ ?_;clear hK K;refine xz4 ?_;rw[show Tryz.f22.results.toList=[.tmp 0] from rfl];first|refine Bn ?_|exact Bm
 rw[EI];rfl
open Go.Plant Go.Inf
section
variable {y:Ly} {p q:Pl} {L:List Int}
theorem Bh.rowl (h:Bh y p L):(∀r∈p.Q,r.length<=1000)/\(∀r∈p.R,r.length<=1000):=by
 have hx:=h.fp.xl;have hs:=h.fp.sl;have hb:=h.fp.bl;refine⟨fun r hr=>?_,fun r hr=>?_⟩
 .obtain⟨i,hi,rfl⟩:=P8 (d:=[]) hr;have h1:=h.fp.row i oM;have h2:=h.fp.ln i oM;omega
 obtain⟨i,hi,rfl⟩:=P8 (d:=[]) hr;have h1:=h.fp.bin i oM;omega
theorem Bh.psame (h:Bh y p L) (h':Bh y q L):Ag prog Ad 52 [] [p.av,q.av] [] (B (Pp p q)):=by have hx:=h.fp.xl;have hs:=h.fp.sl;have hb:=h.fp.bl;have hs':=h'.fp.sl;have CO:=h'.fp.bl;exact QbN p q oM oM oM oM (fun i hi=>h.rowl.1 _ (GQ hi _)) (fun i hi=>h.rowl.2 _ (GQ hi _)) (fun i hi=>h'.rowl.1 _ (GQ hi _)) (fun i hi=>h'.rowl.2 _ (GQ hi _))
end
open Go.Plant Go.Inf
theorem QiQ (p:Pl):Ag prog Ad 75 [] [p.av] [] (.tup [I 0,B true]):=by refine Am func75 ntmps75 ?_;intro w e X hC;refine xz4 ?_;rw[show f75.results.toList=[.tmp 2, .tmp 3] from rfl];exact Bm
theorem Qja (y:Ly) (bud:Int) (hs:List AY) (cs:List Int) (G0:HW y) (hv:Dp y=0) (hr:N2 y.U) (C3:hs.length<=1000) (R1:∀h∈hs,FB y.U h.2) (Cy:cs.length<=1000) (hex:∀n,n<y.U.length->(y.U.getD n default).ex.length<=500)
  (hb:Hf y.U cs []=0) (r:D5) (e:Int) (ha:Ag prog Ad 67 [] [.P (Df y (Dz y.U)),(D5.mk bud (hs.map Ba)).av,IS cs, .fn 75 []] [] (.tup [r.av,I e])):
  Ag prog Ad 28 [] [y.av,(D5.mk bud (hs.map Ba)).av,IS cs] [] (.tup [r.av,I e]):=by
 have h1:=QbF y bud hs G0 hv hr C3 R1;have h2:Ag prog Ad 66 [] [.P (Df y (Dz y.U)),IS cs, .sl [] false] [] (I 0):=by have:=Qb7 y (Dz y.U) cs [] G0.n Cy (zL _) hex;rw[hb] at this;exact this
 obtain⟨rb,rl⟩:=r;refine Am func28 ntmps28 ?_;intro w e X hC;refine xz8 ?_;refine xy6 h1 ?_;refine uZ ?_;refine uF ?_;refine uR ?_;intro K hK;refine xw6 h2 ?_;refine hK _ ?_;clear hK K;refine uZ ?_;refine uF ?_;refine uR ?_;refine xy6 ha ?_;refine Ay ?_;rw[show Tryz.f28.results.toList=[.cell 6 33, .tmp 7] from rfl];exact Bm
section
variable {A n:Nat} {y:Ly} {L:List Int} {bud:Int} {hs:List AY} {c:List Int}
theorem Qkk (hg:ER A n y) (hL:FU L) (hb:0<=bud/\bud<=2) (DZ:∀h∈hs,Bh y h.2 L) (O2:∀h∈hs,0<=h.1/\h.1<=bud) (C3:hs.length<=1000)
  (hc:c.length=n) (hk:∀i,i<n->CM (y.U.getD i default) (c.getD i 0)=true) (G:List AY) (hG:Ku (fun r X=>(Cg y r c X).1) (fun _=>(0,true)) bud c hs=G) (r:D5) (e:Int)
  (hr:(G=[]/\r=⟨0,[]⟩/\e=11)\/(40<G.length/\r=⟨0,[]⟩/\e=2)\/(G≠[]/\G.length<=40/\r=⟨bud,(IP G).map Ba⟩/\e=0)):
  Ag prog Ad 28 [] [y.av,(D5.mk bud (hs.map Ba)).av,IS c] [] (.tup [r.av,I e]):=by
 have hn:=hg.g.n11;have KF:=hg.g.len;refine Qja y bud hs c hg.sml hg.val hg.g.ex C3 (fun h hh=>(DZ h hh).fp) oM hg.ex5 (ji hg.g hc hk ⟨sM,sM⟩ (zL _)) _ _ ?_;exact QiR (cp:=[]) hg hL hb DZ O2 C3 hc hk (fun h hh X hX=>QiQ _) (fun q=>⟨Int.le_refl _,dM⟩) G hG r e hr
end
open Go.Plant Go.Inf
def hZ:AY:=(0,⟨[],[]⟩)
theorem QhM (p q:Pl):decide (p.Q=q.Q/\p.R=q.R)=decide (p=q):=by rw[decide_eq_decide];obtain⟨a,b⟩:=p;obtain⟨c,d⟩:=q;exact⟨fun h=>by simp only at h;rw[h.1,h.2],fun h=>by rw[h];exact⟨rfl,rfl⟩⟩
section
variable {y:Ly} {L L2:List Int}
theorem Bh.rsameG {p q:Pl} (h:Bh y p L) (h':Bh y q L2):Ag prog Ad 23 [] [p.av,q.av] [] (B (decide (p=q))):=by
 have hx:=h.fp.xl;have hs:=h.fp.sl;have hb:=h.fp.bl;have hs':=h'.fp.sl;have CO:=h'.fp.bl;have:=QeO p q oM oM (fun r hr=>by have:=h.rowl.1 r hr;omega) (fun r hr=>by have:=h.rowl.2 r hr;omega) oM oM
 rwa[QhM] at this
theorem Bh.psameG {p q:Pl} (h:Bh y p L) (h':Bh y q L2):Ag prog Ad 52 [] [p.av,q.av] [] (B (decide (p=q))):=by
 have hx:=h.fp.xl;have hs:=h.fp.sl;have hb:=h.fp.bl;have hs':=h'.fp.sl;have CO:=h'.fp.bl;have:=QbN p q oM oM oM oM (fun i hi=>h.rowl.1 _ (GQ hi _)) (fun i hi=>h.rowl.2 _ (GQ hi _)) (fun i hi=>h'.rowl.1 _ (GQ hi _)) (fun i hi=>h'.rowl.2 _ (GQ hi _))
 rwa[QhM] at this
theorem Qke {a b:AY} (h:Bh y a.2 L) (h':Bh y b.2 L):Ag prog Ad 99 [] [(Ba a).av,(Ba b).av] [] (B (decide (a=b))):=by
 have hs:=h.psameG h';obtain⟨ua,pa⟩:=a;obtain⟨ub,pb⟩:=b;simp only[Ba] at hs ⊢;by_cases c:ua=ub
 .have d:decide (ua=ub)=true:=dT c;have e:decide ((ua,pa)=(ub,pb))=decide (pa=pb):=by rw[decide_eq_decide,Prod.mk.injEq,c];simp
  rw[e];refine Am func99 ntmps99 ?_;intro w e X hC;refine uZ ?_;refine Av @d ?_;refine xy2 hs ?_;refine Ay ?_;rw[show f99.results.toList=[.tmp 4] from rfl];exact Bm
 have d:decide (ua=ub)=false:=dF c;have e:decide ((ua,pa)=(ub,pb))=false:=dF fun h=>c (Prod.mk.inj h).1;rw[e];refine Am func99 ntmps99 ?_;intro w e X hC;refine uZ ?_;refine Bg @d ?_;refine Ay ?_;rw[show f99.results.toList=[.tmp 4] from rfl];exact Bm
theorem Qjq (a b:List AY) (ha:a.length<=1000) (hb:b.length<=1000) (DZ:∀h∈a,Bh y h.2 L) (Qjt:∀h∈b,Bh y h.2 L):
  Ag prog Ad 98 [] [.sl (BY (a.map Ba)) false, .sl (BY (b.map Ba)) false, .fn 99 []] [] (B (decide (a=b))):=by
 have CP:¬a=b->B (decide (a=b))=B false:=fun h=>by rw[dF h]
 by_cases c1:a.length=b.length
 .have d1:decide (¬(a.length:Int)=b.length)=false:=dF oM;refine Am func98 ntmps98 ?_;intro w e X hC;refine Bg @d1 ?_;refine uF ?_;refine xy4 ?_;refine Aw (fun i:Nat×Nat=>⟨[(1, .sl (BY (b.map Ba)) false),(2, .fn 99 []),(15, .sl (BY (a.map Ba)) false),(16,I a.length),(17,I i.2)],[],i.1⟩) (fun i=>i.2<=a.length/\∀j,j<i.2->a.getD j hZ=b.getD j hZ) (fun i=>a.length - i.2) (_,0) ⟨zL _,fun j hj=>absurd hj (nZ _)⟩ (Af) ?_;rintro⟨ck,i⟩ ⟨hi,hj⟩;simp only at hi hj;refine xy1 (fun h=>?_) (fun h=>?_)
  .have Aa:i<a.length:=oM;have Gv:i<b.length:=oM;have g1:=YH Aa;have g2:=YH Gv;have G0:=Qke (DZ _ (GQ Aa hZ)) (Qjt _ (GQ Gv hZ));unfold hZ at hj G0;by_cases c3:a.getD i (0,⟨[],[]⟩)=b.getD i (0,⟨[],[]⟩)
   .rw[dT c3] at G0;generalize Ba (a.getD i (0,⟨[],[]⟩))=xa at*;generalize Ba (b.getD i (0,⟨[],[]⟩))=xb at*;obtain⟨u1,u2,u3⟩:=xa;obtain⟨v1,v2,v3⟩:=xb;refine Bg (uI @g1 @g2) ?_;refine xx9 G0 ?_;refine xy9 ?_;refine⟨(_,i+1),⟨uO,fun j Ah=>?_⟩,uO,Af⟩;by_cases AF:j=i
    .subst AF;exact c3
    exact hj j vv6
   rw[dF c3] at G0;have Bj:¬a=b:=fun h=>c3 xv5;generalize Ba (a.getD i (0,⟨[],[]⟩))=xa at*;generalize Ba (b.getD i (0,⟨[],[]⟩))=xb at*;obtain⟨u1,u2,u3⟩:=xa;obtain⟨v1,v2,v3⟩:=xb;rw[CP Bj];refine Bg (uI @g1 @g2) ?_;refine xx9 G0 ?_;exact xz7
  refine At ?_;have hs:a=b:=cM (d:=hZ) c1 fun j h=>hj j oM;rw[dT hs];exact xz5
 have d1:decide (¬(a.length:Int)=b.length)=true:=dT oM;rw[CP fun h=>c1 xv5];refine Am func98 ntmps98 ?_;intro w e X hC;refine Bg @d1 ?_;exact xz7
theorem QiW (b1 b2:Int) (h1 h2:List AY) (BH:h1.length<=1000) (FL:h2.length<=1000) (eP:∀h∈h1,Bh y h.2 L) (GT:∀h∈h2,Bh y h.2 L):
  Ag prog Ad 44 [] [(D5.mk b1 (h1.map Ba)).av,(D5.mk b2 (h2.map Ba)).av] [] (B (decide (b1=b2/\h1=h2))):=by
 have he:=Qjq h1 h2 BH FL eP GT;by_cases c:b1=b2
 .have d:decide (b1=b2)=true:=dT c;have e:decide (b1=b2/\h1=h2)=decide (h1=h2):=by rw[decide_eq_decide];exact⟨fun h=>h.2,fun h=>⟨c,h⟩⟩
  rw[e];refine Am func44 ntmps44 ?_;intro w e X hC;refine uZ ?_;refine Av @d ?_;refine xy2 he ?_;refine Ay ?_;rw[show f44.results.toList=[.tmp 4] from rfl];exact Bm
 have d:decide (b1=b2)=false:=dF c;rw[dF fun h=>c h.1];refine Am func44 ntmps44 ?_;intro w e X hC;refine uZ ?_;refine Bg @d ?_;refine Ay ?_;rw[show f44.results.toList=[.tmp 4] from rfl];exact Bm
end
open Go.Plant Go.Inf
section
variable {y:Ly} {L L2:List Int}
theorem Qkc (b1 b2:Int) (h1 h2:List AY) (BH:h1.length<=1000) (FL:h2.length<=1000) (eP:∀h∈h1,Bh y h.2 L) (GT:∀h∈h2,Bh y h.2 L2):
  Ag prog Ad 26 [] [(D5.mk b1 (h1.map Ba)).av,(D5.mk b2 (h2.map Ba)).av] [] (B (decide (b1=b2/\h1=h2))):=by
 by_cases c:b1=b2
 .by_cases c1:h1.length=h2.length
  .have d0:decide (¬b1=b2)=false:=by simpa using c
   have d1:decide (¬(h1.length:Int)=h2.length)=false:=dF oM;refine Am func26 ntmps26 ?_;intro w e X hC;refine Bg (uI @d0 @d1) ?_;refine uF ?_;refine xy4 ?_;refine Aw (fun q:Nat×Nat=>⟨[(2, .p 102 1 0 0 0),(3, .p 103 2 0 0 0),(5,I q.2)],(103,some (2, .box [I b2, .sl (BY (h2.map Ba)) false]))::(102,some (1, .box [I b1, .sl (BY (h1.map Ba)) false]))::[],q.1⟩) (fun q=>q.2<=h1.length/\∀j,j<q.2->h1.getD j hZ=h2.getD j hZ) (fun q=>h1.length - q.2) (_,0) ⟨zL _,fun j hj=>absurd hj (nZ _)⟩ (Af) ?_;rintro⟨ck,i⟩ ⟨hi,hj⟩;simp only at hi hj;refine xy1 (fun h=>?_) (fun h=>?_)
   .have Aa:i<h1.length:=oM;have Gv:i<h2.length:=oM;have g1:=YH Aa;have g2:=YH Gv;have G0:=(eP _ (GQ Aa hZ)).rsameG (GT _ (GQ Gv hZ));have CP:h1.getD i hZ≠h2.getD i hZ->decide (b1=b2/\h1=h2)=false:=fun h=>dF fun e=>h (by rw[e.2]);have vj:h1.getD i hZ=h2.getD i hZ->∀j,j<i+1->h1.getD j hZ=h2.getD j hZ:=fun e j Ah=>by
     by_cases AF:j=i
     .subst AF;exact e
     exact hj j oM
    unfold hZ at CP vj G0;generalize h1.getD i (0,⟨[],[]⟩)=xa at*;generalize h2.getD i (0,⟨[],[]⟩)=xb at*;obtain⟨ua,pa⟩:=xa;obtain⟨ub,pb⟩:=xb;simp only[Ba] at g1 g2 G0;by_cases c2:ua=ub
    .have d2:decide (¬ua=ub)=false:=by simpa using c2
     by_cases c3:pa=pb
     .rw[dT c3] at G0;refine Cv (uI @g1 (uI @g2 @d2)) ?_;refine xy2 G0 ?_;refine xy9 ?_;refine⟨(_,i+1),⟨uO,vj (by rw[c2,c3])⟩,uO,Af⟩
     rw[dF c3] at G0;rw[CP fun e=>c3 (Prod.mk.inj e).2];refine Cv (uI @g1 (uI @g2 @d2)) ?_;refine xy2 G0 ?_;refine xq0 ?_;exact xw5
    have d2:decide (¬ua=ub)=true:=by simpa using c2
    rw[CP fun e=>c2 (Prod.mk.inj e).1];refine xq1 (uI @g1 (uI @g2 @d2)) ?_;refine xq0 ?_;exact xw5
   refine At ?_;have hs:h1=h2:=cM (d:=hZ) c1 fun j h=>hj j oM;rw[dT ⟨c,hs⟩];refine xz4 ?_;exact xw5
  have d0:decide (¬b1=b2)=false:=by simpa using c
  have d1:decide (¬(h1.length:Int)=h2.length)=true:=dT oM;rw[dF fun h=>c1 (by rw[h.2])];refine Am func26 ntmps26 ?_;intro w e X hC;refine Bg (uI @d0 @d1) ?_;refine xq0 ?_;exact xw5
 have d0:decide (¬b1=b2)=true:=by simpa using c
 rw[dF fun h=>c h.1];refine Am func26 ntmps26 ?_;intro w e X hC;refine Bg @d0 ?_;refine xq0 ?_;exact xw5
theorem Qka (bud:Int) (hs:List AY) (p:Pl) (hl:hs.length<=1000) (DZ:∀h∈hs,Bh y h.2 L) (hp:Bh y p L2):Ag prog Ad 43 [] [(D5.mk bud (hs.map Ba)).av,p.av] [] (.tup [I (Iw (hs.map Ba) p).1,B (Iw (hs.map Ba) p).2]):=by
 refine Am func43 ntmps43 ?_;intro w e X hC;refine xy4 ?_;refine Aw (fun q:Nat×Nat=>⟨[(2, .p 102 1 0 0 0),(3, .p 103 2 0 0 0),(6,I q.2)],(103,some (2, .box [RS p.Q,RS p.R]))::(102,some (1, .box [I bud, .sl (BY (hs.map Ba)) false]))::[],q.1⟩) (fun q=>q.2<=hs.length/\Iw (hs.map Ba) p=Iw ((hs.map Ba).drop q.2) p) (fun q=>hs.length - q.2) (_,0) ⟨zL _,rfl⟩ (Af) ?_;rintro⟨ck,i⟩ ⟨hi,he⟩;simp only at hi he;refine xy1 (fun h=>?_) (fun h=>?_)
 .have Aa:i<hs.length:=oM;have g1:=YH Aa;have G0:=(DZ _ (GQ Aa hZ)).rsameG hp;have Nv:=tH (l:=hs.map Ba) (p:=p) (i:=i) (by simpa using Aa);have R6:(hs.map Ba).getD i default=Ba (hs.getD i (0,⟨[],[]⟩)):=by simp[gE,Aa]
  rw[R6] at Nv;unfold hZ at G0;generalize hs.getD i (0,⟨[],[]⟩)=x at*;obtain⟨u,q⟩:=x;have Sr:Pp (Ba (u,q)).pl p=decide (q=p):=by rw[ZQ];unfold Pp;exact QhM q p
  rw[Sr] at Nv;simp only[Ba] at g1 G0 Nv;rw[<-he] at Nv;by_cases c:q=p
  .rw[dT c] at G0 Nv;rw[iP rfl] at Nv;rw[Nv];refine Cv @g1 ?_;refine xy2 G0 ?_;refine uT ?_;refine Bg @g1 ?_;refine Ay ?_;rw[show f43.results.toList=[.tmp 4, .tmp 5] from rfl];exact Bm
  rw[dF c] at G0 Nv;rw[iN sM] at Nv;refine Cv @g1 ?_;refine xy2 G0 ?_;refine xy9 ?_;refine⟨(_,i+1),⟨uO,Nv⟩,uO,Af⟩
 refine At ?_;rw[he,List.drop_of_length_le vq0,Iw];refine xz4 ?_;rw[show f43.results.toList=[.tmp 4, .tmp 5] from rfl];exact Bm
end
open Go.Plant
section
variable {A n:Nat} {y:Ly} {p:Pl} {m:Nat}
theorem Qii {L:List Int} (h:Bh y p L) (b:Int):Ag prog Ad 95 [] [p.av,I b] [] (Z1 (GG p b)):=by have hx:=h.fp.xl;have hs:=h.fp.sl;have hb:=h.fp.bl;exact QgY p b oM oM (fun i hi=>by have:=h.fp.row i oM;have:=h.fp.ln i oM;omega) (fun i hi=>by have:=h.fp.bin i oM;omega)
end
open Go.Plant Go.Inf Go.Sort
def Xe (x z:T2):Bool:=decide (x.a<z.a)||(decide (x.a=z.a)&&decide (x.b<z.b))
def dD (o:List T2) (z:T2):List T2:=if((o.dropWhile fun x=>Xe x z).head?.any fun x=>Kp x z)=true then o else(o.takeWhile fun x=>Xe x z)++[z]++(o.dropWhile fun x=>Xe x z)
def eQ (bag:Int) (o:List T2) (h:AY):List T2:=if(GG h.2 bag).2.2=true then dD o ⟨(GG h.2 bag).1,(GG h.2 bag).2.1⟩ else o
def RM (bag:Int) (hs:List AY):List T2:=hs.foldl (eQ bag) []
theorem Qjb {α:Type} {p:α->Bool} {d:α}:∀{l:List α} {k:Nat},k<=l.length->(∀j,j<k->p (l.getD j d)=true)->(k=l.length\/p (l.getD k d)=false)->l.takeWhile p=l.take k/\l.dropWhile p=l.drop k
 |[],k,h,_,_=>by have:k=0:=vy0;subst this;exact⟨rfl,rfl⟩|a::l,0,_,_,h2=>by have h2:p a=false:=h2.elim (fun h=>vz3) (fun h=>vy0);rw[List.takeWhile_cons,List.dropWhile_cons,h2];exact⟨rfl,rfl⟩|a::l,k+1,h,h1,h2=>by
  have ha:p a=true:=by simpa using h1 0 oM
  obtain⟨e1,e2⟩:=Qjb (p:=p) (d:=d) (l:=l) (k:=k) vy0 (fun j hj=>by simpa using h1 (j+1) oM) vz7;rw[List.takeWhile_cons,List.dropWhile_cons,ha];exact⟨by rw[iP rfl,e1];rfl,by rw[iP rfl,e2];rfl⟩
section
variable {y:Ly} {L:List Int}
theorem Qi7 (bud:Int) (hs:List AY) (bag:Int) (C3:hs.length<=400) (DZ:∀h∈hs,Bh y h.2 L):
  Ag prog Ad 40 [] [(D5.mk bud (hs.map Ba)).av,I bag] [] (.sl (Gf (RM bag hs)) false):=by
 refine Am func40 ntmps40 ?_;intro w e X hC;refine xy4 ?_;refine Aw (fun i:Nat×Nat×List T2=>⟨[(1,I bag),(2, .p 102 1 0 0 0),(5, .sl (Gf i.2.2) false),(6,I i.2.1)],(102,some (1, .box [I bud, .sl (BY (hs.map Ba)) false]))::[],i.1⟩)
  (fun i=>i.2.1<=hs.length/\RM bag hs=(hs.drop i.2.1).foldl (eQ bag) i.2.2/\i.2.2.length<=i.2.1) (fun i=>hs.length - i.2.1) (_,0,[]) ⟨zL _,rfl,zL _⟩ (Af) ?_
 rintro⟨ck,i,o⟩ ⟨hi,AL,AR⟩;simp only at hi AL AR;refine xy1 (fun c=>?_) (fun c=>?_)
 .have Aa:i<hs.length:=oM;have hg:=YH Aa;have Oy:hs.drop i=hs.getD i (0,⟨[],[]⟩)::hs.drop (i+1):=by rw[List.drop_eq_getElem_cons Aa,gE,gG Aa];rfl
  rw[Oy,List.foldl_cons] at AL;have w1:=Qii (DZ _ (GQ Aa (0,⟨[],[]⟩))) bag;have tk:eQ bag o (hs.getD i (0,⟨[],[]⟩))=if(GG (hs.getD i (0,⟨[],[]⟩)).2 bag).2.2=true then dD o ⟨(GG (hs.getD i (0,⟨[],[]⟩)).2 bag).1,(GG (hs.getD i (0,⟨[],[]⟩)).2 bag).2.1⟩ else o:=rfl
  rw[tk] at AL;clear tk;generalize hs.getD i (0,⟨[],[]⟩)=h at*;obtain⟨hu,EK⟩:=h;simp only[Ba] at hg AL w1;generalize GG EK bag=q at*;obtain⟨qa,qb,qo⟩:=q;simp only[Z1] at w1 AL;refine Av @hg ?_;refine xy6 w1 ?_;refine uZ ?_;refine A5 ?_;refine CE (fun q:Nat×Nat×Nat=>⟨[(1,I bag),(2, .p 102 1 0 0 0),(5, .sl (Gf o) false),(6,I i),(7, .p 107 q.2.2 0 0 0),(8,B qo),(9,I q.2.1)],(107,some (q.2.2, .box [I qa,I qb]))::(102,some (1, .box [I bud, .sl (BY (hs.map Ba)) false]))::[],q.1⟩) (fun q=>q.2.1<=o.length/\(o.takeWhile fun x=>Xe x ⟨qa,qb⟩)=o.take q.2.1/\(o.dropWhile fun x=>Xe x ⟨qa,qb⟩)=o.drop q.2.1) ?_ ?_
  .refine uW ?_;refine Aw (fun q:Nat×Nat×Nat=>⟨[(1,I bag),(2, .p 102 1 0 0 0),(5, .sl (Gf o) false),(6,I i),(7, .p 107 q.2.2 0 0 0),(8,B qo),(9,I q.2.1)],(107,some (q.2.2, .box [I qa,I qb]))::(102,some (1, .box [I bud, .sl (BY (hs.map Ba)) false]))::[],q.1⟩) (fun q=>q.2.1<=o.length/\∀j,j<q.2.1->Xe (o.getD j default) ⟨qa,qb⟩=true) (fun q=>o.length - q.2.1) (_,0,_) ⟨zL _,fun j hj=>absurd hj (nZ _)⟩ (Af) ?_;rintro⟨cj,k,g⟩ ⟨hk,hj⟩;simp only at hk hj;have Qhc:(k=o.length\/Xe (o.getD k default) ⟨qa,qb⟩=false)->k<=o.length/\(o.takeWhile fun x=>Xe x ⟨qa,qb⟩)=o.take k/\(o.dropWhile fun x=>Xe x ⟨qa,qb⟩)=o.drop k:=fun h=>⟨hk,Qjb (p:=fun x=>Xe x ⟨qa,qb⟩) (d:=default) hk hj h⟩;have A2:Xe (o.getD k default) ⟨qa,qb⟩=true->∀j,j<k+1->Xe (o.getD j default) ⟨qa,qb⟩=true:=fun e j Ah=>by
    by_cases AF:j=k
    .subst AF;exact e
    exact hj j oM
   by_cases c1:k<o.length
   .have d1:=uDt ((k:Int)<o.length);have g1:=kq c1;generalize o.getD k default=z at*;obtain⟨za,zb⟩:=z;unfold Xe at Qhc A2;simp only at Qhc A2;by_cases c2:za<qa
    .have d2:decide (za<qa)=true:=dT c2;rw[d2,Bool.true_or] at A2;have A2:=A2 rfl;refine xq1 (uI @d1 (uI @g1 @d2)) ?_;refine xy3 ?_;refine⟨(_,k+1,g),⟨uO,A2⟩,uO,Af⟩
    have d2:decide (za<qa)=false:=dF c2;by_cases c3:za=qa/\zb<qb
    .have d3:decide (za=qa)=true:=dT c3.1;have d4:decide (zb<qb)=true:=dT c3.2;rw[d3,d4,Bool.and_true,Bool.or_true] at A2;have A2:=A2 rfl;refine xq1 (uI @d1 (uI @g1 (uI @d2 (uI @d3 @d4)))) ?_;refine xy3 ?_;refine⟨(_,k+1,g),⟨uO,A2⟩,uO,Af⟩
    have d5:(decide (za=qa)&&decide (zb<qb))=false:=by
     rw[Bool.and_eq_false_iff];by_cases c4:za=qa
     .exact .inr (dF fun h=>c3 ⟨c4,h⟩)
     exact .inl (dF c4)
    rw[d2,d5,Bool.or_false] at Qhc;have ho:=Qhc (.inr rfl);by_cases c4:za=qa
    .have d3:decide (za=qa)=true:=dT c4;have d4:decide (zb<qb)=false:=dF fun h=>c3 ⟨c4,h⟩;refine xq1 (uI @d1 (uI @g1 (uI @d2 (uI @d3 @d4)))) ?_;refine xk0 ?_;refine uW ?_;refine⟨(_,k,g),ho,Af⟩
    have d3:decide (za=qa)=false:=dF c4;refine xq1 (uI @d1 (uI @g1 (uI @d2 @d3))) ?_;refine xk0 ?_;refine uW ?_;refine⟨(_,k,g),ho,Af⟩
   have d1:=uDf ((k:Int)<o.length);have ho:=Qhc (.inl oM);refine xq1 @d1 ?_;refine xk0 ?_;refine uW ?_;refine⟨(_,k,g),ho,Af⟩
  rintro⟨cj,k,g⟩ ⟨hk,e1,e2⟩;simp only at hk e1 e2;have k0:List.drop k (Gf o)=Gf (o.drop k):=by simp[Gf]
  have k1:List.take k (Gf o)=Gf (o.take k):=by simp[Gf]
  have QgQ:dD o ⟨qa,qb⟩=if((o.drop k).head?.any fun x=>Kp x ⟨qa,qb⟩)=true then o else o.take k++[⟨qa,qb⟩]++o.drop k:=by rw[dD,e1,e2]
  have Dd:(o.take k).length=k:=vv9;have I4:(o.drop k).length=o.length - k:=List.length_drop;have Dc:(o.take k++[(⟨qa,qb⟩:T2)]++o.drop k).length=o.length+1:=by simp only[aL,List.length_singleton,Dd,I4];omega
  refine A5 ?_;refine CE (fun q:Nat=>⟨[(1,I bag),(2, .p 102 1 0 0 0),(5, .sl (Gf o) false),(6,I i),(7, .p 107 g 0 0 0),(9,I k)],(107,some (g, .box [I qa,I qb]))::(102,some (1, .box [I bud, .sl (BY (hs.map Ba)) false]))::[],q⟩) (fun _=>qo=true/\((o.drop k).head?.any fun x=>Kp x ⟨qa,qb⟩)=false) ?_ ?_
  .cases qo with
   |false=>rw[iN dM] at AL;refine uE ?_;refine xx8 ?_;refine xk2 ?_;refine⟨(_,i+1,o),⟨uO,AL,uO⟩,uO,Af⟩|true=>
    rw[iP rfl] at AL;by_cases c1:k<o.length
    .have d1:=uDt ((k:Int)<o.length);have g1:=kq c1;have hhd:((o.drop k).head?.any fun x=>Kp x ⟨qa,qb⟩)=Kp (o.getD k default) ⟨qa,qb⟩:=by rw[List.drop_eq_getElem_cons c1,gE,gG c1];rfl
     rw[hhd] at QgQ ⊢;generalize o.getD k default=z at*;obtain⟨za,zb⟩:=z;cases FH:Kp ⟨za,zb⟩ ⟨qa,qb⟩ with
     |true=>rw[FH,iP rfl] at QgQ;rw[QgQ] at AL;simp only[Kp] at FH;refine xq1 (uI @d1 (uI @g1 @FH)) ?_;refine xk2 ?_;refine⟨(_,i+1,o),⟨uO,AL,uO⟩,uO,Af⟩|false=>simp only[Kp] at FH;refine xq1 (uI @d1 (uI @g1 @FH)) ?_;refine xq9 ?_;exact⟨_,⟨rfl,rfl⟩,Af⟩
    have d1:=uDf ((k:Int)<o.length);have FH:((o.drop k).head?.any fun x=>Kp x ⟨qa,qb⟩)=false:=by rw[List.drop_of_length_le oM];rfl
    refine xq1 @d1 ?_;refine xq9 ?_;exact⟨_,⟨rfl,FH⟩,Af⟩
  rintro ck2 ⟨hqo,FH⟩;rw[FH,iN dM] at QgQ;rw[hqo,iP rfl,QgQ] at AL;by_cases kz:k=0
  .subst kz;refine xz2 (uI @k0 (uI @k1 (uI @Dd @I4))) ?_;refine xq2 (uI @k0 (uI @k1 (uI @Dd (uI @I4 @Dc)))) ?_;obtain⟨N,hN⟩:∃N:List T2,N=[⟨qa,qb⟩]++o:=⟨_,rfl⟩;have hNl:1+o.length=N.length:=by rw[hN,aL];rfl
   rw[show(AV.agg [.lit (.int .i64 qa), .lit (.int .i64 qb)]::Gf o)=Gf N by rw[hN];rfl,hNl];rw[show List.take 0 o++[⟨qa,qb⟩]++List.drop 0 o=N by rw[hN];rfl] at AL;refine uZ ?_;refine⟨(_,i+1,N),⟨uO,AL,uO⟩,uO,Af⟩
  have fE:(k=0)=False:=eq_false kz;have Mt:(∀y∈Gf (o.take k),∀c∈y.cells,c.noKid=true)=True:=by refine eq_true fun y hy c hc=>?_;obtain⟨z,_,rfl⟩:=List.mem_map.1 hy;simp only[AV.cells,List.mem_cons,List.not_mem_nil,or_false] at hc;rcases hc with rfl|rfl<;>rfl
  refine xz2 (uI @k0 (uI @k1 (uI @Dd (uI @I4 (uI @fE @Mt))))) ?_;refine xq2 (uI @k0 (uI @k1 (uI @Dd (uI @I4 (uI @Dc (uI @fE @Mt)))))) ?_;obtain⟨N,hN⟩:∃N:List T2,N=o.take k++[⟨qa,qb⟩]++o.drop k:=⟨_,rfl⟩;rw[<-hN] at AL Dc;have hNl:k+1+(o.length - k)=N.length:=oM;rw[show Gf (List.take k o++[⟨qa,qb⟩])++Gf (List.drop k o)=Gf N by rw[hN];simp[Gf],hNl];refine uZ ?_;refine⟨(_,i+1,N),⟨uO,AL,uO⟩,uO,Af⟩
 refine At ?_;have Bx:i=hs.length:=oM;rw[Bx,List.drop_length,List.foldl_nil] at AL;rw[AL];refine xz4 ?_;rw[show f40.results.toList=[.tmp 4] from rfl];exact Bm
end
open Go.Plant Go.Inf
def ZP (bag:Int) (hs:List AY):T2×Bool:=if(hs.all fun h=>(GG h.2 bag).2.2)=true/\(RM bag hs).length=1 then((RM bag hs).getD 0 default,true) else(⟨0,0⟩,false)
section
variable {y:Ly} {L:List Int}
theorem Qkd (bud:Int) (hs:List AY) (bag:Int) (C3:hs.length<=400) (DZ:∀h∈hs,Bh y h.2 L):
  Ag prog Ad 42 [] [(D5.mk bud (hs.map Ba)).av,I bag] [] (.tup [(ZP bag hs).1.av,B (ZP bag hs).2]):=by
 have EK:=Qi7 bud hs bag C3 DZ;refine Am func42 ntmps42 ?_;intro w e X hC;refine xy4 ?_;refine Aw (fun i:Nat×Nat=>⟨[(1,I bag),(2, .p 102 1 0 0 0),(4, .p 104 2 0 0 0),(6,I i.2)],(104,some (2, .box [I 0,I 0]))::(102,some (1, .box [I bud, .sl (BY (hs.map Ba)) false]))::[],i.1⟩)
  (fun i=>i.2<=hs.length/\(hs.all fun h=>(GG h.2 bag).2.2)=(hs.drop i.2).all fun h=>(GG h.2 bag).2.2) (fun i=>hs.length - i.2) (_,0) ⟨zL _,rfl⟩ (Af) ?_
 rintro⟨ck,i⟩ ⟨hi,AL⟩;simp only at hi AL;refine xy1 (fun c=>?_) (fun c=>?_)
 .have Aa:i<hs.length:=oM;have hg:=YH Aa;have Oy:hs.drop i=hs.getD i (0,⟨[],[]⟩)::hs.drop (i+1):=by rw[List.drop_eq_getElem_cons Aa,gE,gG Aa];rfl
  rw[Oy,List.all_cons] at AL;have w1:=Qii (DZ _ (GQ Aa (0,⟨[],[]⟩))) bag;generalize hs.getD i (0,⟨[],[]⟩)=h at*;obtain⟨hu,hp⟩:=h;simp only[Ba] at hg AL w1;generalize GG hp bag=q at*;obtain⟨qa,qb,qo⟩:=q;simp only[Z1] at w1 AL;cases qo with
  |false=>
   rw[Bool.false_and] at AL;have e:ZP bag hs=(⟨0,0⟩,false):=by rw[ZP,iN fun h=>by rw[AL] at h;cases h.1]
   rw[e];refine Av @hg ?_;refine xy6 w1 ?_;refine uZ ?_;refine xq0 ?_;rw[show f42.results.toList=[.cell 4 77, .tmp 5] from rfl];exact Bm
  |true=>rw[Bool.true_and] at AL;refine Av @hg ?_;refine xy6 w1 ?_;refine uZ ?_;refine xy9 ?_;refine⟨(_,i+1),⟨uO,AL⟩,uO,Af⟩
 refine At ?_;have Bx:i=hs.length:=oM;rw[Bx,List.drop_length,List.all_nil] at AL;by_cases c1:(RM bag hs).length=1
 .have e:ZP bag hs=((RM bag hs).getD 0 default,true):=by rw[ZP,iP ⟨AL,c1⟩]
  rw[e];have d1:decide (¬((RM bag hs).length:Int)=1)=false:=by simpa using(by omega:((RM bag hs).length:Int)=1)
  have g1:=kq (show 0<(RM bag hs).length by omega);have h01:((0:Int)<((RM bag hs).length:Int))=True:=eq_true oM;generalize (RM bag hs).getD 0 default=z at*;generalize RM bag hs=R at*;obtain⟨za,zb⟩:=z;refine xw7 EK ?_;refine Bg @d1 ?_;refine xq8 (uI @g1 @Int.toNat_zero) ?_;refine Ay ?_;rw[show f42.results.toList=[.cell 4 77, .tmp 5] from rfl];exact Bm
 have e:ZP bag hs=(⟨0,0⟩,false):=by rw[ZP,iN fun h=>c1 h.2]
 rw[e];have d1:decide (¬((RM bag hs).length:Int)=1)=true:=by simpa using(by omega:¬((RM bag hs).length:Int)=1)
 generalize RM bag hs=R at*;refine xw7 EK ?_;refine Bg @d1 ?_;refine xq0 ?_;rw[show f42.results.toList=[.cell 4 77, .tmp 5] from rfl];exact Bm
theorem Qkj (h:AY) (bag:Int) (hk:Jw h.2):Ag prog Ad 97 [] [(Ba h).av, .P [I bag]] [] (B (!(Hm h.2 bag).2.2)):=by obtain⟨hu,hp⟩:=h;have w1:=jp hp bag hk.sl hk.bl (fun i hi=>hk.sr _ (GQ hi [])) (fun i hi=>hk.br _ (GQ hi []));simp only[Ba];generalize Hm hp bag=q at*;obtain⟨qa,qb,qo⟩:=q;simp only[Z1] at w1 ⊢;refine Am func97 ntmps97 ?_;intro w e X hC;refine xz8 ?_;refine xy6 w1 ?_;refine xz4 ?_;rw[show f97.results.toList=[.tmp 3] from rfl];exact Bm
theorem Qj0 (bud:Int) (hs:List AY) (bag:Int) (C3:hs.length<=400) (XS:∀h∈hs,Jw h.2) (hW:∀h∈hs,Hm h.2 bag=GG h.2 bag)
  (EK:Ag prog Ad 39 [] [(D5.mk bud (hs.map Ba)).av,I bag] [] (.sl (Gf (RM bag hs)) false)):
  Ag prog Ad 41 [] [(D5.mk bud (hs.map Ba)).av,I bag] [] (.tup [(ZP bag hs).1.av,B (ZP bag hs).2]):=by
 have Ns:=pN (hs.map Ba) 97 [I bag] (fun x=>!(GG x.pl bag).2.2) vq0 (fun x hx=>by
  obtain⟨z,hz,rfl⟩:=List.mem_map.1 hx;have:=Qkj z bag (XS z hz);rw[hW z hz] at this;rw[ZQ];exact this)
 have Qf:((hs.map Ba).any fun x=>!(GG x.pl bag).2.2)=!(hs.all fun h=>(GG h.2 bag).2.2):=by rw[List.any_map,List.not_all_eq_any_not];rfl
 rw[Qf] at Ns;by_cases c1:(RM bag hs).length=1
 .have d1:decide (¬((RM bag hs).length:Int)=1)=false:=by simpa using(by omega:((RM bag hs).length:Int)=1)
  have g1:=kq (show 0<(RM bag hs).length by omega);cases ca:hs.all fun h=>(GG h.2 bag).2.2 with
  |false=>
   have e:ZP bag hs=(⟨0,0⟩,false):=by rw[ZP,iN fun h=>by rw[ca] at h;cases h.1]
   rw[e];rw[ca] at Ns;generalize RM bag hs=R at*;refine Am func41 ntmps41 ?_;intro w e X hC;refine xz8 ?_;refine xy6 EK ?_;refine Av @d1 ?_;refine xy2 Ns ?_;refine xq0 ?_;rw[show f41.results.toList=[.cell 4 77, .tmp 5] from rfl];exact Bm
  |true=>
   have e:ZP bag hs=((RM bag hs).getD 0 default,true):=by rw[ZP,iP ⟨ca,c1⟩]
   rw[e];rw[ca] at Ns;generalize (RM bag hs).getD 0 default=z at*;generalize RM bag hs=R at*;obtain⟨za,zb⟩:=z;refine Am func41 ntmps41 ?_;intro w e X hC;refine xz8 ?_;refine xy6 EK ?_;refine Av @d1 ?_;refine xy2 Ns ?_;refine xq8 (uI @g1 @Int.toNat_zero) ?_;refine Ay ?_;rw[show f41.results.toList=[.cell 4 77, .tmp 5] from rfl];exact Bm
 have e:ZP bag hs=(⟨0,0⟩,false):=by rw[ZP,iN fun h=>c1 h.2]
 rw[e];have d1:decide (¬((RM bag hs).length:Int)=1)=true:=by simpa using(by omega:¬((RM bag hs).length:Int)=1)
 generalize RM bag hs=R at*;refine Am func41 ntmps41 ?_;intro w e X hC;refine xz8 ?_;refine xy6 EK ?_;refine Bg @d1 ?_;refine xq0 ?_;rw[show f41.results.toList=[.cell 4 77, .tmp 5] from rfl];exact Bm
end
open Go.Plant Go.Inf Go.Sort
section
variable {z:T2}
theorem QiU (a:T2) (o:List T2):dD (a::o) z=if Xe a z=true then a::dD o z else if Kp a z=true then a::o else z::a::o:=by
 unfold dD;rw[List.takeWhile_cons,List.dropWhile_cons];by_cases h:Xe a z=true
 .rw[iP h,iP h,iP h];split<;>simp
 rw[iN h,iN h,iN h];rfl
theorem Qhy {a b:T2}:Kp a b=true↔a=b:=by obtain⟨a1,a2⟩:=a;obtain⟨b1,b2⟩:=b;unfold Kp;simp
theorem QiX (a b:T2):Xe a b=true↔M6 a b<0:=by
 rw[pA];unfold Xe;rw[Bool.or_eq_true,Bool.and_eq_true,decide_eq_true_eq,decide_eq_true_eq,decide_eq_true_eq];split
 .omega
 split<;>omega
theorem Qj1 {a b c:T2} (h1:Xe a b=true) (h2:Xe b c=true):Xe a c=true:=by unfold Xe at*;rw[Bool.or_eq_true,Bool.and_eq_true,decide_eq_true_eq,decide_eq_true_eq,decide_eq_true_eq] at*;omega
theorem Qj2 {a b:T2} (h1:¬Xe a b=true) (h2:¬Kp a b=true):Xe b a=true:=by rw[Qhy] at h2;obtain⟨a1,a2⟩:=a;obtain⟨b1,b2⟩:=b;unfold Xe at*;rw[Bool.or_eq_true,Bool.and_eq_true,decide_eq_true_eq,decide_eq_true_eq,decide_eq_true_eq] at*;simp only[T2.mk.injEq] at*;omega
theorem QhK {x:T2}:∀{o:List T2},x∈dD o z↔x=z\/x∈o
 |[]=>by simp[dD]|a::o=>by
  rw[QiU];split
  .rw[List.mem_cons,QhK,List.mem_cons];exact⟨fun h=>h.elim (fun h=> .inr (.inl h)) (fun h=>h.elim .inl fun h=> .inr (.inr h)),fun h=>h.elim (fun h=> .inr (.inl h)) (fun h=>h.elim .inl fun h=> .inr (.inr h))⟩
  split
  .rename_i h;rw[Qhy] at h;rw[h];exact⟨.inr,fun h=>h.elim (fun h=>by rw[h];exact mS) id⟩
  exact List.mem_cons
theorem QiV:∀{o:List T2},(o.Pairwise fun a b=>Xe a b=true)->(dD o z).Pairwise fun a b=>Xe a b=true
 |[],_=>by simp[dD]|a::o,h=>by
  obtain⟨h1,h2⟩:=List.pairwise_cons.1 h;rw[QiU];split
  .rename_i hl;refine List.pairwise_cons.2 ⟨fun b hb=>?_,QiV h2⟩;rcases QhK.1 hb with rfl|hb
   .exact hl
   exact h1 b hb
  rename_i hl;split
  .exact h
  rename_i he;have hza:=Qj2 hl he;exact List.pairwise_cons.2 ⟨fun b hb=>(List.mem_cons.1 hb).elim (fun e=>by rw[e];exact hza) fun hb=>Qj1 hza (h1 b hb),h⟩
end
theorem QhB {α β:Type} {ok:α->Bool} {pl:α->β} {ins:List β->β->List β} (hi:∀o z x,x∈ins o z↔x=z\/x∈o) {x:β}:∀(hs:List α) (o:List β),x∈hs.foldl (fun o h=>if ok h=true then ins o (pl h) else o) o↔x∈o\/∃h∈hs,ok h=true/\x=pl h
 |[],o=>sM|h::t,o=>by
  rw[List.foldl_cons,QhB hi t];by_cases c:ok h=true
  .rw[iP c,hi];simp only[List.mem_cons,exists_eq_or_imp,c,true_and];exact⟨fun h=>h.elim (fun h=>h.elim (fun h=> .inr (.inl h)) .inl) fun h=> .inr (.inr h),fun h=>h.elim (fun h=> .inl (.inr h)) fun h=>h.elim (fun h=> .inl (.inl h)) .inr⟩
  rw[iN c];simp only[List.mem_cons,exists_eq_or_imp,c,Bool.false_eq_true,false_and,false_or]
theorem QhA {α β:Type} {P:List β->Prop} {f:List β->α->List β} (hf:∀o h,P o->P (f o h)):∀(hs:List α) (o:List β),P o->P (hs.foldl f o)
 |[],_,h=>h|a::t,o,h=>QhA hf t _ (hf o a h)
theorem Qi6 (bag:Int) (hs:List AY):(RM bag hs).Pairwise fun a b=>Xe a b=true:=QhA (P:=fun o=>o.Pairwise fun a b=>Xe a b=true) (f:=eQ bag) (fun o h ho=>by
 unfold eQ;split
 ·exact QiV ho
 exact ho) hs [] .nil
theorem Qj7 (bag:Int) (hs:List AY) (hW:∀h∈hs,Hm h.2 bag=GG h.2 bag):(RM bag hs).Perm (U6 bag hs):=by
 have Fo:∀x,x∈RM bag hs↔x∈([]:List T2)\/∃h∈hs,(GG h.2 bag).2.2=true/\x=⟨(GG h.2 bag).1,(GG h.2 bag).2.1⟩:=fun x=>QhB (ok:=fun h:AY=>(GG h.2 bag).2.2) (pl:=fun h:AY=>(⟨(GG h.2 bag).1,(GG h.2 bag).2.1⟩:T2)) (ins:=dD) (fun o z x=>QhK) hs [];have HE:∀x,x∈U6 bag hs↔x∈([]:List T2)\/∃h∈hs,(Hm h.2 bag).2.2=true/\x=⟨(Hm h.2 bag).1,(Hm h.2 bag).2.1⟩:=fun x=>QhB (ok:=fun h:AY=>(Hm h.2 bag).2.2) (pl:=fun h:AY=>(⟨(Hm h.2 bag).1,(Hm h.2 bag).2.1⟩:T2)) (ins:=fun o z=>if o.any (fun y=>Kp z y)=true then o else o++[z]) (fun o z x=>by
  by_cases c:o.any (fun y=>Kp z y)=true
  ·rw[iP c];obtain⟨w,hw,he⟩:=List.any_eq_true.1 c;rw[Qhy.1 he];exact⟨.inr,fun h=>h.elim (fun h=>by rw[h];exact hw) id⟩
  rw[iN c,List.mem_append,List.mem_singleton,or_comm]) hs []
 have n1:(RM bag hs).Nodup:=(Qi6 bag hs).imp fun {a b} h e=>by rw[e] at h;have:=QiX b b;rw[pA] at this;simp at this;rw[this] at h;cases h
 have n2:(U6 bag hs).Nodup:=QhA (P:=List.Nodup) (f:=Zf bag) (fun o h ho=>by
  unfold Zf;split
  ·split
   ·exact ho
   rename_i c;refine List.nodup_append.2 ⟨ho,sM,fun a ha b hb e=>c ?_⟩;rw[List.mem_singleton.1 hb] at e;exact List.any_eq_true.2 ⟨a,ha,Qhy.2 e.symm⟩
  exact ho) hs [] .nil
 refine(List.perm_ext_iff_of_nodup n1 n2).2 fun x=>?_;rw[Fo,HE];refine or_congr_right ⟨fun⟨h,hh,h2⟩=>⟨h,hh,by rw[hW h hh];exact h2⟩,fun⟨h,hh,h2⟩=>⟨h,hh,by rw[hW h hh] at h2;exact h2⟩⟩
end Go.Proofs.YtfcgkbinohibcaaGreatDoor
