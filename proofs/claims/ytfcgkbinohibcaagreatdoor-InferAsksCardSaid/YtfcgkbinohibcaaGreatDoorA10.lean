/- Lemmas towards inferAsks_card: no conditions of their own. -/
import Derived.Test.YtfcgkbinohibcaaGreatDoorA9
import Derived.Shelf.Slices.In.SortNone
import Derived.Shelf.Slices.CompactI
import Derived.Ground.Names2Prog
import Derived.Ground.SlgnProg
import Derived.Test.YtfcgkbinohibcaaGreatDoorProg
import Derived.ProofKit
import Derived.Deep.Matrix
import Derived.Deep.Strs
import Derived.LaidMore
import Derived.OpenShut
import Derived.Stop.Joined
set_option linter.all false
namespace Go.Proofs
open Go.Shelf
def Tryz.lays189_ren:Go.Shelf.Ren:=⟨fun|189=>88|125=>151|257=>150|128=>199|129=>200|294=>190|295=>191|296=>192|297=>193|298=>194|299=>195|216=>196|300=>197|301=>198|328=>241|329=>242|330=>243|331=>244|332=>245|215=>233|343=>266|n=>n,fun|28=>22|3=>3|46=>210|0=>0|51=>240|53=>242|4=>4|183=>234|182=>233|131=>43|5=>5|9=>9|218=>267|222=>271|228=>291|229=>292|n=>n,fun|n=>n⟩
theorem Tryz.lays189:Go.Proofs.Lays.n189 prog Tryz.lays189_ren:={
 mixed:=kR
 f125:=func151.trans (congrArg some kR)
 f128:=func199.trans (congrArg some kR)
 f129:=func200.trans (congrArg some kR)
 f189:=func88.trans (congrArg some kR)
 f215:=func233.trans (congrArg some kR)
 f216:=func196.trans (congrArg some kR)
 f257:=func150.trans (congrArg some kR)
 f294:=func190.trans (congrArg some kR)
 f295:=func191.trans (congrArg some kR)
 f296:=func192.trans (congrArg some kR)
 f297:=func193.trans (congrArg some kR)
 f298:=func194.trans (congrArg some kR)
 f299:=func195.trans (congrArg some kR)
 f300:=func197.trans (congrArg some kR)
 f301:=func198.trans (congrArg some kR)
 f328:=func241.trans (congrArg some kR)
 f329:=func242.trans (congrArg some kR)
 f330:=func243.trans (congrArg some kR)
 f331:=func244.trans (congrArg some kR)
 f332:=func245.trans (congrArg some kR)
 f343:=func266.trans (congrArg some kR)
 t0:=underlying0
 a0:=isAgg0
 z0:=sizeOf0
 v0:=zeroValue0
 t3:=underlying3
 a3:=isAgg3
 z3:=sizeOf3
 v3:=zeroValue3
 t4:=underlying4
 a4:=isAgg4
 z4:=sizeOf4
 v4:=zeroValue4
 t5:=underlying5
 a5:=isAgg5
 z5:=sizeOf5
 v5:=zeroValue5
 t9:=underlying9
 a9:=isAgg9
 z9:=sizeOf9
 v9:=zeroValue9
 t28:=underlying22
 a28:=isAgg22
 z28:=sizeOf22
 v28:=zeroValue22
 t46:=underlying210
 a46:=isAgg210
 z46:=sizeOf210
 v46:=zeroValue210
 t51:=underlying240
 a51:=isAgg240
 z51:=sizeOf240
 v51:=zeroValue240
 t53:=underlying242
 a53:=isAgg242
 z53:=sizeOf242
 v53:=zeroValue242
 t131:=underlying43
 a131:=isAgg43
 z131:=sizeOf43
 v131:=zeroValue43
 t182:=underlying233
 a182:=isAgg233
 z182:=sizeOf233
 v182:=zeroValue233
 t183:=underlying234
 a183:=isAgg234
 z183:=sizeOf234
 v183:=zeroValue234
 t218:=underlying267
 a218:=isAgg267
 z218:=sizeOf267
 v218:=zeroValue267
 t222:=underlying271
 a222:=isAgg271
 z222:=sizeOf271
 v222:=zeroValue271
 t228:=underlying291
 a228:=isAgg291
 z228:=sizeOf291
 v228:=zeroValue291
 t229:=underlying292
 a229:=isAgg292
 z229:=sizeOf292
 v229:=zeroValue292}
def Tryz.laysNm220_ren:Go.Shelf.Ren:=⟨fun|20=>89|n=>n,fun|22=>22|3=>3|4=>4|0=>0|n=>n,fun|n=>n⟩
theorem Tryz.laysNm220:Go.Proofs.Lays2.n20 prog Tryz.laysNm220_ren:={
 mixed:=kR
 f20:=func89.trans (congrArg some kR)
 t0:=underlying0
 a0:=isAgg0
 z0:=sizeOf0
 v0:=zeroValue0
 t3:=underlying3
 a3:=isAgg3
 z3:=sizeOf3
 v3:=zeroValue3
 t4:=underlying4
 a4:=isAgg4
 z4:=sizeOf4
 v4:=zeroValue4
 t22:=underlying22
 a22:=isAgg22
 z22:=sizeOf22
 v22:=zeroValue22
 i3:=by kernel_rfl}
end Go.Proofs
namespace Go.Sym
open Go Go.Great Go.Sort Go.Shelf Go.RowKit Go.Proofs
theorem Qjp {P:Program} {T:AE} {fS t:Nat} (hE:Enters P fS) (f:List Int->List Int) (hf:∀l,(f l).length<=l.length) (Uh:f []=[])
  (tX:∀(p:Option Addr) (cap:Nat) (w:World),Calls P fS #[.slice p 0 cap] w fun en w'=>en= .returned (.slice p 0 cap)/\w'=w)
  (hc:∀(b cap:Nat) (zs:List Int) (w:World),Holds (Value.int .i64) w b 0 zs.toArray->zs.length<=9223372036854775807->zs.length<=cap->
   Calls P fS #[.slice (some ⟨b,0,none⟩) zs.length cap] w fun en w'=>en= .returned (.slice (some ⟨b,0,none⟩) (f zs).length cap)/\∃q,w'=putRow (Value.int .i64) (Sort.ahead w q) b 0 (f zs++List.replicate (zs.length - (f zs).length) 0).toArray)
  (l:List Int) (hl:l.length<=1000000):
  Ag P T fS [(0,some (0, .own t 1 (As l)))] [.l 0 0 0 l.length] [] (.sl (As (f l)) false):=by
 refine⟨hE,fun w e vals hr hz hg hlen Iv=>?_⟩;obtain⟨ee,he,RX,I2,A8⟩:=hr.live 0 0 _ rfl;obtain⟨Bi,EY,_,Cy,Cq,hblk⟩:=A8;have DQ:(As l).length=l.length:=xv6;have Dc:ee.n=l.length:=by rw[EY,DQ]
 have Xg:=Iv 0 sM;simp only[List.getElem_cons_zero] at Xg;obtain⟨_,_,A2⟩:=Xg.slO_inv;obtain⟨_,C3⟩:=A2 ee he RX;have C3:=C3 (by rw[Dc];omega);have Be:vals.size=1:=xv3;have QiJ:∀v,vals.getD 0 undef=v->vals=#[v]:=fun v HJ=>by
  refine Array.ext (by simp[Be]) fun i h1 h2=>?_;have hi:i=0:=by simp at h2;omega
  subst hi;rw[gA,Array.getElem?_eq_getElem h1] at HJ;simpa using HJ
 have fw:∀id,Ed e 0 none id=none:=fun id=>by
  by_cases hi:id=0
  ·subst hi;exact Hq _ _ _
  rw[Ir _ _ hi];refine hr.dead id ?_;simp only[Hp.get];rw[iN (Ne.symm hi)]
 have CP:∀b',¬AQ (Ed e 0 none) b':=fun b' h=>by rcases h with ⟨id,Au,c,h1,_⟩|⟨B,c,_,id,Au,c',h1,_⟩<;>rw[fw id] at h1<;>cases h1
 have hUE:∀b',UE (Ed e 0 none) b'↔¬e.z b':=fun b'=>⟨fun h=>h.1,fun h=>⟨h,CP b'⟩⟩;have fin:∀(W:World) (v:Value),w.heap.size<=W.heap.size->(∀b',b'<w.heap.size->UE e b'->W.heap[b']?=w.heap[b']?)->(∀b',b'<w.heap.size->¬AQ e b'->W.heap[b']?=w.heap[b']?)->W.os=w.os->W.tape=w.tape->W.output=w.output->w.drawn<=W.drawn->
   VD W (UE (Ed e 0 none)) (.sl (As (f l)) false) v->
   ∃v' e',Ending.returned v= .returned v'/\AU W e' (Az 2) []/\VR W (UE e') e' (Az 2) (.sl (As (f l)) false) v'/\AB w e (Az 1) W e' (Az 2)/\e'.z=e.z/\(∀b',AQ e' b'->w.heap.size<=b'\/AQ e b')/\PD e w W:=fun W v h1 h2 h3 h4 h5 h6 h7 hv=>by
  refine⟨v,Ed e 0 none,rfl,⟨fun id _=>fw id,fun id g ob h=>vx0,fun id Br Au ee2 b c c' h=>vk5,fun id Au b c h=>vk5,fun id Au b c h=>vk5,fun b' B c h=>?_,fun b' h=>?_,hr.kk⟩, .dat _ _ hv,⟨h1,fun g h=>tL h dM,fun b' _ h=>(hUE b').2 h.1,h2,fun id Au h _=>vk5⟩,rfl,fun b' h=>absurd h (CP b'),⟨h4,h5,h6,h1,h3,h7⟩⟩
  ·obtain⟨q1,q2,q3⟩:=hr.kl b' B c h;exact⟨tL q1 h1,tL q2 h1,q3⟩
  obtain⟨id,Au,c,q1,_⟩:=h;rw[fw id] at q1;cases q1
 cases hb:ee.blk with
 |none=>
  rw[hb] at hblk;have DR:l=[]:=by simpa[As] using hblk
  subst DR;unfold Ex at C3;rw[hb] at C3;obtain⟨_,_,a,HJ⟩:=C3;rw[QiJ _ HJ];refine(tX a 0 w).mono ?_;rintro en W ⟨rfl,rfl⟩;refine fin W _ (lR _) (fun _ _ _=>rfl) (fun _ _ _=>rfl) rfl rfl rfl (lR _) ?_;rw[Uh];exact .nil _ _
 |some q=>
  obtain⟨b,bcap⟩:=q;rw[hb] at hblk;obtain⟨tP,hle,cs,WY,Dt,CI⟩:=hblk;rw[DQ] at hle;unfold Ex at C3;rw[hb] at C3;obtain⟨cap,HJ,Gs,F4⟩:=C3;simp only[Nat.zero_mul] at HJ;rw[QiJ _ HJ];have RQ:b<w.heap.size:=hr.lt 0 ee b bcap he hb;have Uv:AQ e b:= .inl ⟨0,ee,bcap,he,hb⟩;have QjG:cs.size=bcap:=xv1;have RT:∀i (hi:i<l.length),cs[i]?=some (.int .i64 l[i]):=fun i hi=>by
   have h1:=CI i (by rw[DQ];exact hi) 0 vw6;have h2:=(show dat (AV.lit (.int .i64 l[i])) from trivial).vc (by simpa[As,AV.cells] using h1);have h3:cs.getD i undef= .int .i64 l[i]:=by simpa using(VR.dat (w:=w) (U:=UE e) (e:=e) (G:=Az 1) _ _ h2).lit_inv.1
   rw[Array.getElem?_eq_getElem oM,<-h3];simp[gA,show i<cs.size by omega]
  have hH:Holds (Value.int .i64) w b 0 l.toArray:=fun j hj=>by have Ah:j<l.length:=vx2;rw[Nat.zero_add];refine⟨?_,WY.frozen oM⟩;rw[WY.cell j,RT j Ah,getElem!_pos l.toArray j hj];simp
  refine(hc b cap l w hH oM F4).mono ?_;rintro en W ⟨rfl,n,hW⟩;have Dv:=hf l;have JU:∀b',b'<w.heap.size->b'≠b->W.heap[b']?=w.heap[b']?:=fun b' h1 h2=>by rw[hW];show(w.heap.modify b _)[b']?=_;rw[Array.getElem?_modify,iN (Ne.symm h2)]
  have Mz:W.heap.size=w.heap.size:=by rw[hW];show(w.heap.modify b _).size=_;simp
  obtain⟨fz,C1,I7,Ui⟩:=WY;refine fin W _ oM (fun b' h1 h2=>JU b' h1 fun KB=>h2.2 (by rw[KB];exact Uv)) (fun b' h1 h2=>JU b' h1 fun KB=>h2 (by rw[KB];exact Uv)) (by rw[hW];rfl) (by rw[hW];rfl) (by rw[hW];rfl) (by rw[hW];exact Nat.le_add_right _ _) ?_;have Yq:W.heap[b]?=some (.cells (putCells (Value.int .i64) 0 (f l++List.replicate (l.length - (f l).length) 0).toArray cs) t fz):=by rw[hW];show(w.heap.modify b (onCells (putCells (Value.int .i64) 0 _)))[b]?=_;rw[Array.getElem?_modify,iP rfl,C1];rfl
  have Xy:(As (f l)).length=(f l).length:=xv6;rw[<-Xy];refine .sl (As (f l)) false b 0 cap 1 (fun j=> .int .i64 ((f l).getD j 0)) ((hUE b).2 (hr.nz 0 ee b bcap he hb)) oM (by rw[Xy];omega) oM (fun h=>vx0) dM (fun i hi=>vw6) (fun j hj=>?_) (fun i hi j hj=>?_) (fun i hi j hj=>?_)
  ·have Ah:j<(f l).length:=by rw[Xy] at hj;omega
   rw[Nat.zero_add];simp only[World.cell?,Yq];rw[putCells,Array.getElem?_mapIdx,RT j oM];simp[Ah,gE];rw[iP oM,List.getElem?_append_left Ah,gG Ah];rfl
  ·simp only[As,List.getElem_map,AV.cells,List.length_singleton] at hj ⊢;obtain rfl:j=0:=oM;rfl
  have JN:j=0:=by simp[As,AV.cells] at hj;omega
  subst JN;have Ar:i<(f l).length:=by rw[Xy] at hi;exact hi
  have e2:(As (f l))[i].cells[0]'hj= .lit (.int .i64 (f l)[i]):=vw6
  rw[e2];simp only[Nat.mul_one,Nat.add_zero,gE,gG Ar,Option.getD_some];exact .lit _ rfl
end Go.Sym
namespace Go.Proofs.YtfcgkbinohibcaaGreatDoor
open Go Go.Sym Go.Proofs.Tryz
open Go.Plant Go.Inf Go.Sort
theorem Qkh (l:List Int) (hl:l.length<=1000):Ag prog Ad 88 [(0,some (0, .own 3 1 (As l)))] [.l 0 0 0 l.length] [(0,some (0, .own 3 1 (As (l.mergeSort fun x y=>decide (x<=y)))))] (.tup []):=by
 have hE:Go.Sym.Enters prog 88:=⟨f88,func88,xv4,xv4⟩;by_cases h0:l=[]
 .subst h0;rw[List.mergeSort_nil];refine QjV (az:=[]) hE fun p cap vs w hv=>?_;obtain rfl:=List.length_eq_zero_iff.1 hv;exact Any.slices_Sort_int_none Go.Proofs.Tryz.lays189 p cap w
 exact Qkg hE (fun b cap zs w h1 h2 h3=>calls_of_every_depth fun D=>AnyS.slices_Sort_int_in Go.Proofs.Tryz.lays189 D b 0 cap zs w h1 h2 h3) l h0 oM
theorem QjU (l:List Int) (hl:l.length<=1000):Ag prog Ad 89 [(0,some (0, .own 3 1 (As l)))] [.l 0 0 0 l.length] [] (.sl (As (Lib.compact l)) false):=
 Qjp ⟨f89,func89,xv4,xv4⟩ Lib.compact (fun l=>by unfold Lib.compact Lib.compactUpTo;rw[List.length_map];exact Nat.le_trans (List.length_filter_le _ _) sM) rfl (fun p cap w=>Any.slices_Compact_int_empty Go.Proofs.Tryz.laysNm220 p cap w)
  (fun b cap zs w h1 h2 h3=>Any.slices_Compact_int Go.Proofs.Tryz.laysNm220 b 0 cap zs w h1 h2 h3) l oM
theorem QiT:∀{a b:List Int},a.Pairwise (·<·)->b.Pairwise (·<·)->(∀x,x∈a↔x∈b)->a=b
 |[],[],_,_,_=>rfl|[],x::b,_,_,h=>absurd ((h x).2 mS) sM|x::a,[],_,_,h=>absurd ((h x).1 mS) sM|x::a,z::b,ha,hb,h=>by
  obtain⟨a1,a2⟩:=List.pairwise_cons.1 ha;obtain⟨b1,b2⟩:=List.pairwise_cons.1 hb;have hxz:x=z:=by
   rcases List.mem_cons.1 ((h x).1 mS) with e|e
   .exact e
   rcases List.mem_cons.1 ((h z).2 mS) with e2|e2
   .exact e2.symm
   have:=b1 x e;have:=a1 z e2;omega
  subst hxz;rw[QiT a2 b2 fun w=>⟨fun hw=>?_,fun hw=>?_⟩]
  .rcases List.mem_cons.1 ((h w).1 (mC _ hw)) with e|e
   .have:=a1 w hw;omega
   exact e
  rcases List.mem_cons.1 ((h w).2 (mC _ hw)) with e|e
  .have:=b1 w hw;omega
  exact e
theorem Qi0 {x:Int}:∀{l:List Int},l.Pairwise (·<·)->x∉l->(DA l x).Pairwise (·<·)
 |[],_,_=>by simp[DA]|a::l,h,hx=>by
  obtain⟨h1,h2⟩:=List.pairwise_cons.1 h;rw[QbS];split
  .rename_i Aa;refine List.pairwise_cons.2 ⟨fun b hb=>?_,Qi0 h2 fun hm=>hx (mC _ hm)⟩;rcases QbV.1 hb with rfl|hb
   .exact Aa
   exact h1 b hb
  rename_i Aa;have Bj:x≠a:=fun e=>hx (by rw[e];exact mS);refine List.pairwise_cons.2 ⟨fun b hb=>?_,h⟩;rcases List.mem_cons.1 hb with rfl|hb
  .omega
  have:=h1 b hb;omega
def cR (l:List Int):List Int:=l.foldl (fun o n=>if n∈o then o else DA o n) []
theorem Qj9 (l:List Int):(cR l).Pairwise (·<·)/\∀z,z∈cR l↔z∈l:=by
 have key:∀(l o:List Int),o.Pairwise (·<·)->(l.foldl (fun o n=>if n∈o then o else DA o n) o).Pairwise (·<·)/\∀z,z∈l.foldl (fun o n=>if n∈o then o else DA o n) o↔z∈o\/z∈l:=by
  intro l;induction l with
  |nil=>exact fun o h=>⟨h,fun z=>sM⟩|cons a l ih=>
   intro o h;rw[List.foldl_cons];by_cases c:a∈o
   .rw[iP c];obtain⟨q1,q2⟩:=ih o h;refine⟨q1,fun z=>?_⟩;rw[q2,List.mem_cons];exact⟨fun h=>h.elim .inl fun h=> .inr (.inr h),fun h=>h.elim .inl fun h=>h.elim (fun e=> .inl (by rw[e];exact c)) .inr⟩
   rw[iN c];obtain⟨q1,q2⟩:=ih (DA o a) (Qi0 h c);refine⟨q1,fun z=>?_⟩;rw[q2,QbV,List.mem_cons];exact⟨fun h=>h.elim (fun h=>h.elim (fun h=> .inr (.inl h)) .inl) fun h=> .inr (.inr h),fun h=>h.elim (fun h=> .inl (.inr h)) fun h=>h.elim (fun h=> .inl (.inl h)) .inr⟩
 obtain⟨q1,q2⟩:=key l [] .nil;exact⟨q1,fun z=>by unfold cR;rw[q2];simp⟩
theorem Qjo {l:List Int} (h:l.Pairwise (·<=·)):(Lib.compact l).Pairwise (·<·)/\∀z,z∈Lib.compact l↔z∈l:=by
 have hg:∀j,j<l.length->(l.toArray[j]!:Int)=l.getD j 0:=fun j hj=>by rw[getElem!_pos l.toArray j vx2];simp[hj]
 have hle:∀i j,i<j->j<l.length->l.getD i 0<=l.getD j 0:=fun i j Da hj=>by have:=List.pairwise_iff_getElem.1 h i j oM hj Da;simpa[hj,show i<l.length by omega] using this
 have key:∀m,m<=l.length->(Lib.compactUpTo l.toArray m).Pairwise (·<·)/\(∀z∈Lib.compactUpTo l.toArray m,z<=l.getD (m - 1) 0)/\∀z,z∈Lib.compactUpTo l.toArray m↔∃j,j<m/\z=l.getD j 0:=by
  intro m;induction m with
  |zero=>exact fun _=>⟨by simp[Lib.compactUpTo],by simp[Lib.compactUpTo],fun z=>by simp[Lib.compactUpTo]⟩|succ m ih=>
   intro hm;obtain⟨q1,q2,q3⟩:=ih oM;rw[Lib.compactUpTo_succ,hg m oM];by_cases hk:Lib.keeps l.toArray m=true
   .rw[iP hk];have Aa:∀z∈Lib.compactUpTo l.toArray m,z<l.getD m 0:=fun z hz=>by
     obtain⟨j,hj,rfl⟩:=(q3 z).1 hz;have h1:=q2 _ hz;have h2:=hle (m - 1) m oM oM;have h3:l.getD (m - 1) 0≠l.getD m 0:=fun e=>by rw[Lib.keeps_neg oM (by rw[hg m oM,hg (m - 1) oM,e])] at hk;cases hk
     omega
    refine⟨List.pairwise_append.2 ⟨q1,List.pairwise_singleton _ _,fun a ha b hb=>by rw[List.mem_singleton.1 hb];exact Aa a ha⟩,fun z hz=>?_,fun z=>?_⟩
    .rw[Nat.add_sub_cancel];rcases List.mem_append.1 hz with hz|hz
     .have:=Aa z hz;omega
     rw[List.mem_singleton.1 hz];exact Int.le_refl _
    rw[List.mem_append,List.mem_singleton,q3];exact⟨fun h=>h.elim (fun⟨j,h1,h2⟩=>⟨j,oM,h2⟩) fun h=>⟨m,oM,h⟩,fun⟨j,h1,h2⟩=>if e:j=m then .inr (by rw[h2,e]) else .inl ⟨j,oM,h2⟩⟩
   rw[iN hk,List.append_nil];have HD:0<m:=by
    rcases Nat.eq_zero_or_pos m with h0|h0
    .subst h0;exact absurd (Lib.keeps_lt_one _ 0 oM) hk
    exact h0
   have he:l.getD m 0=l.getD (m - 1) 0:=Decidable.byContradiction fun e=>hk (Lib.keeps_pos (by rw[hg m oM,hg (m - 1) oM];exact e));refine⟨q1,fun z hz=>?_,fun z=>?_⟩
   .rw[Nat.add_sub_cancel,he];exact q2 z hz
   rw[q3];exact⟨fun⟨j,h1,h2⟩=>⟨j,oM,h2⟩,fun⟨j,h1,h2⟩=>if e:j=m then⟨m - 1,oM,by rw[h2,e,he]⟩ else⟨j,oM,h2⟩⟩
 obtain⟨q1,_,q3⟩:=key l.length (lR _);refine⟨q1,fun z=>?_⟩;rw[show Lib.compact l=Lib.compactUpTo l.toArray l.length from rfl,q3];exact⟨fun⟨j,h1,h2⟩=>by rw[h2];exact P7 h1,fun hz=>by
  obtain⟨j,h1,h2⟩:=P8 (d:=0) hz;exact⟨j,h1,h2.symm⟩⟩
theorem Qki (l:List Int):Lib.compact (l.mergeSort fun x y=>decide (x<=y))=cR l:=by
 have hs:(l.mergeSort fun x y=>decide (x<=y)).Pairwise (·<=·):=by have:=List.pairwise_mergeSort (le:=fun x y:Int=>decide (x<=y)) (fun a b c h1 h2=>by simp only[decide_eq_true_eq] at*;omega) (fun a b=>by simp only[Bool.or_eq_true,decide_eq_true_eq];omega) l;exact this.imp fun h=>oT h
 obtain⟨q1,q2⟩:=Qjo hs;obtain⟨r1,r2⟩:=Qj9 l;exact QiT q1 r1 fun x=>by rw[q2,r2,(List.mergeSort_perm _ _).mem_iff]
open Go.Plant Go.Inf Go.Sort
def oX (node:Int) (p:Pl):Option Int:=if 0<=node/\node<p.Q.length/\(p.Q.getD node.toNat []).length≠0 then some ((p.Q.getD node.toNat []).getD ((p.Q.getD node.toNat []).length - 1) 0) else none
def XC (node:Int) (hs:List AY):List Int:=hs.filterMap fun h=>oX node h.2
section
variable {y:Ly} {L:List Int}
theorem QiZ (node:Int) {hs:List AY} {i:Nat} (h:i<hs.length):XC node (hs.drop i)=(oX node (hs.getD i (0,⟨[],[]⟩)).2).toList++XC node (hs.drop (i+1)):=by
 have Oy:hs.drop i=hs.getD i (0,⟨[],[]⟩)::hs.drop (i+1):=by rw[List.drop_eq_getElem_cons h,gE,gG h];rfl
 rw[Oy];unfold XC;rw[List.filterMap_cons];cases oX node (hs.getD i (0,⟨[],[]⟩)).2<;>rfl
theorem QhL (node:Int) (hs:List AY):(XC node hs).length<=hs.length:=List.length_filterMap_le _ _
theorem QiS (bud:Int) (hs:List AY) (node:Int) (C3:hs.length<=400) (DZ:∀h∈hs,Bh y h.2 L):
  Ag prog Ad 37 [] [(D5.mk bud (hs.map Ba)).av,I node] [] (.sl (As (cR (XC node hs))) false):=by
 have Gq:=QhL node hs;have ws:=Qkh (XC node hs) oM;have Gw:((XC node hs).mergeSort fun x y=>decide (x<=y)).length=(XC node hs).length:=(List.mergeSort_perm _ _).length_eq;have wc:=QjU ((XC node hs).mergeSort fun x y=>decide (x<=y)) oM;rw[Qki] at wc;rw[Gw] at wc;refine Am func37 ntmps37 ?_;intro w e X hC;refine xy4 ?_;refine Aw (fun i:Nat×Nat×List Int=>⟨[(1,I node),(2, .p 102 1 0 0 0),(5, .l 105 3 0 i.2.2.length),(10, .sl (BY (hs.map Ba)) false),(11,I hs.length),(12,I i.2.1)],(105,some (3, .own 3 1 (As i.2.2)))::(102,some (1, .box [I bud, .sl (BY (hs.map Ba)) false]))::[],i.1⟩)
  (fun i=>i.2.1<=hs.length/\XC node hs=i.2.2++XC node (hs.drop i.2.1)/\i.2.2.length<=i.2.1) (fun i=>hs.length - i.2.1) (_,0,[]) ⟨zL _,rfl,zL _⟩ (Af) ?_
 rintro⟨ck,i,o⟩ ⟨hi,AL,AR⟩;simp only at hi AL AR;refine xy1 (fun c=>?_) (fun c=>?_)
 .have Aa:i<hs.length:=oM;have hg:=YH Aa;rw[QiZ node Aa] at AL;have ib:=DZ _ (GQ Aa (0,⟨[],[]⟩));have QhI:=ib.fp.sl;have C4:=ib.fp.xl;have Ej:=ib.rowl.1;generalize hs.getD i (0,⟨[],[]⟩)=h at*;obtain⟨hu,p⟩:=h;simp only[Ba] at hg AL QhI Ej;obtain⟨q,hq⟩:∃q,q=oX node p:=⟨_,rfl⟩;rw[<-hq] at AL;unfold oX at hq;by_cases c1:node<0
  .have d1:decide (node<0)=true:=dT c1;rw[iN fun h=>by omega] at hq;subst hq;refine Bg @hg ?_;refine xz2 @d1 ?_;refine xk2 ?_;refine⟨(_,i+1,o),⟨uO,AL,uO⟩,uO,Af⟩
  have d1:decide (node<0)=false:=dF c1;obtain⟨m,rfl⟩:∃m:Nat,node=m:=⟨node.toNat,oM⟩;rw[Int.toNat_natCast] at hq;by_cases c2:p.Q.length<=m
  .have d2:=uDt ((p.Q.length:Int)<=(m:Int));rw[iN fun h=>by omega] at hq;subst hq;refine Bg @hg ?_;refine xz2 (uI @d1 @d2) ?_;refine xk2 ?_;refine⟨(_,i+1,o),⟨uO,AL,uO⟩,uO,Af⟩
  have d2:=uDf ((p.Q.length:Int)<=(m:Int));have g1:=BF (show m<p.Q.length by omega);have QjN:=Ej _ (GQ (show m<p.Q.length by omega) []);generalize p.Q.getD m []=s at*;by_cases c3:s.length=0
  .have d3:=uDt ((s.length:Int)=0);rw[iN fun h=>h.2.2 c3] at hq;subst hq;refine Bg @hg ?_;refine xz2 (uI @d1 (uI @d2 (uI @g1 @d3))) ?_;refine xk2 ?_;refine⟨(_,i+1,o),⟨uO,AL,uO⟩,uO,Af⟩
  have d3:=uDf ((s.length:Int)=0);rw[iP ⟨oM,oM,c3⟩] at hq;subst hq;have g2:=Ao (show s.length - 1<s.length by omega);have e1:((s.length:Int) - 1).toNat=s.length - 1:=oM;generalize s.getD (s.length - 1) 0=x at*;refine Bg @hg ?_;refine xz2 (uI @d1 (uI @d2 (uI @g1 @d3))) ?_;refine uF ?_;obtain⟨N,hN⟩:∃N,N=o++[x]:=⟨_,rfl⟩;have hNl:o.length+1=N.length:=by rw[hN,aL];rfl
  refine Bg (uI @g1 (uI @g2 @e1)) ?_;rw[<-hN,hNl];refine⟨(_,i+1,N),⟨uO,by rw[hN,List.append_assoc];exact AL,uO⟩,uO,Af⟩
 refine At ?_;have Bx:i=hs.length:=oM;rw[Bx,List.drop_length,show XC node []=[] from rfl,List.append_nil] at AL;rw[AL] at ws wc ⊢;have Gw:(o.mergeSort fun x y=>decide (x<=y)).length=o.length:=(List.mergeSort_perm _ _).length_eq;refine uR ?_;intro K hK;refine uH ?_;refine CL [(0,0,105,3)] [(105,3,0,0)] false (ws) Bz Bz Ab Ab Ab Ab Ab Ab Ab Ab Ab Ab Ab Ab Ab Ab Ab ?_;refine xq7 ?_;refine hK _ ?_;clear hK K;refine uR ?_;intro K hK;refine uH ?_;refine CL [(0,0,105,3)] [] false (wc) Bz Bz Ab Ab Ab Ab Ab Ab Ab Ab Ab Ab Ab Ab Ab Ab Ab ?_;refine xq7 ?_;refine hK _ ?_;clear hK K;refine Ay ?_;rw[show f37.results.toList=[.tmp 4] from rfl];exact Bm
end
open Go.Plant Go.Inf Go.Sort
section
variable {y:Ly} {L:List Int}
theorem Qj8 (l:List Int) (x:Int) (hn:l.length<=1000):Ag prog Ad 60 [] [IS l,I x] [] (IS (DA l x)):=by
 have h:=QbX l x hn;generalize DA l x=r at*;refine aA h ?_ ?_
 .exact uX
 exact uX
def xN (o:List Int) (n:Int):List Int:=if n∈o then o else DA o n
theorem Qi2 (o:List Int) (n:Int):(xN o n).length<=o.length+1:=by
 unfold xN;split
 .omega
 rw[jl];exact lR _
theorem Qi1 (bud:Int) (hs:List AY) (node:Int) (C3:hs.length<=400) (DZ:∀h∈hs,Bh y h.2 L):
  Ag prog Ad 38 [] [(D5.mk bud (hs.map Ba)).av,I node] [] (.sl (As (cR (XC node hs))) false):=by
 refine Am func38 ntmps38 ?_;intro w e X hC;refine xy4 ?_;refine Aw (fun i:Nat×Nat×List Int=>⟨[(1,I node),(2, .p 102 1 0 0 0),(5, .sl (As i.2.2) false),(6,I i.2.1)],(102,some (1, .box [I bud, .sl (BY (hs.map Ba)) false]))::[],i.1⟩)
  (fun i=>i.2.1<=hs.length/\cR (XC node hs)=(XC node (hs.drop i.2.1)).foldl xN i.2.2/\i.2.2.length<=i.2.1) (fun i=>hs.length - i.2.1) (_,0,[]) ⟨zL _,rfl,zL _⟩ (Af) ?_
 rintro⟨ck,i,o⟩ ⟨hi,AL,AR⟩;simp only at hi AL AR;refine xy1 (fun c=>?_) (fun c=>?_)
 .have Aa:i<hs.length:=oM;have hg:=YH Aa;rw[QiZ node Aa] at AL;have ib:=DZ _ (GQ Aa (0,⟨[],[]⟩));have QhI:=ib.fp.sl;have C4:=ib.fp.xl;have Ej:=ib.rowl.1;generalize hs.getD i (0,⟨[],[]⟩)=h at*;obtain⟨hu,p⟩:=h;simp only[Ba] at hg AL QhI Ej;obtain⟨q,hq⟩:∃q,q=oX node p:=⟨_,rfl⟩;rw[<-hq] at AL;unfold oX at hq;by_cases c1:node<0
  .have d1:decide (node<0)=true:=dT c1;rw[iN fun h=>by omega] at hq;subst hq;refine xz2 (uI @hg @d1) ?_;refine xk2 ?_;refine⟨(_,i+1,o),⟨uO,AL,uO⟩,uO,Af⟩
  have d1:decide (node<0)=false:=dF c1;obtain⟨m,rfl⟩:∃m:Nat,node=m:=⟨node.toNat,oM⟩;rw[Int.toNat_natCast] at hq;by_cases c2:p.Q.length<=m
  .have d2:=uDt ((p.Q.length:Int)<=(m:Int));rw[iN fun h=>by omega] at hq;subst hq;refine xz2 (uI @hg (uI @d1 @d2)) ?_;refine xk2 ?_;refine⟨(_,i+1,o),⟨uO,AL,uO⟩,uO,Af⟩
  have d2:=uDf ((p.Q.length:Int)<=(m:Int));have g1:=BF (show m<p.Q.length by omega);have QjN:=Ej _ (GQ (show m<p.Q.length by omega) []);generalize p.Q.getD m []=s at*;by_cases c3:s.length=0
  .have d3:=uDt ((s.length:Int)=0);rw[iN fun h=>h.2.2 c3] at hq;subst hq;refine xz2 (uI @hg (uI @d1 (uI @d2 (uI @g1 @d3)))) ?_;refine xk2 ?_;refine⟨(_,i+1,o),⟨uO,AL,uO⟩,uO,Af⟩
  have d3:=uDf ((s.length:Int)=0);rw[iP ⟨oM,oM,c3⟩] at hq;subst hq;have g2:=Ao (show s.length - 1<s.length by omega);have e1:((s.length:Int) - 1).toNat=s.length - 1:=oM;generalize s.getD (s.length - 1) 0=x at*;have w1:=NP o x oM;have w2:=Qj8 o x oM;have Gq:=Qi2 o x;have tk:xN o x=if x∈o then o else DA o x:=rfl
  rw[Option.toList_some,List.singleton_append,List.foldl_cons] at AL;refine xz2 (uI @hg (uI @d1 (uI @d2 (uI @g1 @d3)))) ?_;refine xq8 (uI @hg @g1) ?_;refine Bg (uI @g2 @e1) ?_;by_cases hx:x∈o
  .rw[dT hx] at w1;rw[tk,iP hx] at AL;refine uR ?_;refine xy2 w1 ?_;refine xy9 ?_;refine⟨(_,i+1,o),⟨uO,AL,uO⟩,uO,Af⟩
  rw[dF hx] at w1;rw[tk,iN hx] at AL;rw[tk,iN hx] at Gq;generalize DA o x=N at*;refine uR ?_;refine xy2 w1 ?_;refine uT ?_;refine uR ?_;refine xy6 w2 ?_;refine uZ ?_;refine⟨(_,i+1,N),⟨uO,AL,uO⟩,uO,Af⟩
 refine At ?_;have Bx:i=hs.length:=oM;rw[Bx,List.drop_length,show XC node []=[] from rfl,List.foldl_nil] at AL;rw[AL];refine xz4 ?_;rw[show f38.results.toList=[.tmp 4] from rfl];exact Bm
end
open Go.Plant Go.Inf
section
variable (l:List Int) (y:Ly) (bud:Int) (pl:List T3)
def tkF (s:St):List AY:=LQ y bud pl (gC l s.a y.U).1 (Cg y s.p (gC l s.a y.U).1 []).1 s.hs
def qF (s:St×Bool):St×Bool:=if s.2=true then s else if(tkF l y bud pl s.1).length<=40 then(QT l y bud pl s.1,false) else(⟨(gC l s.1.a y.U).2,s.1.hs,s.1.p,s.1.L⟩,true)
def aJ (s:St×Bool):Nat->St×Bool
 |0=>s|k+1=>qF l y bud pl (aJ s k)
def enZ (i:Int) (s:St×Bool):St×Bool:=if s.2=true then s else(Rm y i s.1,false)
def uU (i:Int) (s:St×Bool):St×Bool:=if s.2=true then s else enZ y i (aJ l y bud pl (⟨s.1.a+1,s.1.hs,s.1.p,s.1.L⟩,false) (gR l s.1.a 0 2).toNat)
def SI (a:Nat):Nat->St×Bool
 |0=>(s0 y a,false)|i+1=>uU l y bud pl (i+1:Nat) (SI a i)
end
section
variable {l:List Int} {y:Ly} {bud:Int} {pl:List T3}
theorem QiI {s:St×Bool} {j:Nat} (h:(aJ l y bud pl s j).2=true):∀d,aJ l y bud pl s (j+d)=aJ l y bud pl s j
 |0=>rfl|d+1=>by show qF l y bud pl (aJ l y bud pl s (j+d))=_;rw[QiI h d,qF,iP h]
theorem QiE {a j:Nat} (h:(SI l y bud pl a j).2=true):∀d,SI l y bud pl a (j+d)=SI l y bud pl a j
 |0=>rfl|d+1=>by show uU l y bud pl _ (SI l y bud pl a (j+d))=_;rw[QiE h d,uU,iP h]
theorem QjD {a i j k m:Nat} {s w:St} (h1:SI l y bud pl a i=(s,false)) (hk:(gR l s.a 0 2).toNat=k) (h2:aJ l y bud pl (⟨s.a+1,s.hs,s.p,s.L⟩,false) j=(w,true)) (hj:j<=k) (hm:i+1<=m):SI l y bud pl a m=(w,true):=by
 have e1:=QiI (by rw[h2]) (k - j);rw[show j+(k - j)=k by omega,h2] at e1;have e2:SI l y bud pl a (i+1)=(w,true):=by rw[SI,h1,uU,iN sM];simp only;rw[hk,e1,enZ,iP rfl]
 have e3:=QiE (by rw[e2]) (m - (i+1))
 rwa[show i+1+(m - (i+1))=m by omega,e2] at e3
theorem QjE {a i k:Nat} {s t:St} (h1:SI l y bud pl a i=(s,false)) (hk:(gR l s.a 0 2).toNat=k) (h2:aJ l y bud pl (⟨s.a+1,s.hs,s.p,s.L⟩,false) k=(t,false)):SI l y bud pl a (i+1)=(Rm y (i+1:Nat) t,false):=by rw[SI,h1,uU,iN sM];simp only;rw[hk,h2,enZ,iN sM]
structure SZ (y:Ly) (bud:Int) (i:Nat) (s:St):Prop where
 lok:FU s.L
 len:s.L.length<=i
 lt:∀b∈s.L,b<=i
 cb:CB bud y s.L s.hs s.p 0
variable {A n:Nat}
theorem SZ.new (hg:ER A n y) (hb:0<=bud) (a:Nat):SZ y bud 0 (s0 y a):=
 ⟨⟨.nil,fun b hb=>(by cases hb),zL _⟩,lR _,fun b hb=>(by cases hb),CB.new hg hb⟩
theorem SZ.tick (hg:ER A n y) (hb:0<=bud/\bud<=2) {i:Nat} {s:St} (h:SZ y bud i s) (hl:(tkF l y bud pl s).length<=40):tkF l y bud pl s≠[]/\SZ y bud i (QT l y bud pl s):=by obtain⟨h1,h2⟩:=dN hg.g l s.a;have hc:=b7 y (Cg y s.p (gC l s.a y.U).1 []).1 pl bud hb.1;obtain⟨g1,g2⟩:=h.cb.tick hg h.lok hb h1 h2 pl (X:=[]) ⟨sM,sM⟩ (zL _) (rs:=E9 y (Cg y s.p (gC l s.a y.U).1 []).1 pl) (w:=0) ⟨by rw[hc],by rw[hc];exact Int.le_refl _⟩ vz5 hl;exact⟨g1,h.lok,h.len,h.lt,g2⟩
theorem SZ.enter (hg:ER A n y) {i:Nat} (hi:i<=3) {s:St} (h:SZ y bud i s) (he:(CS y s.p 0 (i+1:Nat)).2=0):
  Ha (Fh y 0 (i+1:Nat)) s.hs≠[]/\FU ((i+1:Nat)::s.L)/\CB bud y ((i+1:Nat)::s.L) (IP (Ha (Fh y 0 (i+1:Nat)) s.hs)) (CS y s.p 0 (i+1:Nat)).1 0:=by
 have hl:=h.len;have hL:FU (((i+1:Nat):Int)::s.L):=⟨List.nodup_cons.2 ⟨fun hm=>by have:=h.lt _ hm;omega,h.lok.nd⟩,fun b hb=>by
  rcases List.mem_cons.1 hb with rfl|hb
  ·omega
  exact h.lok.pos b hb,by rw[List.length_cons];omega⟩
 obtain⟨g1,g2⟩:=h.cb.enter hg hL he;exact⟨g1,hL,g2⟩
theorem SZ.tkO (hg:ER A n y) (hb:0<=bud/\bud<=2) {i:Nat} {s:St×Bool} (h:SZ y bud i s.1):SZ y bud i (qF l y bud pl s).1:=by
 unfold qF;split
 .exact h
 split
 .rename_i hl;exact(h.tick hg hb hl).2
 exact⟨h.lok,h.len,h.lt,h.cb⟩
theorem SZ.tkZO (hg:ER A n y) (hb:0<=bud/\bud<=2) {i:Nat} {s:St×Bool} (h:SZ y bud i s.1):∀k,SZ y bud i (aJ l y bud pl s k).1
 |0=>h|k+1=>SZ.tkO hg hb (SZ.tkZO hg hb h k)
theorem SZ.up {i j:Nat} {s:St} (h:SZ y bud i s) (Da:i<=j):SZ y bud j s:=⟨h.lok,by have:=h.len;omega,fun b hb=>by have:=h.lt b hb;omega,h.cb⟩
theorem SZ.enO (hg:ER A n y) {i:Nat} (hi:i<=3) {s:St} (h:SZ y bud i s):SZ y bud (i+1) (Rm y (i+1:Nat) s):=by
 unfold Rm;by_cases c:(CS y s.p 0 (i+1:Nat)).2=0
 .rw[iP c];obtain⟨g1,g2,g3⟩:=h.enter hg hi c;refine⟨g2,?_,fun b hb=>?_,g3⟩
  .have:=h.len;simp only[List.length_cons];omega
  rcases List.mem_cons.1 hb with rfl|hb
  .omega
  have:=h.lt b hb;omega
 rw[iN c];exact h.up (Nat.le_succ _)
theorem SZ.run (hg:ER A n y) (hb:0<=bud/\bud<=2) (a:Nat):∀i,i<=4->SZ y bud i (SI l y bud pl a i).1
 |0,_=>SZ.new hg hb.1 a|i+1,hi=>by
  have ih:=SZ.run hg hb a i oM;rw[SI,uU];split
  .exact ih.up (Nat.le_succ _)
  have ht:=SZ.tkZO (l:=l) (pl:=pl) hg hb (s:=(⟨(SI l y bud pl a i).1.a+1,(SI l y bud pl a i).1.hs,(SI l y bud pl a i).1.p,(SI l y bud pl a i).1.L⟩,false)) ⟨ih.lok,ih.len,ih.lt,ih.cb⟩ (gR l (SI l y bud pl a i).1.a 0 2).toNat;unfold enZ;split
  .exact ht.up (Nat.le_succ _)
  exact ht.enO hg oM
end
open Go.Plant Go.Inf
section
variable {stp:Pl->List T3->Pl} {cst:Pl->Int×Bool} {bud:Int} {cs:List Int} {hs:List AY}
theorem Qih (h:(Ku stp cst bud cs hs).length<=40):Jv (Ki stp cst bud cs hs) (Ku stp cst bud cs hs):=by
 have Ny:=HV.foldl (Y:=Ki stp cst bud cs hs) (HV.nil (P:=Pl) 40);rw[List.nil_append,<-WP] at Ny;rcases Ny.2 with ⟨_,h1⟩|⟨h1,_⟩
 .exact h1
 omega
theorem Qjh {x:AY}:x∈Ki stp cst bud cs hs↔∃g∈hs,∃S∈([]::ext CQ (bud - g.1).toNat (CN cs g.2) []),(cst (stp g.2 S)).2=true/\g.1+S.length+(cst (stp g.2 S)).1<=bud/\x=(g.1+S.length+(cst (stp g.2 S)).1,stp g.2 S):=by
 unfold Ki;rw[List.mem_flatMap];refine exists_congr fun g=>and_congr_right fun _=>?_;rw[VU];refine exists_congr fun S=>and_congr_right fun _=>?_;unfold L7;constructor
 .rintro⟨c,h1,h2,h3⟩;split at h1
  .rename_i h;cases h1
   exact⟨h,h2,h3⟩
  cases h1
 rintro⟨h1,h2,h3⟩;exact⟨_,iP h1,h2,h3⟩
theorem Qjl {v:Int} {p:Pl} (hm:(v,p)∈hs) (hv:v<=bud):Ku stp (fun _=>(0,true)) bud cs hs≠[]:=fun e=>by have hI:=Qih (stp:=stp) (cst:=fun _=>(0,true)) (bud:=bud) (cs:=cs) (hs:=hs) (by rw[e];exact zL _);obtain⟨w,hw,_⟩:=hI.all _ (Qjh.2 ⟨_,hm,[],mS,rfl,vz5,rfl⟩);rw[e] at hw;cases hw
end
section
variable {A n:Nat} {y:Ly} {L:List Int} {bud:Int} {hs:List AY} {c:List Int} {cst:Pl->Int×Bool}
theorem Qh1 (hg:ER A n y) (hL:FU L) (hb:bud<=2) (DZ:∀h∈hs,Bh y h.2 L) (O2:∀h∈hs,0<=h.1) (hc:c.length=n) (hk:∀i,i<n->CM (y.U.getD i default) (c.getD i 0)=true)
  (hl:(Ku (fun r X=>(Cg y r c X).1) cst bud c hs).length<=40):∀x∈Ku (fun r X=>(Cg y r c X).1) cst bud c hs,Bh y x.2 L:=fun x hx=>by
 obtain⟨g,EJ,S,hS,h2,h3,h4⟩:=aK (fun g hg=>by have:=O2 g hg;omega) ((Qih hl).mem x hx);rw[h3];exact Vp (hg.sxX (DZ g EJ) hc hk hS) (DZ g EJ) hL
end
open Go.Plant Go.Inf
section
variable {A n:Nat} {y:Ly} {bud:Int}
theorem Qjr (y:Ly) (q:Pl) (pl:List T3):(E9 y q pl).length=y.D.length/\∀i,i<(E9 y q pl).length->((E9 y q pl).getD i default).dv=(i:Int):=by
 have h1:(E9 y q pl).length=y.D.length:=by rw[E9,U2]
 refine⟨h1,fun i hi=>?_⟩;unfold E9 LK;rw[gE];simp[show i<y.D.length by omega,MS]
theorem QjH (l:List Int) (a:Nat) (hf:GI l) (hg:ER A n y) (hb:0<=bud/\bud<=2) (m:Nat) (hm:m<=3) (z:St×Bool) (hz:SI l y bud (IM l a) (a+41) m=z):
  Ag prog Ad 11 (Cf l a) [.p 0 0 0 0 0,y.av,I m,I bud] (Cf l z.1.a) (.tup [(D5.mk bud (z.1.hs.map Ba)).av,z.1.p.av,B true]):=by
 have KF:=hg.g.len;have hn:=hg.g.n11;have A2:=gW y bud hg.sml hg.val oM oM;have gd:=QdD y hg.sml (fun _=>oM);rw[hg.val] at gd;have FN:=Qam l a hf;have EK:=Qal l a;generalize IM l a=pl at*;have HI:=SZ.new hg hb.1 (a+41);have FH:BY [⟨0,(F7 y).Q,(F7 y).R⟩]=BY ((s0 y (a+41)).hs.map Ba):=rfl;obtain⟨⟨za,zh,zp,zl⟩,zb⟩:=z;simp only;refine Am func11 ntmps11 ?_;intro w e X hC;refine xz8 ?_;refine xy5 A2 ?_;refine xw7 gd ?_;refine uZ ?_;refine uF ?_;refine uR ?_;intro K hK;refine CY rfl (FN) Ak Ak Ak Ak Ak ?_;refine uS ?_;refine uH ?_;refine hK _ ?_;clear hK K;refine xy4 ?_;refine Aw (fun q:Nat×Nat×St=>⟨[(0, .p 0 0 0 0 0),(2,I m),(5, .p 105 1 0 0 0),(8, .p 108 2 0 0 0),(9, .p 109 3 0 0 0),(11, .p 111 11 0 0 0),(13, .p 113 19 0 0 0),(15, .sl (Ai pl) false),(16,I (q.2.1+1:Nat))],(113,some (19, .box [RS q.2.2.p.Q,RS q.2.2.p.R]))::(111,some (11, .box [I bud, .sl (BY (q.2.2.hs.map Ba)) false]))::(109,some (3, .box [.sl [] true, .sl [] true]))::(108,some (2, .box [I 0, .sl [] true]))::(105,some (1, .box [.sl (AA y.U) false, .sl (Ai y.D) false]))::Cf l q.2.2.a,q.1⟩) (fun q=>q.2.1<=m/\SI l y bud pl (a+41) q.2.1=(q.2.2,false)/\SZ y bud q.2.1 q.2.2) (fun q=>m - q.2.1) (_,0,s0 y (a+41)) ⟨zL _,rfl,HI⟩ (Af) ?_;rintro⟨ck,i,s⟩ ⟨hi,UC,Gx⟩;simp only at hi UC Gx;refine xy1 (fun c=>?_) (fun c=>?_)
 .have D0:i+1<=m:=oM;have R5:=P4 l s.a 0 2 hf dM dM dM;have hK:=Iu (l:=l) (a:=s.a) (lo:=0) (hi:=2) oM;obtain⟨k,hk⟩:∃k,(gR l s.a 0 2).toNat=k:=⟨_,rfl⟩;rw[show gR l s.a 0 2=(k:Int) by omega] at R5;refine uR ?_;intro K hK;refine CY rfl (R5) Ak Ak Ak Ak Ak ?_;refine uS ?_;refine uH ?_;refine hK _ ?_;clear hK K;refine xy4 ?_;refine Aw (fun q:Nat×Nat×St=>⟨[(0, .p 0 0 0 0 0),(2,I m),(5, .p 105 1 0 0 0),(8, .p 108 2 0 0 0),(9, .p 109 3 0 0 0),(11, .p 111 11 0 0 0),(13, .p 113 19 0 0 0),(15, .sl (Ai pl) false),(16,I (i+1:Nat)),(17,I ((k:Int) - q.2.1))],(113,some (19, .box [RS q.2.2.p.Q,RS q.2.2.p.R]))::(111,some (11, .box [I bud, .sl (BY (q.2.2.hs.map Ba)) false]))::(109,some (3, .box [.sl [] true, .sl [] true]))::(108,some (2, .box [I 0, .sl [] true]))::(105,some (1, .box [.sl (AA y.U) false, .sl (Ai y.D) false]))::Cf l q.2.2.a,q.1⟩) (fun q=>q.2.1<=k/\aJ l y bud pl (⟨s.a+1,s.hs,s.p,s.L⟩,false) q.2.1=(q.2.2,false)/\SZ y bud i q.2.2) (fun q=>k - q.2.1) (_,0,⟨s.a+1,s.hs,s.p,s.L⟩) ⟨zL _,rfl,⟨Gx.lok,Gx.len,Gx.lt,Gx.cb⟩⟩ (.of (lR _) (Ax (uI @Int.natCast_zero @Int.sub_zero)) A4) ?_;rintro⟨cj,j,t⟩ ⟨hj,UG,DI⟩;simp only at hj UG DI;refine xy1 (fun c2=>?_) (fun c2=>?_)
  .have Db:j<k:=oM;have FG:=pH l t.a y hf oM;obtain⟨Cy,FF⟩:=dN hg.g l t.a;have UH:=SZ.tick (l:=l) (pl:=pl) hg hb DI;have hinv:=DI.cb.pi;have fk:Ju y.U []:=⟨sM,sM⟩;have Yo:=hg.g.sx hinv Cy FF fk (zL _);have Yc:=Qeu Yo hinv DI.lok rfl hg.sml hg.val (zL _) (ji hg.g Cy FF fk (zL _));have OS:=Vp Yo hinv DI.lok;have Oz:=hg.dvF OS;have Uv:=Qar y (Cg y t.p (gC l t.a y.U).1 []).1 pl Oz oM (fun d hd=>by rw[EK];exact OS.sees DI.lok Oz hd);have Sj:=Qjr y (Cg y t.p (gC l t.a y.U).1 []).1 pl;have vC:t.hs.length<=1000:=by have:=DI.cb.len;omega
   have G4:=QiH hg DI.lok hb DI.cb.all DI.cb.us vC Cy FF pl (E9 y (Cg y t.p (gC l t.a y.U).1 []).1 pl) EK Sj.1 Sj.2 _ rfl;have UJ:aJ l y bud pl (⟨s.a+1,s.hs,s.p,s.L⟩,false) (j+1)=qF l y bud pl (t,false):=by rw[aJ,UG]
   rw[qF,iN sM] at UJ;simp only at UJ;unfold QT at UJ UH;unfold tkF LQ at UJ UH;generalize Ku (fun r X=>(Cg y r (gC l t.a y.U).1 X).1) (fun r=>Gj y r pl bud (E9 y (Cg y t.p (gC l t.a y.U).1 []).1 pl)) bud (gC l t.a y.U).1 t.hs=G at*;have I4:=hg.dl;have Ej:=Sj.1;generalize E9 y (Cg y t.p (gC l t.a y.U).1 []).1 pl=rs at*;generalize Cg y t.p (gC l t.a y.U).1 []=sy at*;obtain⟨q,mv⟩:=sy;simp only at Yc OS Oz Uv UJ UH;generalize gC l t.a y.U=gc at*;obtain⟨cs,a2⟩:=gc;simp only at FG Cy FF Yo Yc G4 UJ UH;refine uR ?_;intro K hK;refine CY rfl (FG) Ak Ak Ak Ak Ak ?_;refine uS ?_;refine uH ?_;refine hK _ ?_;clear hK K;refine xw7 Yc ?_;refine xw7 Uv ?_;by_cases lim:G.length<=40
   .rw[iP lim] at UJ;obtain⟨g1,UH⟩:=UH lim;have G4:=G4 _ _ (.inr (.inr ⟨g1,lim,rfl,rfl⟩));refine xw7 G4 ?_;refine uZ ?_;refine xy9 ?_;refine xy9 ?_;refine uD ?_;refine xx8 ?_;refine uZ ?_;refine⟨(_,j+1,⟨a2,IP G,q,t.L⟩),⟨uO,UJ,UH⟩,uO, .of (lR _) (Ax (uI @Int.sub_sub @Int.natCast_add)) (AS (uI @Int.sub_sub @Int.natCast_add))⟩
   rw[iN lim] at UJ;have Xz:=QjD UC hk UJ Db D0;rw[hz] at Xz;cases Xz
   have G4:=G4 _ _ (.inr (.inl ⟨oM,rfl,rfl⟩));refine xw7 G4 ?_;refine uZ ?_;refine uT ?_;refine uD ?_;refine xx8 ?_;refine Ay ?_;rw[show f11.results.toList=[.cell 8 33, .cell 9 36, .tmp 10] from rfl];(refine(Pm vx1 rfl ?_ ?_ ?_ ?_);(iterate 2 (focus (first|exact trivial|(simp only[go_sem,seval,Bv,BK]<;>trivial))));all_goals (try simp only[go_sem,seval,Bv,BK]))
  refine At ?_;have Db:j=k:=oM;rw[Db] at UG;have Dn:=QjE UC hk UG;have fo:=DI.cb.all;have FJ:∀h∈t.hs,FB y.U h.2:=fun h hh=>(fo h hh).fp;have fZ:=Qb8 y t.p 0 (i+1:Nat) DI.cb.pi.fp;refine xw7 fZ ?_;have Du:=fun h0:(CS y t.p 0 (i+1:Nat)).2=0=>DI.enter hg oM h0;have D2:=DI.enO hg (show i<=3 by omega);obtain⟨qe,Sr⟩:∃qe,qe=CS y t.p 0 (i+1:Nat):=⟨_,rfl⟩;unfold Rm at Dn D2;rw[<-Sr] at Du Dn fZ D2 ⊢;refine xy1 (fun c3=>?_) (fun c3=>?_)
  .rw[iN c3] at Dn D2;refine uZ ?_;refine xq6 ?_;refine⟨(_,i+1,t),⟨uO,Dn,D2⟩,uO,Af⟩
  have c3':qe.2=0:=Decidable.not_not.1 c3;rw[iP c3'] at Dn D2;obtain⟨g1,g2,g3⟩:=Du c3';obtain⟨m0,m1,m2,m3,m4,-,-⟩:=cK (Sr ▸ c3':(CS y t.p 0 (i+1:Nat)).2=0);have e0:m0=0:=oM;subst e0;have Qh9:=g3.pi;have vD:t.hs.length<=900:=by have:=DI.cb.len;omega
  have Bx:=gT y bud t.hs 0 (i+1:Nat) (Gd:=fun q=>Bh y q ((i+1:Nat)::t.L)) oM m2 m3 m4 vD FJ (fun h hh he=>(fo h hh).enter (oT he)) (fun q hq=>hq.kyN oM g2) (fun a b ha hb=>ha.inj oM g2 hb) ⟨bud,(IP (Ha (Fh y 0 (i+1:Nat)) t.hs)).map Ba⟩ 0 (.inr ⟨g1,_,Jn _,g3.srt,rfl,rfl⟩);rw[show((0:Nat):Int)=0 from rfl] at Bx;generalize IP (Ha (Fh y 0 (i+1:Nat)) t.hs)=G at*;refine xw7 Bx ?_;refine uZ ?_;refine uF ?_;refine uD ?_;refine xx8 ?_;refine uZ ?_;refine⟨(_,i+1,⟨t.a,G,qe.1,(i+1:Nat)::t.L⟩),⟨uO,Dn,D2⟩,uO,Af⟩
 refine At ?_;have Dw:i=m:=oM;rw[Dw,hz] at UC;cases UC
 refine uD ?_;refine xx8 ?_;refine Ay ?_;rw[show f11.results.toList=[.cell 8 33, .cell 9 36, .tmp 10] from rfl];(refine(Pm vx1 rfl ?_ ?_ ?_ ?_);(iterate 2 (focus (first|exact trivial|(simp only[go_sem,seval,Bv,BK]<;>trivial))));all_goals (try simp only[go_sem,seval,Bv,BK]))
end
open Go.Plant Go.Inf Go.Sort
section
variable {y:Ly} {L:List Int}
theorem Bh.whereP_sm {p:Pl} (h:Bh y p L) (b:Int):N5 ⟨(GG p b).1,(GG p b).2.1⟩:=by
 have hs:=h.fp.sl;have hb:=h.fp.bl;have hx:=h.fp.xl;have hr:=h.rowl.1;unfold N5 GG;split
 .rename_i n hn;split at hn
  .cases hn
  obtain⟨h1,_⟩:=List.findIdx?_eq_some_iff_getElem.1 hn;have Ej:=hr _ (GQ h1 []);generalize p.Q.getD n []=r at*;have hw:((r.findIdx? fun x=>decide (x=b)).getD 0)<=1000:=by
   cases hf:r.findIdx? fun x=>decide (x=b) with
   |none=>exact zL _|some k=>obtain⟨h2,_⟩:=List.findIdx?_eq_some_iff_getElem.1 hf;show k<=1000;omega
  simp only;omega
 split
 .rename_i n hn;obtain⟨h1,_⟩:=List.findIdx?_eq_some_iff_getElem.1 hn;simp only;omega
 exact⟨dM,dM,dM,dM⟩
theorem Bh.whereQ_eq {p:Pl} (h:Bh y p L) (hL:FU L) (b:Int):Hm p b=GG p b:=by
 rw[Hm];split
 .rename_i h0;subst h0;rw[GG,iP rfl];have:(p.R.findIdx? fun r=>decide ((0:Int)∈r))=none:=TS fun j hj hm=>h.binpos hL (t:=j) (by rw[<-h.fp.bl];exact hj) 0 hm rfl;simp only[this]
 rfl
theorem QjZ (bud:Int) (hs:List AY) (bag:Int) (hn:y.U.length<=11) (hL:FU L) (C3:hs.length<=400) (DZ:∀h∈hs,Bh y h.2 L):
  Ag prog Ad 39 [] [(D5.mk bud (hs.map Ba)).av,I bag] [] (.sl (Gf (RM bag hs)) false):=
 QbD bud hs bag (RM bag hs) oM (fun h hh=>(DZ h hh).kyP hn) (fun h hh=>by rw[(DZ h hh).whereQ_eq hL];exact(DZ h hh).whereP_sm bag) (Qj7 bag hs fun h hh=>(DZ h hh).whereQ_eq hL bag) ((Qi6 bag hs).imp fun h=>(QiX _ _).1 h)
theorem Qkb (bag:Int) (hs:List AY):(RM bag hs).length<=hs.length:=by
 have key:∀(hs:List AY) (o:List T2),(hs.foldl (eQ bag) o).length<=o.length+hs.length:=by
  intro hs;induction hs with
  |nil=>exact fun o=>lR _|cons h t ih=>
   intro o;rw[List.foldl_cons];have h1:=ih (eQ bag o h);have h2:(eQ bag o h).length<=o.length+1:=by
    unfold eQ;split
    .unfold dD;split
     .omega
     have:=congrArg List.length (List.takeWhile_append_dropWhile (p:=fun x=>Xe x ⟨(GG h.2 bag).1,(GG h.2 bag).2.1⟩) (l:=o));simp only[aL,List.length_singleton] at this ⊢;omega
    omega
   simp only[List.length_cons];omega
 have:=key hs []
 rwa[List.length_nil,Nat.zero_add] at this
end
theorem Qi5 (l:List Int):(cR l).length<=l.length:=by
 have key:∀(l o:List Int),(l.foldl xN o).length<=o.length+l.length:=by
  intro l;induction l with
  |nil=>exact fun o=>lR _|cons h t ih=>intro o;rw[List.foldl_cons];have h1:=ih (xN o h);have h2:=Qi2 o h;simp only[List.length_cons];omega
 have:=key l []
 rwa[List.length_nil,Nat.zero_add] at this
theorem Qji (l:List Int) (bag node:Int) (hl:l.length<=9223372036854775807) (hr:∀x∈l,QZ x):Ag prog Ad 7 [] [IS l,I bag,I node] [] (B true):=by
 have JR:=zQ l hl;have hf:=pL hr;have tM:=nS;generalize Od l=l' at*;have fH:=yL l' 0 hf;obtain⟨A,n,hg⟩:=r8 l' 0;generalize gL l' 0=gl at*;obtain⟨y,a0⟩:=gl;simp only at hg fH;obtain⟨hN,hN0,AK⟩:=hg.sum;have Qh9:=hg.g.n11;have QkK:=hg.g.len;have hm:=Lh (l:=l') (a:=a0) (n:=4) dM;have HC:=Nk l' a0 4 hf dM;obtain⟨m,HE⟩:∃m:Nat,gN l' a0 4=m:=⟨_,(Int.toNat_of_nonneg hm.1).symm⟩;rw[HE] at hm HC;have hbu:=Lh (l:=l') (a:=a0+1) (n:=3) dM;have R4:=Nk l' (a0+1) 3 hf dM;generalize gN l' (a0+1) 3=bud at*;have NO:=SZ.run (l:=l') (pl:=IM l' (a0+1+1)) hg (bud:=bud) oM (a0+1+1+41) m oM;have AM:=QjH l' (a0+1+1) hf hg (bud:=bud) oM m oM _ rfl;generalize SI l' y bud (IM l' (a0+1+1)) (a0+1+1+41) m=z at*;obtain⟨⟨a1,hs,p,L⟩,zb⟩:=z;simp only at AM NO;obtain⟨hL,-,-,Xs⟩:=NO;simp only at hL Xs;have FG:=pH l' a1 y hf oM;obtain⟨Cy,FF⟩:=dN hg.g l' a1;generalize gC l' a1 y.U=gc at*;obtain⟨cs,a2⟩:=gc;simp only at FG Cy FF;have hinv:=Xs.pi;have hlen:=Xs.len;have DZ:=Xs.all;have O2:=Xs.us;have htb:=Qkk hg hL oM DZ O2 oM Cy FF _ rfl;obtain⟨v0,HJ,jz⟩:=Xs.mem;have Ua:=Qjl (stp:=fun r X=>(Cg y r cs X).1) (cs:=cs) jz (O2 _ jz).2;have hbp:=Qh1 (cst:=fun _=>(0,true)) (bud:=bud) hg hL oM DZ (fun h hh=>(O2 h hh).1) Cy FF;generalize Ku (fun r X=>(Cg y r cs X).1) (fun _=>(0,true)) bud cs hs=V at*;refine Am func7 ntmps7 ?_;intro w e X hC;refine xz8 ?_;intro K hK;refine CL [] [(130,3,100,1)] false (JR) Bz Bz Ab Ab Ab Ab Ab Ab Ab Ab Ab Ab Ab Ab Ab Ab Ab ?_;refine DM ?_;refine hK _ ?_;clear hK K;refine L3 (s':=⟨[(1,I bag),(2,I node),(7, .p 130 3 0 0 0)],(130,some (3, .box [IS l',I (min 0 l'.length:Nat)]))::[],_⟩) (.of (lR _) (Ax (uI @Nat.zero_min @Int.natCast_zero)) A4) ?_;refine uR ?_;intro K hK;refine CY rfl (fH) Ak Ak Ak Ak Ak ?_;refine uS ?_;refine uH ?_;refine hK _ ?_;clear hK K;refine uD ?_;intro K hK;refine uH ?_;refine CY rfl (HC) Ak Ak Ak Ak Ak ?_;refine uS ?_;refine uH ?_;refine CY rfl (R4) Ak Ak Ak Ak Ak ?_;refine uS ?_;refine uH ?_;refine CY rfl (AM) Ak Ak Ak Ak Ak ?_;refine uS ?_;refine uH ?_;refine hK _ ?_;clear hK K;refine uZ ?_;refine uF ?_;refine uR ?_;intro K hK;refine CY rfl (FG) Ak Ak Ak Ak Ak ?_;refine uS ?_;refine uH ?_;refine hK _ ?_;clear hK K;obtain⟨R,rb,ev,hrv,H7⟩:∃(R:List AY) (rb ev:Int),Ag prog Ad 28 [] [y.av,(D5.mk bud (hs.map Ba)).av,IS cs] [] (.tup [(D5.mk rb (R.map Ba)).av,I ev])/\((ev=0/\rb=bud/\(∀h∈R,Bh y h.2 L)/\R.length<=40)\/ev=2):=by
  by_cases h4:V.length<=40
  .exact⟨IP V,bud,0,htb _ _ (.inr (.inr ⟨Ua,h4,rfl,rfl⟩)), .inl ⟨rfl,rfl,fun h hh=>hbp h4 h ((Jn V).mem_iff.1 hh),by rw[(Jn V).length_eq];exact h4⟩⟩
  exact⟨[],0,2,htb _ _ (.inr (.inl ⟨oM,rfl,rfl⟩)), .inr rfl⟩
 refine xw7 hrv ?_;refine A5 ?_;refine CE (fun q:Nat×List AY×Nat=>⟨[(1,I bag),(2,I node),(8, .p 108 7 0 0 0),(9, .p 109 20 0 0 0),(10, .p 110 21 0 0 0),(13, .p 113 q.2.2 0 0 0)],(113,some (q.2.2, .box [I bud, .sl (BY (q.2.1.map Ba)) false]))::(110,some (21, .box [RS p.Q,RS p.R]))::(109,some (20, .box [I bud, .sl (BY (hs.map Ba)) false]))::(108,some (7, .box [.sl (AA y.U) false, .sl (Ai y.D) false]))::[],q.1⟩) (fun q=>(∀h∈q.2.1,Bh y h.2 L)/\q.2.1.length<=40) ?_ ?_
 .rcases H7 with ⟨rfl,rfl,h1,h2⟩|rfl
  .refine uZ ?_;refine xq9 ?_;exact⟨(_,R,_),⟨h1,h2⟩,Af⟩
  refine uZ ?_;refine xy3 ?_;exact⟨(_,hs,_),⟨DZ,hlen⟩,Af⟩
 rintro⟨cd,D,g⟩ ⟨aM,hDl⟩;simp only at aM hDl;refine xy4 ?_;refine Aw (fun q:Nat×Nat=>⟨[(1,I bag),(2,I node),(8, .p 108 7 0 0 0),(9, .p 109 20 0 0 0),(10, .p 110 21 0 0 0),(13, .p 113 g 0 0 0),(15,I ((q.2:Int) - 1))],(113,some (g, .box [I bud, .sl (BY (D.map Ba)) false]))::(110,some (21, .box [RS p.Q,RS p.R]))::(109,some (20, .box [I bud, .sl (BY (hs.map Ba)) false]))::(108,some (7, .box [.sl (AA y.U) false, .sl (Ai y.D) false]))::[],q.1⟩) (fun q=>q.2<=y.U.length+2) (fun q=>y.U.length+2 - q.2) (_,0) (zL _) (Af) ?_;rintro⟨ck,i⟩ hi;simp only at hi;refine xy1 (fun c=>?_) (fun c=>?_)
 .have w1:=QiS bud D ((i:Int) - 1) oM aM;have w2:=Qi1 bud D ((i:Int) - 1) oM aM;have BH:=Qi5 (XC ((i:Int) - 1) D);have FL:=QhL ((i:Int) - 1) D;have wi:=YL (cR (XC ((i:Int) - 1) D)) (cR (XC ((i:Int) - 1) D)) oM;rw[dT rfl] at wi;generalize cR (XC ((i:Int) - 1) D)=r at*;refine uE ?_;intro K hK;refine xw1 w1 ?_;refine xw1 w2 ?_;refine xy0 wi ?_;refine uH ?_;refine hK _ ?_;clear hK K;refine xy9 ?_;rw[show(i:Int) - 1+1=((i+1:Nat):Int) - 1 by omega];refine⟨(_,i+1),uO,uO,Af⟩
 refine At ?_;refine xy4 ?_;refine Aw (fun q:Nat×Nat=>⟨[(1,I bag),(2,I node),(9, .p 109 20 0 0 0),(10, .p 110 21 0 0 0),(13, .p 113 g 0 0 0),(75, .sl (As [1,2,3,4,bag]) false),(76,I (5:Nat)),(77,I q.2)],(113,some (g, .box [I bud, .sl (BY (D.map Ba)) false]))::(110,some (21, .box [RS p.Q,RS p.R]))::(109,some (20, .box [I bud, .sl (BY (hs.map Ba)) false]))::(108,some (7, .box [.sl (AA y.U) false, .sl (Ai y.D) false]))::[],q.1⟩) (fun q=>q.2<=5) (fun q=>5 - q.2) (_,0) (zL _) (Af) ?_;rintro⟨cj,j⟩ hj;simp only at hj;generalize vx:([1,2,3,4,bag]:List Int)=ks;have A3:ks.length=5:=by rw[<-vx];rfl
 refine xy1 (fun c2=>?_) (fun c2=>?_)
 .have Aa:j<ks.length:=oM;have g1:=Ao Aa;generalize ks.getD j 0=kk at*;have w1:=QjZ bud D kk hN hL oM aM;have w2:=Qi7 bud D kk oM aM;have w3:=Qj0 bud D kk oM (fun h hh=>(aM h hh).kyP hN) (fun h hh=>(aM h hh).whereQ_eq hL kk) w1;have w4:=Qkd bud D kk oM aM;have hRl:=Qkb kk D;generalize RM kk D=R2 at*;generalize ZP kk D=sp at*;obtain⟨⟨sa,sb⟩,so⟩:=sp;simp only at w3 w4;refine Bg @g1 ?_;refine uE ?_;intro K hK;refine xw1 w1 ?_;refine xw1 w2 ?_;refine uH ?_;refine hK _ ?_;clear hK K;refine xw7 w3 ?_;refine xw7 w4 ?_;have e1:decide (sa=sa)=true:=sM;have e2:decide (sb=sb)=true:=sM;have e4:decide (¬(R2.length:Int)=R2.length)=false:=sM;have e3:(!(true&&(true&&true)))=false:=rfl;have e5:(!(so==so))=false:=sM;refine xz2 (uI @e1 (uI @e2 (uI @e3 (uI @e4 @e5)))) ?_;refine uF ?_;refine xy4 ?_;refine Aw (fun q:Nat×Nat=>⟨[(1,I bag),(2,I node),(9, .p 109 20 0 0 0),(10, .p 110 21 0 0 0),(13, .p 113 g 0 0 0),(18, .sl (Gf R2) false),(19, .sl (Gf R2) false),(24,I q.2),(75, .sl (As ks) false),(76,I (5:Nat)),(77,I j)],(113,some (g, .box [I bud, .sl (BY (D.map Ba)) false]))::(110,some (21, .box [RS p.Q,RS p.R]))::(109,some (20, .box [I bud, .sl (BY (hs.map Ba)) false]))::(108,some (7, .box [.sl (AA y.U) false, .sl (Ai y.D) false]))::[],q.1⟩) (fun q=>q.2<=R2.length) (fun q=>R2.length - q.2) (_,0) (zL _) (Af) ?_;rintro⟨ce,t⟩ ht;simp only at ht;refine xy1 (fun c4=>?_) (fun c4=>?_)
  .have Gv:t<R2.length:=oM;have g2:=kq Gv;generalize R2.getD t default=x at*;obtain⟨xa,xb⟩:=x;have f1:decide (xa=xa)=true:=sM;have f2:decide (xb=xb)=true:=sM;refine xq1 (uI @g2 (uI @f1 (uI @f2 @e3))) ?_;refine xy9 ?_;refine⟨(_,t+1),uO,uO,Af⟩
  refine xq6 ?_;refine⟨(_,j+1),uO,uO,Af⟩
 refine At ?_;have h1:=tI bud (D.map Ba) p vq0 (fun h hh q hq=>by
  obtain⟨z,hz,rfl⟩:=List.mem_map.1 hh;rw[hq];exact(aM z hz).psame hinv)
 have h2:=Qka bud D p oM aM hinv;generalize Iw (D.map Ba) p=hp at*;obtain⟨EY,BP⟩:=hp;simp only at h1 h2;have w1:=QiS bud D node oM aM;have w2:=Qi1 bud D node oM aM;have BH:=Qi5 (XC node D);have FL:=QhL node D;have wi:=YL (cR (XC node D)) (cR (XC node D)) oM;rw[dT rfl] at wi;generalize cR (XC node D)=r at*;have s1:=QiW bud bud hs D oM oM DZ aM;have s2:=Qkc bud bud hs D oM oM DZ aM;have s3:=QiW bud bud D D oM oM aM aM;rw[dT ⟨rfl,rfl⟩] at s3;generalize decide (bud=bud/\hs=D)=sb at*;refine xw7 h1 ?_;refine xw7 h2 ?_;have e1:decide (EY=EY)=true:=sM;have e2:(BP==BP)=true:=sM;have e3:(sb==sb)=true:=sM;refine Cv (uI @e1 @e2) ?_;intro K hK;refine xw1 w1 ?_;refine cP w2 ?_;refine uS ?_;refine xz0 wi ?_;refine xy0 s1 ?_;refine xz0 s2 ?_;first|refine Ap @e3 ?_|exact Aq @e3
 refine xy0 s3 ?_;refine xw6 tM ?_;refine hK _ ?_;clear hK K;exact xz5
end Go.Proofs.YtfcgkbinohibcaaGreatDoor
namespace Go.Sym
open Go Go.Deep Go.ChangeShapes Go.WideShapes Go.ChangeAt Go.RowKit
section
variable {H:Type} {enc:TypeId×Value->H} {P:Program} {W W':World}
theorem kF (hl:laidOutB P=true) (hb:Below W.heap.size W W'):∀{ts:List TypeId} {vs:List Value} {ds:List (DataW H)} {ps:List MemPlace},(∀t∈ts,P.readableRec t=true/\t<P.types.size)->
  DataW.TrodAll enc P W 0 (fun _=>true) true ts vs ds ps->(∀x∈ps,x.block<W.heap.size)->DataW.TrodAll enc P W' 0 (fun b=>decide (b<W.heap.size)) true ts vs ds ps
 |[],vs,ds,ps,_,h,_=>by obtain⟨rfl,rfl,rfl⟩:=trodAll_nil h;exact trodAll_mk0
 |t::ts,vs,ds,ps,ht,h,Aa=>by obtain⟨v,LU,d,ds',p,q,rfl,rfl,rfl,h1,h2⟩:=trodAll_cons h;have:=ht t sM;exact⟨p,q,Below.trod hl this.1 this.2 h1 hb fun x hx=>Aa x (by simp[hx]),kF hl hb (fun t' h'=>ht t' (by simp[h'])) h2 fun x hx=>Aa x (by simp[hx]),rfl⟩
theorem QgX {a:Int} (h:(Lit.int .i64 a).wf=true):-9223372036854775808<=a/\a<=9223372036854775807:=by have h1:(decide (IntKind.min .i64<=a)&&decide (a<=IntKind.max .i64))=true:=h;have e1:IntKind.min .i64=-9223372036854775808:=dM;have e2:IntKind.max .i64=9223372036854775807:=dM;rw[e1,e2] at h1;simpa using h1
variable {U:Nat->Prop} {t e q:TypeId} {v:Value} {d:DataW H} {ps:List MemPlace}
theorem Qh5 (ht:P.underlying t=some (.int .i64)) (G6:Value.okWide P W .any 0 t v) (hd:DataW.Trod enc P W 0 (fun _=>true) true t v d ps):∃n:Int,(-9223372036854775808<=n/\n<=9223372036854775807)/\VD W U (I n) v:=by obtain⟨n,rfl,_,_,hw⟩:=open_int ht G6 hd;exact⟨n,QgX hw, .lit _ rfl⟩
theorem TG {w:World} {a:Addr} {x:Value} (h:w.cell? a=some x):a=⟨a.block,a.off,none⟩/\a.block<w.heap.size:=by
 unfold World.cell? at h;split at h
 .rename_i c _ _ hb;split at h
  .cases h
  rename_i hs;refine⟨?_,(Array.getElem?_eq_some_iff.1 hb).1⟩;cases a with
  |mk b o s=>cases s<;>simp_all
 cases h
theorem VD.ints_mk (hU:∀b,U b) {a:Addr} {len cap:Nat} {zs:List Int} (hl:len<=cap) (hm:cap<=maxLen) (hz:zs.length=cap) (hc:∀i,i<cap->W.cell? (a.add i)=some (.int .i64 (zs.getD i 0))):
  VD W U (IS (zs.take len)) (.slice (some a) len cap):=by
 by_cases h0:cap=0
 .obtain rfl:len=0:=oM;subst h0;rw[List.take_zero];exact .nil _ _
 have h1:=TG (hc 0 oM);have e:a=⟨a.block,a.off,none⟩:=h1.1;have hlen:(zs.take len).length=len:=vv2;have:=VD.sl (w:=W) (U:=U) (As (zs.take len)) false a.block a.off cap 1 (fun i=> .int .i64 (zs.getD i 0)) (hU _) h1.2 (by rw[HL,hlen];exact hl) hm sM oM
  (by intro i hi;simp[As,AV.cells,I]) (by
   intro j hj;rw[HL,hlen,Nat.mul_one] at hj;have h2:=hc j oM;rw[e,add_plain] at h2;exact h2) (by
   intro i hi j hj;simp only[As,List.getElem_map,I,AV.cells] at hj ⊢;simp at hj;subst hj;rfl) (by
   intro i hi j hj;rw[HL,hlen] at hi;simp only[As,List.getElem_map,I,AV.cells,List.getElem_take] at hj ⊢;simp at hj;subst hj;simp only[List.getElem_cons_zero,Nat.mul_one,Nat.add_zero];have:zs.getD i 0=zs[i]'oM:=by simp[show i<zs.length by omega]
   rw[this];exact .lit _ rfl)
 rw[HL,hlen] at this;rw[<-e] at this;exact this
theorem nB (hU:∀b,U b) (ht:P.underlying t=some (.slice e)) (he:P.underlying e=some (.int .i64)) (hc:P.cellsOf e=1) (G6:Value.okWide P W .any 0 t v)
  (hd:DataW.Trod enc P W 0 (fun _=>true) true t v d ps):∃zs:List Int,zs.length<=9223372036854775807/\(∀x∈zs,-9223372036854775808<=x/\x<=9223372036854775807)/\VD W U (IS zs) v:=by
 obtain⟨a,len,cap,rfl⟩:=okWide_slice ht G6;obtain⟨fuel,hf⟩:=hd;rcases open_ints ht he hc hf with ⟨h1,_⟩|⟨a',Qij,CZ,zs,h1,_,hl,hm,hz,_,GV,hw⟩
 .simp[Value.cells] at h1;obtain⟨rfl,rfl,rfl⟩:=h1;exact⟨[],sM,sM, .nil _ _⟩
 simp[Value.cells] at h1;obtain⟨rfl,rfl,rfl⟩:=h1;simp only[if_true] at hz;have ND:cap<=9223372036854775807:=by unfold maxLen at hm;omega
 exact⟨zs.take len,vv2,fun x hx=>QgX (hw x (List.mem_of_mem_take hx)),VD.ints_mk hU hl hm hz fun i hi=>GV i oM⟩
def Ip:An:=⟨fun _=>none,fun _=>False,fun _=>none⟩
theorem NY (b:Nat):¬AQ Ip b:=by rintro(⟨id,ee,c,h,_⟩|⟨B,c,h,_⟩)<;>cases h
theorem PJ (b:Nat):UE Ip b:=⟨fun h=>h,NY b⟩
theorem lO (w:World):AU w Ip (Az 1) [] where
 dead:=fun _ _=>rfl
 live:=fun id g ob h=>by simp[Hp.get] at h
 inj:=fun id Br ee Au b c c' h=>vx0
 lt:=fun id ee b c h=>vx0
 nz:=fun id ee b c h=>vx0
 kl:=fun b B c h=>vx0
 ko:=fun b h=>rfl
 kk:=fun b B c h=>vx0
theorem yJ {T:AE} {f:FuncId} {as1:List AV} {vals:Array Value} (h:Ag P T f [] as1 [] (B true)) (hg:Gg T W (UE Ip)) (Be:as1.length=vals.size) (hv:∀i (hi:i<as1.length),VD W (UE Ip) as1[i] (vals.getD i undef)):
  Calls P f vals W fun e W'=>e= .returned (.bool true)/\Below W.heap.size W W':=by
 have h:=h.2 W Ip vals (lO W) (fun b hb=>hb.elim) hg Be (fun i hi=> .dat _ _ (hv i hi));refine h.mono ?_;rintro e W' ⟨v,e',rfl,_,hv,_,_,_,hf⟩;cases hv with
 |dat _ _ hv=>
  cases hv with
  |lit _ _=>exact⟨rfl,hf.os,hf.tape,hf.output,hf.size,fun k hk=>hf.same k hk (NY k)⟩
theorem ik {g fuel n:Nat} {nm:String} {zs:List Int} {cs:Array Value} {p:List MemPlace} {enc:TypeId×Value->Unit} {spare:Nat->Bool} {held:Bool} (hg:P.globalNamed nm=some g) (hU:∀b,U b) (ht:P.underlying t=some (.array n e)) (he:P.underlying e=some (.int .u8)) (hc:P.cellsOf e=1)
  (hv:W.var? P nm=some cs) (hd:DataW.trod enc P W 0 spare held fuel t cs.toList=some (.agg (zs.map fun z=> .lit (.int .u8 z)),p)) (hn:zs.length=n) (h0:0<n):VD W U (.P (zs.map fun z=> .lit (.int .u8 z))) (.pointer (some ⟨g,0,none⟩)):=by
 obtain⟨xs,m,_,ex,_,hl,AJ⟩:=DataW.trod_array ht hd;have cell:∀r,r<n->W.cell? ⟨g,r,none⟩=some (.int .u8 (zs.getD r 0)):=by
  intro r hr;have hE:=AJ r hr;rw[hc,Nat.mul_one,gG oM] at hE;obtain⟨z,e1,e2,_⟩:=DataW.trod_int he hE;have e3:(xs.map (·.1))=zs.map fun n=> .lit (.int .u8 n):=(DataW.agg.inj (Prod.mk.inj ex).1).symm;have e4:(xs.map (·.1))[r]?=(zs.map fun n=>(DataW.lit (.int .u8 n):DataW Unit))[r]?:=by rw[e3]
  rw[List.getElem?_map,List.getElem?_map,gG (by omega:r<xs.length),gG (by omega:r<zs.length),e2] at e4;have hz:z=zs.getD r 0:=by simp only[Option.map_some,Option.some.injEq,DataW.lit.injEq,Lit.int.injEq,true_and] at e4;rw[e4,List.getD,gG (by omega:r<zs.length)];rfl
  rw[World.var?_cell hg hv r,<-hz];have:cs.toList[r]?=some (.int .u8 z):=by
   have h0:((cs.toList.drop r).take 1)[0]?=some (.int .u8 z):=by rw[e1];rfl
   simpa using h0
  simpa using this
 refine .P _ g 0 (fun i=> .int .u8 (zs.getD i 0)) (hU _) (TG (cell 0 h0)).2 ?_ ?_ ?_
 .intro j hj;rw[Nat.zero_add];exact cell j (by simpa[hn] using hj)
 .intro j hj;simp[AV.one]
 intro j hj;rw[List.length_map] at hj;simp only[List.getElem_map];have:zs.getD j 0=zs[j]'oM:=by simp[show j<zs.length by omega]
 rw[this];exact .lit _ rfl
theorem yI {g fuel:Nat} {nm:String} {ss:List ByteArray} {cs:Array Value} {p:List MemPlace} {enc:TypeId×Value->Unit} {spare:Nat->Bool} {held:Bool} (hg:P.globalNamed nm=some g) (hU:∀b,U b) (ht:P.underlying t=some (.slice e)) (he:P.underlying e=some .string) (hc:P.cellsOf e=1)
  (hv:W.var? P nm=some cs) (hd:DataW.trod enc P W 0 spare held fuel t cs.toList=some (.slice (ss.map fun z=> .lit (.string z.data.toList)) [],p)) (h0:0<ss.length):VD W U (.P [.sl (ss.map S) false]) (.pointer (some ⟨g,0,none⟩)):=by
 rcases open_strs ht he hc hd with ⟨_,hx⟩|⟨a,len,cap,m,Sx,Dt,_,F4,hm,DF,hx,GV⟩
 .simp at hx
 simp only[Prod.mk.injEq,DataW.slice.injEq] at hx;obtain⟨⟨hx,Fq⟩,_⟩:=hx;have hlen:ss.length=len:=by simpa using congrArg List.length hx
 have OK:len<=m:=by rw[DF];split<;>omega
 have hS:∀i (hi:i<ss.length),Sx i=ss[i]:=by
  intro i hi;have h1:(ss.map fun z=>(DataW.lit (.string z.data.toList):DataW Unit))[i]?=((List.range len).map fun i=>(DataW.lit (.string (Sx i).data.toList):DataW Unit))[i]?:=by rw[hx]
  rw[List.getElem?_map,List.getElem?_map,gG hi,gG (by simpa[hlen] using hi)] at h1;simp only[Option.map_some,Option.some.injEq,DataW.lit.injEq,Lit.string.injEq,List.getElem_range] at h1;have h2:=Array.toList_inj.1 h1;cases h3:ss[i] with|mk d1=>cases h4:Sx i with|mk d2=>rw[h3,h4] at h2;simp only at h2;rw[h2]
 have HJ:=World.var?_cell hg hv 0;rw[Array.eq_one_of_toList Dt] at HJ;have HJ:W.cell? ⟨g,0,none⟩=some (.slice (some a) len cap):=by simpa using HJ
 have ha:=TG (GV 0 oM).1;have ea:a=⟨a.block,a.off,none⟩:=ha.1;refine .P _ g 0 (fun _=> .slice (some a) len cap) (hU _) (TG HJ).2 ?_ (by intro j hj;simp at hj;subst hj;rfl) ?_
 .intro j hj;simp at hj;subst hj;exact HJ
 intro j hj;simp at hj;subst hj;have:=VD.sl (w:=W) (U:=U) (ss.map S) false a.block a.off cap 1 (fun i=> .string (Sx i)) (hU _) ha.2 (by simp[hlen,F4]) hm sM oM
  (by intro i hi;simp[AV.cells,S]) (by
   intro j hj;rw[List.length_map,hlen,Nat.mul_one] at hj;have h2:=(GV j oM).1;rw[ea,add_plain] at h2;exact h2) (by
   intro i hi j hj;simp only[List.getElem_map,S,AV.cells] at hj ⊢;simp at hj;subst hj;rfl) (by
   intro i hi j hj;simp only[List.getElem_map,S,AV.cells] at hj ⊢;simp at hj;subst hj;simp only[List.getElem_cons_zero,Nat.mul_one,Nat.add_zero];rw[hS i vv5];exact .lit _ rfl)
 rw[List.length_map,hlen] at this;rw[<-ea] at this;exact this
end
end Go.Sym
