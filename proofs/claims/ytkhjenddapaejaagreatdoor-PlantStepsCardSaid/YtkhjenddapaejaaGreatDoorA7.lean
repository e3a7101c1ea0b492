/- Lemmas towards plantSteps_card: no conditions of their own beyond those that each one states. -/
import Derived.Test.YtkhjenddapaejaaGreatDoorA6
set_option linter.all false
set_option linter.unusedSimpArgs false
set_option linter.unusedVariables false
set_option linter.deprecated false
namespace Go.Proofs.YtkhjenddapaejaaGreatDoor
open Go Go.Sym Go.Deep Go.ChangeShapes Go.WideShapes Go.ChangeAt Go.RowKit
theorem Tryz.own:ownKnob Tryz.prog.godebug=none:=by kernel_rfl
theorem Tryz.laidOut:laidOutB Tryz.prog=true:=by kernel_rfl
theorem g0:Tryz.prog.globalNamed "baggage/baggageref07.words" =some 0:=by kernel_rfl
theorem g1:Tryz.prog.globalNamed "math/bits.deBruijn32tab" =some 1:=by kernel_rfl
theorem g2:Tryz.prog.globalNamed "math/bits.deBruijn64tab" =some 2:=by kernel_rfl
theorem gt0:(Tryz.prog.globals[0]?).map (·.type)=some 101:=by kernel_rfl
theorem gt1:(Tryz.prog.globals[1]?).map (·.type)=some 189:=by kernel_rfl
theorem gt2:(Tryz.prog.globals[2]?).map (·.type)=some 190:=by kernel_rfl
theorem words_eq:(Rows.laid_baggage_baggageref07_words:DataW Unit)= .slice (wordsB.map fun z=> .lit (.string z.data.toList)) []:=by kernel_rfl
theorem d32_eq:(Rows.laid_math_bits_deBruijn32tab:DataW Unit)= .agg (d32.map fun z=> .lit (.int .u8 z)):=by kernel_rfl
theorem d64_eq:(Rows.laid_math_bits_deBruijn64tab:DataW Unit)= .agg (d64.map fun z=> .lit (.int .u8 z)):=by kernel_rfl
theorem gl_words {W:World} {enc:TypeId×Value->Unit} {fuel g t:Nat} {spare:Nat->Bool} {held:Bool} {cs:Array Value} {p:List MemPlace} (hg:Tryz.prog.globalNamed "baggage/baggageref07.words" =some g) (ht:(Tryz.prog.globals[g]?).map (·.type)=some t)
  (hv:W.var? Tryz.prog "baggage/baggageref07.words" =some cs) (hd:DataW.trod enc Tryz.prog W 0 spare held fuel t cs.toList=some (Rows.laid_baggage_baggageref07_words,p)):VD W (UE env0) (.ptI [.sl (wordsB.map S) false]) (.pointer (some ⟨0,0,none⟩)):=by
 obtain rfl:=Option.some.inj (g0.symm.trans hg)
 obtain rfl:=Option.some.inj (gt0.symm.trans ht)
 rw[words_eq] at hd
 exact laid_strs hg UE_all Tryz.underlying101 Tryz.underlying9 (by kernel_rfl) hv hd (by decide)
theorem gl_32 {W:World} {enc:TypeId×Value->Unit} {fuel g t:Nat} {spare:Nat->Bool} {held:Bool} {cs:Array Value} {p:List MemPlace} (hg:Tryz.prog.globalNamed "math/bits.deBruijn32tab" =some g) (ht:(Tryz.prog.globals[g]?).map (·.type)=some t)
  (hv:W.var? Tryz.prog "math/bits.deBruijn32tab" =some cs) (hd:DataW.trod enc Tryz.prog W 0 spare held fuel t cs.toList=some (Rows.laid_math_bits_deBruijn32tab,p)):VD W (UE env0) (.ptI (d32.map fun z=> .lit (.int .u8 z))) (.pointer (some ⟨1,0,none⟩)):=by
 obtain rfl:=Option.some.inj (g1.symm.trans hg)
 obtain rfl:=Option.some.inj (gt1.symm.trans ht)
 rw[d32_eq] at hd
 exact laid_bytes hg UE_all Tryz.underlying189 Tryz.underlying5 (by kernel_rfl) hv hd (by decide) (by decide)
theorem gl_64 {W:World} {enc:TypeId×Value->Unit} {fuel g t:Nat} {spare:Nat->Bool} {held:Bool} {cs:Array Value} {p:List MemPlace} (hg:Tryz.prog.globalNamed "math/bits.deBruijn64tab" =some g) (ht:(Tryz.prog.globals[g]?).map (·.type)=some t)
  (hv:W.var? Tryz.prog "math/bits.deBruijn64tab" =some cs) (hd:DataW.trod enc Tryz.prog W 0 spare held fuel t cs.toList=some (Rows.laid_math_bits_deBruijn64tab,p)):VD W (UE env0) (.ptI (d64.map fun z=> .lit (.int .u8 z))) (.pointer (some ⟨2,0,none⟩)):=by
 obtain rfl:=Option.some.inj (g2.symm.trans hg)
 obtain rfl:=Option.some.inj (gt2.symm.trans ht)
 rw[d64_eq] at hd
 exact laid_bytes hg UE_all Tryz.underlying190 Tryz.underlying5 (by kernel_rfl) hv hd (by decide) (by decide)
def laidB:List (String×DataW Unit):=[("baggage/baggageref07.words",Rows.laid_baggage_baggageref07_words),("math/bits.deBruijn32tab",Rows.laid_math_bits_deBruijn32tab),("math/bits.deBruijn64tab",Rows.laid_math_bits_deBruijn64tab)]
theorem gok_of {W:World} (h0:VD W (UE env0) (.ptI [.sl (wordsB.map S) false]) (.pointer (some ⟨0,0,none⟩))) (h1:VD W (UE env0) (.ptI (d32.map fun z=> .lit (.int .u8 z))) (.pointer (some ⟨1,0,none⟩)))
  (h2:VD W (UE env0) (.ptI (d64.map fun z=> .lit (.int .u8 z))) (.pointer (some ⟨2,0,none⟩))):GOk tab W (UE env0):=by
 intro g cs hg
 simp only[tab,tabGl,glu] at hg
 split at hg
 ·rename_i e;subst e;cases hg;exact h0
 ·split at hg
  ·rename_i e;subst e;cases hg;exact h1
  ·split at hg
   ·rename_i e;subst e;cases hg;exact h2
   ·cases hg
theorem gok_B {W:World} (h:laidMetH Tryz.prog laidB W):GOk tab W (UE env0):=by
 rw[MakeChecks.laidMetH_plain _ _ _ (by kernel_rfl)] at h
 obtain⟨ps,⟨a0,t0,c0,f0,p0,q0,hg0,ht0,hv0,hd0,⟨a1,t1,c1,f1,p1,q1,hg1,ht1,hv1,hd1,⟨a2,t2,c2,f2,p2,q2,hg2,ht2,hv2,hd2,_,_⟩,_⟩,_⟩,_,_⟩:=h
 exact gok_of (gl_words hg0 ht0 hv0 hd0) (gl_32 hg1 ht1 hv1 hd1) (gl_64 hg2 ht2 hv2 hd2)
set_option maxRecDepth 100000 in
theorem door_B (os:Os) (args:Array Value):laidMetH Tryz.prog laidB ((World.doorLaid Tryz.prog 24 os).forCall (fun _ _=>0) ⟨#[],args,[]⟩).memory:=
 laidMetH_of_parts3 (fuel:=8) (laidMet_of_run' 8 (by kernel_rfl) (by kernel_rfl)) (by kernel_rfl) (by kernel_rfl)
end Go.Proofs.YtkhjenddapaejaaGreatDoor
namespace Go.Sym
open Go Go.Deep Go.ChangeShapes Go.WideShapes Go.ChangeAt Go.RowKit
inductive All2 {α β:Type} (r:α->β->Prop):List α->List β->Prop
 |nil:All2 r [] []
 |cons {a:α} {b:β} {l:List α} {m:List β}:r a b->All2 r l m->All2 r (a::l) (b::m)
def RsApp:List (List AV->Prop)->List AV->Prop
 |[],avs=>avs=[]
 |R::Rs,avs=>∃a b,R a/\RsApp Rs b/\avs=a++b
section
variable {H:Type} {enc:TypeId×Value->H} {P:Program} {W:World} {U:Nat->Prop}
structure CV (W:World) (U:Nat->Prop) (avs:List AV) (cs:List Value):Prop where
 len:avs.length=cs.length
 at_:∀j,j<avs.length->(avs.getD j .bad).one=true/\VD W U (avs.getD j .bad) (cs.getD j undef)
def Rds (enc:TypeId×Value->H) (P:Program) (W:World) (U:Nat->Prop) (t:TypeId) (R:List AV->Prop):Prop:=
 ∀fuel cs x,DataW.trod enc P W 0 (fun _=>true) true fuel t cs=some x->∃avs,R avs/\CV W U avs cs
theorem CV.one {a:AV} {c:Value} (h1:a.one=true) (h2:VD W U a c):CV W U [a] [c]:=
 ⟨rfl,fun j hj=>by
  have:j=0:=by simpa using hj
  subst this;exact⟨h1,h2⟩⟩
theorem CV.app {a b:List AV} {cs ds:List Value} (h1:CV W U a cs) (h2:CV W U b ds):CV W U (a++b) (cs++ds):=by
 have hl1:=h1.len
 refine⟨by rw[List.length_append,List.length_append,h1.len,h2.len],fun j hj=>?_⟩
 rw[List.length_append] at hj
 by_cases h:j<a.length
 ·have:=h1.at_ j h
  simp only[List.getD_eq_getElem?_getD] at this ⊢
  rw[List.getElem?_append_left h,List.getElem?_append_left (by omega)]
  exact this
 ·have:=h2.at_ (j - a.length) (by omega)
  simp only[List.getD_eq_getElem?_getD] at this ⊢
  rw[List.getElem?_append_right (by omega),List.getElem?_append_right (by omega),<-hl1]
  exact this
theorem Rds.mono {t:TypeId} {R R':List AV->Prop} (h:Rds enc P W U t R) (hR:∀avs,R avs->R' avs):Rds enc P W U t R':=fun fuel cs x hx=>by
 obtain⟨avs,h1,h2⟩:=h fuel cs x hx
 exact⟨avs,hR _ h1,h2⟩
theorem Rds.int {t:TypeId} (ht:P.underlying t=some (.int .i64)):Rds enc P W U t (fun avs=>∃n:Int,(-9223372036854775808<=n/\n<=9223372036854775807)/\avs=[I n]):=fun fuel cs x hx=>by
 obtain⟨n,rfl,_,hw⟩:=DataW.trod_int ht hx
 exact⟨_,⟨n,wf_i64 hw,rfl⟩, .one rfl (.lit _ rfl)⟩
theorem Rds.sl {t e:TypeId} {k:Nat} {R:List AV->Prop} (hU:∀b,U b) (ht:P.underlying t=some (.slice e)) (hk:P.cellsOf e=k) (hk0:0<k) (he:Rds enc P W U e R):
  Rds enc P W U t (fun avs=>∃rows:List (List AV),rows.length<=9223372036854775807/\(∀r∈rows,R r)/\avs=[.sl (rows.map .agg) false]):=by
 intro fuel cs x hx
 rcases DataW.trod_slice ht hx with ⟨rfl,_⟩|⟨a,len,cap,elems,rest,n,_,rfl,_,_,hl,hm,hlen,hel,hsp,_⟩
 ·exact⟨_,⟨[],by simp,by simp,rfl⟩, .one rfl (.nil _ _)⟩
 ·obtain⟨hrl,hre⟩:=hsp rfl
  rw[hk] at hel hre
  have key:∀i,i<cap->∃avs ds,(i<len->R avs)/\CV W U avs ds/\ds.length=k/\∀j,j<k->W.cell? ((a.add (i*k)).add j)=ds[j]?:=by
   intro i hi
   have hb:∃y,(W.cells? 0 (a.add (i*k)) k).bind (DataW.trod enc P W 0 (fun _=>true) true n e)=some y:=by
    by_cases h:i<len
    ·rw[hel i h]
     exact⟨_,List.getElem?_eq_getElem (by omega)⟩
    ·have:=hre (i - len) (by omega)
     rw[show len+(i - len)=i by omega] at this
     rw[this]
     exact⟨_,List.getElem?_eq_getElem (by omega)⟩
   obtain⟨y,hy⟩:=hb
   rw[Option.bind_eq_some_iff] at hy
   obtain⟨ds,h1,h2⟩:=hy
   obtain⟨_,h3,h4⟩:=World.cells?_some h1
   obtain⟨avs,h5,h6⟩:=he _ _ _ h2
   exact⟨avs,ds,fun _=>h5,h6,h3,h4⟩
  by_cases h0:cap=0
  ·obtain rfl:len=0:=by omega
   subst h0
   exact⟨_,⟨[],by simp,by simp,rfl⟩, .one rfl (.nil _ _)⟩
  ·have hspot:a=⟨a.block,a.off,none⟩/\a.block<W.heap.size:=by
    obtain⟨_,ds,_,_,hd,hc⟩:=key 0 (by omega)
    have h1:=hc 0 hk0
    rw[List.getElem?_eq_getElem (by omega)] at h1
    have h2:=cell_spot h1
    have e1:(a.add (0*k)).add 0=a:=by rw[Nat.zero_mul];unfold Addr.add;cases a with|mk b o s=>cases s<;>rfl
    rw[e1] at h2
    exact h2
   obtain⟨ea,hsz⟩:=hspot
   have pick:∀i,∃avs:List AV,i<len->R avs/\∃ds,CV W U avs ds/\ds.length=k/\∀j,j<k->W.cell? ⟨a.block,a.off+(i*k+j),none⟩=ds[j]?:=by
    intro i
    by_cases h:i<len
    ·obtain⟨avs,ds,h1,h2,h3,h4⟩:=key i (by omega)
     refine⟨avs,fun _=>⟨h1 h,ds,h2,h3,fun j hj=>?_⟩⟩
     have h5:=h4 j hj
     rw[ea,add_plain,add_plain] at h5
     rw[<-h5]
     show W.cell? ⟨a.block,a.off+(i*k+j),none⟩=W.cell? ⟨a.block,a.off+i*k+j,none⟩
     rw[Nat.add_assoc]
    ·exact⟨[],fun h2=>absurd h2 h⟩
   obtain⟨g,hg⟩:=Classical.axiomOfChoice pick
   have hrow:∀i (hi:i<((List.range len).map g).length),((List.range len).map g)[i]=g i:=fun i hi=>by simp
   have hgl:∀i,i<len->(g i).length=k:=fun i hi=>by
    obtain⟨_,ds,h2,h3,_⟩:=hg i hi
    rw[h2.len,h3]
   refine⟨_,⟨(List.range len).map g,by rw[List.length_map,List.length_range];unfold maxLen at hm;omega,?_,rfl⟩, .one rfl ?_⟩
   ·intro r hr
    obtain⟨i,hi,rfl⟩:=List.mem_map.1 hr
    exact(hg i (List.mem_range.1 hi)).1
   ·have hlz:((List.range len).map g |>.map AV.agg).length=len:=by simp
    have:=VD.sl (w:=W) (U:=U) ((List.range len).map g |>.map AV.agg) false a.block a.off cap k (fun j=>(W.cell? ⟨a.block,a.off+j,none⟩).getD undef) (hU _) hsz (by rw[hlz];exact hl) hm (by simp) hk0
     (by
      intro i hi
      rw[hlz] at hi
      simp only[List.getElem_map,List.getElem_range,AV.cells]
      exact hgl i hi)
     (by
      intro j hj
      rw[hlz] at hj
      have hi:j / k<len:=Nat.div_lt_of_lt_mul (by rwa[Nat.mul_comm] at hj)
      obtain⟨_,ds,_,h3,h4⟩:=hg (j / k) hi
      have h5:=h4 (j % k) (Nat.mod_lt _ hk0)
      rw[Nat.div_add_mod',List.getElem?_eq_getElem (by rw[h3];exact Nat.mod_lt _ hk0)] at h5
      rw[h5];rfl)
     (by
      intro i hi j hj
      rw[hlz] at hi
      simp only[List.getElem_map,List.getElem_range,AV.cells] at hj ⊢
      obtain⟨_,ds,h2,h3,_⟩:=hg i hi
      have:=(h2.at_ j hj).1
      rwa[List.getD_eq_getElem?_getD,List.getElem?_eq_getElem hj] at this)
     (by
      intro i hi j hj
      rw[hlz] at hi
      simp only[List.getElem_map,List.getElem_range,AV.cells] at hj ⊢
      obtain⟨_,ds,h2,h3,h4⟩:=hg i hi
      have h5:=(h2.at_ j hj).2
      rw[List.getD_eq_getElem?_getD,List.getElem?_eq_getElem hj] at h5
      have hjk:j<k:=by rw[hgl i hi] at hj;exact hj
      have h6:=h4 j hjk
      rw[List.getElem?_eq_getElem (by omega)] at h6
      rw[h6]
      rw[List.getD_eq_getElem?_getD,List.getElem?_eq_getElem (by omega)] at h5
      exact h5)
    rw[hlz] at this
    rw[<-ea] at this
    exact this
theorem struct_go {n:Nat} {cs:List Value}:∀(fl:List Field) (Rs:List (List AV->Prop)) (o:Nat),All2 (fun(f:Field) R=>Rds enc P W U f.type R) fl Rs->
  (∀f∈fl,∃x,DataW.trod enc P W 0 (fun _=>true) true n f.type ((cs.drop f.offset).take (P.cellsOf f.type))=some x)->
  (fl.map (·.offset)=(List.range fl.length).map fun i=>o+((fl.take i).map fun f=>P.cellsOf f.type).sum)->o+(fl.map fun f=>P.cellsOf f.type).sum=cs.length->
  ∃avs,RsApp Rs avs/\CV W U avs (cs.drop o)
 |[],_,o, .nil,_,_,hsum=>by
  refine⟨[],rfl,?_⟩
  have:cs.drop o=[]:=List.drop_eq_nil_of_le (by simp at hsum;omega)
  rw[this]
  exact⟨rfl,fun j hj=>absurd hj (Nat.not_lt_zero _)⟩
 |f::fl,R::Rs,o, .cons h1 h2,ht,ho,hsum=>by
  have hof:f.offset=o:=by
   have:=congrArg (fun l=>l.head?) ho
   simpa[List.range_succ_eq_map] using this
  obtain⟨x,hx⟩:=ht f List.mem_cons_self
  obtain⟨avs,ha,hc⟩:=h1 _ _ _ hx
  have hsum':o+P.cellsOf f.type+(fl.map fun f=>P.cellsOf f.type).sum=cs.length:=by
   rw[List.map_cons,List.sum_cons] at hsum;omega
  have ho':fl.map (·.offset)=(List.range fl.length).map fun i=>o+P.cellsOf f.type+((fl.take i).map fun f=>P.cellsOf f.type).sum:=by
   have:=congrArg List.tail ho
   simp only[List.map_cons,List.tail_cons,List.length_cons,List.range_succ_eq_map,List.map_map] at this
   rw[this]
   refine List.map_congr_left fun i _=>?_
   simp only[Function.comp,List.take_succ_cons,List.map_cons,List.sum_cons]
   omega
  obtain⟨bvs,hb,hd⟩:=struct_go fl Rs (o+P.cellsOf f.type) h2 (fun g hg=>ht g (List.mem_cons_of_mem _ hg)) ho' hsum'
  refine⟨avs++bvs,⟨avs,bvs,ha,hb,rfl⟩,?_⟩
  have:=hc.app hd
  rw[hof,<-List.drop_drop,List.take_append_drop] at this
  exact this
theorem Rds.struct {t:TypeId} {fs:Array Field} (ht:P.underlying t=some (.struct fs)) {Rs:List (List AV->Prop)} (hR:All2 (fun(f:Field) R=>Rds enc P W U f.type R) fs.toList Rs)
  (ho:(fs.toList.map (·.offset)=(List.range fs.toList.length).map fun i=>0+((fs.toList.take i).map fun f=>P.cellsOf f.type).sum)) (hs:(fs.toList.map fun f=>P.cellsOf f.type).sum=P.cellsOf t):
  Rds enc P W U t (RsApp Rs):=by
 intro fuel cs x hx
 obtain⟨xs,n,_,_,hl,hxl,hf⟩:=DataW.trod_struct ht hx
 have:=struct_go (n:=n) (cs:=cs) fs.toList Rs 0 hR (fun f hfm=>by
  obtain⟨i,hi,rfl⟩:=List.getElem_of_mem hfm
  have h1:=hf i fs.toList[i] (by simp[Array.getElem?_eq_getElem (by simpa using hi)])
  rw[h1]
  exact⟨_,List.getElem?_eq_getElem (by simpa[hxl] using hi)⟩) ho (by rw[hs,hl];omega)
 rwa[List.drop_zero] at this
theorem arg_rd_slice {t e:TypeId} {v:Value} {d:DataW H} {ps:List MemPlace} {R:List AV->Prop} (ht:P.underlying t=some (.slice e)) (hval:Value.okWide P W .any 0 t v) (hd:DataW.Trod enc P W 0 (fun _=>true) true t v d ps) (h:Rds enc P W U t R):
  ∃avs,R avs/\CV W U avs [v]:=by
 obtain⟨a,len,cap,rfl⟩:=okWide_slice ht hval
 obtain⟨fuel,hf⟩:=hd
 exact h _ _ _ hf
end
end Go.Sym
