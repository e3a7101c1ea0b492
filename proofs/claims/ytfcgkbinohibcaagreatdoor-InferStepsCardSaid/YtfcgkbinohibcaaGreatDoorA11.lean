/- Lemmas towards inferSteps_card: no conditions of their own. -/
import Derived.Test.YtfcgkbinohibcaaGreatDoorA10
import Derived.Lay
import Derived.HandedShaped
set_option linter.all false
namespace Go.Proofs.YtfcgkbinohibcaaGreatDoor
open Go Go.Sym Go.Proofs.Tryz
open Go.Deep Go.ChangeShapes Go.WideShapes Go.ChangeAt Go.RowKit
section
variable{P:Program}{W:World}{t e:TypeId}
def aoo{g fuel n:Nat}{nm:String}{ls:List Lit}{cs:Array Value}{p:List MemPlace}{enc:TypeId×Value->Unit}{spare:Nat->Bool}{held:Bool}{val:Lit->Value}(hg:P.globalNamed nm=some g)(ht:P.underlying t=some (.array n e))(hc:P.cellsOf e=1)(uv:P.cellsOf t=n)(wE:∀(m:Nat) (xs:List Value) (x:DataW Unit×List MemPlace) (l:Lit),DataW.trod enc P W 0 spare held m e xs=some x->x.1=.lit l->xs=[val l])(hv:W.var? P nm=some cs)(hd:DataW.trod enc P W 0 spare held fuel t cs.toList=some (.agg (ls.map .lit),p))(hn:ls.length=n):cs=(ls.map val).toArray/\∃t' fz,W.heap[g]?=some (.cells cs t' fz):=by
 obtain⟨xs,m,_,ex,iS,hl,qp⟩:=DataW.trod_array ht hd;rw[uv]at iS;have e3:(xs.map (·.1))=ls.map .lit:=(DataW.agg.inj (Prod.mk.inj ex).1).symm;refine⟨?_,?_⟩
 .apply We.1
  apply i7
  .simp at iS ⊢;omega
  intro i h1 h2;simp only[E3]at h2;have hE:=qp i oM;rw[hc,B3,gG oM]at hE;have e4:(xs.map (·.1))[i]?=(ls.map fun n=>(DataW.lit n:DataW Unit))[i]?:=by rw[e3]
  rw[YO,YO,gG (by omega:i<xs.length),gG H0]at e4;simp only[rL,Kh]at e4;have h5:=wE m _ _ _ hE e4;have h6:((cs.toList.drop i).take 1)[0]?=some (val (ls[i]' H0)):=by rw[h5];rfl
  have h7:cs.toList[i]?=some (val (ls[i]' H0)):=by simpa using h6
  rw[gG h1]at h7;simpa using h7
 unfold World.var? at hv;rw[hg]at hv;simp only[iD]at hv;split at hv
 ·rename_i F8 t' fz hh;cases hv;exact⟨_,_,hh⟩
 cases hv
def asc{enc:TypeId×Value->Unit}{spare:Nat->Bool}{held:Bool}{k:IntKind}(he:P.underlying e=some (.int k))(m:Nat)(xs:List Value)(x:DataW Unit×List MemPlace)(l:Lit)(h:DataW.trod enc P W 0 spare held m e xs=some x)(hl:x.1=.lit l):xs=[l.value]:=by obtain⟨s,rfl,rfl,_⟩:=sP he h;simp only[AG]at hl;subst hl;simp[Lit.value]
def ag4{U:Nat->Prop}(hU:∀b,U b){g:Nat}{cs:Array Value}{t':TypeId}{fz:Az}{vs:List AV}(hh:W.heap[g]?=some (.cells cs t' fz))(hl:vs.length=cs.size)(h1:∀j (hj:j<vs.length),(vs[j]).one=true)(h2:∀j (hj:j<vs.length),VD W U vs[j] (cs[j]'oM)):VD W U (.P vs) (.pointer (some ⟨g,0,none⟩)):=by
 refine .P _ g 0 (fun i=>cs.getD i undef) (hU _) (DH.1 hh).1 ?_ ?_ ?_
 ·intro j hj;rw[cy];simp only[World.cell?,hh];rw[LS oM,gA,LS oM];rfl
 ·intro j hj;exact h1 j hj
 intro j hj;have:=h2 j hj;rw[gA,LS oM];exact this
end
def Tryz.own:ownKnob prog.godebug=none:=kR
def Tryz.laidOut:laidOutB prog=true:=kR
def g0:prog.globalNamed "baggage/baggageref07.words" =some 0:=kR
def g1:prog.globalNamed "math/bits.deBruijn32tab" =some 2:=kR
def g2:prog.globalNamed "math/bits.deBruijn64tab" =some 3:=kR
def g3:prog.globalNamed "internal/strconv.uint64pow10" =some 1:=kR
def ah8:(prog.globals[0]?).map (·.type)=some 173:=kR
def aqG:(prog.globals[2]?).map (·.type)=some 303:=kR
def ac0:(prog.globals[3]?).map (·.type)=some 304:=kR
def aiO:(prog.globals[1]?).map (·.type)=some 299:=kR
def ake:(Rows.laid_baggage_baggageref07_words:DataW Unit)=.slice (eQ.map fun z=>.lit (.string z.data.toList)) []:=kR
def abo:(Rows.laid_math_bits_deBruijn32tab:DataW Unit)=.agg (Au.map fun z=>.lit (.int .u8 z)):=kR
def asM:(Rows.laid_math_bits_deBruijn64tab:DataW Unit)=.agg (Nb.map fun z=>.lit (.int .u8 z)):=kR
def ad3:(Rows.laid_internal_strconv_uint64pow10:DataW Unit)=.agg ((CT.map fun z=>Lit.int .u64 z).map .lit):=kR
def anR {W:World} {enc:TypeId×Value->Unit} {fuel g t:Nat} {spare:Nat->Bool} {held:Bool} {cs:Array Value} {p:List MemPlace} (hg:prog.globalNamed "baggage/baggageref07.words" =some g) (ht:(prog.globals[g]?).map (·.type)=some t)
  (hv:W.var? prog "baggage/baggageref07.words" =some cs) (hd:DataW.trod enc prog W 0 spare held fuel t cs.toList=some (Rows.laid_baggage_baggageref07_words,p)):VD W (UE lB) (.P [.sl (eQ.map S) false]) (.pointer (some ⟨0,0,none⟩)):=by
 obtain rfl:=Qz (g0.symm.trans hg);obtain rfl:=Qz (ah8.symm.trans ht);rw[ake]at hd;exact acg hg jM underlying173 underlying9 kR hv hd dM
def aq5 {W:World} {enc:TypeId×Value->Unit} {fuel g t:Nat} {spare:Nat->Bool} {held:Bool} {cs:Array Value} {p:List MemPlace} (hg:prog.globalNamed "math/bits.deBruijn32tab" =some g) (ht:(prog.globals[g]?).map (·.type)=some t)
  (hv:W.var? prog "math/bits.deBruijn32tab" =some cs) (hd:DataW.trod enc prog W 0 spare held fuel t cs.toList=some (Rows.laid_math_bits_deBruijn32tab,p)):VD W (UE lB) (.P (Au.map fun z=>.lit (.int .u8 z))) (.pointer (some ⟨2,0,none⟩)):=by
 obtain rfl:=Qz (g1.symm.trans hg);obtain rfl:=Qz (aqG.symm.trans ht);rw[abo]at hd;exact FM hg jM underlying303 underlying5 kR hv hd dM dM
def amn {W:World} {enc:TypeId×Value->Unit} {fuel g t:Nat} {spare:Nat->Bool} {held:Bool} {cs:Array Value} {p:List MemPlace} (hg:prog.globalNamed "math/bits.deBruijn64tab" =some g) (ht:(prog.globals[g]?).map (·.type)=some t)
  (hv:W.var? prog "math/bits.deBruijn64tab" =some cs) (hd:DataW.trod enc prog W 0 spare held fuel t cs.toList=some (Rows.laid_math_bits_deBruijn64tab,p)):VD W (UE lB) (.P (Nb.map fun z=>.lit (.int .u8 z))) (.pointer (some ⟨3,0,none⟩)):=by
 obtain rfl:=Qz (g2.symm.trans hg);obtain rfl:=Qz (ac0.symm.trans ht);rw[asM]at hd;exact FM hg jM underlying304 underlying5 kR hv hd dM dM
def ai1 {W:World} {enc:TypeId×Value->Unit} {fuel g t:Nat} {cs:Array Value} {p:List MemPlace} (hg:prog.globalNamed "internal/strconv.uint64pow10" =some g) (ht:(prog.globals[g]?).map (·.type)=some t)
  (hv:W.var? prog "internal/strconv.uint64pow10" =some cs) (hd:DataW.trod enc prog W 0 (fun _=>true) false fuel t cs.toList=some (Rows.laid_internal_strconv_uint64pow10,p)):∃t' fz,W.heap[1]?=some (.cells (CT.map fun z=>Value.int .u64 z).toArray t' fz):=by
 obtain rfl:=Qz (g3.symm.trans hg);obtain rfl:=Qz (aiO.symm.trans ht);rw[ad3]at hd;obtain⟨LF,t',fz,hh⟩:=aoo (val:=Lit.value) (n:=20) g3 (show prog.underlying 299=some (.array 20 242) by kernel_rfl) kR kR (asc (k:=.u64) kR) hv hd kR;subst LF;exact⟨t',fz,hh⟩
def Q9:List (String×DataW Unit):=[("baggage/baggageref07.words",Rows.laid_baggage_baggageref07_words),("math/bits.deBruijn32tab",Rows.laid_math_bits_deBruijn32tab),("math/bits.deBruijn64tab",Rows.laid_math_bits_deBruijn64tab),("internal/strconv.uint64pow10",Rows.laid_internal_strconv_uint64pow10)]
def agy {W:World} (h0:VD W (UE lB) (.P [.sl (eQ.map S) false]) (.pointer (some ⟨0,0,none⟩))) (h6:∃t' fz,W.heap[1]?=some (.cells (CT.map fun z=>Value.int .u64 z).toArray t' fz)) (h1:VD W (UE lB) (.P (Au.map fun z=>.lit (.int .u8 z))) (.pointer (some ⟨2,0,none⟩)))
  (h2:VD W (UE lB) (.P (Nb.map fun z=>.lit (.int .u8 z))) (.pointer (some ⟨3,0,none⟩))):XO J9 W (UE lB):=by
 obtain⟨t6,fz6,h6⟩:=h6;refine⟨?_,?_⟩
 .intro g cs hg;simp only[J9,Ye,Sb]at hg;split at hg
  .rename_i e;subst e;cases hg;exact h0
  split at hg
  .rename_i e;subst e;cases hg;refine ag4 jM h6 sM (fun j hj=>by simp[AV.one]) fun j hj=>?_;simp only[nw,List.getElem_toArray];exact .lit _ rfl
  split at hg
  .rename_i e;subst e;cases hg;exact h1
  split at hg
  .rename_i e;subst e;cases hg;exact h2
  cases hg
 intro p hp;simp only[J9,Mj,iT]at hp;subst hp;exact⟨jM _,(DH.1 h6).1,t6,fz6,h6⟩
def aqR {W:World} (_hs:W.ShapedOpen prog) (h:laidMetH prog Q9 W):XO J9 W (UE lB):=by rw[MakeChecks.laidMetH_plain _ _ _ kR]at h;obtain⟨ps,⟨a0,t0,c0,f0,p0,q0,Q_,WP,IU,FF,⟨a1,t1,c1,f1,p1,q1,wO,Ll,nQ,al,⟨a2,t2,c2,f2,p2,q2,Jg,tM,oU,SA,⟨a3,t3,c3,f3,p3,q3,Gc,UU,yR,IN,_,_⟩,_⟩,_⟩,_⟩,_,_⟩:=h;exact agy (anR Q_ WP IU FF) (ai1 Gc UU yR IN) (aq5 wO Ll nQ al) (amn Jg tM oU SA)
set_option maxRecDepth 100000 in
def asm (os:Os) (args:Array Value):laidMetH prog Q9 ((World.laidAll prog os Q9).forCall (fun _ _=>0) ⟨#[],args,[]⟩).memory:=by rw[MakeChecks.laidMetH_plain _ _ _ kR];exact laidMet_laidAll _ kR kR
section
variable {H:Type} {enc:TypeId×Value->H}
def acF {a:Assume} {C:Checked} {os:Os} {f:FuncId} {fn:Func} {s:ChangeSpec} {conds:List PathCond} {X:World->Prop}
  (hX:∀w w':World,w.heap=w'.heap->X w->X w')
  (own:ownKnob C.prog.godebug=none) (started:os.Started) (noInit:C.prog.inits.idxOf? f=none) (xS:C.prog.funcs[f]?=some fn)
  (wit:∃(w:World) (tape:Tape) (i:Input),w.os=os/\(w.forCall tape i).Shaped C.prog/\i.vars=[]/\Input.okWide C.prog (w.forCall tape i) .any w.heap.size f i/\
   ((s.pre enc C.prog fn conds false (w.forCall tape i).memory i.args/\X (w.forCall tape i).memory)/\sizedMet enc C.prog fn (OpenSpec.ofChange s) false (w.forCall tape i).memory i.args)/\a.holds C.prog (lone (Frame.enter C.prog f i.args .normal) [] (w.forCall tape i)))
  (law:∀(W:World) (base:Nat) (args:Array Value) (ds gs:List (DataW H)) (before:List MemPlace),W.ShapedOpen C.prog->X W->
   (∀(j:Nat) t v,fn.params[j]?=some t->args[j]?=some v->Value.okWide C.prog W .any base t v)->
   DataW.Whole enc C.prog fn.params.toList s.vars false W args.toList ds gs before->
   Calls C.prog f args W fun e W'=>∃v,e=.returned v/\s.post enc C.prog fn false true false false W args v W'):
  ReturnsInHanded a C os f .any (fun w args=>(s.pre enc C.prog fn conds false w args/\X w)/\sizedMet enc C.prog fn (OpenSpec.ofChange s) false w args) (s.post enc C.prog fn false true false false):=by
 refine returnsInHanded_of_calls own started noInit wit fun w tape i _ IY _ sL ai8 _=>?_;obtain⟨_,_,_,lP,agh,_,_,_,_,pA⟩:=sL;obtain rfl:lP=fn:=Qz (agh.symm.trans xS);obtain⟨⟨⟨ds,gs,before,hw,_⟩,hx⟩,_⟩:=ai8;refine(law (w.forCall tape i) w.heap.size i.args ds gs before IY (hX _ _ vz hx) pA (DataW.Whole.of_heap (w':=w.forCall tape i) vz hw)).mono ?_;rintro e W' ⟨v,rfl,hp⟩;exact ChangeSpec.post_blind hp
end
end Go.Proofs.YtfcgkbinohibcaaGreatDoor
namespace Go.Sym
open Go Go.Deep Go.ChangeShapes Go.WideShapes Go.ChangeAt Go.RowKit
inductive jN {α β:Type} (r:α->β->Prop):List α->List β->Prop
 |nil:jN r [] []|cons {a:α} {b:β} {l:List α} {m:List β}:r a b->jN r l m->jN r (a::l) (b::m)
def yH:List (List AV->Prop)->List AV->Prop
 |[],avs=>avs=[]|R::Rs,avs=>∃a b,R a/\yH Rs b/\avs=a++b
section
variable {H:Type} {enc:TypeId×Value->H} {P:Program} {W:World} {U:Nat->Prop}
structure CV (W:World) (U:Nat->Prop) (avs:List AV) (cs:List Value):Prop where
 len:avs.length=cs.length
 at_:∀j,j<avs.length->(avs.getD j .bad).one=true/\VD W U (avs.getD j .bad) (cs.getD j undef)
def Kv (enc:TypeId×Value->H) (P:Program) (W:World) (U:Nat->Prop) (t:TypeId) (R:List AV->Prop):Prop:=
 ∀fuel cs x,DataW.trod enc P W 0 (fun _=>true) true fuel t cs=some x->∃avs,R avs/\CV W U avs cs
def CV.one {a:AV} {c:Value} (h1:a.one=true) (h2:VD W U a c):CV W U [a] [c]:=
 ⟨rfl,fun j hj=>by
  have:j=0:=Ou;subst this;exact⟨h1,h2⟩⟩
def CV.app {a b:List AV} {cs ds:List Value} (h1:CV W U a cs) (h2:CV W U b ds):CV W U (a++b) (cs++ds):=by
 have IQ:=h1.len;refine⟨by rw[aL,aL,h1.len,h2.len],fun j hj=>?_⟩;rw[aL]at hj;by_cases h:j<a.length
 .have:=h1.at_ j h;simp only[gE]at this ⊢;rw[fd h,fd oM];exact this
 have:=h2.at_ (j-a.length) oM;simp only[gE]at this ⊢;rw[Ga oM,Ga oM,<-IQ];exact this
def Kv.mono {t:TypeId} {R R':List AV->Prop} (h:Kv enc P W U t R) (hR:∀avs,R avs->R' avs):Kv enc P W U t R':=fun fuel cs x hx=>by obtain⟨avs,h1,h2⟩:=h fuel cs x hx;exact⟨avs,hR _ h1,h2⟩
def Kv.int {t:TypeId} (ht:P.underlying t=some (.int .i64)):Kv enc P W U t (fun avs=>∃n:Int,(-9223372036854775808<=n/\n<=9223372036854775807)/\avs=[I n]):=fun fuel cs x hx=>by obtain⟨n,rfl,_,hw⟩:=sP ht hx;exact⟨_,⟨n,pJ hw,rfl⟩,.one rfl (.lit _ rfl)⟩
def Kv.str {t:TypeId} (ht:P.underlying t=some .string):Kv enc P W U t (fun avs=>∃s:ByteArray,s.size<=maxLen/\avs=[S s]):=fun fuel cs x hx=>by obtain⟨s,rfl,_,hs⟩:=DataW.trod_string ht hx;exact⟨_,⟨s,hs,rfl⟩,.one rfl (.lit _ rfl)⟩
theorem eM {n:Nat} {cs:List Value}:∀(fl:List Field) (Rs:List (List AV->Prop)) (o:Nat),jN (fun(f:Field) R=>Kv enc P W U f.type R) fl Rs->
  (∀f∈fl,∃x,DataW.trod enc P W 0 (fun _=>true) true n f.type ((cs.drop f.offset).take (P.cellsOf f.type))=some x)->
  (fl.map (·.offset)=(List.range fl.length).map fun i=>o+((fl.take i).map fun f=>P.cellsOf f.type).sum)->o+(fl.map fun f=>P.cellsOf f.type).sum=cs.length->
  ∃avs,yH Rs avs/\CV W U avs (cs.drop o)
 |[],_,o,.nil,_,_,jS=>by refine⟨[],rfl,?_⟩;have:cs.drop o=[]:=Db (by simp at jS;omega);rw[this];exact⟨rfl,fun j hj=>absurd hj (nZ _)⟩|f::fl,R::Rs,o,.cons h1 h2,ht,ho,jS=>by
  have EO:f.offset=o:=by have:=rD (fun l=>l.head?) ho;simpa[oZ] using this
  obtain⟨x,hx⟩:=ht f mS;obtain⟨avs,ha,hc⟩:=h1 _ _ _ hx;have aeQ:o+P.cellsOf f.type+(fl.map fun f=>P.cellsOf f.type).sum=cs.length:=by rw[b_,List.sum_cons]at jS;omega
  have X1:fl.map (·.offset)=(List.range fl.length).map fun i=>o+P.cellsOf f.type+((fl.take i).map fun f=>P.cellsOf f.type).sum:=by have:=rD List.tail ho;simp only[b_,Wf,dO,oZ,R8]at this;rw[this];refine zT fun i _=>?_;simp only[Function.comp,dS,b_,List.sum_cons];omega
  obtain⟨bvs,hb,hd⟩:=eM fl Rs (o+P.cellsOf f.type) h2 (fun g hg=>ht g (mC _ hg)) X1 aeQ;refine⟨avs++bvs,⟨avs,bvs,ha,hb,rfl⟩,?_⟩;have:=hc.app hd;rw[EO,<-List.drop_drop,pH]at this;exact this
def Kv.struct {t:TypeId} {fs:Array Field} (ht:P.underlying t=some (.struct fs)) {Rs:List (List AV->Prop)} (hR:jN (fun(f:Field) R=>Kv enc P W U f.type R) fs.toList Rs)
  (ho:(fs.toList.map (·.offset)=(List.range fs.toList.length).map fun i=>0+((fs.toList.take i).map fun f=>P.cellsOf f.type).sum)) (hs:(fs.toList.map fun f=>P.cellsOf f.type).sum=P.cellsOf t):
  Kv enc P W U t (yH Rs):=by
 intro fuel cs x hx;obtain⟨xs,n,_,_,hl,xE,hf⟩:=DataW.trod_struct ht hx;have:=eM (n:=n) (cs:=cs) fs.toList Rs 0 hR (fun f hfm=>by
  obtain⟨i,hi,rfl⟩:=G_ hfm;have h1:=hf i fs.toList[i] (by simp[LS Ks]);rw[h1];exact⟨_,gG (by simpa[xE] using hi)⟩) ho (by rw[hs,hl];omega)
 rwa[RH]at this
theorem aop {t:TypeId} {v:Value} {d:DataW H} {ps:List MemPlace} {R:List AV->Prop} (hk:P.cellsOf t≠1) (hc:∀fuel cs x,DataW.trod enc P W 0 (fun _=>true) true fuel t cs=some x->cs.length=P.cellsOf t) (hd:DataW.Trod enc P W 0 (fun _=>true) true t v d ps) (h:Kv enc P W U t R):
  ∃avs,R avs/\VD W U (.agg avs) v:=by
 obtain⟨fuel,hf⟩:=hd;obtain⟨avs,h1,h2⟩:=h _ _ _ hf;have hl:=hc _ _ _ hf;refine⟨avs,h1,?_⟩;cases v with
 |agg cs=>
  refine .agg _ _ (by rw[h2.len];simp[Value.cells]) (fun i hi=>?_) (fun i hi=>?_)
  .have:=(h2.at_ i hi).1
   rwa[gE,gG hi]at this
  have:=(h2.at_ i hi).2;rw[gE,gG hi]at this;simpa[Value.cells,gA] using this
 |_=>exact absurd hl (fun h=>hk (by rw[<-h];rfl))
end
end Go.Sym
namespace Go.Proofs.YtfcgkbinohibcaaGreatDoor
open Go Go.Sym Go.Proofs.Tryz
open Go.Deep Go.ChangeShapes Go.WideShapes Go.ChangeAt Go.RowKit
section
variable {H:Type} {enc:TypeId×Value->H} {W:World}
def ap6:Kv enc prog W (UE lB) 4 (fun avs=>∃b:Bool,avs=[B b]):=fun fuel cs x hx=>by obtain⟨b,rfl,_⟩:=DataW.trod_bool underlying4 hx;exact⟨_,⟨b,rfl⟩,.one rfl (.lit _ rfl)⟩
set_option maxRecDepth 100000 in
def ann:Kv enc prog W (UE lB) 65 (fun avs=>∃x:Uq,x.rd.length<=9223372036854775807/\avs=[I x.dv,B x.sn,S (strOf x.rd)]):=
 (Kv.struct underlying65 (.cons (Kv.int underlying3) (.cons ap6 (.cons (Kv.str underlying9) .nil))) kR kR).mono fun avs h=>by
  obtain⟨_,_,⟨a,_,rfl⟩,⟨_,_,⟨b,rfl⟩,⟨_,_,⟨s,hs,rfl⟩,rfl,rfl⟩,rfl⟩,rfl⟩:=h;have e:strOf s.data.toList=s:=by cases s;rfl
  refine⟨⟨a,b,s.data.toList⟩,?_,by rw[e];rfl⟩;have h1:s.data.toList.length=s.size:=rfl;simp only;rw[h1];unfold maxLen at hs;omega
set_option maxRecDepth 100000 in
def acd {v:Value} {d:DataW H} {ps:List MemPlace} (hd:DataW.Trod enc prog W 0 (fun _=>true) true 65 v d ps):∃x:Uq,x.rd.length<=9223372036854775807/\VD W (UE lB) x.av v:=by obtain⟨avs,⟨x,h1,rfl⟩,hv⟩:=aop (t:=65) (by rw[show prog.cellsOf 65=3 by kernel_rfl];decide) (fun fuel cs x hx=>by obtain⟨_,_,_,_,h,_⟩:=DataW.trod_struct underlying65 hx;exact h) hd ann;exact⟨x,h1,hv⟩
end
end Go.Proofs.YtfcgkbinohibcaaGreatDoor
