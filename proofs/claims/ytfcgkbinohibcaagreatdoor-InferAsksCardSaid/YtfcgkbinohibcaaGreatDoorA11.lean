/- Lemmas towards inferAsks_card: no conditions of their own. -/
import Derived.Test.YtfcgkbinohibcaaGreatDoorA10
import Derived.Lay
import Derived.HandedShaped
set_option linter.all false
namespace Go.Proofs.YtfcgkbinohibcaaGreatDoor
open Go Go.Sym Go.Proofs.Tryz
open Go.Deep Go.ChangeShapes Go.WideShapes Go.ChangeAt Go.RowKit
section
variable {P:Program} {W:World} {t e:TypeId}
theorem yH {g fuel n:Nat} {nm:String} {ls:List Lit} {cs:Array Value} {p:List MemPlace} {enc:TypeId×Value->Unit} {spare:Nat->Bool} {held:Bool} {val:Lit->Value} (hg:P.globalNamed nm=some g) (ht:P.underlying t=some (.array n e)) (hc:P.cellsOf e=1) (H6:P.cellsOf t=n)
  (Cq:∀(m:Nat) (xs:List Value) (x:DataW Unit×List MemPlace) (l:Lit),DataW.trod enc P W 0 spare held m e xs=some x->x.1= .lit l->xs=[val l])
  (hv:W.var? P nm=some cs) (hd:DataW.trod enc P W 0 spare held fuel t cs.toList=some (.agg (ls.map .lit),p)) (hn:ls.length=n):cs=(ls.map val).toArray/\∃t' fz,W.heap[g]?=some (.cells cs t' fz):=by
 obtain⟨xs,m,_,ex,Cy,hl,AJ⟩:=DataW.trod_array ht hd;rw[H6] at Cy;have e3:(xs.map (·.1))=ls.map .lit:=(DataW.agg.inj (Prod.mk.inj ex).1).symm;refine⟨?_,?_⟩
 .apply Array.toList_inj.1
  apply List.ext_getElem
  .simp at Cy ⊢;omega
  intro i h1 h2;simp only[List.length_map] at h2;have hE:=AJ i oM;rw[hc,Nat.mul_one,gG oM] at hE;have e4:(xs.map (·.1))[i]?=(ls.map fun n=>(DataW.lit n:DataW Unit))[i]?:=by rw[e3]
  rw[List.getElem?_map,List.getElem?_map,gG (by omega:i<xs.length),gG vz7] at e4;simp only[Option.map_some,Option.some.injEq] at e4;have h5:=Cq m _ _ _ hE e4;have h6:((cs.toList.drop i).take 1)[0]?=some (val (ls[i]' vz7)):=by rw[h5];rfl
  have h7:cs.toList[i]?=some (val (ls[i]' vz7)):=by simpa using h6
  rw[gG h1] at h7;simpa using h7
 unfold World.var? at hv;rw[hg] at hv;simp only[Option.bind_some] at hv;split at hv
 ·rename_i AO t' fz hh;cases hv;exact⟨_,_,hh⟩
 cases hv
theorem QaB {enc:TypeId×Value->Unit} {spare:Nat->Bool} {held:Bool} {k:IntKind} (he:P.underlying e=some (.int k)) (m:Nat) (xs:List Value) (x:DataW Unit×List MemPlace) (l:Lit) (h:DataW.trod enc P W 0 spare held m e xs=some x) (hl:x.1= .lit l):xs=[l.value]:=by obtain⟨s,rfl,rfl,_⟩:=DataW.trod_int he h;simp only[DataW.lit.injEq] at hl;subst hl;simp[Lit.value]
theorem QgT {U:Nat->Prop} (hU:∀b,U b) {g:Nat} {cs:Array Value} {t':TypeId} {fz:Nat×Nat} {vs:List AV} (hh:W.heap[g]?=some (.cells cs t' fz)) (hl:vs.length=cs.size)
  (h1:∀j (hj:j<vs.length),(vs[j]).one=true) (h2:∀j (hj:j<vs.length),VD W U vs[j] (cs[j]'oM)):VD W U (.P vs) (.pointer (some ⟨g,0,none⟩)):=by
 refine .P _ g 0 (fun i=>cs.getD i undef) (hU _) (Array.getElem?_eq_some_iff.1 hh).1 ?_ ?_ ?_
 ·intro j hj;rw[Nat.zero_add];simp only[World.cell?,hh];rw[Array.getElem?_eq_getElem oM,gA,Array.getElem?_eq_getElem oM];rfl
 ·intro j hj;exact h1 j hj
 intro j hj;have:=h2 j hj;rw[gA,Array.getElem?_eq_getElem oM];exact this
end
theorem Tryz.own:ownKnob prog.godebug=none:=kR
theorem Tryz.laidOut:laidOutB prog=true:=kR
theorem g0:prog.globalNamed "baggage/baggageref07.words" =some 0:=kR
theorem g1:prog.globalNamed "math/bits.deBruijn32tab" =some 2:=kR
theorem g2:prog.globalNamed "math/bits.deBruijn64tab" =some 3:=kR
theorem g3:prog.globalNamed "internal/strconv.uint64pow10" =some 1:=kR
theorem sO:(prog.globals[0]?).map (·.type)=some 173:=kR
theorem sP:(prog.globals[2]?).map (·.type)=some 303:=kR
theorem sQ:(prog.globals[3]?).map (·.type)=some 304:=kR
theorem sR:(prog.globals[1]?).map (·.type)=some 299:=kR
theorem Qg1:(Rows.laid_baggage_baggageref07_words:DataW Unit)= .slice (K3.map fun z=> .lit (.string z.data.toList)) []:=kR
theorem pP:(Rows.laid_math_bits_deBruijn32tab:DataW Unit)= .agg (TK.map fun z=> .lit (.int .u8 z)):=kR
theorem pQ:(Rows.laid_math_bits_deBruijn64tab:DataW Unit)= .agg (L8.map fun z=> .lit (.int .u8 z)):=kR
theorem QbL:(Rows.laid_internal_strconv_uint64pow10:DataW Unit)= .agg ((Pi.map fun z=>Lit.int .u64 z).map .lit):=kR
theorem sk {W:World} {enc:TypeId×Value->Unit} {fuel g t:Nat} {spare:Nat->Bool} {held:Bool} {cs:Array Value} {p:List MemPlace} (hg:prog.globalNamed "baggage/baggageref07.words" =some g) (ht:(prog.globals[g]?).map (·.type)=some t)
  (hv:W.var? prog "baggage/baggageref07.words" =some cs) (hd:DataW.trod enc prog W 0 spare held fuel t cs.toList=some (Rows.laid_baggage_baggageref07_words,p)):VD W (UE Ip) (.P [.sl (K3.map S) false]) (.pointer (some ⟨0,0,none⟩)):=by
 obtain rfl:=Option.some.inj (g0.symm.trans hg);obtain rfl:=Option.some.inj (sO.symm.trans ht);rw[Qg1] at hd;exact yI hg PJ underlying173 underlying9 kR hv hd dM
theorem si {W:World} {enc:TypeId×Value->Unit} {fuel g t:Nat} {spare:Nat->Bool} {held:Bool} {cs:Array Value} {p:List MemPlace} (hg:prog.globalNamed "math/bits.deBruijn32tab" =some g) (ht:(prog.globals[g]?).map (·.type)=some t)
  (hv:W.var? prog "math/bits.deBruijn32tab" =some cs) (hd:DataW.trod enc prog W 0 spare held fuel t cs.toList=some (Rows.laid_math_bits_deBruijn32tab,p)):VD W (UE Ip) (.P (TK.map fun z=> .lit (.int .u8 z))) (.pointer (some ⟨2,0,none⟩)):=by
 obtain rfl:=Option.some.inj (g1.symm.trans hg);obtain rfl:=Option.some.inj (sP.symm.trans ht);rw[pP] at hd;exact ik hg PJ underlying303 underlying5 kR hv hd dM dM
theorem sj {W:World} {enc:TypeId×Value->Unit} {fuel g t:Nat} {spare:Nat->Bool} {held:Bool} {cs:Array Value} {p:List MemPlace} (hg:prog.globalNamed "math/bits.deBruijn64tab" =some g) (ht:(prog.globals[g]?).map (·.type)=some t)
  (hv:W.var? prog "math/bits.deBruijn64tab" =some cs) (hd:DataW.trod enc prog W 0 spare held fuel t cs.toList=some (Rows.laid_math_bits_deBruijn64tab,p)):VD W (UE Ip) (.P (L8.map fun z=> .lit (.int .u8 z))) (.pointer (some ⟨3,0,none⟩)):=by
 obtain rfl:=Option.some.inj (g2.symm.trans hg);obtain rfl:=Option.some.inj (sQ.symm.trans ht);rw[pQ] at hd;exact ik hg PJ underlying304 underlying5 kR hv hd dM dM
theorem QbM {W:World} {enc:TypeId×Value->Unit} {fuel g t:Nat} {cs:Array Value} {p:List MemPlace} (hg:prog.globalNamed "internal/strconv.uint64pow10" =some g) (ht:(prog.globals[g]?).map (·.type)=some t)
  (hv:W.var? prog "internal/strconv.uint64pow10" =some cs) (hd:DataW.trod enc prog W 0 (fun _=>true) false fuel t cs.toList=some (Rows.laid_internal_strconv_uint64pow10,p)):∃t' fz,W.heap[1]?=some (.cells (Pi.map fun z=>Value.int .u64 z).toArray t' fz):=by
 obtain rfl:=Option.some.inj (g3.symm.trans hg);obtain rfl:=Option.some.inj (sR.symm.trans ht);rw[QbL] at hd;obtain⟨Dt,t',fz,hh⟩:=yH (val:=Lit.value) (n:=20) g3 (show prog.underlying 299=some (.array 20 242) by kernel_rfl) kR kR (QaB (k:= .u64) kR) hv hd kR;subst Dt;exact⟨t',fz,hh⟩
def O9:List (String×DataW Unit):=[("baggage/baggageref07.words",Rows.laid_baggage_baggageref07_words),("math/bits.deBruijn32tab",Rows.laid_math_bits_deBruijn32tab),("math/bits.deBruijn64tab",Rows.laid_math_bits_deBruijn64tab),("internal/strconv.uint64pow10",Rows.laid_internal_strconv_uint64pow10)]
theorem sK {W:World} (h0:VD W (UE Ip) (.P [.sl (K3.map S) false]) (.pointer (some ⟨0,0,none⟩))) (h6:∃t' fz,W.heap[1]?=some (.cells (Pi.map fun z=>Value.int .u64 z).toArray t' fz)) (h1:VD W (UE Ip) (.P (TK.map fun z=> .lit (.int .u8 z))) (.pointer (some ⟨2,0,none⟩)))
  (h2:VD W (UE Ip) (.P (L8.map fun z=> .lit (.int .u8 z))) (.pointer (some ⟨3,0,none⟩))):Gg Ad W (UE Ip):=by
 obtain⟨t6,fz6,h6⟩:=h6;refine⟨?_,?_⟩
 .intro g cs hg;simp only[Ad,kw,JE] at hg;split at hg
  .rename_i e;subst e;cases hg;exact h0
  split at hg
  .rename_i e;subst e;cases hg;refine QgT PJ h6 sM (fun j hj=>by simp[AV.one]) fun j hj=>?_;simp only[List.getElem_map,List.getElem_toArray];exact .lit _ rfl
  split at hg
  .rename_i e;subst e;cases hg;exact h1
  split at hg
  .rename_i e;subst e;cases hg;exact h2
  cases hg
 intro p hp;simp only[Ad,ZN,List.mem_singleton] at hp;subst hp;exact⟨PJ _,(Array.getElem?_eq_some_iff.1 h6).1,t6,fz6,h6⟩
theorem sJ {W:World} (_hs:W.ShapedOpen prog) (h:laidMetH prog O9 W):Gg Ad W (UE Ip):=by rw[MakeChecks.laidMetH_plain _ _ _ kR] at h;obtain⟨ps,⟨a0,t0,c0,f0,p0,q0,H8,Yp,HJ,RU,⟨a1,t1,c1,f1,p1,q1,EJ,JY,Jg,Hw,⟨a2,t2,c2,f2,p2,q2,F3,Ih,Gy,EU,⟨a3,t3,c3,f3,p3,q3,KE,Jf,KO,Ow,_,_⟩,_⟩,_⟩,_⟩,_,_⟩:=h;exact sK (sk H8 Yp HJ RU) (QbM KE Jf KO Ow) (si EJ JY Jg Hw) (sj F3 Ih Gy EU)
set_option maxRecDepth 100000 in
theorem yG (os:Os) (args:Array Value):laidMetH prog O9 ((World.laidAll prog os O9).forCall (fun _ _=>0) ⟨#[],args,[]⟩).memory:=by rw[MakeChecks.laidMetH_plain _ _ _ kR];exact laidMet_laidAll _ kR kR
section
variable {H:Type} {enc:TypeId×Value->H}
theorem tF {a:Assume} {C:Checked} {os:Os} {f:FuncId} {fn:Func} {s:ChangeSpec} {conds:List PathCond} {X:World->Prop}
  (hX:∀w w':World,w.heap=w'.heap->X w->X w')
  (own:ownKnob C.prog.godebug=none) (started:os.Started) (noInit:C.prog.inits.idxOf? f=none) (OB:C.prog.funcs[f]?=some fn)
  (wit:∃(w:World) (tape:Tape) (i:Input),w.os=os/\(w.forCall tape i).Shaped C.prog/\i.vars=[]/\Input.okWide C.prog (w.forCall tape i) .any w.heap.size f i/\
   ((s.pre enc C.prog fn conds false (w.forCall tape i).memory i.args/\X (w.forCall tape i).memory)/\sizedMet enc C.prog fn (OpenSpec.ofChange s) false (w.forCall tape i).memory i.args)/\a.holds C.prog (lone (Frame.enter C.prog f i.args .normal) [] (w.forCall tape i)))
  (law:∀(W:World) (base:Nat) (args:Array Value) (ds gs:List (DataW H)) (before:List MemPlace),W.ShapedOpen C.prog->X W->
   (∀(j:Nat) t v,fn.params[j]?=some t->args[j]?=some v->Value.okWide C.prog W .any base t v)->
   DataW.Whole enc C.prog fn.params.toList s.vars false W args.toList ds gs before->
   Calls C.prog f args W fun e W'=>∃v,e= .returned v/\s.post enc C.prog fn false true false false W args v W'):
  ReturnsInHanded a C os f .any (fun w args=>(s.pre enc C.prog fn conds false w args/\X w)/\sizedMet enc C.prog fn (OpenSpec.ofChange s) false w args) (s.post enc C.prog fn false true false false):=by
 refine returnsInHanded_of_calls own started noInit wit fun w tape i _ NH _ AI wx _=>?_;obtain⟨_,_,_,Mh,uL,_,_,_,_,G6⟩:=AI;obtain rfl:Mh=fn:=Option.some.inj (uL.symm.trans OB);obtain⟨⟨⟨ds,gs,before,hw,_⟩,hx⟩,_⟩:=wx;refine(law (w.forCall tape i) w.heap.size i.args ds gs before NH (hX _ _ xv4 hx) G6 (DataW.Whole.of_heap (w':=w.forCall tape i) xv4 hw)).mono ?_;rintro e W' ⟨v,rfl,hp⟩;exact ChangeSpec.post_blind hp
end
end Go.Proofs.YtfcgkbinohibcaaGreatDoor
