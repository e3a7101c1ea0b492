/- Lemmas towards inferSteps_card: no conditions of their own. -/
import Derived.Test.YtfcgkbinohibcaaGreatDoorA7
import Derived.Lib.FrozenHead2
import Derived.Lib.ItoaNum
import Derived.Lib.ItoaLen
import Derived.Shelf.SlSortCmp.WholeK
set_option linter.all false
set_option linter.unusedVariables false
namespace Go.Proofs
open Go.Shelf Go.RowKit
def bq(w w':World)(v v':Value):Prop:=w.drawn<=w'.drawn/\∀k,v'.ownBlock=some k->v.ownBlock=some k\/w.heap.size<=k
section
variable{P:Program}(w:World)
def asN(t u ty e:TypeId)(i:TypeInfo)(ht:P.underlying t=some (.slice e))(hu:P.underlying u=some .string)(hi:P.info? e=some i)(hz:i.zero=some (.int .u8 0))(qI:i.size=1)(Yg:i.bytes=1)(v:Value)(n:Nat)(xs:List Value)(fk:w.ownsRowF 0 e 1 v n xs)(s:ByteArray)(ru:n+s.size<=maxLen)(Sk:n+s.size<=140737488355328):
  ∃v' w',(Builtin.append_ #[t,u] ty #[v,.string s]).run P w=.ok v' w'/\w'.ownsRowF 0 e 1 v' (n+s.size) (xs++Lib.strCells s)/\w.grownBy w' v.ownBlock/\(v'=.slice none 0 0↔v=.slice none 0 0/\s.size=0)/\bq w w' v v':=by
 obtain⟨v',w',hr,h2,h3,h4⟩:=OY (P:=P) w 0 t u ty e i ht hu hi hz qI Yg v n xs fk s ru Sk (zL _);refine⟨v',w',hr,h2,h3,h4,?_⟩;rcases fk.2 with ⟨rfl,rfl⟩|⟨g,cap,cur,fz,rfl,ri,hg,vY,lS,oh,LF,aqy⟩
 ·obtain⟨v2,w2,w6,k2,_⟩:=OY (P:=P) w w.heap.size t u ty e i ht hu hi hz qI Yg (.slice none 0 0) 0 xs ⟨fk.1,.inl ⟨rfl,rfl⟩⟩ s ru Sk (lR _);rw[hr]at w6;cases w6
  refine⟨?_,fun k hk=>.inr (k2.lt k hk).1⟩;by_cases hm:s.size=0
  ·have hf:=Lib.run_firstCells_string (P:=P) w 1 s;rw[hm]at hf;have mq:(Builtin.append_ #[t,u] ty #[.slice none 0 0,.string s]).run P w=.ok (.slice none 0 0) w:=by simp[Builtin.append_,pP ht,pP hu,sizeOf,typeInfo,hi,qI,Builtin.lenOf,hm,hf]
   rw[hr]at mq;cases mq
   exact lR _
  have mq:=run_append_nil_string (P:=P) w t u ty e i (.int .u8 0) ht hu hi hz s oM NT (by rw[Yg];omega);rw[hr]at mq;cases mq
  exact ug _
 have xE:xs.length=n:=by simpa using fk.1
 have qW:cur.size=cap:=by simpa using LF
 by_cases If:n+s.size<=cap
 ·have w6:=Lib.run_append_room_stringF (P:=P) w t u ty e i ht hu hi qI g n cap cur fz hg (by simpa using vY) s If oM;rw[hr]at w6;cases w6
  exact⟨lR _,fun k hk=>.inl hk⟩
 have holds:∀j u,xs[j]?=some u->w.cell? ((⟨g,0,none⟩:Addr).add j)=some u:=fk.cells (g:=g) rfl;have w6:=Lib.run_append_grow_string (P:=P) w t u ty e i (.int .u8 0) ht hu hi hz ⟨g,0,none⟩ n cap xs (by rw[qI];simpa using xE) holds s oM NT (by rw[Yg];exact I_ oM oM);rw[hr]at w6;cases w6
 refine⟨ug _,fun k hk=>?_⟩;simp only[Value.ownBlock,Kh]at hk;subst hk;exact .inr (lR _)
def ahu(t ty e:TypeId)(i:TypeInfo)(ht:P.underlying t=some (.slice e))(hi:P.info? e=some i)(hz:i.zero=some (.int .u8 0))(qI:i.size=1)(Yg:i.bytes=1)(v:Value)(n:Nat)(xs:List Value)(fk:w.ownsRowF 0 e 1 v n xs)(a:Addr)(m c:Nat)(news:List Value)(hl:news.length=m*1)(OW:∀j u,news[j]?=some u->w.cell? (a.add j)=some u)(h1:∀u∈news,u.oneCell'=true)(ru:n+m<=maxLen)(Sk:(n+m)*1<=140737488355328)(SI:0<m):
  ∃v' w',(Builtin.append_ #[t,t] ty #[v,.slice (some a) m c]).run P w=.ok v' w'/\w'.ownsRowF 0 e 1 v' (n+m) (xs++news)/\w.grownBy w' v.ownBlock/\(v'=.slice none 0 0↔v=.slice none 0 0/\m=0)/\bq w w' v v':=by
 obtain⟨v',w',hr,h2,h3,h4⟩:=run_append_ownF (P:=P) w 0 t ty e i (.int .u8 0) 1 1 ht hi hz qI Yg rfl dM v n xs fk a m c news hl OW h1 ru Sk (zL _);refine⟨v',w',hr,h2,h3,h4,?_⟩;rcases fk.2 with ⟨rfl,rfl⟩|⟨g,cap,cur,fz,rfl,ri,hg,vY,lS,oh,LF,aqy⟩
 ·obtain⟨v2,w2,w6,k2,_⟩:=run_append_ownF (P:=P) w w.heap.size t ty e i (.int .u8 0) 1 1 ht hi hz qI Yg rfl dM (.slice none 0 0) 0 xs ⟨fk.1,.inl ⟨rfl,rfl⟩⟩ a m c news hl OW h1 ru Sk (lR _);rw[hr]at w6;cases w6
  refine⟨?_,fun k hk=>.inr (k2.lt k hk).1⟩;have mq:=run_append_nil (P:=P) w t ty e i (.int .u8 0) ht hi hz a m c news (by rw[qI];exact hl) OW SI NT (by rw[Yg];omega);rw[hr]at mq;cases mq
  exact ug _
 have xE:xs.length=n:=by simpa using fk.1
 have qW:cur.size=cap:=by simpa using LF
 by_cases If:n+m<=cap
 ·have w6:=run_append_roomF (P:=P) w t ty e i ht hi g n cap cur fz hg (by rw[qI];exact vY) a m c news (by rw[qI];exact hl) OW h1 If (by rw[qI,hl];omega);rw[hr]at w6;cases w6
  exact⟨lR _,fun k hk=>.inl hk⟩
 have holds:∀j u,xs[j]?=some u->w.cell? ((⟨g,0,none⟩:Addr).add j)=some u:=fk.cells (g:=g) rfl;have w6:=run_append_grow (P:=P) w t ty e i (.int .u8 0) ht hi hz ⟨g,0,none⟩ n cap xs (by rw[qI];exact fk.1) holds a m c news (by rw[qI];exact hl) OW oM NT (by rw[Yg];exact I_ oM oM);rw[hr]at w6;cases w6
 refine⟨ug _,fun k hk=>?_⟩;simp only[Value.ownBlock,Kh]at hk;subst hk;exact .inr (lR _)
def aoI{ops:Array Oper}{So:List Oper}{o:Oper}{a:Act}{Q:Exit->Act->World->Prop}(Fs:o.guard=none)(sl x:Operand)(t u:TypeId)(ho:o.op=.call {callee:=.builtin .append,args:=#[sl,x],argTypes:=#[t,u]})(e:TypeId)(i:TypeInfo)(ht:P.underlying t=some (.slice e))(hu:P.underlying u=some .string)(hi:P.info? e=some i)(hz:i.zero=some (.int .u8 0))(qI:i.size=1)(Yg:i.bytes=1)(v:Value)(n:Nat)(xs:List Value)(hs:a.eval sl=v)(fk:w.ownsRowF 0 e 1 v n xs)(s:ByteArray)(hx:a.eval x=.string s)(ru:n+s.size<=maxLen)(Sk:n+s.size<=140737488355328)(h:∀v' w',w'.ownsRowF 0 e 1 v' (n+s.size) (xs++Lib.strCells s)->w.grownBy w' v.ownBlock->(v'=.slice none 0 0↔v=.slice none 0 0/\s.size=0)->bq w w' v v'->wpList P ops Q So (a.put o.dst v') w'):wpList P ops Q (o::So) a w:=by
 refine wpList_plain Fs fun K hK=>?_;obtain⟨v',w',hr,h2,h3,h4,h5⟩:=asN (P:=P) w t u o.type e i ht hu hi hz qI Yg v n xs fk s ru Sk;unfold Oper.wp execOp;simp only[ho,resolve,invoke,builtin,ig,fX,GQ,List.map_toArray,b_,FV,hs,hx,hr];exact hK _ _ (h v' w' h2 h3 h4 h5)
def al1{ops:Array Oper}{So:List Oper}{o:Oper}{a:Act}{Q:Exit->Act->World->Prop}(Fs:o.guard=none)(sl x:Operand)(t:TypeId)(ho:o.op=.call {callee:=.builtin .append,args:=#[sl,x],argTypes:=#[t,t]})(e:TypeId)(i:TypeInfo)(ht:P.underlying t=some (.slice e))(hi:P.info? e=some i)(hz:i.zero=some (.int .u8 0))(qI:i.size=1)(Yg:i.bytes=1)(v:Value)(n:Nat)(xs:List Value)(hs:a.eval sl=v)(fk:w.ownsRowF 0 e 1 v n xs)(ad:Addr)(m c:Nat)(news:List Value)(hx:a.eval x=.slice (some ad) m c)(hl:news.length=m*1)(OW:∀j u,news[j]?=some u->w.cell? (ad.add j)=some u)(h1:∀u∈news,u.oneCell'=true)(ru:n+m<=maxLen)(Sk:(n+m)*1<=140737488355328)(SI:0<m)(h:∀v' w',w'.ownsRowF 0 e 1 v' (n+m) (xs++news)->w.grownBy w' v.ownBlock->(v'=.slice none 0 0↔v=.slice none 0 0/\m=0)->bq w w' v v'->wpList P ops Q So (a.put o.dst v') w'):wpList P ops Q (o::So) a w:=by
 refine wpList_plain Fs fun K hK=>?_;obtain⟨v',w',hr,h2,h3,h4,h5⟩:=ahu (P:=P) w t o.type e i ht hi hz qI Yg v n xs fk ad m c news hl OW h1 ru Sk SI;unfold Oper.wp execOp;simp only[ho,resolve,invoke,builtin,ig,fX,GQ,List.map_toArray,b_,FV,hs,hx,hr];exact hK _ _ (h v' w' h2 h3 h4 h5)
end
structure mr(T e:TypeId)(b:Nat)(p v:Value)(n:Nat)(xs:List Value)(w:World):Prop where
 Rr:w.heap[b]?=some (.cells #[p,v] T (0,0))
 own:w.ownsRowF 0 e 1 v n xs
 ne:v.ownBlock≠some b
structure Ro(b:Nat)(v v':Value)(w w':World):Prop where
 os:w'.os=w.os
 tape:w'.tape=w.tape
 output:w'.output=w.output
 size:w.heap.size<=w'.heap.size
 block:∀k,k<w.heap.size->k≠b->some k≠v.ownBlock->w'.heap[k]?=w.heap[k]?
 new:bq w w' v v'
variable{P:Program}{ρ:Ren}
set_option maxHeartbeats 2000000 in
set_option maxRecDepth 100000 in
def ast(L:Lays.n166 P ρ)(X:Builder.Extra P ρ)(b:Nat)(p v:Value)(hp:p=.pointer none\/p=.pointer (some ⟨b,0,none⟩))(bs:List Value)(s:ByteArray)(w:World)(h:mr (ρ.t 72) (ρ.t 5) b p v bs.length bs w)(hlen:bs.length+s.size<=140737488355328):
  Calls P (ρ.f 166) #[.pointer (some ⟨b,0,none⟩),.string s] w fun e w'=>e=.returned (.tuple #[.int .i64 s.size,.nilIface])/\∃v',mr (ρ.t 72) (ρ.t 5) b (.pointer (some ⟨b,0,none⟩)) v' (bs.length+s.size) (bs++Lib.strCells s) w'/\(v'=.slice none 0 0↔v=.slice none 0 0/\s.size=0)/\Ro b v v' w w':=by
 obtain⟨i0,hi,OK,Lm,L3⟩:=info_parts X.infoByte;have mixed:=L.mixed;have t72:=L.t72;have a72:=L.a72;have z72:=L.z72;have v72:=L.v72;have u72:=pP L.t72;have t70:=L.t70;have a70:=L.a70;have z70:=L.z70;have v70:=L.v70;have u70:=pP L.t70;have t37:=L.t37;have a37:=L.a37;have z37:=L.z37;have v37:=L.v37;have u37:=pP L.t37;have t3:=L.t3;have a3:=L.a3;have z3:=L.z3;have v3:=L.v3;have u3:=pP L.t3;have t9:=L.t9;have a9:=L.a9;have z9:=L.z9;have v9:=L.v9;have u9:=pP L.t9;have t4:=L.t4;have a4:=L.a4;have z4:=L.z4;have v4:=L.v4;have u4:=pP L.t4;have t164:=L.t164;have a164:=L.a164;have z164:=L.z164;have v164:=L.v164;have u164:=pP L.t164;have t5:=X.t5;have a5:=X.a5;have z5:=X.z5;have v5:=X.v5;have u5:=pP X.t5;have e240:∀args w,(callFunc (ρ.f 240) args).run P w=.ok (.enter (ρ.f 240) args) w:=enters_of L.f240 kR rfl;have hA:Lib.IsBuilderF (ρ.t 72) (ρ.t 5) 0 b bs w:=by
  rcases hp with rfl|rfl
  ·exact .inl ⟨zL _,v,h.Rr,h.own,h.ne⟩
  exact .inr ⟨zL _,v,h.Rr,h.own,h.ne⟩
 have J0:Calls P (ρ.f 240) #[.pointer (some ⟨b,0,none⟩)] w fun e w'=>e=.returned (.tuple #[])/\mr (ρ.t 72) (ρ.t 5) b (.pointer (some ⟨b,0,none⟩)) v bs.length bs w'/\Ro b v v w w':=by
  rcases hp with rfl|rfl
  ·refine(Any.Builder_copyCheck_fresh {L with} X.toX72 b w Rq (by simp[World.shape?,h.Rr]) (bW h.Rr 0)).mono ?_;rintro e w' ⟨rfl,rfl⟩;have hk:∀k,k≠b->(w.setCell ⟨b,0,none⟩ (.pointer (some ⟨b,0,none⟩))).heap[k]?=w.heap[k]?:=fun k hk=>Below.heap_setCell _ _ _ _ hk;refine⟨rfl,⟨by simp[World.setCell,YX,h.Rr],h.own.kept (row:=some b) ⟨rfl,rfl,rfl,EI,fun k _ hk=>Below.heap_setCell _ _ _ _ (fun e=>hk (by simp[e]))⟩ (.inr h.ne),h.ne⟩,⟨rfl,rfl,rfl,EI,fun k _ vk _=>hk k vk,⟨lR _,fun k hk=>.inl hk⟩⟩⟩
  refine(Any.Builder_copyCheck_used {L with} X.toX72 b w Rq).mono ?_;rintro e w' ⟨rfl,rfl⟩;exact⟨rfl,h,⟨rfl,rfl,rfl,lR _,fun _ _ _ _=>rfl,⟨lR _,fun k hk=>.inl hk⟩⟩⟩
 go_enter L.f166,Body.n166_ntmps ρ
 go_wp2_with (go_at_fn (ρ.f 240);refine J0.mono ?_)
 rintro e w1 ⟨rfl,h1,JX⟩;have C':=h1.Rr;have c0:w1.cell? ⟨b,0,none⟩=some (.pointer (some ⟨b,0,none⟩)):=eO;have c1:w1.cell? ⟨b,1,none⟩=some v:=eO
 go_wp2_with (at_builtin;refine aoI _ rfl _ _ (ρ.t 37) (ρ.t 9) rfl (ρ.t 5) i0 L.t37 L.t9 hi OK Lm L3 _ _ _ rfl h1.own s rfl ?c3 ?c4 ?_)
 case c3=>unfold maxLen;omega
 case c4=>omega
 intro v' w2 GF Ux Ja tq;have PP:b<w1.heap.size:=(DH.1 C').1;have Wx:w2.heap[b]?=some (.cells #[.pointer (some ⟨b,0,none⟩),v] (ρ.t 72) (0,0)):=by rw[Ux.block b PP (fun e=>h1.ne e.symm)];exact C'
 have d0:w2.cell? ⟨b,0,none⟩=some (.pointer (some ⟨b,0,none⟩)):=Eb;have d1:w2.cell? ⟨b,1,none⟩=some v:=Eb;have f1:w2.frozen? ⟨b,1,none⟩=false:=bW Wx 1;obtain⟨ao,n',cap,rfl⟩:∃ao n' cap,v'=.slice ao n' cap:=by
  rcases GF.2 with ⟨hv,_⟩|⟨g,cap,cur,fz,hv,_⟩
  ·exact⟨_,_,_,hv⟩
  exact⟨_,_,_,hv⟩
 go_wp2
 go_ret2
 have ZK:=Lib.BuilderAtF.put (T:=(ρ.t 72)) (e:=(ρ.t 5)) (B:=0) (p:=.pointer (some ⟨b,0,none⟩)) (zL b) Wx (bs':=bs++Lib.strCells s) (by simpa[Lib.strCells_length] using GF) X.neB5;obtain⟨_,v2,k1,k2,k3⟩:=ZK;have oU:v2=.slice ao n' cap:=by
  have:(w2.setCell ⟨b,1,none⟩ (.slice ao n' cap)).heap[b]?=some (.cells #[.pointer (some ⟨b,0,none⟩),.slice ao n' cap] (ρ.t 72) (0,0)):=by simp[World.setCell,YX,Wx]
  rw[this]at k1;simp at k1;exact k1.symm
 subst oU;refine⟨rfl,_,⟨k1,by simpa[Lib.strCells_length] using k2,k3⟩,by simpa using Ja,⟨Ux.os.trans JX.os,Ux.tape.trans JX.tape,Ux.output.trans JX.output,by have:=JX.size;have:=Ux.size;simp[World.setCell];omega,fun k hk vk O4=>?_,⟨Jz JX.new.1 tq.1,fun k hk=>?_⟩⟩⟩
 ·rw[Below.heap_setCell _ _ _ _ vk,Ux.block k (tL hk JX.size) O4];exact JX.block k hk vk O4
 rcases tq.2 k hk with hn|hn
 ·exact .inl hn
 exact .inr (Jz JX.size hn)
set_option maxHeartbeats 2000000 in
set_option maxRecDepth 100000 in
def aqN(L:Lays.n167 P ρ)(X:Builder.Extra P ρ)(b:Nat)(p v:Value)(hp:p=.pointer none\/p=.pointer (some ⟨b,0,none⟩))(bs:List Value)(c:Int)(w:World)(h:mr (ρ.t 72) (ρ.t 5) b p v bs.length bs w)(hlen:bs.length+1<=140737488355328):
  Calls P (ρ.f 167) #[.pointer (some ⟨b,0,none⟩),.int .u8 c] w fun e w'=>e=.returned .nilIface/\∃v',mr (ρ.t 72) (ρ.t 5) b (.pointer (some ⟨b,0,none⟩)) v' (bs.length+1) (bs++[.int .u8 c]) w'/\v'≠.slice none 0 0/\Ro b v v' w w':=by
 obtain⟨i0,hi,OK,Lm,L3⟩:=info_parts X.infoByte;have mixed:=L.mixed;have t72:=L.t72;have a72:=L.a72;have z72:=L.z72;have v72:=L.v72;have u72:=pP L.t72;have t70:=L.t70;have a70:=L.a70;have z70:=L.z70;have v70:=L.v70;have u70:=pP L.t70;have t5:=L.t5;have a5:=L.a5;have z5:=L.z5;have v5:=L.v5;have u5:=pP L.t5;have t37:=L.t37;have a37:=L.a37;have z37:=L.z37;have v37:=L.v37;have u37:=pP L.t37;have t9:=L.t9;have a9:=L.a9;have z9:=L.z9;have v9:=L.v9;have u9:=pP L.t9;have t4:=L.t4;have a4:=L.a4;have z4:=L.z4;have v4:=L.v4;have u4:=pP L.t4;have t164:=L.t164;have a164:=L.a164;have z164:=L.z164;have v164:=L.v164;have u164:=pP L.t164;have e240:∀args w,(callFunc (ρ.f 240) args).run P w=.ok (.enter (ρ.f 240) args) w:=enters_of L.f240 kR rfl;have J0:Calls P (ρ.f 240) #[.pointer (some ⟨b,0,none⟩)] w fun e w'=>e=.returned (.tuple #[])/\mr (ρ.t 72) (ρ.t 5) b (.pointer (some ⟨b,0,none⟩)) v bs.length bs w'/\Ro b v v w w':=by
  rcases hp with rfl|rfl
  ·refine(Any.Builder_copyCheck_fresh {L with} X.toX72 b w Rq (by simp[World.shape?,h.Rr]) (bW h.Rr 0)).mono ?_;rintro e w' ⟨rfl,rfl⟩;have hk:∀k,k≠b->(w.setCell ⟨b,0,none⟩ (.pointer (some ⟨b,0,none⟩))).heap[k]?=w.heap[k]?:=fun k hk=>Below.heap_setCell _ _ _ _ hk;refine⟨rfl,⟨by simp[World.setCell,YX,h.Rr],h.own.kept (row:=some b) ⟨rfl,rfl,rfl,EI,fun k _ hk=>Below.heap_setCell _ _ _ _ (fun e=>hk (by simp[e]))⟩ (.inr h.ne),h.ne⟩,⟨rfl,rfl,rfl,EI,fun k _ vk _=>hk k vk,⟨lR _,fun k hk=>.inl hk⟩⟩⟩
  refine(Any.Builder_copyCheck_used {L with} X.toX72 b w Rq).mono ?_;rintro e w' ⟨rfl,rfl⟩;exact⟨rfl,h,⟨rfl,rfl,rfl,lR _,fun _ _ _ _=>rfl,⟨lR _,fun k hk=>.inl hk⟩⟩⟩
 go_enter L.f167,Body.n167_ntmps ρ
 go_wp2_with (go_at_fn (ρ.f 240);refine J0.mono ?_)
 rintro e w1 ⟨rfl,h1,JX⟩;have C':=h1.Rr;have PP:b<w1.heap.size:=(DH.1 C').1;have c0:w1.cell? ⟨b,0,none⟩=some (.pointer (some ⟨b,0,none⟩)):=eO;have c1:w1.cell? ⟨b,1,none⟩=some v:=eO
 go_wp2_with (at_builtin;refine al1 _ rfl _ _ (ρ.t 37) rfl (ρ.t 5) i0 L.t37 hi OK Lm L3 _ _ _ rfl (h1.own.alloc _) ⟨w1.heap.size,0,none⟩ 1 1 [.int .u8 c] rfl rfl ?c1 ?c2 ?c3 ?c4 Nat.one_pos ?_)
 case c1=>
  intro j u hj
  match j,hj with
  |0,hj=>simp at hj;subst hj;simp[Addr.add]
 case c2=>intro u hu;simp at hu;subst hu;rfl
 case c3=>unfold maxLen;omega
 case c4=>omega
 intro v' w2 GF Ux Ja tq;have Wx:w2.heap[b]?=some (.cells #[.pointer (some ⟨b,0,none⟩),v] (ρ.t 72) (0,0)):=by rw[Ux.block b xF (fun e=>h1.ne e.symm),Lib.alloc_old w1 _ b PP];exact C'
 have d0:w2.cell? ⟨b,0,none⟩=some (.pointer (some ⟨b,0,none⟩)):=Eb;have d1:w2.cell? ⟨b,1,none⟩=some v:=Eb;have f1:w2.frozen? ⟨b,1,none⟩=false:=bW Wx 1;obtain⟨g,cap,rfl⟩:∃g cap,v'=.slice (some ⟨g,0,none⟩) (bs.length+1) cap:=by
  rcases GF.2 with ⟨_,h0⟩|⟨g,cap,cur,fz,hv,_⟩
  ·omega
  exact⟨g,cap,hv⟩
 go_wp2
 go_ret
 have ZK:=Lib.BuilderAtF.put (T:=(ρ.t 72)) (e:=(ρ.t 5)) (B:=0) (p:=.pointer (some ⟨b,0,none⟩)) (zL b) Wx (bs':=bs++[.int .u8 c]) (by simpa using GF) X.neB5;obtain⟨_,v2,k1,k2,k3⟩:=ZK;have oU:v2=.slice (some ⟨g,0,none⟩) (bs.length+1) cap:=by
  have:(w2.setCell ⟨b,1,none⟩ (.slice (some ⟨g,0,none⟩) (bs.length+1) cap)).heap[b]?=some (.cells #[.pointer (some ⟨b,0,none⟩),.slice (some ⟨g,0,none⟩) (bs.length+1) cap] (ρ.t 72) (0,0)):=by simp[World.setCell,YX,Wx]
  rw[this]at k1;simp at k1;exact k1.symm
 subst oU;have xB:w1.heap.size<=w2.heap.size:=by have:=Ux.size;simp at this;omega
 refine⟨rfl,_,⟨k1,by simpa using k2,k3⟩,sM,⟨Ux.os.trans JX.os,Ux.tape.trans JX.tape,Ux.output.trans JX.output,by have:=JX.size;simp[World.setCell];omega,fun k hk vk O4=>?_,⟨Jz JX.new.1 tq.1,fun k hk=>?_⟩⟩⟩
 ·have P':k<w1.heap.size:=tL hk JX.size;rw[Below.heap_setCell _ _ _ _ vk,Ux.block k xF O4,Lib.alloc_old w1 _ k P'];exact JX.block k hk vk O4
 rcases tq.2 k hk with hn|hn
 ·exact .inl hn
 refine .inr ?_;simp at hn;have:=JX.size;omega
set_option maxHeartbeats 1000000 in
set_option maxRecDepth 100000 in
def ahW(L:Lays.n169 P ρ)(X:Builder.Extra P ρ)(b:Nat)(p:Value)(g cap:Nat)(cur:Array Value)(fz:Az)(l:List UInt8)(w:World)(C':w.heap[b]?=some (.cells #[p,.slice (some ⟨g,0,none⟩) l.length cap] (ρ.t 72) (0,0)))(hg:w.heap[g]?=some (.cells cur (ρ.t 5) fz))(lS:l.length<=cap)(oh:cap<=maxLen)(LF:cur.size=cap)(fk:w.ownsRowF 0 (ρ.t 5) 1 (.slice (some ⟨g,0,none⟩) l.length cap) l.length (Lib.byteCells l))(h0:l≠[]):
  Calls P (ρ.f 169) #[.pointer (some ⟨b,0,none⟩)] w fun e w'=>e=.returned (.string ⟨l.toArray⟩)/\w'=w.drew.freeze ⟨g,0,none⟩ l.length:=by
 have RO:l.length≠0:=by simpa using h0
 have c1:w.drew.cell? ⟨b,1,none⟩=some (.slice (some ⟨g,0,none⟩) l.length cap):=by
  have:w.drew.heap[b]?=some (.cells #[p,.slice (some ⟨g,0,none⟩) l.length cap] (ρ.t 72) (0,0)):=C'
  rw[Lib.cell_of_heap this];rfl
 have akD:(Builtin.unsafeSliceData_ #[(ρ.t 37)] (ρ.t 127) #[.slice (some ⟨g,0,none⟩) l.length cap]).run P w.drew=.ok (.pointer (some ⟨g,0,none⟩)) w.drew:=
  Lib.run_unsafeSliceData_row _ _ _ _ _ _ oM
 have aov:(Builtin.unsafeString_ #[(ρ.t 127),(ρ.t 3)] (ρ.t 9) #[.pointer (some ⟨g,0,none⟩),.int .i64 l.length]).run P w.drew=.ok (.string ⟨l.toArray⟩) (w.drew.freeze ⟨g,0,none⟩ l.length):=by refine Lib.run_unsafeString_row w.drew (ρ.t 127) (ρ.t 3) (ρ.t 9) (ρ.t 5) L.t127 X.cellsByte g cur.size (by have X0:w.drew.heap[g]?=some (.cells cur (ρ.t 5) fz):=hg;simp[World.shape?,X0]) l h0 oM (by unfold maxLen at oh;omega) ?_;intro j x hx;have:=fk.cells (g:=g) rfl j (.int .u8 x.toNat) (by simp[Lib.byteCells,hx]);exact this
 have mixed:=L.mixed;have t72:=L.t72;have a72:=L.a72;have z72:=L.z72;have v72:=L.v72;have u72:=pP L.t72;have t70:=L.t70;have a70:=L.a70;have z70:=L.z70;have v70:=L.v70;have u70:=pP L.t70;have t37:=L.t37;have a37:=L.a37;have z37:=L.z37;have v37:=L.v37;have u37:=pP L.t37;have t127:=L.t127;have a127:=L.a127;have z127:=L.z127;have v127:=L.v127;have u127:=pP L.t127;have t3:=L.t3;have a3:=L.a3;have z3:=L.z3;have v3:=L.v3;have u3:=pP L.t3;have t9:=L.t9;have a9:=L.a9;have z9:=L.z9;have v9:=L.v9;have u9:=pP L.t9;have t5:=X.t5;have a5:=X.a5;have z5:=X.z5;have v5:=X.v5;have u5:=pP X.t5
 go_enter L.f169,Body.n169_ntmps ρ
 go_wp2
 go_region_o
 all_goals (go_wp2;go_ret;exact⟨rfl,rfl⟩)
set_option maxHeartbeats 1000000 in
set_option maxRecDepth 100000 in
def as3(L:Lays.n169 P ρ)(X:Builder.Extra P ρ)(b:Nat)(p:Value)(w:World)(C':w.heap[b]?=some (.cells #[p,.slice none 0 0] (ρ.t 72) (0,0))):
  Calls P (ρ.f 169) #[.pointer (some ⟨b,0,none⟩)] w fun e w'=>e=.returned (.string ⟨#[]⟩)/\w'=w.drew:=by
 have aov:=Any.unsafeString_none L X;have c1:w.drew.cell? ⟨b,1,none⟩=some (.slice none 0 0):=by
  have:w.drew.heap[b]?=some (.cells #[p,.slice none 0 0] (ρ.t 72) (0,0)):=C'
  rw[Lib.cell_of_heap this];rfl
 have akD:(Builtin.unsafeSliceData_ #[(ρ.t 37)] (ρ.t 127) #[.slice none 0 0]).run P w.drew=.ok (.pointer none) w.drew:=rfl
 have mixed:=L.mixed;have t72:=L.t72;have a72:=L.a72;have z72:=L.z72;have v72:=L.v72;have u72:=pP L.t72;have t70:=L.t70;have a70:=L.a70;have z70:=L.z70;have v70:=L.v70;have u70:=pP L.t70;have t37:=L.t37;have a37:=L.a37;have z37:=L.z37;have v37:=L.v37;have u37:=pP L.t37;have t127:=L.t127;have a127:=L.a127;have z127:=L.z127;have v127:=L.v127;have u127:=pP L.t127;have t3:=L.t3;have a3:=L.a3;have z3:=L.z3;have v3:=L.v3;have u3:=pP L.t3;have t9:=L.t9;have a9:=L.a9;have z9:=L.z9;have v9:=L.v9;have u9:=pP L.t9;have t5:=X.t5;have a5:=X.a5;have z5:=X.z5;have v5:=X.v5;have u5:=pP X.t5
 go_enter L.f169,Body.n169_ntmps ρ
 go_wp2
 go_region_o
 all_goals (go_wp2;go_ret;exact⟨rfl,rfl⟩)
end Go.Proofs
namespace Go.Proofs.YtfcgkbinohibcaaGreatDoor
open Go Go.Sym Go.Proofs.Tryz Go.Great Go.RowKit Go.Proofs Go.Sort
def anC{w:World}{e:bQ}{b:Nat}{p v:Value}{bs:List UInt8}(h1:w.heap[b]?=some (.cells #[p,v] 186 (0,0)))(h2:np w e b 5 bs v)(hk:e.Rc b=none):
  mr 186 5 b p v bs.length (Lib.byteCells bs) w/\(v=.slice none 0 0↔bs=[])/\(∀g,v.ownBlock=some g->e.Rc g=some (b,1)):=by
 rcases h2 with ⟨rfl,rfl⟩|⟨g,cap,cur,fz,rfl,h3,h4,h5,h6,h7,h8,h9,bF⟩
 ·exact⟨⟨h1,⟨rfl,.inl ⟨rfl,rfl⟩⟩,by simp[Value.ownBlock]⟩,sM,fun g h=>by simp[Value.ownBlock]at h⟩
 refine⟨⟨h1,⟨by simp[Lib.byteCells],.inr ⟨g,cap,cur,fz,rfl,zL _,h4,oM,h6,h7,oM,?_⟩⟩,?_⟩,?_,?_⟩
 ·rw[B3];exact h9
 ·simp only[Value.ownBlock,ne_eq,Kh];rintro rfl;rw[hk]at h3;cases h3
 ·constructor
  ·intro h;simp at h
  intro h;exact absurd h bF
 intro g' h;simp only[Value.ownBlock,Kh]at h;subst h;exact h3
def NX{f:FuncId}{vs:List Value}{bs bs':List UInt8}{r:AV}(Em:Go.Sym.Enters prog f)(h:∀(w:World) (b:Nat) (p v:Value),(p=.pointer none\/p=.pointer (some ⟨b,0,none⟩))->mr 186 5 b p v bs.length (Lib.byteCells bs) w->(v=.slice none 0 0↔bs=[])->
   Calls prog f (.pointer (some ⟨b,0,none⟩)::vs).toArray w fun en w'=>∃x,en=.returned x/\(∀w U,VD w U r x)/\∃p' v',(p'=.pointer none\/p'=.pointer (some ⟨b,0,none⟩))/\mr 186 5 b p' v' bs'.length (Lib.byteCells bs') w'/\(v'=.slice none 0 0↔bs'=[])/\Ro b v v' w w'):
  UB prog J9 f [(0,some (0,.bd 186 5 bs))] (.p 0 0 0 0 0::vs.map AV.lit) [(0,some (0,.bd 186 5 bs'))] r:=by
 refine⟨Em,fun w e pk hr hz hg hl RZ=>?_⟩;obtain⟨ee,he,uy,hG,Sn,b,c,p,v,hblk,hb,hp,apb⟩:=hr.live 0 0 (.bd 186 5 bs) rfl;have DW:I2 e b:=⟨0,ee,c,he,hblk⟩;have vk:e.Rc b=none:=hr.ko b DW;obtain⟨Rn,Ja,fk⟩:=anC hb apb vk;have KS:b<w.heap.size:=(DH.1 hb).1;have wC:¬e.z b:=hr.nz 0 ee b c he hblk;have B8:pk=(.pointer (some ⟨b,0,none⟩)::vs).toArray:=by
  have xB:pk.size=vs.length+1:=by rw[<-hl];simp
  apply Array.ext
  .simp[xB]
  intro i h1 h2;have hi:i<(AV.p 0 0 0 0 0::vs.map AV.lit).length:=xF;have ha:=RZ i hi;rw[gA,LS h1]at ha;cases i with
  |zero=>simp only[E6,jw]at ha;obtain⟨_,_,QB⟩:=ha.nj;have:=(QB ee he uy).2 Sn b c hblk;simpa using this
  |succ i=>simp only[Qe,nw,jw]at ha;have:=ha.VI.1;simpa using this
 rw[B8];refine(h w b p v hp Rn Ja).mono ?_;rintro en w' ⟨x,rfl,hx,p',v',hp',Eh,j7,Zw⟩;have Iw:∀id,id≠0->e id=none:=fun id hid=>hr.dead id (by simp[Hp.get];omega);have tq:∀k,v'.ownBlock=some k->e.Rc k=some (b,1)\/w.heap.size<=k:=fun k hk=>(Zw.new.2 k hk).imp (fk k) id;have GF:∀k,v'.ownBlock=some k->k<w'.heap.size:=fun k hk=>(Eh.own.lt k hk).2;obtain⟨e',X6⟩:∃e':bQ,e'=⟨e.m,e.z,fun k=>if v'.ownBlock=some k then some (b,1) else none⟩:=⟨_,rfl⟩;have em:∀id,e' id=e id:=by subst X6;intro id;rfl
 have ez:e'.z=e.z:=by subst X6;rfl
 have ekid:∀k B c,e'.Rc k=some (B,c)->v'.ownBlock=some k/\B=b/\c=1:=by
  subst X6;intro k B c hk;by_cases hv:v'.ownBlock=some k
  .simp only[iP hv,Kh,jH]at hk;exact⟨hv,hk.1.symm,hk.2.symm⟩
  simp[hv]at hk
 have ekid2:∀k,v'.ownBlock=some k->e'.Rc k=some (b,1):=by subst X6;intro k hk;simp[hk]
 have eobj:∀k,I2 e' k->k=b:=by
  rintro k ⟨id,SV,c',h1,h2⟩;rw[em]at h1;by_cases hid:id=0
  .subst hid;rw[he]at h1;cases h1;rw[hblk]at h2;cases h2;rfl
  rw[Iw id hid]at h1;cases h1
 have eown:∀k,TT e' k->k=b\/v'.ownBlock=some k:=by
  rintro k (h1|⟨B,c',h1,h2⟩)
  .exact .inl (eobj k h1)
  exact .inr (ekid k B c' h1).1
 have eown2:∀k,TT e' k->w.heap.size<=k\/TT e k:=by
  intro k hk;rcases eown k hk with rfl|hv
  .exact .inr (.inl DW)
  rcases tq k hv with h1|h1
  .exact .inr (.inr ⟨b,1,h1,DW⟩)
  exact .inl h1
 have nown:∀k,¬TT e k->k≠b/\some k≠v.ownBlock:=by
  intro k hk;refine⟨?_,?_⟩
  .rintro rfl;exact hk (.inl DW)
  intro h1;exact hk (.inr ⟨b,1,fk k h1.symm,DW⟩)
 have anu:np w' e' b 5 bs' v':=by
  by_cases ov:bs'=[]
  .exact .inl ⟨j7.2 ov,ov⟩
  obtain⟨hlen,D5⟩:=Eh.own;rcases D5 with ⟨hv,_⟩|⟨g,cap,cur,fz,hv,_,h4,h5,h6,h7,h8,h9⟩
  .exact absurd (j7.1 hv) ov
  refine .inr ⟨g,cap,cur,fz,hv,ekid2 g (by rw[hv];rfl),h4,oM,h6,h7,oM,?_,ov⟩;rw[B3]at h9;exact h9
 have ah0:Jh w' e' (rM 2) (.bd 186 5 bs') ee:=⟨Sn,b,c,p',v',hblk,Eh.Rr,hp',anu⟩;have Ry:rM 2 0:=by unfold rM;omega
 refine⟨x,e',rfl,⟨?_,?_,?_,?_,?_,?_,?_,?_⟩,.rC _ _ (hx _ _),⟨Zw.size,?_,?_,?_,?_⟩,ez,eown2,⟨Zw.os,Zw.tape,Zw.output,Zw.size,?_,Zw.new.1⟩⟩
 .intro id hid;rw[em];refine Iw id fun h0=>?_;subst h0;cases hid
 .intro id g ob hid;simp only[Hp.get]at hid;by_cases h0:0=id
  .rw[iP h0]at hid;cases hid
   subst h0;exact⟨ee,(em 0).trans he,uy,Ry,ah0⟩
  rw[iN h0]at hid;cases hid
 .intro id qJ e1 e2 b1 c1 c2 h1 h2 _ _;rw[em]at h1 h2;by_cases i1:id=0
  .by_cases i2:qJ=0
   .rw[i1,i2]
   rw[Iw qJ i2]at h2;cases h2
  rw[Iw id i1]at h1;cases h1
 .intro id e1 b1 c1 h1 h2;have:=eobj b1 ⟨id,e1,c1,h1,h2⟩;subst this;exact tL KS Zw.size
 .intro id e1 b1 c1 h1 h2;have:=eobj b1 ⟨id,e1,c1,h1,h2⟩;subst this;rw[ez];exact wC
 .intro k B c1 hk;obtain⟨h1,rfl,_⟩:=ekid k B c1 hk;refine⟨GF k h1,tL KS Zw.size,?_⟩;rw[ez];rcases tq k h1 with h2|h2
  .exact(hr.kl k _ _ h2).2.2
  intro h3;have:=hz k h3;omega
 .intro k hk;have:=eobj k hk;subst this;cases h1:e'.Rc k with
  |none=>rfl|some q=>exact absurd (ekid k q.1 q.2 h1).1 Eh.ne
 .intro k B c1 hk;obtain⟨_,rfl,_⟩:=ekid k B c1 hk;cases h1:e'.Rc B with
  |none=>rfl|some q=>exact absurd (ekid B q.1 q.2 h1).1 Eh.ne
 .intro g hg;exact tL hg oM
 .intro k hk hu;refine⟨by rw[ez];exact hu.1,fun h1=>?_⟩;rcases eown2 k h1 with h2|h2
  .omega
  exact hu.2 h2
 .intro k hk hu;obtain⟨h1,h2⟩:=nown k hu.2;exact Zw.block k hk h1 h2
 .intro id e1 h1 _;rw[em]at h1;exact⟨e1,h1,rfl,rfl,.inl ⟨rfl,rfl⟩⟩
 intro k hk hu;obtain⟨h1,h2⟩:=nown k hu;exact Zw.block k hk h1 h2
open Go Go.Sym Go.Proofs.Tryz Go.Great Go.RowKit Go.Proofs Go.Sort Go.Scr Sc
def OI:Go.Shelf.Ren:=⟨fun|166=>131|167=>133|169=>134|240=>178|276=>223|n=>n,fun|9=>9|3=>3|4=>4|0=>0|20=>20|72=>186|76=>190|70=>184|37=>84|75=>189|127=>226|164=>257|5=>5|80=>194|n=>n,fun|n=>n⟩
def ajE:Go.Proofs.Lays.n166 prog OI:={
 mixed:=kR
 f166:=func131.trans (rD some kR)
 f240:=func178.trans (rD some kR)
 f276:=func223.trans (rD some kR)
 t0:=underlying0
 a0:=isAgg0
 z0:=sizeOf0
 v0:=zeroValue0
 t3:=underlying3
 a3:=isAgg3
 z3:=sizeOf3
 v3:=zeroValue3
 t4:=underlying4
 a4:=isAgg4
 z4:=sizeOf4
 v4:=zeroValue4
 t9:=underlying9
 a9:=isAgg9
 z9:=sizeOf9
 v9:=zeroValue9
 t20:=underlying20
 a20:=isAgg20
 z20:=sizeOf20
 v20:=zeroValue20
 t37:=underlying84
 a37:=isAgg84
 z37:=sizeOf84
 v37:=zeroValue84
 t70:=underlying184
 a70:=isAgg184
 z70:=sizeOf184
 v70:=zeroValue184
 t72:=underlying186
 a72:=isAgg186
 z72:=sizeOf186
 v72:=zeroValue186
 t75:=underlying189
 a75:=isAgg189
 z75:=sizeOf189
 v75:=zeroValue189
 t164:=underlying257
 a164:=isAgg257
 z164:=sizeOf257
 v164:=zeroValue257}
def ajd:Go.Proofs.Lays.n167 prog OI:={
 mixed:=kR
 f167:=func133.trans (rD some kR)
 f240:=func178.trans (rD some kR)
 f276:=func223.trans (rD some kR)
 t0:=underlying0
 a0:=isAgg0
 z0:=sizeOf0
 v0:=zeroValue0
 t4:=underlying4
 a4:=isAgg4
 z4:=sizeOf4
 v4:=zeroValue4
 t5:=underlying5
 a5:=isAgg5
 z5:=sizeOf5
 v5:=zeroValue5
 t9:=underlying9
 a9:=isAgg9
 z9:=sizeOf9
 v9:=zeroValue9
 t20:=underlying20
 a20:=isAgg20
 z20:=sizeOf20
 v20:=zeroValue20
 t37:=underlying84
 a37:=isAgg84
 z37:=sizeOf84
 v37:=zeroValue84
 t70:=underlying184
 a70:=isAgg184
 z70:=sizeOf184
 v70:=zeroValue184
 t72:=underlying186
 a72:=isAgg186
 z72:=sizeOf186
 v72:=zeroValue186
 t75:=underlying189
 a75:=isAgg189
 z75:=sizeOf189
 v75:=zeroValue189
 t164:=underlying257
 a164:=isAgg257
 z164:=sizeOf257
 v164:=zeroValue257}
def OA:Builder.Extra prog OI:={
 sizeBuilder:=kR
 liesBuilder:=kR
 t5:=underlying5
 a5:=isAgg5
 z5:=sizeOf5
 v5:=zeroValue5
 infoByte:=kR
 cellsByte:=kR
 sizeByte:=kR
 neB5:=by decide}
def Xc(a b:List UInt8):Lib.byteCells (a++b)=Lib.byteCells a++Lib.byteCells b:=by simp[Lib.byteCells]
def strCells_eq(s:List UInt8):Lib.strCells (strOf s)=Lib.byteCells s:=by simp[Lib.strCells,Lib.byteCells,oV]
def anw(bs s:Bs)(hl:bs.length+s.length<=140737488355328):UB prog J9 131 [(0,some (0,.bd 186 5 bs))] [.p 0 0 0 0 0,S (strOf s)] [(0,some (0,.bd 186 5 (bs++s)))] (.F1 [I s.length,.lit .nilIface]):=by
 refine NX (vs:=[.string (strOf s)]) ⟨f131,func131,vz,vz⟩ fun w b p v hp hb hn=>?_;have IQ:(Lib.byteCells bs).length=bs.length:=jg bs;refine(ast ajE OA b p v hp (Lib.byteCells bs) (strOf s) w (by rw[IQ];exact hb) (by rw[IQ,Ip];exact hl)).mono ?_;rintro en w' ⟨rfl,v',h1,h2,h3⟩;refine⟨_,rfl,fun w U=>?_,_,v',.inr rfl,?_,?_,h3⟩
 .refine .F1 _ _ rfl fun i hi=>?_;rcases(by simp at hi;omega:i=0\/i=1)with rfl|rfl
  .rw[Ip];exact .lit _ rfl
  exact .lit _ rfl
 .rw[IQ,Ip,strCells_eq]at h1;rw[Xc,aL];exact h1
 rw[h2,hn,Ip];simp[EH]
def afN(bs:Bs)(c:UInt8)(hl:bs.length+1<=140737488355328):UB prog J9 133 [(0,some (0,.bd 186 5 bs))] [.p 0 0 0 0 0,Uc c] [(0,some (0,.bd 186 5 (bs++[c])))] (.lit .nilIface):=by
 refine NX (vs:=[.int .u8 ((c.toNat:Nat):Int)]) ⟨f133,func133,vz,vz⟩ fun w b p v hp hb hn=>?_;have IQ:(Lib.byteCells bs).length=bs.length:=jg bs;refine(aqN ajd OA b p v hp (Lib.byteCells bs) ((c.toNat:Nat):Int) w (by rw[IQ];exact hb) (by rw[IQ];exact hl)).mono ?_;rintro en w' ⟨rfl,v',h1,h2,h3⟩;refine⟨_,rfl,fun w U=>.lit _ rfl,_,v',.inr rfl,?_,?_,h3⟩
 .rw[IQ]at h1;rw[Xc,aL];exact h1
 constructor
 .intro h;exact absurd h h2
 intro h;simp at h
def B_(w:World)(g n k:Nat)(h:k≠g):(w.freeze ⟨g,0,none⟩ n).heap[k]?=w.heap[k]?:=by
 unfold World.freeze;split
 .rfl
 show(w.heap.modify g _)[k]?=_;rw[YX];simp[FX h]
def adY(w:World)(a:Addr)(n:Nat):(w.freeze a n).os=w.os/\(w.freeze a n).tape=w.tape/\(w.freeze a n).output=w.output/\(w.freeze a n).heap.size=w.heap.size/\(w.freeze a n).drawn=w.drawn:=by
 unfold World.freeze;split
 .exact⟨rfl,rfl,rfl,rfl,rfl⟩
 exact⟨rfl,rfl,rfl,sM,rfl⟩
def adm(bs:Bs):UB prog J9 134 [(0,some (0,.bd 186 5 bs))] [.p 0 0 0 0 0] [(0,some (0,.bd 186 5 bs))] (S (strOf bs)):=by
 refine NX (vs:=[]) ⟨f134,func134,vz,vz⟩ fun w b p v hp hb hn=>?_;have IQ:(Lib.byteCells bs).length=bs.length:=jg bs;by_cases h0:bs=[]
 .subst h0;have hv:=hn.2 rfl;subst hv;refine(as3 Tryz.jY Tryz.oY b p w hb.Rr).mono ?_;rintro en w' ⟨rfl,rfl⟩;exact⟨_,rfl,fun w U=>.lit _ rfl,p,_,hp,⟨hb.Rr,hb.own,hb.ne⟩,hn,⟨rfl,rfl,rfl,lR _,fun _ _ _ _=>rfl,⟨ug _,fun k hk=>.inl hk⟩⟩⟩
 obtain⟨hlen,D5⟩:=hb.own;rcases D5 with ⟨hv,_⟩|⟨g,cap,cur,fz,hv,hz,h4,h5,h6,h7,h8,h9⟩
 .exact absurd (hn.1 hv) h0
 subst hv;refine(ahW Tryz.jY Tryz.oY b p g cap cur fz bs w hb.Rr h4 h6 h7 oM ⟨hlen,.inr ⟨g,cap,cur,fz,rfl,hz,h4,h5,h6,h7,h8,h9⟩⟩ h0).mono ?_;rintro en w' ⟨rfl,rfl⟩;have ail:Lib.BuilderAtF 186 5 0 b p (Lib.byteCells bs) w.drew:=⟨zL _,_,hb.Rr,by rw[IQ];exact⟨hlen,.inr ⟨g,cap,cur,fz,rfl,hz,h4,h5,h6,h7,h8,h9⟩⟩,hb.ne⟩;have hF:=ail.froze (g:=g) (cap:=cap) (by rw[IQ];exact Lib.cell_of_heap (w:=w.drew) hb.Rr 1);rw[IQ]at hF;obtain⟨_,v2,k1,k2,k3⟩:=hF;have hgb:b≠g:=fun h=>hb.ne (by rw[h];rfl);have oU:v2=.slice (some ⟨g,0,none⟩) bs.length cap:=by have:=B_ w.drew g bs.length b hgb;rw[this]at k1;have C':=hb.Rr;have:w.drew.heap[b]?=w.heap[b]?:=rfl;rw[this,C']at k1;simp at k1;exact k1.symm
 subst oU;have Zw:=adY w.drew ⟨g,0,none⟩ bs.length;refine⟨_,rfl,fun w U=>.lit _ rfl,p,_,hp,⟨k1,by rw[IQ]at k2;exact k2,k3⟩,hn,⟨Zw.1,Zw.2.1,Zw.2.2.1,Nat.le_of_eq Zw.2.2.2.1.symm,fun k hk h1 h2=>?_,⟨by rw[Zw.2.2.2.2];exact ug _,fun k hk=>.inl hk⟩⟩⟩
 .exact B_ w.drew g bs.length k (fun h=>h2 (by rw[h];rfl))
end Go.Proofs.YtfcgkbinohibcaaGreatDoor
namespace Go.Inf
open Go.Lib
def Pu(l:List Int):List UInt8:=l.flatMap fun n=>itoa n++[32]
theorem aiX:Pu []=[]:=rfl
def atq(l:List Int)(n:Int):Pu (l++[n])=Pu l++(itoa n++[32]):=by simp[Pu]
def jr(l:List UInt8):Nat:=l.foldl (fun a c=>10*a+(c.toNat-48)) 0
def nu{k:Nat}(h:k<10):(UInt8.ofNat (48+k)).toNat=48+k:=by rw[UInt8.toNat_ofNat'];omega
theorem mn:∀u:Nat,jr (decDigits u)=u:=by
 intro u;induction u using Nat.strongRecOn with
 |_ u ih=>
  rw[decDigits];split
  .rename_i h;simp only[jr,Xi,LJ];rw[nu h];omega
  rename_i h;have:=ih (u / 10) oM;unfold jr at this ⊢;rw[WS,this];simp only[Xi,LJ];rw[nu (yh _ dM)];omega
theorem Of:∀u:Nat,(32:UInt8)∉decDigits u:=by
 intro u;induction u using Nat.strongRecOn with
 |_ u ih=>
  have one:∀k,k<10->(32:UInt8)≠UInt8.ofNat (48+k):=fun k hk h=>by have:=rD UInt8.toNat h;rw[nu hk]at this;have h32:(32:UInt8).toNat=32:=rfl;omega
  rw[decDigits];split
  .rename_i h;intro hm;exact one u h (iT.1 hm)
  rename_i h;intro hm;rcases ym.1 hm with hm|hm
  .exact ih (u / 10) oM hm
  exact one _ (yh _ dM) (iT.1 hm)
def aaf{n:Int}(h:0<=n):itoa n=decDigits n.toNat:=by unfold itoa;rw[iN oM]
theorem TR:∀{a b r t:List UInt8},(32:UInt8)∉a->(32:UInt8)∉b->a++32::r=b++32::t->a=b/\r=t
 |[],[],_,_,_,_,h=>A6|[],y::b,_,_,_,hb,h=>by simp only[fj,Mb,bD]at h;exact absurd (by rw[h.1];exact mS) hb|x::a,[],_,_,ha,_,h=>by simp only[fj,Mb,bD]at h;exact absurd (by rw[<-h.1];exact mS) ha|x::a,y::b,_,_,ha,hb,h=>by simp only[Mb,bD]at h;obtain⟨h1,h2⟩:=TR (a:=a) (b:=b) (fun hm=>ha (mC _ hm)) (fun hm=>hb (mC _ hm)) h.2;exact⟨by rw[h.1,h1],h2⟩
theorem QL:∀{a b:List Int},(∀n∈a,0<=n)->(∀n∈b,0<=n)->Pu a=Pu b->a=b
 |[],[],_,_,_=>rfl|[],y::b,_,_,h=>by simp[Pu]at h|x::a,[],_,_,h=>by simp[Pu]at h|x::a,y::b,ha,hb,h=>by
  have hx:=ha x mS;have hy:=hb y mS;have e:∀(z:Int)(l:List Int),Pu (z::l)=itoa z++32::Pu l:=fun z l=>by simp[Pu]
  rw[e,e,aaf hx,aaf hy]at h;obtain⟨h1,h2⟩:=TR (Of _) (Of _) h;have h3:=rD jr h1;rw[mn,mn]at h3;rw[QL (fun n hn=>ha n (mC _ hn)) (fun n hn=>hb n (mC _ hn)) h2];congr 1
  omega
end Go.Inf
namespace Go.Proofs.YtfcgkbinohibcaaGreatDoor
open Go Go.Sym Go.Proofs.Tryz
open Go.Inf
structure BP(p:Pl):Prop where
 ky:Gm p
 nn:∀n∈qN p,0<=n/\n<=1000000
def jA:Nat->List J'->List (ByteArray×AV)
 |_,[]=>[]|i,h::t=>(strOf (Pu (qN h.pl)),I i)::jA (i+1) t
theorem GY:∀(i:Nat)(G:List J'),IC (jA i G)
 |_,[]=>fun p hp=>by cases hp
 |i,h::t=>fun p hp=>by
  rcases rX.1 hp with rfl|hp
  .trivial
  exact GY (i+1) t p hp
theorem ak2(i:Nat)(G:List J'):IC (jA i G)=True:=Ie (GY i G)
attribute [go_sem] ak2
theorem VN:∀(i:Nat)(G:List J')(h:J'),jA i G++[(strOf (Pu (qN h.pl)),I ((i+G.length:Nat):Int))]=jA i (G++[h])
 |i,[],h=>by simp[jA]|i,x::t,h=>by have:=VN (i+1) t h;simp only[jA,Mb,dO];rw[<-this,show i+(t.length+1)=i+1+t.length by omega]
theorem aaa{k:List UInt8}:∀{i:Nat}{G:List J'},(∀x∈G,Pu (qN x.pl)≠k)->qz k (jA i G)=false
 |_,[],_=>rfl|i,x::t,h=>by rw[jA,qz,aaa fun y hy=>h y (mC _ hy),oV,dF (h x mS)];rfl
theorem Tk{k:List UInt8}{z:AV}:∀{i j:Nat}{G:List J'},j<G.length->Pu (qN (G.getD j default).pl)=k->(∀m,m<j->Pu (qN (G.getD m default).pl)≠k)->qz k (jA i G)=true/\JF k z (jA i G)=I ((i+j:Nat):Int)
 |_,_,[],h,_,_=>tC|i,0,x::t,_,h,_=>by have h':Pu (qN x.pl)=k:=h;rw[jA,qz,JF,oV,iP h',dT h'];exact⟨rfl,rfl⟩|i,j+1,x::t,h,h2,h3=>by have h0:Pu (qN x.pl)≠k:=h3 0 oM;obtain⟨q1,q2⟩:=Tk (k:=k) (z:=z) (i:=i+1) (j:=j) (G:=t) lM h2 fun m hm=>h3 (m+1) oM;rw[jA,qz,JF,oV,iN h0,q1,q2];exact⟨sM,by congr 2;omega⟩
theorem HX:∀{i j:Nat}{G:List J'}(hj:j<G.length)(x:J'),x.pl=(G.getD j default).pl->jA i (G.set j x)=jA i G
 |_,_,[],h,_,_=>tC|i,0,y::t,_,x,e=>by have e':x.pl=y.pl:=e;simp only[List.set,jA,e']|i,j+1,y::t,h,x,e=>by simp only[List.set,jA];rw[HX (i:=i+1) (j:=j) (G:=t) lM x e]
def UO(G:List J'):Hp:=[(0,some (0,.box [.Ic 1 0,.l 2 0 0 G.length])),(1,some (0,.ms (jA 0 G))),(2,some (0,.own 63 3 (wF G)))]
def Hx(p:Pl)(h:Gm p):(qN p).length<=2001000:=by obtain⟨h1,h2,h3,h4⟩:=h;rw[Gs,aL];have:=CS h3;have:=aY h4;omega
theorem JO:∀{l:List Int},(∀n∈l,0<=n/\n<=1000000)->(Pu l).length<=l.length*22
 |[],_=>lR _|n::l,h=>by
  have h1:=JO (l:=l) fun m hm=>h m (mC _ hm);have h2:=h n mS;have h3:=Lib.itoa_length_le n oM oM;have e:Pu (n::l)=Lib.itoa n++32::Pu l:=by simp[Pu]
  rw[e];simp only[aL,dO];omega
def aby(p:Pl)(u:Int)(G G':List J')(h:BP p)(hG:G.length<=1000)(hc:(G'=G++[⟨u,p.Q,p.R⟩]/\∀x∈G,Pu (qN x.pl)≠Pu (qN p))\/
   (∃j,j<G.length/\G'=G.set j ⟨min (G.getD j default).us u,(G.getD j default).sl,(G.getD j default).bn⟩/\Pu (qN (G.getD j default).pl)=Pu (qN p)/\∀m,m<j->Pu (qN (G.getD m default).pl)≠Pu (qN p))):
  UB prog J9 76 (UO G) [.p 0 0 0 0 0,p.av,I u] (UO G') (.F1 []):=by
 have hf:=cJ p h.ky;have DN:=Hx p h.ky;have dK:=h.nn;have fw:=VN 0 G ⟨u,p.Q,p.R⟩;simp only[J'.pl,cy]at fw;unfold UO;generalize qN p=ks at*;refine MD func76 ntmps76 ?_;intro w e X hC;refine BL ?_;refine Yi hf ?_;refine uW ?_;refine AJ ks.length (fun i:Az=>⟨[(0,.p 0 0 0 0 0),(2,I u),(4,.p 104 1 0 0 0),(6,.p 106 2 0 0 0),(13,IS ks),(14,I ks.length),(15,I i.2)],(106,some (2,.bd 186 5 (Pu (ks.take i.2))))::(104,some (1,.box (GE p)))::(0,some (0,.box [.Ic 1 0,.l 2 0 0 G.length]))::(1,some (0,.ms (jA 0 G)))::(2,some (0,.own 63 3 (wF G)))::[],i.1⟩) (wH @aiX) ?_;intro ck i hi;refine C0 ?_ ?_<;>intro c
 .have PP:i<ks.length:=oM;have hg:=ma PP;have hb:=dK _ (Ug PP 0);have hs:=Pq PP (0:Int);have hl:=JO (l:=ks.take i) fun n hm=>dK n (Cz hm);have I5:=atq (ks.take i) (ks.getD i 0);rw[<-hs]at I5;rw[Hh,Q5 hi]at hl;generalize ks.getD i 0=n at*;generalize Pu (ks.take i)=acc at*;have T6:=Lib.itoa_length_le n oM oM;have wi:=ahe n oM oM;have w1:=anw acc (Lib.itoa n) oM;have w2:=afN (acc++Lib.itoa n) 32 (by rw[aL];omega);rw[Z5]at w2;refine aH @hg ?_;refine uR ?_;intro K hK;refine Dx wi ?_;refine uH ?_;refine PZ [(0,0,106,2)] [(106,2,0,0)] true (w1) iw iw p6 p6 p6 p6 p6 p6 p6 p6 p6 p6 p6 p6 p6 p6 p6 ?_;refine M3 ?_;refine hK _ ?_;clear hK K;refine uR ?_;intro K hK;refine uH ?_;refine PZ [(0,0,106,2)] [(106,2,0,0)] true (w2) iw iw p6 p6 p6 p6 p6 p6 p6 p6 p6 p6 p6 p6 p6 p6 p6 ?_;refine M3 ?_;refine hK _ ?_;clear hK K;refine uZ ?_;exact nX (_,i+1) (wH @I5)
 refine El ?_;have Wd:i=ks.length:=oM;subst Wd;rw[Sy];have w3:=adm (Pu ks);generalize Pu ks=K9 at*;rcases hc with ⟨rfl,hn⟩|⟨j,hj,rfl,hk,ir⟩;case inr=>
  obtain⟨q1,q2⟩:=Tk (z:=I 0) (i:=0) hj hk ir;rw[cy]at q2;have hg:=Pa hj;have oh:jA 0 (G.set j ⟨min (G.getD j default).us u,(G.getD j default).sl,(G.getD j default).bn⟩)=jA 0 G:=HX hj _ rfl;rw[oh,su];generalize G.getD j default=x at*;refine uR ?_;intro K hK;refine uH ?_;refine PZ [(0,0,106,2)] [(106,2,0,0)] true (w3) iw iw p6 p6 p6 p6 p6 p6 p6 p6 p6 p6 p6 p6 p6 p6 p6 ?_;refine M3 ?_;refine hK _ ?_;clear hK K;refine NL (uI @q1 @q2) ?_;refine Ew (uI @q1 (uI @q2 @hg)) ?_;show ∃σ D,Nu _ f76.results.toList σ D _ _ _;rw[show f76.results.toList=[] from rfl];(refine Me [(0,0,0,0),(1,0,1,0),(2,0,2,0)] Px sM sM sM ?_ ?_ ?_ ?_ ?_;(iterate 3 (focus (first|exact trivial|(simp only[go_sem,e_,FT,Dg,N_,Lf,rZ]<;>first|trivial|(simp;done)))));all_goals (try simp only[go_sem,e_,FT,Dg,N_,Lf,rZ,yO,Ds]));have e:(if u<x.us then u else x.us)=min x.us u:=by rw[Int.min_def];split<;>split<;>omega
  rw[e]
 have Ov:=aaa (i:=0) hn;refine uR ?_;intro K hK;refine uH ?_;refine PZ [(0,0,106,2)] [(106,2,0,0)] true (w3) iw iw p6 p6 p6 p6 p6 p6 p6 p6 p6 p6 p6 p6 p6 p6 p6 ?_;refine M3 ?_;refine hK _ ?_;clear hK K;refine K6 @Ov ?_;refine Ew @Ov ?_;simp only[fw];refine uD ?_;refine SU ?_;refine A_ ?_;rw[show f76.results.toList=[] from rfl];(refine Me [(0,0,0,0),(1,0,1,0),(2,0,2,0)] Px sM sM sM ?_ ?_ ?_ ?_ ?_;(iterate 3 (focus (first|exact trivial|(simp only[go_sem,e_,FT,Dg,N_,Lf,rZ]<;>first|trivial|(simp;done)))));all_goals (try simp only[go_sem,e_,FT,Dg,N_,Lf,rZ,yO,Ds]))
 done
open Go.Inf
def ajs(x y:Int):UB prog J9 181 [] [I x,I y] [] (I (if x<y then -1 else if y<x then 1 else 0)):=by
 by_cases c1:x<y
 .have d1:decide (x<y)=true:=dT c1;rw[iP c1];refine MD func181 ntmps181 ?_;intro w e X hC;refine BL ?_;refine I6 (sF x) ?_;refine uR ?_;refine I6 (sF y) ?_;refine VF @d1 ?_;exact uP
 have d1:decide (x<y)=false:=dF c1;rw[iN c1];by_cases c2:y<x
 .have d2:decide (y<x)=true:=dT c2;rw[iP c2];refine MD func181 ntmps181 ?_;intro w e X hC;refine BL ?_;refine I6 (sF x) ?_;refine uR ?_;refine I6 (sF y) ?_;refine VF (uI @d1 @d2) ?_;exact uP
 have d2:decide (y<x)=false:=dF c2;rw[iN c2];refine MD func181 ntmps181 ?_;intro w e X hC;refine BL ?_;refine I6 (sF x) ?_;refine uR ?_;refine I6 (sF y) ?_;refine VF (uI @d1 @d2) ?_;exact uP
def cmpL:List Int->List Int->Int
 |[],[]=>0|[],_::_=>-1|_::_,[]=>1|a::r,b::t=>if a<b then -1 else if b<a then 1 else cmpL r t
theorem VS:∀a b:List Int,cmpL a b<0↔W9 a b=true
 |[],[]=>by simp[cmpL,W9]|[],_::_=>by simp[cmpL,W9]|_::_,[]=>by simp[cmpL,W9]|a::r,b::t=>by
  rw[cmpL,W9];by_cases h1:a<b
  .rw[iP h1,iN oM];simp[h1]
  rw[iN h1];by_cases h2:b<a
  .rw[iP h2,iN oM];simp[h1]
  rw[iN h2,iP oM];exact VS r t
def ael{a b:List Int}{i:Nat}(h1:i<a.length)(h2:i<b.length):cmpL (a.drop i) (b.drop i)=if a.getD i 0<b.getD i 0 then -1 else if b.getD i 0<a.getD i 0 then 1 else cmpL (a.drop (i+1)) (b.drop (i+1)):=by rw[Pv h1,Pv h2,cmpL,gE,gG h1,gE,gG h2];rfl
def alr(a b:List Int)(ha:a.length<=10000000)(hb:b.length<=10000000):UB prog J9 138 [] [IS a,IS b] [] (I (cmpL a b)):=by
 refine MD func138 ntmps138 ?_;intro w e X hC;refine EP ?_;refine R7 a.length (fun i:Az=>⟨[(0,IS a),(1,IS b),(9,IS a),(10,I a.length),(11,I i.2)],[],i.1⟩) (fun i=>i.2<=b.length/\cmpL a b=cmpL (a.drop i.2) (b.drop i.2)) ⟨zL _,sM⟩ (ch) ?_;rintro ck i hi ⟨pU,oh⟩;simp only at pU oh;refine C0 ?_ ?_<;>intro c
 .have PP:i<a.length:=oM;have g1:=ma PP;refine Fm @g1 ?_ ?_<;>intro c2
  .have ov:b.drop i=[]:=Db oM;rw[oh,ov,Pv PP,cmpL];exact Et
  have XR:i<b.length:=oM;have g2:=ma XR;have VV:=ael PP XR;rw[<-oh]at VV;generalize a.getD i 0=x at*;generalize b.getD i 0=z at*;have wc:=ajs x z;by_cases e1:x<z
  .rw[iP e1]at wc VV;rw[VV];refine aH @g2 ?_;refine uR ?_;refine I6 wc ?_;refine uZ ?_;exact Ed
  rw[iN e1]at wc VV;by_cases e2:z<x
  .rw[iP e2]at wc VV;rw[VV];refine aH @g2 ?_;refine uR ?_;refine I6 wc ?_;refine uZ ?_;exact Ed
  rw[iN e2]at wc VV;refine aH @g2 ?_;refine uR ?_;refine I6 wc ?_;refine uZ ?_;refine UN ?_;refine⟨(_,i+1),⟨uO,uO,VV⟩,uO,ch⟩
 refine El ?_;have Wd:i=a.length:=oM;rw[oh,Wd,wz];refine C0 ?_ ?_<;>intro c2
 .have:b.drop a.length≠[]:=fun h=>by have:=rD List.length h;simp at this;omega
  cases hd:b.drop a.length with
  |nil=>exact absurd hd this|cons y t=>rw[cmpL];exact Et
 rw[Db oM,cmpL];exact Et
def alW(x y:J')(hx:Gm x.pl)(hy:Gm y.pl):UB prog J9 137 [] [x.av,y.av] [] (I (cmpL (qN x.pl) (qN y.pl))):=by have f1:=cJ x.pl hx;have f2:=cJ y.pl hy;have l1:=Hx x.pl hx;have l2:=Hx y.pl hy;have wc:=alr (qN x.pl) (qN y.pl) oM oM;obtain⟨xu,xs,xb⟩:=x;obtain⟨yu,ys,yb⟩:=y;simp only[J'.pl]at*;generalize qN ⟨xs,xb⟩=k1 at*;generalize qN ⟨ys,yb⟩=k2 at*;refine MD func137 ntmps137 ?_;intro w e X hC;refine uZ ?_;refine uE ?_;intro K hK;refine cP f1 ?_;refine uS ?_;refine cP f2 ?_;refine uS ?_;refine PD wc ?_;refine hK _ ?_;clear hK K;exact uP
open Go.Inf
def Hz(y:Ly)(p:Pl)(pl:List T3)(Na:Int):Nat->List Uq->Int->Int×Bool
 |_,[],t=>(t,true)|i,r::l,t=>if(zc (zY y p pl i) r).2=false\/Na<t+(zc (zY y p pl i) r).1 then(0,false) else Hz y p pl Na (i+1) l (t+(zc (zY y p pl i) r).1)
def Gf(y:Ly)(p:Pl)(pl:List T3)(Na:Int)(rs:List Uq):Int×Bool:=Hz y p pl Na 0 rs 0
def Zn(v:Vw)(r:Uq):0<=(zc v r).1/\(zc v r).1<=1:=by
 unfold zc;split
 .decide
 split<;>decide
def rU{y:Ly}{p:Pl}{pl:List T3}{Na:Int}{rs:List Uq}{i:Nat}(h:i<rs.length)(t:Int):Hz y p pl Na i (rs.drop i) t=
  if(zc (zY y p pl i) (rs.getD i default)).2=false\/Na<t+(zc (zY y p pl i) (rs.getD i default)).1 then(0,false) else Hz y p pl Na (i+1) (rs.drop (i+1)) (t+(zc (zY y p pl i) (rs.getD i default)).1):=by
 rw[Pv h,Hz,gE,gG h];rfl
def cd(y:Ly)(p:Pl)(pl:List T3)(Na:Int)(hs:List J')(rs:List Uq)(h:Sj y p)(hl:rs.length=y.D.length)(hd:∀i,i<rs.length->(rs.getD i default).dv=(i:Int))(JW:pl.length<=1000)(ht:∀d,(zY y p pl d).tx=[]\/(zY y p pl d).tx.length=10)(hb:0<=Na/\Na<=2):
  UB prog J9 68 [] [p.av,.P [.sl (b7 rs) false],.P [.sl (H4 y.U) false,.sl (YA y.D) false],.P [.sl (YA pl) false],.P [I Na,.sl (wF hs) false]] [] (.F1 [I (Gf y p pl Na rs).1,B (Gf y p pl Na rs).2]):=by
 have hn:=h.n;refine MD func68 ntmps68 ?_;intro w e X hC;refine EP ?_;refine PV (fun i:Nat×Nat×Int=>⟨[(1,.P [.sl (b7 rs) false]),(2,.P [.sl (H4 y.U) false,.sl (YA y.D) false]),(3,.P [.sl (YA pl) false]),(4,.P [I Na,.sl (wF hs) false]),(5,.p 105 1 0 0 0),(8,I i.2.2),(13,.sl (b7 rs) false),(14,I rs.length),(15,I i.2.1)],(105,some (1,.box (GE p)))::[],i.1⟩) (fun i=>i.2.1<=rs.length/\0<=i.2.2/\i.2.2<=i.2.1/\Gf y p pl Na rs=Hz y p pl Na i.2.1 (rs.drop i.2.1) i.2.2) (fun i=>rs.length - i.2.1) (_,0,0) ⟨zL _,MB _,MB _,rfl⟩ (ch) ?_;rintro⟨ck,i,t⟩ ⟨hi,WP,nh,LF⟩;simp only at hi WP nh LF;refine C0 ?_ ?_<;>intro c
 .have PP:i<rs.length:=oM;have hg:=YN PP;have VV:=rU (y:=y) (p:=p) (pl:=pl) (Na:=Na) PP t;have wc:=aiN y p pl (rs.getD i default) i h oM (hd i PP) JW (ht i);have O5:=Zn (zY y p pl i) (rs.getD i default);generalize zc (zY y p pl i) (rs.getD i default)=cv at*;generalize rs.getD i default=r at*;rw[<-LF]at VV;obtain⟨cn,co⟩:=cv;simp only at*;cases co with
  |false=>rw[iP (.inl rfl)]at VV;rw[VV];refine aH @hg ?_;refine uR ?_;refine R6 wc ?_;refine uZ ?_;refine TD ?_;rw[show f68.results.toList=[.tmp 6,.tmp 7] from rfl];exact W5|true=>
   by_cases c2:Na<t+cn
   .have d2:decide (Na<t+cn)=true:=dT c2;rw[iP (.inr c2)]at VV;rw[VV];refine aH @hg ?_;refine uR ?_;refine R6 wc ?_;refine N5 @d2 ?_;rw[show f68.results.toList=[.tmp 6,.tmp 7] from rfl];exact W5
   have d2:decide (Na<t+cn)=false:=dF c2;rw[iN (fun h=>h.elim (fun h=>C3) c2)]at VV;refine aH @hg ?_;refine uR ?_;refine R6 wc ?_;refine zF @d2 ?_;refine⟨(_,i+1,t+cn),⟨uO,uO,uO,VV⟩,uO,ch⟩
 refine El ?_;have Wd:i=rs.length:=oM;rw[LF,Wd,wz,Hz];refine WE ?_;rw[show f68.results.toList=[.tmp 6,.tmp 7] from rfl];exact W5
end Go.Proofs.YtfcgkbinohibcaaGreatDoor
namespace Go.Sym
open Go Go.Great
variable{C:Cx}{T:vp}
def ajk(hC:PT C T){id d e el:Nat}{x:Operand}{t u ty1 ty2:TypeId}{pos1 pos2:String}{af1 af2:Array Edge}{full:Bool}{s:St}{Q:Exit->St->Prop}(hx:s.ev x=.sl [] full)(hd:d<C.N)(he:e<C.N)(tW:(tl T t).ty=.slice el)(h:∀b:Bool,Q .normal ((s.put (some d) (.sl [] full) []).put (some e) (.lit (.bool b)) [])):
  Ex C (.region id #[⟨some d,.move x,ty1,pos1,af1,none⟩,⟨some e,.binOp .eql t (.tmp d) (.const (.slice none 0 0)) u,ty2,pos2,af2,none⟩] false) Q s:=by
 intro a w hr;obtain⟨ev,h1,fo,hv⟩:=hr.body;have T7:=Jq (s:=s) hv x;rw[hx]at T7;obtain⟨v,BC⟩:∃v,v=a.eval x:=⟨_,rfl⟩;rw[<-BC]at T7;have jJ:∃ao,v=.slice ao 0 0\/∃b off cap,v=.slice (some ⟨b,off,none⟩) 0 cap:=by
  rcases T7.Rv.Rv with ⟨_,ao,rfl⟩|⟨b,off,cap,k,f,rfl,_⟩
  ·exact⟨ao,.inl rfl⟩
  exact⟨none,.inr ⟨b,off,cap,rfl⟩⟩
 obtain⟨dd,hu,K2⟩:=(hC.ty.fit tW sM).under;rw[tW]at K2;obtain⟨b,hb⟩:∃b:Bool,∀w,(Op.equalIn Op.maxDepth t v (.slice none 0 0)).run C.P w=.ok b w:=by
  cases K2
  rcases jJ with ⟨ao,rfl|⟨b,off,cap,rfl⟩⟩
  ·cases ao with
   |none=>exact⟨true,fun w=>Uo⟩|some ad=>exact⟨false,fun w=>Uo⟩
  exact⟨false,fun w=>Uo⟩
 have xw:∀(e0:bQ)(n:Nat),Z7 w e0 (rM n) w e0 (rM (n+1)):=fun e0 n=>by have:=Z7.wide w e0 (rM n) n;rw[X8]at this;exact this
 have r1:Tn C (s.put (some d) (.sl [] full) []) (a.put (some d) v) w:=
  Qk hr hv hd (by rw[<-X8];exact h1.wide) (xw ev s.ck) (by rw[<-X8];exact fo.wide _) hr.xt (T7.ext (xw ev s.ck))
 obtain⟨ev2,h2,F',oU⟩:=r1.body;have r2:Tn C ((s.put (some d) (.sl [] full) []).put (some e) (.lit (.bool b)) []) ((a.put (some d) v).put (some e) (.bool b)) w:=
  Qk r1 oU he (by rw[<-X8];exact h2.wide) (xw ev2 _) (by rw[<-X8];exact F'.wide _) r1.xt (.rC _ _ (.lit _ rfl))
 have ato:d<a.tmps.size:=by rw[hr.size];exact hd
 refine kI (l:=[_,_]) ?_;unfold wpListIn;rw[iP (aO rfl _)];refine⟨fun _ _=>trivial,?_⟩;rw[E1 _ _ _ Xo];have e1:(execOp a.eval ⟨some d,.move x,ty1,pos1,af1,none⟩).run C.P w=.ok (.value v) w:=by rw[BC];rfl
 rw[e1,Ta];unfold wpListIn;rw[iP (aO rfl _)];refine⟨fun _ _=>trivial,?_⟩;rw[E1 _ _ _ Xo];have e2:(a.put (some d) v).eval (.tmp d)=v:=by show(a.tmps.setIfInBounds d v).getD d undef=v;rw[gA,z_ ato];rfl
 have e3:(execOp (a.put (some d) v).eval ⟨some e,.binOp .eql t (.tmp d) (.const (.slice none 0 0)) u,ty2,pos2,af2,none⟩).run C.P w=.ok (.value (.bool b)) w:=by
  have e4:(binOp .eql t v (.slice none 0 0)).run C.P w=.ok (.bool b) w:=by
   rcases jJ with ⟨ao,rfl|⟨b',off,cap,rfl⟩⟩
   ·simp[binOp,Op.equal,hb w]
   simp[binOp,Op.equal,hb w]
  have e5:(eqGuard .eql t (.tmp d) (.const (.slice none 0 0)) v (.slice none 0 0)).run C.P w=.ok () w:=by simp[eqGuard]
  have e6:(a.put (some d) v).eval (.const (.slice none 0 0))=.slice none 0 0:=rfl;simp only[execOp,e2,e6,ig,e5,e4,GQ,fX]
 rw[e3,Ta];unfold wpListIn;exact .inl ⟨_,r2,h b⟩
def mI{P:Program}{f:FuncId}{hp':Hp}{az:List AV}{r r':AV}(h:UB P T f [] az hp' r)(hP:pj hp' r)(hr:mH hp' r=r'):UB P T f [] az [] r':=by
 refine⟨h.1,fun w e pk h1 h2 h3 h4 h5=>(h.2 w e pk h1 h2 h3 h4 h5).mono ?_⟩;rintro en w' ⟨v,e',rfl,q1,q2,q3,q4,q5,q6⟩;obtain⟨C,hC⟩:∃C:Cx,C=⟨P,1,w,e,none,[],fun _ _=>False⟩:=⟨_,rfl⟩;have rel:Tn C ⟨[(0,r)],hp',2⟩ {tmps:=#[v],defers:=[]} w':=by
  subst hC;refine⟨rfl,rfl,⟨q6.os,q6.tape,q6.output,q6.size,q6.same,q6.drawn⟩,e',q1,⟨q4,h2,q3,q5⟩,fun t=>?_⟩;show VR _ _ _ _ (L5 [(0,r)] t) _;simp only[L5];by_cases h0:0=t
  ·subst h0;rw[iP rfl];exact q2
  rw[iN h0];exact .rC _ _ (.bad _)
 have wk:Kd ⟨[(0,r)],hp',2⟩ ⟨[(0,r')],[],2⟩:=by
  refine⟨lR _,fun id=>.inl rfl,fun t=>?_⟩;simp only[L5];by_cases h0:0=t
  ·subst h0;rw[iP rfl,iP rfl];exact .inr (.inr ⟨hP,hr.symm,fun i _=>rfl⟩)
  rw[iN h0];exact .inl rfl
 have rel2:=wk.rel rel;obtain⟨e2,k1,k2,k3⟩:=rel2.body;have k4:=rel2.xt;subst hC;exact⟨v,e2,rfl,k1,by have:=k3 0;simp only[L5,ql]at this;exact this,k2.ext,k2.tI,k2.jR,⟨k4.os,k4.tape,k4.output,k4.size,k4.same,k4.drawn⟩⟩
end Go.Sym
namespace Go.Proofs.YtfcgkbinohibcaaGreatDoor
open Go Go.Sym Go.Proofs.Tryz
open Go.Inf
def zO(f g:T3):Bool:=decide (f.b=g.b)&&decide (f.c=g.c)
theorem abK(f g:T3):UB prog J9 167 [] [g.av,.P [I f.a,I f.b,I f.c]] [] (B (zO f g)):=by
 unfold zO;cases d1:decide (f.b=g.b)with
 |false=>refine MD func167 ntmps167 ?_;intro w e X hC;exact jm @d1|true=>refine MD func167 ntmps167 ?_;intro w e X hC;exact jm @d1
theorem aqe(l:List T3)(hl:l.length<=1000):UB prog J9 168 [] [.sl (YA l) false] [(100,some (1,.own 95 3 (YA l)))] (.l 100 1 0 l.length):=by
 by_cases h0:0<l.length
 .refine MD func168 ntmps168 ?_;intro w e X hC;refine uZ ?_;refine UN ?_;refine A_ ?_;rw[show f168.results.toList=[.tmp 2] from rfl];(refine Me [(100,1,105,4)] Xs sM sM sM I3 I3 I3 ?_ ?_;all_goals (first|refine UR ?_|exact Xv|skip))
 have hn:l=[]:=Ha oM;subst hn;refine MD func168 ntmps168 ?_;intro w e X hC;refine EP ?_;refine ajk (full:=false) (el:=95) hC rfl (by show 3<f168.ntmps;rw[ntmps168];decide) (by show 4<f168.ntmps;rw[ntmps168];decide) rfl fun b=>?_;cases b with
 |true=>refine TD ?_;rw[show f168.results.toList=[.tmp 2] from rfl];(refine Me [(100,1,102,4)] Xs sM sM sM I3 I3 I3 ?_ ?_;all_goals (first|refine UR ?_|exact Xv|skip));rfl
 |false=>refine UN ?_;refine A_ ?_;rw[show f168.results.toList=[.tmp 2] from rfl];(refine Me [(100,1,105,4)] Xs sM sM sM I3 I3 I3 ?_ ?_;all_goals (first|refine UR ?_|exact Xv|skip))
end Go.Proofs.YtfcgkbinohibcaaGreatDoor
namespace Go.Sym
open Go Go.Great Go.Sort Go.Shelf Go.RowKit Go.Proofs
def rC:AV->Prop
 | .lit _| .sl _ _=>True|_=>False
def rC.one{c:AV}(h:rC c):c.one=true:=by cases c<;>first|rfl|exact h.elim
theorem rC.vd{w:World}{U:Nat->Prop}{e:bQ}{G:Nat->Prop}{c:AV}{v:Value}(h:rC c)(hv:VR w U e G c v):VD w U c v:=by
 cases c with
 |lit _=>obtain⟨h1,h2⟩:=hv.VI;rw[h1];exact .lit _ h2
 |sl _ _=>exact hv.Rv|_=>exact h.elim
theorem rC.vc{w:World}{e:bQ}{G:Nat->Prop}{b n:Nat}{c:AV}{v:Value}(h:rC c)(hv:VC w e G b n c v):VD w (UE e) c v:=by
 cases hv with
 |val _ _ hv=>exact h.vd hv|Mt=>exact h.elim|Rc=>exact h.elim
def aqD{w w':World}(h1:w'.os=w.os)(h2:w'.tape=w.tape)(h3:w'.output=w.output)(h4:w.heap.size<=w'.heap.size)(h5:∀b,b<w.heap.size->w'.heap[b]?=w.heap[b]?)(h6:w.drawn<=w'.drawn):
  w'=grow (w.drewN (w'.drawn-w.drawn)) (w'.heap.extract w.heap.size w'.heap.size):=by
 obtain⟨hp,tp,dr,os,ou⟩:=w;obtain⟨hp',ND,KZ,sh,aac⟩:=w';simp only at h1 h2 h3 h4 h5 h6;subst h1 h2 h3;have e1:dr+(KZ-dr)=KZ:=oM;have e2:hp'=hp++hp'.extract hp.size hp'.size:=by
  refine Array.ext_getElem? fun i=>?_;by_cases hi:i<hp.size
  .rw[Jl hi];exact h5 i hi
  rw[Fo oM,Oj];by_cases pU:i<hp'.size
  .rw[iP oM];congr 1;omega
  rw[iN oM,Array.getElem?_eq_none oM]
 show(⟨hp',ND,KZ,sh,aac⟩:World)=⟨hp++hp'.extract hp.size hp'.size,ND,dr+(KZ-dr),sh,aac⟩;rw[e1,<-e2]
def Yc{α:Type}[Inhabited α](enc:α->List Value)(k:Nat)(w:World)(b off m:Nat)(d:Array α)(os:Array Obj):w.heap.size<=(sortWorldK enc k w b off m d os).heap.size:=by show w.heap.size<=((w.heap.modify b _)++os).size;simp
def p5{α:Type}[Inhabited α](enc:α->List Value)(k:Nat)(w:World)(b off m:Nat)(d:Array α)(os:Array Obj){b':Nat}(hb:b'<w.heap.size)(SO:b'≠b):(sortWorldK enc k w b off m d os).heap[b']?=w.heap[b']?:=by show((w.heap.modify b _)++os)[b']?=_;rw[Jl xW,YX,iN (FX SO)]
def agi{α:Type}[Inhabited α](enc:α->List Value)(k:Nat)(w:World)(b off m:Nat)(d:Array α)(os:Array Obj){cs:Array Value}{t:Nat}{fz:Az}(hb:w.heap[b]?=some (.cells cs t fz)):
  (sortWorldK enc k w b off m d os).heap[b]?=some (.cells (putCells id off (flatK enc k d) cs) t fz):=by
 have PP:b<w.heap.size:=(DH.1 hb).1;show((w.heap.modify b (onCells (putCells id off (flatK enc k d))))++os)[b]?=_;rw[Jl (by simpa using PP),YX,iP rfl,hb];rfl
theorem aau{β:Type}{cf:β->β->Int}(hO:SWO (ltOf cf)):∀{l l':List β},l.Perm l'->(l.Pairwise fun a b=>cf a b<0)->(l'.Pairwise fun a b=>¬cf b a<0)->l=l'
 |[],l',hp,_,_=>(List.nil_perm.1 hp).symm|a::l,[],hp,_,_=>by have:=hp.length_eq;simp at this|a::l,b::l',hp,h1,h2=>by
  obtain⟨p1,p2⟩:=xL.1 h1;obtain⟨q1,q2⟩:=xL.1 h2;have K7:a=b:=by
   rcases rX.1 (hp.mem_iff.1 (mS:a∈a::l))with h|h
   .exact h
   rcases rX.1 (hp.mem_iff.2 (mS:b∈b::l'))with h'|h'
   .exact h'.symm
   exact absurd (p1 b h') (q1 a h)
  subst K7;rw[aau hO ((List.perm_cons a).1 hp) p2 q2]
theorem xQ{P:Program}{T:vp}{ρ:Ren}(L:SlLaysF0.n6 P ρ){fS fC t k:Nat}(anH:ρ.f 6=fS)(hE:Enters P fS)(ar1:∀args w,(callFunc fC args).run P w=.ok (.enter fC args) w)(zU:0<k)(aE:∀w,(isAgg (ρ.t 24)).run P w=.ok true w)(zE:∀w,(Go.sizeOf (ρ.t 24)).run P w=.ok k w){β:Type}(av:β->List AV)(kY:∀x,(av x).length=k/\∀c∈av x,rC c)(Gd:β->Prop)(cf:β->β->Int)(hO:SWO (ltOf cf))(hC:∀x y,Gd x->Gd y->UB P T fC [] [.agg (av x),.agg (av y)] [] (.lit (.int .i64 (cf x y))))(G G':List β)(h0:G≠[])(ac5:∀x∈G,Gd x)(hl:G.length<=1000000)(hp:G'.Perm G)(hs:G'.Pairwise fun a b=>cf a b<0):
  UB P T fS [(0,some (0,.own t k (G.map fun x=>.agg (av x))))] [.l 0 0 0 G.length,.fn fC []] [(0,some (0,.own t k (G'.map fun x=>.agg (av x))))] (.F1 []):=by
 refine⟨hE,fun w e pk hr hz hg hlen RZ=>?_⟩;obtain⟨ee,he,uy,Rj,jz⟩:=hr.live 0 0 _ rfl;obtain⟨P',rN,_,iS,wE,hblk⟩:=jz;have pt:ee.n=G.length:=by rw[rN];simp
 cases hb:ee.Rr with
 |none=>rw[hb]at hblk;exact absurd (List.map_eq_nil_iff.1 hblk) h0|some q=>
  obtain⟨b,bcap⟩:=q;rw[hb]at hblk;obtain⟨aoy,hle,cs,Us,LF,Uu⟩:=hblk;have XM:G.length<=bcap:=by simpa using hle
  have vJ:∀x,(AV.agg (av x)).cells=av x:=fun x=>rfl;have GW:=RZ 0 sM;have RY:=RZ 1 sM;simp only[E6,Qe]at GW RY;obtain⟨_,_,QB⟩:=GW.UF;obtain⟨_,jJ⟩:=QB ee he uy;have jJ:=jJ (by rw[pt];omega);unfold cL at jJ;rw[hb]at jJ;obtain⟨cap,IU,Zm,_⟩:=jJ;simp only[gw]at IU;obtain⟨fv,nQ,IK,_⟩:=sj RY;have acq:fv=#[]:=Array.eq_empty_of_size_eq_zero (by simpa using IK.symm)
  subst acq;have B8:pk=#[.slice (some ⟨b,0,none⟩) G.length cap,.func (.func fC) #[] #[]]:=by
   have xB:pk.size=2:=by simpa using hlen.symm
   refine Array.ext (by simp[xB]) fun i h1 h2=>?_;have hi:i=0\/i=1:=by simp at h2;omega
   rcases hi with rfl|rfl
   ·rw[gA,LS h1]at IU;simpa using IU
   rw[gA,LS h1]at nQ;simpa using nQ
  subst B8;have KS:b<w.heap.size:=hr.lt 0 ee b bcap he hb;have Io:∀b',UE e b'->b'≠b:=fun b' hu rm=>hu.2 (.inl ⟨0,ee,bcap,he,by rw[rm];exact hb⟩);let α:={p:β×List Value // Gd p.1/\p.2.length=k/\∀j (h:j<(av p.1).length),VD w (UE e) (av p.1)[j] (p.2.getD j undef)}
  have aeb:∀i j,i<G.length->j<k->i*k+j<cs.size:=fun i j hi hj=>by rw[LF];have:=RW k (show i+1<=bcap by omega);rw[Dl,Nat.one_mul]at this;omega
  have ad9:∀i (hi:i<G.length),Gd G[i]/\((List.range k).map fun j=>cs.getD (i*k+j) undef).length=k/\∀j (h:j<(av G[i]).length),VD w (UE e) (av G[i])[j] (((List.range k).map fun j=>cs.getD (i*k+j) undef).getD j undef):=fun i hi=>by
   refine⟨ac5 _ (gM hi),sM,fun j hj=>?_⟩;have DE:j<k:=by rw[(kY _).1]at hj;exact hj
   have s5:=Uu i Ks j (by simp only[nw];exact hj);simp only[nw]at s5;have:=((kY G[i]).2 _ (gM hj)).vc s5;simpa[gE,DE] using this
  let el:(i:Fin G.length)->α:=fun i=>⟨(G[i.1]'i.2,(List.range k).map fun j=>cs.getD (i.1*k+j) undef),ad9 i.1 i.2⟩
  have aqu:0<G.length:=bt.2 h0
  letI:Inhabited α:=⟨el ⟨0,aqu⟩⟩
  let enc:α->List Value:=fun p=>p.1.2
  obtain⟨d,hd⟩:∃d:Array α,d=Array.ofFn el:=⟨_,rfl⟩;have Iw:d.size=G.length:=by rw[hd];simp
  have Sl : ∀ i (hi : i < G.length), d[i]! = el ⟨i, hi⟩ := fun i hi => by rw[oy d i oM];simp[hd]
  have Dc:∀x:α,(enc x).length=k:=fun x=>x.2.2.1;have amZ:∀x:α,∀v∈enc x,v.oneCell'=true:=fun x v hv=>by
   obtain⟨j,hj,rfl⟩:=G_ hv;have tw:j<(av x.1.1).length:=by rw[(kY _).1];rw[Dc]at hj;exact hj
   have:=x.2.2.2 j tw;have h1:=this.Gg ((kY _).2 _ (gM tw)).one;have e1:x.1.2.getD j undef=(enc x)[j]:=by show(enc x).getD j undef=_;rw[gE,gG hj];rfl
   rw[e1]at h1;exact h1
  have hH:HoldsK enc k w b 0 d:=by
   intro j hj;have tw:j<G.length*k:=by rw[size_flatK,Iw]at hj;exact hj
   have qn:j / k<G.length:=Nat.div_lt_of_lt_mul (by rw[XZ];exact tw);have Xp:j % k<k:=yh _ zU;have YB:j / k*k+j % k=j:=Nat.div_add_mod' j k;have FE:j<cs.size:=by rw[<-YB];exact aeb _ _ qn Xp
   rw[get_flatK _ _ _ _ (by rw[Iw];exact tw),Sl _ qn,cy];refine⟨?_,Us.frozen FE⟩;rw[Us.cell j];show cs[j]?=some ((List.map (fun j'=>cs.getD (j / k*k+j') undef) (List.range k))[j % k]!);rw[oy _ _ (by simpa using Xp)];simp[YB,FE]
  have ala:CmpLays P fC #[] enc k (fun x y:α=>cf x.1.1 y.1.1) b 0 d.size w:=by
   intro m os dk _ x y;obtain⟨W,hW⟩:∃W,W=sortWorldK enc k w b 0 m dk os:=⟨_,rfl⟩;rw[<-hW];have T8:w.heap.size<=W.heap.size:=by rw[hW];exact Yc _ _ _ _ _ _ _ _
   have RX:∀b',b'<w.heap.size->UE e b'->W.heap[b']?=w.heap[b']?:=fun b' C6 hu=>by rw[hW];exact p5 _ _ _ _ _ _ _ _ C6 (Io b' hu)
   obtain⟨z,HZ⟩:∃z:Nat->Prop,z=fun b'=>b'<w.heap.size/\¬UE e b':=⟨_,rfl⟩;have hU:∀b',UE e b'->UE (eZ z) b':=fun b' hu=>EA.2 fun h=>by rw[HZ]at h;exact h.2 hu
   have mono:∀{c:AV}{v:Value},VD w (UE e) c v->VD W (UE (eZ z)) c v:=fun h=>h.mono T8 (fun b' _ hu=>hU b' hu) RX;have agg:∀x:α,VR W (UE (eZ z)) (eZ z) (rM 1) (.agg (av x.1.1)) (.agg (enc x).toArray):=fun x=>by
    refine .rC _ _ (.agg _ _ ?_ (fun i hi=>((kY _).2 _ (gM hi)).one) fun i hi=>?_)
    ·rw[(kY _).1];simpa using(Dc x).symm
    have:=mono (x.2.2.2 i hi);rw[gA,n_,<-gE];exact this
   refine((hC x.1.1 y.1.1 x.2.1 y.2.1).2 W (eZ z) #[.agg (enc x).toArray,.agg (enc y).toArray] (Ri fun _=>rfl) (fun b' C6=>?_) (hg.mono T8 (fun b' _ hu=>hU b' hu) RX) rfl (fun i hi=>?_)).mono ?_
   ·have h:z b':=C6;rw[HZ]at h;exact tL h.1 T8
   ·have jk:i=0\/i=1:=vT;rcases jk with rfl|rfl
    ·exact agg x
    exact agg y
   rintro en w' ⟨v,e',rfl,q1,q2,q3,q4,q5,q6⟩;obtain⟨rfl,_⟩:=q2.VI;exact⟨rfl,_,_,aqD q6.os q6.tape q6.output q6.size (fun b' C6=>q6.same b' C6 Jo) q6.drawn⟩
  have agp:SWO (ltOf fun x y:α=>cf x.1.1 y.1.1):=⟨fun x=>hO.irrefl x.1.1,fun x y z=>hO.trans x.1.1 y.1.1 z.1.1,fun x y z=>hO.ntrans x.1.1 y.1.1 z.1.1⟩;have Ir:=AnyQ.slices_SortFunc L k aE zE enc Dc amZ (fun x y:α=>cf x.1.1 y.1.1) agp fC #[] b 0 cap d w ar1 ala hH KS (by rw[Iw];omega)
  rw[anH,Iw]at Ir;refine Ir.mono ?_;rintro en w' ⟨rfl,d',n,os,qP,zu,rfl⟩;have cV:d'.size=G.length:=by rw[<-Iw];exact qP.1
  have auF:d'.toList.map (fun p:α=>p.1.1)=G':=by
   have e1:d.toList.map (fun p:α=>p.1.1)=G:=by refine i7 (by simp[Iw]) fun i h1 h2=>?_;have hi:i<G.length:=h2;simp only[nw,Jf];have:=Sl i hi;rw[oy d i oM]at this;rw[this]
   have p1:(d'.toList.map (fun p:α=>p.1.1)).Perm G:=by rw[<-e1];have:=qP.2.2;rw[show d'.extract 0 G.length=d' by rw[<-cV];simp,show d.extract 0 G.length=d by rw[<-Iw];simp]at this;exact this.map _
   refine(aau hO (hp.trans p1.symm) hs ?_).symm;rw[yp,JQ];intro i j hi hj U7;have:=zu i j (zL _) U7 (by rw[<-cV];simpa using hj);rw[oy d' i Ks,oy d' j Ou]at this;simp only[Jf];exact oF this
  have yK:G'.length=G.length:=hp.length_eq;have UY:∀i (hi:i<G'.length),G'[i]=(d'[i]!).1.1:=fun i hi=>by
   have jk:i<d'.size:=oM;rw[oy d' i jk];have:(d'.toList.map (fun p:α=>p.1.1))[i]' j3=G'[i]:=by congr 1
   rw[<-this];simp
  have YG:w.heap.size<=(sortWorldK enc k w b 0 n d' os).heap.size:=Yc _ _ _ _ _ _ _ _;have aF:∀b',b'<w.heap.size->b'≠b->(sortWorldK enc k w b 0 n d' os).heap[b']?=w.heap[b']?:=fun b' h1 h2=>p5 _ _ _ _ _ _ _ _ h1 h2;have BQ:=holdsK_sortWorldK_c enc k w b 0 d d' n os hH KS (by rw[cV,Iw]);obtain⟨fz,JX,W_,pS⟩:=Us;have kX:=agi enc k w b 0 n d' os JX;generalize hW:sortWorldK enc k w b 0 n d' os=W at YG aF BQ kX ⊢;obtain⟨F8,qW⟩:∃F8,F8=putCells id 0 (flatK enc k d') cs:=⟨_,rfl⟩;rw[<-qW]at kX;have Oe:F8.size=cs.size:=by rw[qW];simp[putCells]
  have aaE:Cl W b F8 t:=⟨fz,kX,by rw[Oe];exact W_,pS⟩;have ext:Z7 w e (rM 1) W e (rM 2):=⟨YG,fun g h=>tL h dM,fun _ _ h=>h,fun b' h1 h2=>aF b' h1 (Io b' h2),fun id SV h _=>⟨SV,h,rfl,rfl,.inl ⟨rfl,rfl⟩⟩⟩;refine⟨_,e,rfl,⟨fun id hid=>?_,fun id g ob hid=>?_,hr.inj,fun id ee b c h1 h2=>tL (hr.lt id ee b c h1 h2) YG,hr.nz,fun b' B c h=>?_,hr.ko,hr.kk⟩,.rC _ _ (.F1 [] #[] rfl fun i hi=>yr),ext,rfl,fun b' h=>.inr h,⟨?_,?_,?_,YG,fun b' h1 h2=>aF b' h1 (fun rm=>h2 (.inl ⟨0,ee,bcap,he,by rw[rm];exact hb⟩)),?_⟩⟩
  ·refine hr.dead id ?_;simp only[Hp.get]at hid ⊢;split at hid
   ·cases hid
   rename_i h;rw[iN h]
  ·simp only[Hp.get]at hid;split at hid
   ·rename_i agF;subst agF;cases hid
    refine⟨ee,he,uy,by unfold rM;omega,P',by rw[pt];simp[yK],zU,fun i hi=>?_,fun i hi j hj=>?_,?_⟩
    ·simp only[nw];exact(kY _).1
    ·simp only[nw]at hj ⊢;exact((kY _).2 _ (gM _)).one
    rw[hb];refine⟨aoy,xF,F8,aaE,by rw[Oe,LF],fun i hi j hj=>?_⟩;have jk:i<G'.length:=Ks;simp only[nw]at hj ⊢;have Se:j<(av G'[i]).length:=hj;have DE:j<k:=by rw[(kY _).1]at Se;exact Se
    have hc:=(BQ.cell (i:=i) (c:=j) oM DE).1;rw[aaE.cell,cy]at hc;have pA:F8.getD (i*k+j) undef=(d'[i]!).1.2.getD j undef:=by rw[gA,hc];show (enc d'[i]!)[j]! = (enc d'[i]!).getD j undef;rw[oy _ _ (by rw[Dc];exact DE),gE,gG (by rw[Dc];exact DE)];rfl
    rw[pA];refine .val _ _ (.rC _ _ ?_);have ZH:=UY i jk;have:=(d'[i]!).2.2.2 j (by rw[(kY _).1];exact DE);have e1:(AV.agg (av G'[i])).cells[j]'hj=(av (d'[i]!).1.1)[j]'(by rw[(kY _).1];exact DE):=by show(av G'[i])[j]=_;simp only[ZH]
    rw[e1];exact this.mono YG (fun _ _ h=>h) (fun b' h1 h2=>aF b' h1 (Io b' h2))
   cases hid
  ·obtain⟨h1,h2,h3⟩:=hr.kl b' B c h;exact⟨tL h1 YG,tL h2 YG,h3⟩
  ·rw[<-hW];rfl
  ·rw[<-hW];rfl
  ·rw[<-hW];rfl
  rw[<-hW];exact WA _ _
open Go
def JS(L:List (List AV)):List AV:=L.map .P
section
variable{L:List (List AV)}{τ:Nm}{hp:Hp}
def lU{f:AV->AV}(h:∀es,f (.P es)=.P es):(JS L).map f=JS L:=by unfold JS;rw[R8];exact zT fun a _=>h a
def ab7{p:AV->Prop}(h:∀es,p (.P es)=True):(∀c∈JS L,p c)=True:=Ie fun c hc=>by obtain⟨es,_,rfl⟩:=A2.1 hc;rw[h];trivial
def kj{f:AV->List Nat}(h:∀es,f (.P es)=[]):(JS L).flatMap f=[]:=go.2 fun c hc=>by obtain⟨es,_,rfl⟩:=A2.1 hc;exact h es
theorem abH(m:Bool):(JS L).map (gq m τ hp)=JS L:=lU fun es=>wX
theorem ab1(m:Bool):(∀c∈JS L,Ah m τ hp c)=True:=ab7 fun es=>wX
theorem aqb(m:Bool):(JS L).flatMap (pg m τ hp)=[]:=kj fun es=>wX
theorem auk(m:Bool):(JS L).map (qO m τ hp)=JS L:=lU fun es=>wX
theorem ase(m:Bool):(JS L).flatMap (GB m τ hp)=[]:=kj fun es=>wX
theorem aog:J3 τ hp (JS L)=True:=by
 refine Ie ?_;unfold JS;induction L with
 |nil=>trivial|cons a l ih=>exact⟨by simp only[go_sem],ih⟩
theorem atE(p:AV->Prop):(∀c∈JS L,p c)=∀es∈L,p (.P es):=propext ⟨fun h es he=>h _ (A2.2 ⟨es,he,rfl⟩),fun h c hc=>by
 obtain⟨es,he,rfl⟩:=A2.1 hc;exact h es he⟩
end
attribute [go_sem] abH ab1 aqb auk ase aog atE
end Go.Sym
namespace Go.Proofs.YtfcgkbinohibcaaGreatDoor
open Go Go.Sym Go.Proofs.Tryz
open Go.Plant Go.Inf
section
variable{A n:Nat}{y:Ly}
def agq{p:Pl}{cs:List Int}{fs:List T3}{L:List Int}(h:Gj A n y)(hx:Sx A n y p cs fs)(hi:Y9 y p L):
  UB prog J9 166 [] [.P (g_ y (WR y.U)),p.av,IS cs,.sl (YA fs) false] [] (.F1 [(ja y p cs fs).1.av,.sl (YA (ja y p cs fs).2) false]):=by
 have hl:=h.g.len;have hn:=h.g.n11;have ho:=h.g.ord;have e:=hx.eq;have hs:=AD y p (WR y.U) cs fs hx.fp oM (by rw[hx.cl,hl]) hx.ff (fun m hm h0=>(wR hx oM h0).1) (by rw[ho,A8];omega) (fun i hi=>by
  rw[ho]at hi ⊢;rw[A8]at hi;rw[Ab hi];omega) (J4 y p cs fs) (vO y.U p (N0 y.U p cs fs y.U.length) (WR y.U)).2 e.len (LN hx) h.g.ex hi.Wh (by rw[ho,<-hl];rfl)
 have e2:ja y p cs fs=XG y.U p cs fs (J4 y p cs fs):=rfl;rw[e2];generalize XG y.U p cs fs (J4 y p cs fs)=r at*;obtain⟨⟨q1,q2⟩,mv⟩:=r;simp only at hs ⊢;refine mI hs ?_ ?_
 .exact uX
 exact uX
end
instance:DecidableEq Pl:=fun a b=>decidable_of_iff (a.Q=b.Q/\a.R=b.R) ⟨fun h=>by obtain⟨a1,a2⟩:=a;obtain⟨b1,b2⟩:=b;obtain⟨rfl,rfl⟩:=h;rfl,fun h=>by rw[h];exact⟨rfl,rfl⟩⟩
abbrev iM:=Hy Pl
def Z'(x:iM):J':=⟨x.1,x.2.Q,x.2.R⟩
theorem fG(x:iM):(Z' x).pl=x.2:=rfl
theorem kL{p:Pl}{u:Int}:∀{G:List iM},(∀x∈G,x.2≠p)->Inf.Bb G (u,p)=G++[(u,p)]
 |[],_=>rfl|x::t,h=>by rw[Inf.Bb,iN (h x mS),kL fun y hy=>h y (mC _ hy)];rfl
theorem Ko{p:Pl}{u:Int}:∀{G:List iM},(∃x∈G,x.2=p)->∃j,j<G.length/\Inf.Bb G (u,p)=G.set j (min (G.getD j (0,⟨[],[]⟩)).1 u,p)/\(G.getD j (0,⟨[],[]⟩)).2=p/\∀m,m<j->(G.getD m (0,⟨[],[]⟩)).2≠p
 |[],h=>by obtain⟨x,hx,_⟩:=h;cases hx
 |x::t,h=>by
  by_cases e:x.2=p
  .exact⟨0,sM,by rw[Inf.Bb,iP e,e];rfl,e,fun m hm=>absurd hm (nZ _)⟩
  obtain⟨j,h1,h2,h3,h4⟩:=Ko (u:=u) (G:=t) (by
   obtain⟨z,hz,ez⟩:=h;rcases rX.1 hz with rfl|hz
   ·exact absurd ez e
   exact⟨z,hz,ez⟩)
  refine⟨j+1,xF,by rw[Inf.Bb,iN e,h2];rfl,h3,fun m hm=>?_⟩;cases m with
  |zero=>exact e|succ m=>exact h4 m oM
def Oh(p:Pl)(u:Int)(G:List iM)(h:BP p)(hk:∀x∈G,Pu (qN x.2)=Pu (qN p)->x.2=p)(hG:G.length<=1000):
  UB prog J9 76 (UO (G.map Z')) [.p 0 0 0 0 0,p.av,I u] (UO ((Inf.Bb G (u,p)).map Z')) (.F1 []):=by
 refine aby p u _ _ h (by simpa using hG) ?_;by_cases c:∃x∈G,x.2=p
 .obtain⟨j,h1,h2,h3,h4⟩:=Ko (u:=u) c;have vy:∀m,m<G.length->(G.map Z').getD m default=Z' (G.getD m (0,⟨[],[]⟩)):=fun m hm=>by simp[gE,hm]
  refine .inr ⟨j,Cd,?_,by rw[vy j h1,fG,h3],fun m hm=>?_⟩
  .rw[h2,vy j h1,Hv];congr 1
   simp only[Z',h3]
  have kF:m<G.length:=oM;rw[vy m kF,fG];intro e;refine h4 m hm (hk _ ?_ e);rw[gE,gG kF];exact gM kF
 refine .inl ⟨?_,fun x hx e=>?_⟩
 .rw[kL fun x hx e=>c ⟨x,hx,e⟩,Mx];rfl
 obtain⟨z,hz,rfl⟩:=A2.1 hx;exact c ⟨z,hz,hk z hz e⟩
def KY(f:T3):Int×Int:=(f.b,f.c)
def Xr(f g:T3):zO f g=decide (KY f=KY g):=by rw[VY];simp[zO,KY]
section
variable(plc:List AV)(cs:List Int)(Na:Int)(kf:Nat)(cp:List (List AV))
def Dk(G:List iM):Hp:=[(0,some (0,.box [.P plc,.p 1 0 0 0 0,IS cs,I Na,.fn kf (JS cp)])),(1,some (0,.box [.Ic 2 0,.l 3 0 0 G.length])),(2,some (0,.ms (jA 0 (G.map Z')))),(3,some (0,.own 63 3 (wF (G.map Z'))))]
end
def k_(cst:Pl->Int×Bool)(q:Pl):Option Int:=if(cst q).2=true then some (cst q).1 else none
def ZG(stp:List T3->Pl)(cst:Pl->Int×Bool)(us Na:Int)(S:List (List T3))(G:List iM):List iM:=(GU stp (k_ cst) us Na S).foldl (L0 40) G
theorem BT{G:List iM}(h:40<G.length):∀Y:List iM,Y.foldl (L0 40) G=G
 |[]=>rfl|y::Y=>by rw[Xi,L0,iP h,BT h Y]
def alV(stp:List T3->Pl)(cst:Pl->Int×Bool)(us Na:Int)(X:List T3)(S:List (List T3))(G:List iM):ZG stp cst us Na (X::S) G=ZG stp cst us Na S (if(cst (stp X)).2=true/\us+X.length+(cst (stp X)).1<=Na then L0 40 G (us+X.length+(cst (stp X)).1,stp X) else G):=by
 unfold ZG GU k_;rw[Bf];by_cases h1:(cst (stp X)).2=true
 .rw[iP h1];simp only;by_cases h2:us+X.length+(cst (stp X)).1<=Na
  .rw[iP h2,iP ⟨h1,h2⟩];rfl
  rw[iN h2,iN fun h=>h2 h.2]
 rw[iN h1,iN fun h=>h1 h.1]
def ahn(stp:List T3->Pl)(cst:Pl->Int×Bool)(us Na:Int)(A B:List (List T3))(G:List iM):ZG stp cst us Na (A++B) G=ZG stp cst us Na B (ZG stp cst us Na A G):=by unfold ZG GU;rw[xj,WS]
theorem fZ(stp:List T3->Pl)(cst:Pl->Int×Bool)(us Na:Int)(S:List (List T3)):∀{G:List iM},G.length<=41->(ZG stp cst us Na S G).length<=41:=by
 unfold ZG;generalize GU stp (k_ cst) us Na S=Y;induction Y with
 |nil=>exact fun h=>h|cons y Y ih=>
  intro G h;rw[Xi];refine ih ?_;unfold L0;split
  .exact h
  have:=wQ G y;omega
theorem nM{Gd:Pl->Prop}:∀{Y G:List iM},(∀y∈Y,Gd y.2)->(∀x∈G,Gd x.2)->∀x∈Y.foldl (L0 40) G,Gd x.2
 |[],G,_,h=>h|y::Y,G,hY,h=>by
  rw[Xi];refine nM (fun z hz=>hY z (mC _ hz)) fun x hx=>?_;unfold L0 at hx;split at hx
  .exact h x hx
  rcases bu hx with e|⟨z,hz,e⟩
  .rw[e];exact hY y mS
  rw[<-e];exact h z hz
def Y0{Gd:Pl->Prop}{stp:List T3->Pl}{cst:Pl->Int×Bool}{us Na:Int}{S:List (List T3)}{G:List iM}(hS:∀X∈S,Gd (stp X))(hG:∀x∈G,Gd x.2):∀x∈ZG stp cst us Na S G,Gd x.2:=by refine nM (fun y hy=>?_) hG;obtain⟨X,hX,c,_,_,rfl⟩:=CD.1 hy;exact hS X hX
theorem mB{Ok:List T3->Prop}{F:List T3}(P4:∀sm f,Ok sm->f∈F->(∀g∈sm,KY f≠KY g)->sm.length<2->Ok (sm++[f])):∀{others:List T3}{k:Nat}{sm:List T3},sm.length+k<=2->Ok sm->(∀f∈others,f∈F)->∀X∈ext KY k others sm,Ok X
 |_,0,_,_,_,_,X,hX=>by rw[zg]at hX;cases hX
 |[],k+1,_,_,_,_,X,hX=>by cases hX
 |f::r,k+1,sm,hl,hs,ho,X,hX=>by
  have hr:=fun g hg=>ho g (mC _ hg);rw[ext]at hX;rcases ym.1 hX with hX|hX
  .by_cases c:sm.any (fun g=>decide (KY f=KY g))=true
   .rw[iP c]at hX;cases hX
   rw[iN c]at hX;have sL:=P4 sm f hs (ho f mS) (fun g hg e=>c (X4.2 ⟨g,hg,dT e⟩)) oM;rcases rX.1 hX with rfl|hX
   .exact sL
   exact mB P4 kS sL hr X hX
  exact mB P4 hl hs hr X hX
section
variable{plc:List AV}{cs:List Int}{Na:Int}{kf:Nat}{cp:List (List AV)}{us:Int}{hp:Pl}{F:List T3}{stp:List T3->Pl}{mv:List T3->List T3}{cst:Pl->Int×Bool}{Ok:List T3->Prop}{Gd:Pl->Prop}
theorem tH(VV:∀X,Ok X->UB prog J9 166 [] [.P plc,hp.av,IS cs,.sl (YA X) false] [] (.F1 [(stp X).av,.sl (YA (mv X)) false]))(hco:∀X,Ok X->UB prog J9 kf [] ((stp X).av::JS cp) [] (.F1 [I (cst (stp X)).1,B (cst (stp X)).2]))(O5:∀q,0<=(cst q).1/\(cst q).1<=1000)(Fs:∀X,Ok X->Gd (stp X))(SX:∀q,Gd q->BP q)(sU:∀a b,Gd a->Gd b->Pu (qN a)=Pu (qN b)->a=b)(P4:∀sm f,Ok sm->f∈F->(∀g∈sm,KY f≠KY g)->sm.length<2->Ok (sm++[f]))(cg:0<=us)(Rn:Na<=2):
  ∀(k:Nat)(sm others:List T3)(G:List iM),us+sm.length+k=Na->Ok sm->(∀f∈others,f∈F)->others.length<=1000->(∀x∈G,Gd x.2)->G.length<=41->
   UB prog J9 119 (Dk plc cs Na kf cp G) [.p 0 0 0 0 0,(J'.mk us hp.Q hp.R).av,.sl (YA others) false,.sl (YA sm) false] (Dk plc cs Na kf cp (ZG stp cst us Na (sm::ext KY k others sm) G)) (.F1 []):=by
 intro k;induction k using Nat.strongRecOn with
 |_ k ih=>
  intro sm others G hk sL aF S0 hG yK;unfold Dk;by_cases c40:40<G.length
  .have e1:ZG stp cst us Na (sm::ext KY k others sm) G=G:=BT c40 _;rw[e1];have d40:=oN ((40:Int)<(G.length:Int));refine MD func119 ntmps119 ?_;intro w e X hC;refine N5 @d40 ?_;rw[show f119.results.toList=[] from rfl];(refine Me [(0,0,0,0),(1,0,1,0),(2,0,2,0),(3,0,3,0)] Px sM sM sM ?_ ?_ ?_ ?_ ?_;(iterate 3 (focus (first|exact trivial|(simp only[go_sem,e_,FT,Dg,N_,Lf,rZ]<;>first|trivial|(simp;done)))));all_goals (try simp only[go_sem,e_,FT,Dg,N_,Lf,rZ,yO,Ds]))
  have d40:=Vj ((40:Int)<(G.length:Int));have w1:=VV sm sL;have w2:=hco sm sL;have adU:=O5 (stp sm);have oB:=Fs sm sL;have e0:=alV stp cst us Na sm (ext KY k others sm) G;rw[e0];have ut:∀u:Int,L0 40 G (u,stp sm)=Inf.Bb G (u,stp sm):=fun u=>by rw[L0,iN c40]
  rw[ut];clear e0 ut;have w3:=fun u:Int=>Oh (stp sm) u G (SX _ oB) (fun x hx e=>sU _ _ (hG x hx) oB e) oM;generalize stp sm=q at*;generalize cst q=cv at*;obtain⟨cn,co⟩:=cv;simp only at adU w2 ⊢;generalize Rj:(if co=true/\us+sm.length+cn<=Na then Inf.Bb G (us+sm.length+cn,q) else G)=G1;have acM:∀x∈G1,Gd x.2:=fun x hx=>by
   rw[<-Rj]at hx;split at hx
   .rcases bu hx with e|⟨z,hz,e⟩
    .rw[e];exact oB
    rw[<-e];exact hG z hz
   exact hG x hx
  have ae5:G1.length<=41:=by
   rw[<-Rj];split
   .have:=wQ G (us+sm.length+cn,q);omega
   exact yK
  refine MD func119 ntmps119 ?_;intro w e X hC;refine NL @d40 ?_;refine uD ?_;intro K hK;refine cP w1 ?_;refine Qd ?_;refine hK _ ?_;clear hK K;refine uE ?_;intro K hK;refine PZ [] [] true (w2) iw iw p6 p6 p6 p6 p6 p6 p6 p6 p6 p6 p6 p6 p6 p6 p6 ?_;refine x8 ?_;refine hK _ ?_;clear hK K;show Ex _ _ _ _;refine JP (fun i:Nat=>⟨[(0,.p 0 0 0 0 0),(2,.sl (YA others) false),(3,.sl (YA sm) false),(5,.p 105 1 0 0 0)],(105,some (1,.box [I us,RS hp.Q,RS hp.R]))::Dk plc cs Na kf cp G1,i⟩) (fun _=>True) ?_ ?_
  .cases co with
   |false=>
    have e1:G1=G:=by rw[<-Rj,iN (fun h=>by cases h.1)]
    rw[e1];unfold Dk;refine uE ?_;refine SU ?_;refine xJ ?_;exact⟨_,trivial,ch⟩
   |true=>
    by_cases c5:us+sm.length+cn<=Na
    .have d5:decide (us+(sm.length:Int)+cn<=Na)=true:=dT c5;have e1:G1=Inf.Bb G (us+sm.length+cn,q):=by rw[<-Rj,iP ⟨rfl,c5⟩]
     have w4:=w3 (us+sm.length+cn);have aur:(Inf.Bb G (us+sm.length+cn,q)).length=G1.length:=by rw[e1]
     rw[<-e1]at w4;unfold UO at w4;unfold Dk;refine mb @d5 ?_;refine uT ?_;refine uD ?_;intro K hK;refine⟨oM,oM,?_⟩;refine PZ [(0,0,1,0),(1,0,2,0),(2,0,3,0)] [(1,0,0,0),(2,0,1,0),(3,0,2,0)] false (w4) iw iw p6 p6 p6 p6 p6 p6 p6 p6 p6 p6 p6 p6 p6 p6 p6 ?_;refine x8 ?_;refine hK _ ?_;clear hK K;refine uW ?_;exact⟨_,trivial,ch⟩
    have d5:decide (us+(sm.length:Int)+cn<=Na)=false:=dF c5;have e1:G1=G:=by rw[<-Rj,iN (fun h=>c5 h.2)]
    rw[e1];unfold Dk;refine mb @d5 ?_;refine xJ ?_;exact⟨_,trivial,ch⟩
  rintro ck -;have ju:=ahn stp cst us Na;clear Rj w1 w2 w3;unfold Dk;cases k with
  |zero=>
   have d6:=oN (Na<=us+(sm.length:Int));have e1:ZG stp cst us Na (ext KY 0 others sm) G1=G1:=by rw[zg];rfl
   rw[e1];refine mb @d6 ?_;refine uT ?_;refine A_ ?_;rw[show f119.results.toList=[] from rfl];(refine Me [(0,0,0,0),(1,0,1,0),(2,0,2,0),(3,0,3,0)] Px sM sM sM ?_ ?_ ?_ ?_ ?_;(iterate 3 (focus (first|exact trivial|(simp only[go_sem,e_,FT,Dg,N_,Lf,rZ]<;>first|trivial|(simp;done)))));all_goals (try simp only[go_sem,e_,FT,Dg,N_,Lf,rZ,yO,Ds]))
  |succ k=>
   have d6:=Vj (Na<=us+(sm.length:Int));refine mb @d6 ?_;refine uF ?_;refine EP ?_;refine PV (fun i:Nat×Nat×List iM=>⟨[(0,.p 0 0 0 0 0),(2,.sl (YA others) false),(3,.sl (YA sm) false),(5,.p 105 1 0 0 0),(85,.sl (YA others) false),(86,I others.length),(87,I i.2.1)],(105,some (1,.box [I us,RS hp.Q,RS hp.R]))::(0,some (0,.box [.P plc,.p 1 0 0 0 0,IS cs,I Na,.fn kf (JS cp)]))::(1,some (0,.box [.Ic 2 0,.l 3 0 0 i.2.2.length]))::(2,some (0,.ms (jA 0 (i.2.2.map Z'))))::(3,some (0,.own 63 3 (wF (i.2.2.map Z'))))::[],i.1⟩)
    (fun i=>i.2.1<=others.length/\ZG stp cst us Na (ext KY (k+1) others sm) G1=ZG stp cst us Na (ext KY (k+1) (others.drop i.2.1) sm) i.2.2/\(∀x∈i.2.2,Gd x.2)/\i.2.2.length<=41) (fun i=>others.length - i.2.1) (_,0,G1) ⟨zL _,rfl,acM,ae5⟩ (ch) ?_
   rintro⟨ck2,i,Gi⟩ ⟨hi,Ik,dt,fe⟩;simp only at hi Ik dt fe;refine C0 ?_ ?_<;>intro c
   .have PP:i<others.length:=oM;have Yh:=Hr PP;have WG:=aF _ (Ug PP default);have eX:others.drop i=others.getD i default::others.drop (i+1):=by rw[Pv PP,gE,gG PP];rfl
    rw[eX]at Ik;generalize others.getD i default=f at*;obtain⟨fa,fb,fc⟩:=f;obtain⟨f,KO⟩:∃f:T3,f=⟨fa,fb,fc⟩:=⟨_,rfl⟩;have wcx:=DY sm 167 [I fa,I fb,I fc] (zO f) oM (fun g _=>by rw[KO];exact abK ⟨fa,fb,fc⟩ g);rw[<-KO]at WG Ik;have wy:sm.any (fun g=>decide (KY f=KY g))=sm.any (zO f):=by congr 1;funext g;rw[Xr]
    rw[ext,ju,wy]at Ik;cases Fe:sm.any (zO f)with
    |true=>rw[Fe]at wcx;rw[Fe,iP rfl]at Ik;refine aH @Yh ?_;refine uR ?_;refine R6 wcx ?_;refine UN ?_;refine⟨(_,i+1,Gi),⟨uO,Ik,dt,fe⟩,uO,ch⟩|false=>
     rw[Fe]at wcx;rw[Fe,iN dM]at Ik;refine aH @Yh ?_;refine uR ?_;refine R6 wcx ?_;refine uT ?_;have jO:=P4 sm f sL WG (fun g hg e=>by
      have:=lA.1 Fe g hg;rw[Xr]at this;exact this (dT e)) oM
     have UA:∀g∈others.drop (i+1),g∈F:=fun g hg=>aF g (DS hg);have pt:(sm++[f]).length=sm.length+1:=sM;have w5:=ih k oM (sm++[f]) (others.drop (i+1)) Gi (by rw[pt];omega) jO UA Fz dt fe;have Ei:=Y0 (stp:=stp) (cst:=cst) (us:=us) (Na:=Na) (S:=(sm++[f])::ext KY k (others.drop (i+1)) (sm++[f])) (G:=Gi) (Gd:=Gd) (fun X hX=>by
      rcases rX.1 hX with rfl|hX
      ·exact Fs _ jO
      exact Fs _ (mB P4 (by rw[pt];omega) jO UA X hX)) dt
     have qC:=fZ stp cst us Na ((sm++[f])::ext KY k (others.drop (i+1)) (sm++[f])) fe;have eS:List.drop ((i:Int)+1).toNat (YA others)=YA (others.drop (i+1)):=by rw[show((i:Int)+1).toNat=i+1 by omega];simp[YA]
     rw[KO]at w5;unfold Dk at w5;rw[KO]at Ik Ei qC;generalize ZG stp cst us Na ((sm++[⟨fa,fb,fc⟩])::ext KY k (others.drop (i+1)) (sm++[⟨fa,fb,fc⟩])) Gi=Gn at*;refine uD ?_;intro K hK;refine uH ?_;refine PZ [] [(203,ck2+18,100,1)] false ((aqe sm oM)) iw iw p6 p6 p6 p6 p6 p6 p6 p6 p6 p6 p6 p6 p6 p6 p6 ?_;refine x8 ?_;have z:=@eS;refine PZ [(0,0,0,0),(1,0,1,0),(2,0,2,0),(3,0,3,0)] [(0,0,0,0),(1,0,1,0),(2,0,2,0),(3,0,3,0)] false (w5) (xI z) (xI z) (Kg z) (Kg z) (Kg z) (Kg z) (Kg z) (Kg z) (Kg z) (Kg z) (Kg z) (Kg z) (Kg z) (Kg z) (Kg z) (Kg z) (Kg z) ?_;refine TA z ?_;clear z;refine uH ?_;refine hK _ ?_;clear hK K;refine uZ ?_;refine⟨(_,i+1,Gn),⟨uO,Ik,Ei,qC⟩,uO,ch⟩
   refine El ?_;have Wd:i=others.length:=oM;rw[Wd,wz]at Ik;have e2:ZG stp cst us Na (ext KY (k+1) [] sm) Gi=Gi:=rfl;rw[Ik,e2];refine uZ ?_;show ∃σ D,Nu _ f119.results.toList σ D _ _ _;rw[show f119.results.toList=[] from rfl];(refine Me [(0,0,0,0),(1,0,1,0),(2,0,2,0),(3,0,3,0)] Px sM sM sM ?_ ?_ ?_ ?_ ?_;(iterate 3 (focus (first|exact trivial|(simp only[go_sem,e_,FT,Dg,N_,Lf,rZ]<;>first|trivial|(simp;done)))));all_goals (try simp only[go_sem,e_,FT,Dg,N_,Lf,rZ,yO,Ds]))
end
end Go.Proofs.YtfcgkbinohibcaaGreatDoor
