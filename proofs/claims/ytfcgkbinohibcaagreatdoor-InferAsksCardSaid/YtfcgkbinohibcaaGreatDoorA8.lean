/- Lemmas towards inferAsks_card: no conditions of their own. -/
import Derived.Test.YtfcgkbinohibcaaGreatDoorA7
import Derived.Lib.FrozenHead2
import Derived.Lib.ItoaNum
import Derived.Lib.ItoaLen
import Derived.Shelf.SlSortCmp.WholeK
set_option linter.all false
set_option linter.unusedVariables false
namespace Go.Proofs
open Go.Shelf Go.RowKit
def Q1 (w w':World) (v v':Value):Prop:=w.drawn<=w'.drawn/\∀k,v'.ownBlock=some k->v.ownBlock=some k\/w.heap.size<=k
section
variable {P:Program} (w:World)
theorem Qez (t u ty e:TypeId) (i:TypeInfo) (ht:P.underlying t=some (.slice e)) (hu:P.underlying u=some .string) (hi:P.info? e=some i) (hz:i.zero=some (.int .u8 0))
  (E3:i.size=1) (GU:i.bytes=1) (v:Value) (n:Nat) (xs:List Value) (DS:w.ownsRowF 0 e 1 v n xs) (s:ByteArray) (Fj:n+s.size<=maxLen) (JJ:n+s.size<=140737488355328):
  ∃v' w',(Builtin.append_ #[t,u] ty #[v, .string s]).run P w= .ok v' w'/\w'.ownsRowF 0 e 1 v' (n+s.size) (xs++Lib.strCells s)/\w.grownBy w' v.ownBlock/\(v'= .slice none 0 0↔v= .slice none 0 0/\s.size=0)/\Q1 w w' v v':=by
 obtain⟨v',w',hr,h2,h3,h4⟩:=Lib.run_append_own_stringF (P:=P) w 0 t u ty e i ht hu hi hz E3 GU v n xs DS s Fj JJ (zL _);refine⟨v',w',hr,h2,h3,h4,?_⟩;rcases DS.2 with ⟨rfl,rfl⟩|⟨g,cap,cur,fz,rfl,FD,hg,I8,Ms,FG,Dt,wP⟩
 ·obtain⟨v2,w2,BE,k2,_⟩:=Lib.run_append_own_stringF (P:=P) w w.heap.size t u ty e i ht hu hi hz E3 GU (.slice none 0 0) 0 xs ⟨DS.1, .inl ⟨rfl,rfl⟩⟩ s Fj JJ (lR _);rw[hr] at BE;cases BE
  refine⟨?_,fun k hk=> .inr (k2.lt k hk).1⟩;by_cases hm:s.size=0
  ·have hf:=Lib.run_firstCells_string (P:=P) w 1 s;rw[hm] at hf;have Mv:(Builtin.append_ #[t,u] ty #[.slice none 0 0, .string s]).run P w= .ok (.slice none 0 0) w:=by simp[Builtin.append_,run_underlying ht,run_underlying hu,sizeOf,typeInfo,hi,E3,Builtin.lenOf,hm,hf]
   rw[hr] at Mv;cases Mv
   exact lR _
  have Mv:=run_append_nil_string (P:=P) w t u ty e i (.int .u8 0) ht hu hi hz s oM vq2 (by rw[GU];omega);rw[hr] at Mv;cases Mv
  exact Nat.le_succ _
 have C4:xs.length=n:=by simpa using DS.1
 have Hv:cur.size=cap:=xv1;by_cases If:n+s.size<=cap
 ·have BE:=Lib.run_append_room_stringF (P:=P) w t u ty e i ht hu hi E3 g n cap cur fz hg (by simpa using I8) s If oM;rw[hr] at BE;cases BE
  exact⟨lR _,fun k hk=> .inl hk⟩
 have holds:∀j u,xs[j]?=some u->w.cell? ((⟨g,0,none⟩:Addr).add j)=some u:=DS.cells (g:=g) rfl;have BE:=Lib.run_append_grow_string (P:=P) w t u ty e i (.int .u8 0) ht hu hi hz ⟨g,0,none⟩ n cap xs (by rw[E3];simpa using C4) holds s oM vq2 (by rw[GU];exact growslice_fits oM oM);rw[hr] at BE;cases BE
 refine⟨Nat.le_succ _,fun k hk=>?_⟩;simp only[Value.ownBlock,Option.some.injEq] at hk;subst hk;exact .inr (lR _)
theorem Qey (t ty e:TypeId) (i:TypeInfo) (ht:P.underlying t=some (.slice e)) (hi:P.info? e=some i) (hz:i.zero=some (.int .u8 0))
  (E3:i.size=1) (GU:i.bytes=1) (v:Value) (n:Nat) (xs:List Value) (DS:w.ownsRowF 0 e 1 v n xs) (a:Addr) (m c:Nat) (news:List Value) (hl:news.length=m*1) (KI:∀j u,news[j]?=some u->w.cell? (a.add j)=some u) (h1:∀u∈news,u.oneCell'=true)
  (Fj:n+m<=maxLen) (JJ:(n+m)*1<=140737488355328) (HD:0<m):
  ∃v' w',(Builtin.append_ #[t,t] ty #[v, .slice (some a) m c]).run P w= .ok v' w'/\w'.ownsRowF 0 e 1 v' (n+m) (xs++news)/\w.grownBy w' v.ownBlock/\(v'= .slice none 0 0↔v= .slice none 0 0/\m=0)/\Q1 w w' v v':=by
 obtain⟨v',w',hr,h2,h3,h4⟩:=run_append_ownF (P:=P) w 0 t ty e i (.int .u8 0) 1 1 ht hi hz E3 GU rfl dM v n xs DS a m c news hl KI h1 Fj JJ (zL _);refine⟨v',w',hr,h2,h3,h4,?_⟩;rcases DS.2 with ⟨rfl,rfl⟩|⟨g,cap,cur,fz,rfl,FD,hg,I8,Ms,FG,Dt,wP⟩
 ·obtain⟨v2,w2,BE,k2,_⟩:=run_append_ownF (P:=P) w w.heap.size t ty e i (.int .u8 0) 1 1 ht hi hz E3 GU rfl dM (.slice none 0 0) 0 xs ⟨DS.1, .inl ⟨rfl,rfl⟩⟩ a m c news hl KI h1 Fj JJ (lR _);rw[hr] at BE;cases BE
  refine⟨?_,fun k hk=> .inr (k2.lt k hk).1⟩;have Mv:=run_append_nil (P:=P) w t ty e i (.int .u8 0) ht hi hz a m c news (by rw[E3];exact hl) KI HD vq2 (by rw[GU];omega);rw[hr] at Mv;cases Mv
  exact Nat.le_succ _
 have C4:xs.length=n:=by simpa using DS.1
 have Hv:cur.size=cap:=xv1;by_cases If:n+m<=cap
 ·have BE:=run_append_roomF (P:=P) w t ty e i ht hi g n cap cur fz hg (by rw[E3];exact I8) a m c news (by rw[E3];exact hl) KI h1 If (by rw[E3,hl];omega);rw[hr] at BE;cases BE
  exact⟨lR _,fun k hk=> .inl hk⟩
 have holds:∀j u,xs[j]?=some u->w.cell? ((⟨g,0,none⟩:Addr).add j)=some u:=DS.cells (g:=g) rfl;have BE:=run_append_grow (P:=P) w t ty e i (.int .u8 0) ht hi hz ⟨g,0,none⟩ n cap xs (by rw[E3];exact DS.1) holds a m c news (by rw[E3];exact hl) KI oM vq2 (by rw[GU];exact growslice_fits oM oM);rw[hr] at BE;cases BE
 refine⟨Nat.le_succ _,fun k hk=>?_⟩;simp only[Value.ownBlock,Option.some.injEq] at hk;subst hk;exact .inr (lR _)
theorem Qg3 {ops:Array Oper} {Ae:List Oper} {o:Oper} {a:Act} {Q:Exit->Act->World->Prop} (Gu:o.guard=none) (sl x:Operand) (t u:TypeId)
  (ho:o.op= .call {callee:= .builtin .append,args:=#[sl,x],argTypes:=#[t,u]}) (e:TypeId) (i:TypeInfo) (ht:P.underlying t=some (.slice e)) (hu:P.underlying u=some .string) (hi:P.info? e=some i) (hz:i.zero=some (.int .u8 0))
  (E3:i.size=1) (GU:i.bytes=1) (v:Value) (n:Nat) (xs:List Value) (hs:a.eval sl=v) (DS:w.ownsRowF 0 e 1 v n xs) (s:ByteArray) (hx:a.eval x= .string s) (Fj:n+s.size<=maxLen) (JJ:n+s.size<=140737488355328)
  (h:∀v' w',w'.ownsRowF 0 e 1 v' (n+s.size) (xs++Lib.strCells s)->w.grownBy w' v.ownBlock->(v'= .slice none 0 0↔v= .slice none 0 0/\s.size=0)->Q1 w w' v v'->wpList P ops Q Ae (a.put o.dst v') w'):wpList P ops Q (o::Ae) a w:=by
 refine wpList_plain Gu fun K hK=>?_;obtain⟨v',w',hr,h2,h3,h4,h5⟩:=Qez (P:=P) w t u o.type e i ht hu hi hz E3 GU v n xs DS s Fj JJ;unfold Oper.wp execOp;simp only[ho,resolve,invoke,builtin,Sem.run_bind,Sem.run_pure,Result.andThen_ok,List.map_toArray,List.map_cons,List.map_nil,hs,hx,hr];exact hK _ _ (h v' w' h2 h3 h4 h5)
theorem Qg2 {ops:Array Oper} {Ae:List Oper} {o:Oper} {a:Act} {Q:Exit->Act->World->Prop} (Gu:o.guard=none) (sl x:Operand) (t:TypeId)
  (ho:o.op= .call {callee:= .builtin .append,args:=#[sl,x],argTypes:=#[t,t]}) (e:TypeId) (i:TypeInfo) (ht:P.underlying t=some (.slice e)) (hi:P.info? e=some i) (hz:i.zero=some (.int .u8 0))
  (E3:i.size=1) (GU:i.bytes=1) (v:Value) (n:Nat) (xs:List Value) (hs:a.eval sl=v) (DS:w.ownsRowF 0 e 1 v n xs) (ad:Addr) (m c:Nat) (news:List Value) (hx:a.eval x= .slice (some ad) m c) (hl:news.length=m*1) (KI:∀j u,news[j]?=some u->w.cell? (ad.add j)=some u) (h1:∀u∈news,u.oneCell'=true)
  (Fj:n+m<=maxLen) (JJ:(n+m)*1<=140737488355328) (HD:0<m)
  (h:∀v' w',w'.ownsRowF 0 e 1 v' (n+m) (xs++news)->w.grownBy w' v.ownBlock->(v'= .slice none 0 0↔v= .slice none 0 0/\m=0)->Q1 w w' v v'->wpList P ops Q Ae (a.put o.dst v') w'):wpList P ops Q (o::Ae) a w:=by
 refine wpList_plain Gu fun K hK=>?_;obtain⟨v',w',hr,h2,h3,h4,h5⟩:=Qey (P:=P) w t o.type e i ht hi hz E3 GU v n xs DS ad m c news hl KI h1 Fj JJ HD;unfold Oper.wp execOp;simp only[ho,resolve,invoke,builtin,Sem.run_bind,Sem.run_pure,Result.andThen_ok,List.map_toArray,List.map_cons,List.map_nil,hs,hx,hr];exact hK _ _ (h v' w' h2 h3 h4 h5)
end
structure LW (T e:TypeId) (b:Nat) (p v:Value) (n:Nat) (xs:List Value) (w:World):Prop where
 blk:w.heap[b]?=some (.cells #[p,v] T (0,0))
 own:w.ownsRowF 0 e 1 v n xs
 ne:v.ownBlock≠some b
structure QW (b:Nat) (v v':Value) (w w':World):Prop where
 os:w'.os=w.os
 tape:w'.tape=w.tape
 output:w'.output=w.output
 size:w.heap.size<=w'.heap.size
 block:∀k,k<w.heap.size->k≠b->some k≠v.ownBlock->w'.heap[k]?=w.heap[k]?
 new:Q1 w w' v v'
variable {P:Program} {ρ:Ren}
set_option maxHeartbeats 2000000 in
set_option maxRecDepth 100000 in
theorem oH (L:Lays.n166 P ρ) (X:Builder.Extra P ρ) (b:Nat) (p v:Value) (hp:p= .pointer none\/p= .pointer (some ⟨b,0,none⟩)) (bs:List Value) (s:ByteArray) (w:World) (h:LW (ρ.t 72) (ρ.t 5) b p v bs.length bs w) (hlen:bs.length+s.size<=140737488355328):
  Calls P (ρ.f 166) #[.pointer (some ⟨b,0,none⟩), .string s] w fun e w'=>e= .returned (.tuple #[.int .i64 s.size, .nilIface])/\∃v',LW (ρ.t 72) (ρ.t 5) b (.pointer (some ⟨b,0,none⟩)) v' (bs.length+s.size) (bs++Lib.strCells s) w'/\(v'= .slice none 0 0↔v= .slice none 0 0/\s.size=0)/\QW b v v' w w':=by
 obtain⟨i0,hi,Qz,FP,HK⟩:=info_parts X.infoByte;have mixed:=L.mixed;have t72:=L.t72;have a72:=L.a72;have z72:=L.z72;have v72:=L.v72;have u72:=run_underlying L.t72;have t70:=L.t70;have a70:=L.a70;have z70:=L.z70;have v70:=L.v70;have u70:=run_underlying L.t70;have t37:=L.t37;have a37:=L.a37;have z37:=L.z37;have v37:=L.v37;have u37:=run_underlying L.t37;have t3:=L.t3;have a3:=L.a3;have z3:=L.z3;have v3:=L.v3;have u3:=run_underlying L.t3;have t9:=L.t9;have a9:=L.a9;have z9:=L.z9;have v9:=L.v9;have u9:=run_underlying L.t9;have t4:=L.t4;have a4:=L.a4;have z4:=L.z4;have v4:=L.v4;have u4:=run_underlying L.t4;have t164:=L.t164;have a164:=L.a164;have z164:=L.z164;have v164:=L.v164;have u164:=run_underlying L.t164;have t5:=X.t5;have a5:=X.a5;have z5:=X.z5;have v5:=X.v5;have u5:=run_underlying X.t5;have e240:∀args w,(callFunc (ρ.f 240) args).run P w= .ok (.enter (ρ.f 240) args) w:=enters_of L.f240 kR rfl;have hA:Lib.IsBuilderF (ρ.t 72) (ρ.t 5) 0 b bs w:=by
  rcases hp with rfl|rfl
  ·exact .inl ⟨zL _,v,h.blk,h.own,h.ne⟩
  exact .inr ⟨zL _,v,h.blk,h.own,h.ne⟩
 have RR:Calls P (ρ.f 240) #[.pointer (some ⟨b,0,none⟩)] w fun e w'=>e= .returned (.tuple #[])/\LW (ρ.t 72) (ρ.t 5) b (.pointer (some ⟨b,0,none⟩)) v bs.length bs w'/\QW b v v w w':=by
  rcases hp with rfl|rfl
  ·refine(Any.Builder_copyCheck_fresh {L with} X.toX72 b w vq1 (by simp[World.shape?,h.blk]) (Lib.frozen_of_heap h.blk 0)).mono ?_;rintro e w' ⟨rfl,rfl⟩;have hk:∀k,k≠b->(w.setCell ⟨b,0,none⟩ (.pointer (some ⟨b,0,none⟩))).heap[k]?=w.heap[k]?:=fun k hk=>Below.heap_setCell _ _ _ _ hk;refine⟨rfl,⟨by simp[World.setCell,Array.getElem?_modify,h.blk],h.own.kept (row:=some b) ⟨rfl,rfl,rfl,xv9,fun k _ hk=>Below.heap_setCell _ _ _ _ (fun e=>hk (by simp[e]))⟩ (.inr h.ne),h.ne⟩,⟨rfl,rfl,rfl,xv9,fun k _ ID _=>hk k ID,⟨lR _,fun k hk=> .inl hk⟩⟩⟩
  refine(Any.Builder_copyCheck_used {L with} X.toX72 b w vq1).mono ?_;rintro e w' ⟨rfl,rfl⟩;exact⟨rfl,h,⟨rfl,rfl,rfl,lR _,fun _ _ _ _=>rfl,⟨lR _,fun k hk=> .inl hk⟩⟩⟩
 go_enter L.f166,Body.n166_ntmps ρ
 go_wp2_with (go_at_fn (ρ.f 240);refine RR.mono ?_)
 rintro e w1 ⟨rfl,h1,C1⟩;have FE:=h1.blk;have c0:w1.cell? ⟨b,0,none⟩=some (.pointer (some ⟨b,0,none⟩)):=vq6;have c1:w1.cell? ⟨b,1,none⟩=some v:=vq6
 go_wp2_with (at_builtin;refine Qg3 _ rfl _ _ (ρ.t 37) (ρ.t 9) rfl (ρ.t 5) i0 L.t37 L.t9 hi Qz FP HK _ _ _ rfl h1.own s rfl ?c3 ?c4 ?_)
 case c3=>unfold maxLen;omega
 case c4=>omega
 intro v' w2 OQ Ja Lw JR;have Aa:b<w1.heap.size:=(Array.getElem?_eq_some_iff.1 FE).1;have BX:w2.heap[b]?=some (.cells #[.pointer (some ⟨b,0,none⟩),v] (ρ.t 72) (0,0)):=by rw[Ja.block b Aa (fun e=>h1.ne e.symm)];exact FE
 have d0:w2.cell? ⟨b,0,none⟩=some (.pointer (some ⟨b,0,none⟩)):=vq7;have d1:w2.cell? ⟨b,1,none⟩=some v:=vq7;have f1:w2.frozen? ⟨b,1,none⟩=false:=Lib.frozen_of_heap BX 1;obtain⟨ao,n',cap,rfl⟩:∃ao n' cap,v'= .slice ao n' cap:=by
  rcases OQ.2 with ⟨hv,_⟩|⟨g,cap,cur,fz,hv,_⟩
  ·exact⟨_,_,_,hv⟩
  exact⟨_,_,_,hv⟩
 go_wp2
 go_ret2
 have Sq:=Lib.BuilderAtF.put (T:=(ρ.t 72)) (e:=(ρ.t 5)) (B:=0) (p:= .pointer (some ⟨b,0,none⟩)) (zL b) BX (bs':=bs++Lib.strCells s) (by simpa[Lib.strCells_length] using OQ) X.neB5;obtain⟨_,v2,k1,k2,k3⟩:=Sq;have Gy:v2= .slice ao n' cap:=by
  have:(w2.setCell ⟨b,1,none⟩ (.slice ao n' cap)).heap[b]?=some (.cells #[.pointer (some ⟨b,0,none⟩), .slice ao n' cap] (ρ.t 72) (0,0)):=by simp[World.setCell,Array.getElem?_modify,BX]
  rw[this] at k1;simp at k1;exact k1.symm
 subst Gy;refine⟨rfl,_,⟨k1,by simpa[Lib.strCells_length] using k2,k3⟩,by simpa using Lw,⟨Ja.os.trans C1.os,Ja.tape.trans C1.tape,Ja.output.trans C1.output,by have:=C1.size;have:=Ja.size;simp[World.setCell];omega,fun k hk ID Sa=>?_,⟨Nat.le_trans C1.new.1 JR.1,fun k hk=>?_⟩⟩⟩
 ·rw[Below.heap_setCell _ _ _ _ ID,Ja.block k (tL hk C1.size) Sa];exact C1.block k hk ID Sa
 rcases JR.2 k hk with hn|hn
 ·exact .inl hn
 exact .inr (Nat.le_trans C1.size hn)
set_option maxHeartbeats 2000000 in
set_option maxRecDepth 100000 in
theorem oG (L:Lays.n167 P ρ) (X:Builder.Extra P ρ) (b:Nat) (p v:Value) (hp:p= .pointer none\/p= .pointer (some ⟨b,0,none⟩)) (bs:List Value) (c:Int) (w:World) (h:LW (ρ.t 72) (ρ.t 5) b p v bs.length bs w) (hlen:bs.length+1<=140737488355328):
  Calls P (ρ.f 167) #[.pointer (some ⟨b,0,none⟩), .int .u8 c] w fun e w'=>e= .returned .nilIface/\∃v',LW (ρ.t 72) (ρ.t 5) b (.pointer (some ⟨b,0,none⟩)) v' (bs.length+1) (bs++[.int .u8 c]) w'/\v'≠ .slice none 0 0/\QW b v v' w w':=by
 obtain⟨i0,hi,Qz,FP,HK⟩:=info_parts X.infoByte;have mixed:=L.mixed;have t72:=L.t72;have a72:=L.a72;have z72:=L.z72;have v72:=L.v72;have u72:=run_underlying L.t72;have t70:=L.t70;have a70:=L.a70;have z70:=L.z70;have v70:=L.v70;have u70:=run_underlying L.t70;have t5:=L.t5;have a5:=L.a5;have z5:=L.z5;have v5:=L.v5;have u5:=run_underlying L.t5;have t37:=L.t37;have a37:=L.a37;have z37:=L.z37;have v37:=L.v37;have u37:=run_underlying L.t37;have t9:=L.t9;have a9:=L.a9;have z9:=L.z9;have v9:=L.v9;have u9:=run_underlying L.t9;have t4:=L.t4;have a4:=L.a4;have z4:=L.z4;have v4:=L.v4;have u4:=run_underlying L.t4;have t164:=L.t164;have a164:=L.a164;have z164:=L.z164;have v164:=L.v164;have u164:=run_underlying L.t164;have e240:∀args w,(callFunc (ρ.f 240) args).run P w= .ok (.enter (ρ.f 240) args) w:=enters_of L.f240 kR rfl;have RR:Calls P (ρ.f 240) #[.pointer (some ⟨b,0,none⟩)] w fun e w'=>e= .returned (.tuple #[])/\LW (ρ.t 72) (ρ.t 5) b (.pointer (some ⟨b,0,none⟩)) v bs.length bs w'/\QW b v v w w':=by
  rcases hp with rfl|rfl
  ·refine(Any.Builder_copyCheck_fresh {L with} X.toX72 b w vq1 (by simp[World.shape?,h.blk]) (Lib.frozen_of_heap h.blk 0)).mono ?_;rintro e w' ⟨rfl,rfl⟩;have hk:∀k,k≠b->(w.setCell ⟨b,0,none⟩ (.pointer (some ⟨b,0,none⟩))).heap[k]?=w.heap[k]?:=fun k hk=>Below.heap_setCell _ _ _ _ hk;refine⟨rfl,⟨by simp[World.setCell,Array.getElem?_modify,h.blk],h.own.kept (row:=some b) ⟨rfl,rfl,rfl,xv9,fun k _ hk=>Below.heap_setCell _ _ _ _ (fun e=>hk (by simp[e]))⟩ (.inr h.ne),h.ne⟩,⟨rfl,rfl,rfl,xv9,fun k _ ID _=>hk k ID,⟨lR _,fun k hk=> .inl hk⟩⟩⟩
  refine(Any.Builder_copyCheck_used {L with} X.toX72 b w vq1).mono ?_;rintro e w' ⟨rfl,rfl⟩;exact⟨rfl,h,⟨rfl,rfl,rfl,lR _,fun _ _ _ _=>rfl,⟨lR _,fun k hk=> .inl hk⟩⟩⟩
 go_enter L.f167,Body.n167_ntmps ρ
 go_wp2_with (go_at_fn (ρ.f 240);refine RR.mono ?_)
 rintro e w1 ⟨rfl,h1,C1⟩;have FE:=h1.blk;have Aa:b<w1.heap.size:=(Array.getElem?_eq_some_iff.1 FE).1;have c0:w1.cell? ⟨b,0,none⟩=some (.pointer (some ⟨b,0,none⟩)):=vq6;have c1:w1.cell? ⟨b,1,none⟩=some v:=vq6
 go_wp2_with (at_builtin;refine Qg2 _ rfl _ _ (ρ.t 37) rfl (ρ.t 5) i0 L.t37 hi Qz FP HK _ _ _ rfl (h1.own.alloc _) ⟨w1.heap.size,0,none⟩ 1 1 [.int .u8 c] rfl rfl ?c1 ?c2 ?c3 ?c4 Nat.one_pos ?_)
 case c1=>
  intro j u hj
  match j,hj with
  |0,hj=>simp at hj;subst hj;simp[Addr.add]
 case c2=>intro u hu;simp at hu;subst hu;rfl
 case c3=>unfold maxLen;omega
 case c4=>omega
 intro v' w2 OQ Ja Lw JR;have BX:w2.heap[b]?=some (.cells #[.pointer (some ⟨b,0,none⟩),v] (ρ.t 72) (0,0)):=by rw[Ja.block b vv2 (fun e=>h1.ne e.symm),Lib.alloc_old w1 _ b Aa];exact FE
 have d0:w2.cell? ⟨b,0,none⟩=some (.pointer (some ⟨b,0,none⟩)):=vq7;have d1:w2.cell? ⟨b,1,none⟩=some v:=vq7;have f1:w2.frozen? ⟨b,1,none⟩=false:=Lib.frozen_of_heap BX 1;obtain⟨g,cap,rfl⟩:∃g cap,v'= .slice (some ⟨g,0,none⟩) (bs.length+1) cap:=by
  rcases OQ.2 with ⟨_,h0⟩|⟨g,cap,cur,fz,hv,_⟩
  ·omega
  exact⟨g,cap,hv⟩
 go_wp2
 go_ret
 have Sq:=Lib.BuilderAtF.put (T:=(ρ.t 72)) (e:=(ρ.t 5)) (B:=0) (p:= .pointer (some ⟨b,0,none⟩)) (zL b) BX (bs':=bs++[.int .u8 c]) (by simpa using OQ) X.neB5;obtain⟨_,v2,k1,k2,k3⟩:=Sq;have Gy:v2= .slice (some ⟨g,0,none⟩) (bs.length+1) cap:=by
  have:(w2.setCell ⟨b,1,none⟩ (.slice (some ⟨g,0,none⟩) (bs.length+1) cap)).heap[b]?=some (.cells #[.pointer (some ⟨b,0,none⟩), .slice (some ⟨g,0,none⟩) (bs.length+1) cap] (ρ.t 72) (0,0)):=by simp[World.setCell,Array.getElem?_modify,BX]
  rw[this] at k1;simp at k1;exact k1.symm
 subst Gy;have Be:w1.heap.size<=w2.heap.size:=by have:=Ja.size;simp at this;omega
 refine⟨rfl,_,⟨k1,by simpa using k2,k3⟩,sM,⟨Ja.os.trans C1.os,Ja.tape.trans C1.tape,Ja.output.trans C1.output,by have:=C1.size;simp[World.setCell];omega,fun k hk ID Sa=>?_,⟨Nat.le_trans C1.new.1 JR.1,fun k hk=>?_⟩⟩⟩
 ·have Bi:k<w1.heap.size:=tL hk C1.size;rw[Below.heap_setCell _ _ _ _ ID,Ja.block k vv2 Sa,Lib.alloc_old w1 _ k Bi];exact C1.block k hk ID Sa
 rcases JR.2 k hk with hn|hn
 ·exact .inl hn
 refine .inr ?_;simp at hn;have:=C1.size;omega
set_option maxHeartbeats 1000000 in
set_option maxRecDepth 100000 in
theorem oD (L:Lays.n169 P ρ) (X:Builder.Extra P ρ) (b:Nat) (p:Value) (g cap:Nat) (cur:Array Value) (fz:Nat×Nat) (l:List UInt8) (w:World) (FE:w.heap[b]?=some (.cells #[p, .slice (some ⟨g,0,none⟩) l.length cap] (ρ.t 72) (0,0))) (hg:w.heap[g]?=some (.cells cur (ρ.t 5) fz))
  (Ms:l.length<=cap) (FG:cap<=maxLen) (Dt:cur.size=cap) (DS:w.ownsRowF 0 (ρ.t 5) 1 (.slice (some ⟨g,0,none⟩) l.length cap) l.length (Lib.byteCells l)) (h0:l≠[]):
  Calls P (ρ.f 169) #[.pointer (some ⟨b,0,none⟩)] w fun e w'=>e= .returned (.string ⟨l.toArray⟩)/\w'=w.drew.freeze ⟨g,0,none⟩ l.length:=by
 have DR:l.length≠0:=by simpa using h0
 have c1:w.drew.cell? ⟨b,1,none⟩=some (.slice (some ⟨g,0,none⟩) l.length cap):=by
  have:w.drew.heap[b]?=some (.cells #[p, .slice (some ⟨g,0,none⟩) l.length cap] (ρ.t 72) (0,0)):=FE
  rw[Lib.cell_of_heap this];rfl
 have tn:(Builtin.unsafeSliceData_ #[(ρ.t 37)] (ρ.t 127) #[.slice (some ⟨g,0,none⟩) l.length cap]).run P w.drew= .ok (.pointer (some ⟨g,0,none⟩)) w.drew:=
  Lib.run_unsafeSliceData_row _ _ _ _ _ _ oM
 have tu:(Builtin.unsafeString_ #[(ρ.t 127),(ρ.t 3)] (ρ.t 9) #[.pointer (some ⟨g,0,none⟩), .int .i64 l.length]).run P w.drew= .ok (.string ⟨l.toArray⟩) (w.drew.freeze ⟨g,0,none⟩ l.length):=by refine Lib.run_unsafeString_row w.drew (ρ.t 127) (ρ.t 3) (ρ.t 9) (ρ.t 5) L.t127 X.cellsByte g cur.size (by have HB:w.drew.heap[g]?=some (.cells cur (ρ.t 5) fz):=hg;simp[World.shape?,HB]) l h0 oM (by unfold maxLen at FG;omega) ?_;intro j x hx;have:=DS.cells (g:=g) rfl j (.int .u8 x.toNat) (by simp[Lib.byteCells,hx]);exact this
 have mixed:=L.mixed;have t72:=L.t72;have a72:=L.a72;have z72:=L.z72;have v72:=L.v72;have u72:=run_underlying L.t72;have t70:=L.t70;have a70:=L.a70;have z70:=L.z70;have v70:=L.v70;have u70:=run_underlying L.t70;have t37:=L.t37;have a37:=L.a37;have z37:=L.z37;have v37:=L.v37;have u37:=run_underlying L.t37;have t127:=L.t127;have a127:=L.a127;have z127:=L.z127;have v127:=L.v127;have u127:=run_underlying L.t127;have t3:=L.t3;have a3:=L.a3;have z3:=L.z3;have v3:=L.v3;have u3:=run_underlying L.t3;have t9:=L.t9;have a9:=L.a9;have z9:=L.z9;have v9:=L.v9;have u9:=run_underlying L.t9;have t5:=X.t5;have a5:=X.a5;have z5:=X.z5;have v5:=X.v5;have u5:=run_underlying X.t5
 go_enter L.f169,Body.n169_ntmps ρ
 go_wp2
 go_region_o
 all_goals (go_wp2;go_ret;exact⟨rfl,rfl⟩)
set_option maxHeartbeats 1000000 in
set_option maxRecDepth 100000 in
theorem oE (L:Lays.n169 P ρ) (X:Builder.Extra P ρ) (b:Nat) (p:Value) (w:World) (FE:w.heap[b]?=some (.cells #[p, .slice none 0 0] (ρ.t 72) (0,0))):
  Calls P (ρ.f 169) #[.pointer (some ⟨b,0,none⟩)] w fun e w'=>e= .returned (.string ⟨#[]⟩)/\w'=w.drew:=by
 have tu:=Any.unsafeString_none L X;have c1:w.drew.cell? ⟨b,1,none⟩=some (.slice none 0 0):=by
  have:w.drew.heap[b]?=some (.cells #[p, .slice none 0 0] (ρ.t 72) (0,0)):=FE
  rw[Lib.cell_of_heap this];rfl
 have tn:(Builtin.unsafeSliceData_ #[(ρ.t 37)] (ρ.t 127) #[.slice none 0 0]).run P w.drew= .ok (.pointer none) w.drew:=rfl
 have mixed:=L.mixed;have t72:=L.t72;have a72:=L.a72;have z72:=L.z72;have v72:=L.v72;have u72:=run_underlying L.t72;have t70:=L.t70;have a70:=L.a70;have z70:=L.z70;have v70:=L.v70;have u70:=run_underlying L.t70;have t37:=L.t37;have a37:=L.a37;have z37:=L.z37;have v37:=L.v37;have u37:=run_underlying L.t37;have t127:=L.t127;have a127:=L.a127;have z127:=L.z127;have v127:=L.v127;have u127:=run_underlying L.t127;have t3:=L.t3;have a3:=L.a3;have z3:=L.z3;have v3:=L.v3;have u3:=run_underlying L.t3;have t9:=L.t9;have a9:=L.a9;have z9:=L.z9;have v9:=L.v9;have u9:=run_underlying L.t9;have t5:=X.t5;have a5:=X.a5;have z5:=X.z5;have v5:=X.v5;have u5:=run_underlying X.t5
 go_enter L.f169,Body.n169_ntmps ρ
 go_wp2
 go_region_o
 all_goals (go_wp2;go_ret;exact⟨rfl,rfl⟩)
end Go.Proofs
namespace Go.Proofs.YtfcgkbinohibcaaGreatDoor
open Go Go.Sym Go.Proofs.Tryz Go.Great Go.RowKit Go.Proofs Go.Sort
theorem oI {w:World} {e:An} {b:Nat} {p v:Value} {bs:List UInt8} (h1:w.heap[b]?=some (.cells #[p,v] 186 (0,0))) (h2:Pz w e b 5 bs v) (hk:e.kid b=none):
  LW 186 5 b p v bs.length (Lib.byteCells bs) w/\(v= .slice none 0 0↔bs=[])/\(∀g,v.ownBlock=some g->e.kid g=some (b,1)):=by
 rcases h2 with ⟨rfl,rfl⟩|⟨g,cap,cur,fz,rfl,h3,h4,h5,h6,h7,h8,h9,C8⟩
 ·exact⟨⟨h1,⟨rfl, .inl ⟨rfl,rfl⟩⟩,by simp[Value.ownBlock]⟩,sM,fun g h=>by simp[Value.ownBlock] at h⟩
 refine⟨⟨h1,⟨by simp[Lib.byteCells], .inr ⟨g,cap,cur,fz,rfl,zL _,h4,oM,h6,h7,oM,?_⟩⟩,?_⟩,?_,?_⟩
 ·rw[Nat.mul_one];exact h9
 ·simp only[Value.ownBlock,ne_eq,Option.some.injEq];rintro rfl;rw[hk] at h3;cases h3
 ·constructor
  ·intro h;simp at h
  intro h;exact absurd h C8
 intro g' h;simp only[Value.ownBlock,Option.some.injEq] at h;subst h;exact h3
theorem Zy {f:FuncId} {vs:List Value} {bs bs':List UInt8} {r:AV} (Du:Go.Sym.Enters prog f)
  (h:∀(w:World) (b:Nat) (p v:Value),(p= .pointer none\/p= .pointer (some ⟨b,0,none⟩))->LW 186 5 b p v bs.length (Lib.byteCells bs) w->(v= .slice none 0 0↔bs=[])->
   Calls prog f (.pointer (some ⟨b,0,none⟩)::vs).toArray w fun en w'=>∃x,en= .returned x/\(∀w U,VD w U r x)/\∃p' v',(p'= .pointer none\/p'= .pointer (some ⟨b,0,none⟩))/\LW 186 5 b p' v' bs'.length (Lib.byteCells bs') w'/\(v'= .slice none 0 0↔bs'=[])/\QW b v v' w w'):
  Ag prog Ad f [(0,some (0, .bd 186 5 bs))] (.p 0 0 0 0 0::vs.map AV.lit) [(0,some (0, .bd 186 5 bs'))] r:=by
 refine⟨Du,fun w e vals hr hz hg hl Iv=>?_⟩;obtain⟨ee,he,RX,hG,C2,b,c,p,v,hblk,hb,hp,tT⟩:=hr.live 0 0 (.bd 186 5 bs) rfl;have NE:BN e b:=⟨0,ee,c,he,hblk⟩;have ID:e.kid b=none:=hr.ko b NE;obtain⟨eT,Lw,DS⟩:=oI hb tT ID;have RQ:b<w.heap.size:=(Array.getElem?_eq_some_iff.1 hb).1;have Es:¬e.z b:=hr.nz 0 ee b c he hblk;have Yv:vals=(.pointer (some ⟨b,0,none⟩)::vs).toArray:=by
  have Be:vals.size=vs.length+1:=by rw[<-hl];simp
  apply Array.ext
  .simp[Be]
  intro i h1 h2;have hi:i<(AV.p 0 0 0 0 0::vs.map AV.lit).length:=vv2;have ha:=Iv i hi;rw[gA,Array.getElem?_eq_getElem h1] at ha;cases i with
  |zero=>simp only[List.getElem_cons_zero,Option.getD_some] at ha;obtain⟨_,_,A2⟩:=ha.ptO_inv;have:=(A2 ee he RX).2 C2 b c hblk;simpa using this
  |succ i=>simp only[List.getElem_cons_succ,List.getElem_map,Option.getD_some] at ha;have:=ha.lit_inv.1;simpa using this
 rw[Yv];refine(h w b p v hp eT Lw).mono ?_;rintro en w' ⟨x,rfl,hx,p',v',hp',RO,fN,B8⟩;have DO:∀id,id≠0->e id=none:=fun id hid=>hr.dead id (by simp[Hp.get];omega);have JR:∀k,v'.ownBlock=some k->e.kid k=some (b,1)\/w.heap.size<=k:=fun k hk=>(B8.new.2 k hk).imp (DS k) id;have OQ:∀k,v'.ownBlock=some k->k<w'.heap.size:=fun k hk=>(RO.own.lt k hk).2;obtain⟨e',AP⟩:∃e':An,e'=⟨e.m,e.z,fun k=>if v'.ownBlock=some k then some (b,1) else none⟩:=⟨_,rfl⟩;have em:∀id,e' id=e id:=by subst AP;intro id;rfl
 have ez:e'.z=e.z:=by subst AP;rfl
 have ekid:∀k B c,e'.kid k=some (B,c)->v'.ownBlock=some k/\B=b/\c=1:=by
  subst AP;intro k B c hk;by_cases hv:v'.ownBlock=some k
  .simp only[iP hv,Option.some.injEq,Prod.mk.injEq] at hk;exact⟨hv,hk.1.symm,hk.2.symm⟩
  simp[hv] at hk
 have ekid2:∀k,v'.ownBlock=some k->e'.kid k=some (b,1):=by subst AP;intro k hk;simp[hk]
 have eobj:∀k,BN e' k->k=b:=by
  rintro k ⟨id,Au,c',h1,h2⟩;rw[em] at h1;by_cases hid:id=0
  .subst hid;rw[he] at h1;cases h1;rw[hblk] at h2;cases h2;rfl
  rw[DO id hid] at h1;cases h1
 have eown:∀k,AQ e' k->k=b\/v'.ownBlock=some k:=by
  rintro k (h1|⟨B,c',h1,h2⟩)
  .exact .inl (eobj k h1)
  exact .inr (ekid k B c' h1).1
 have eown2:∀k,AQ e' k->w.heap.size<=k\/AQ e k:=by
  intro k hk;rcases eown k hk with rfl|hv
  .exact .inr (.inl NE)
  rcases JR k hv with h1|h1
  .exact .inr (.inr ⟨b,1,h1,NE⟩)
  exact .inl h1
 have nown:∀k,¬AQ e k->k≠b/\some k≠v.ownBlock:=by
  intro k hk;refine⟨?_,?_⟩
  .rintro rfl;exact hk (.inl NE)
  intro h1;exact hk (.inr ⟨b,1,DS k h1.symm,NE⟩)
 have tU:Pz w' e' b 5 bs' v':=by
  by_cases Hs:bs'=[]
  .exact .inl ⟨fN.2 Hs,Hs⟩
  obtain⟨hlen,Xr⟩:=RO.own;rcases Xr with ⟨hv,_⟩|⟨g,cap,cur,fz,hv,_,h4,h5,h6,h7,h8,h9⟩
  .exact absurd (fN.1 hv) Hs
  refine .inr ⟨g,cap,cur,fz,hv,ekid2 g (by rw[hv];rfl),h4,oM,h6,h7,oM,?_,Hs⟩;rw[Nat.mul_one] at h9;exact h9
 have wr:Gh w' e' (Az 2) (.bd 186 5 bs') ee:=⟨C2,b,c,p',v',hblk,RO.blk,hp',tU⟩;have Oq:Az 2 0:=xx1;refine⟨x,e',rfl,⟨?_,?_,?_,?_,?_,?_,?_,?_⟩, .dat _ _ (hx _ _),⟨B8.size,?_,?_,?_,?_⟩,ez,eown2,⟨B8.os,B8.tape,B8.output,B8.size,?_,B8.new.1⟩⟩
 .intro id hid;rw[em];refine DO id fun h0=>?_;subst h0;cases hid
 .intro id g ob hid;simp only[Hp.get] at hid;by_cases h0:0=id
  .rw[iP h0] at hid;cases hid
   subst h0;exact⟨ee,(em 0).trans he,RX,Oq,wr⟩
  rw[iN h0] at hid;cases hid
 .intro id Br e1 e2 b1 c1 c2 h1 h2 _ _;rw[em] at h1 h2;by_cases i1:id=0
  .by_cases i2:Br=0
   .rw[i1,i2]
   rw[DO Br i2] at h2;cases h2
  rw[DO id i1] at h1;cases h1
 .intro id e1 b1 c1 h1 h2;have:=eobj b1 ⟨id,e1,c1,h1,h2⟩;subst this;exact tL RQ B8.size
 .intro id e1 b1 c1 h1 h2;have:=eobj b1 ⟨id,e1,c1,h1,h2⟩;subst this;rw[ez];exact Es
 .intro k B c1 hk;obtain⟨h1,rfl,_⟩:=ekid k B c1 hk;refine⟨OQ k h1,tL RQ B8.size,?_⟩;rw[ez];rcases JR k h1 with h2|h2
  .exact(hr.kl k _ _ h2).2.2
  intro h3;have:=hz k h3;omega
 .intro k hk;have:=eobj k hk;subst this;cases h1:e'.kid k with
  |none=>rfl|some q=>exact absurd (ekid k q.1 q.2 h1).1 RO.ne
 .intro k B c1 hk;obtain⟨_,rfl,_⟩:=ekid k B c1 hk;cases h1:e'.kid B with
  |none=>rfl|some q=>exact absurd (ekid B q.1 q.2 h1).1 RO.ne
 .intro g hg;exact tL hg oM
 .intro k hk hu;refine⟨by rw[ez];exact hu.1,fun h1=>?_⟩;rcases eown2 k h1 with h2|h2
  .omega
  exact hu.2 h2
 .intro k hk hu;obtain⟨h1,h2⟩:=nown k hu.2;exact B8.block k hk h1 h2
 .intro id e1 h1 _;rw[em] at h1;exact⟨e1,h1,rfl,rfl, .inl ⟨rfl,rfl⟩⟩
 intro k hk hu;obtain⟨h1,h2⟩:=nown k hu;exact B8.block k hk h1 h2
open Go Go.Sym Go.Proofs.Tryz Go.Great Go.RowKit Go.Proofs Go.Sort Go.Scr Sc
def Wf:Go.Shelf.Ren:=⟨fun|166=>131|167=>133|169=>134|240=>178|276=>223|n=>n,fun|9=>9|3=>3|4=>4|0=>0|20=>20|72=>186|76=>190|70=>184|37=>84|75=>189|127=>226|164=>257|5=>5|80=>194|n=>n,fun|n=>n⟩
theorem oy:Go.Proofs.Lays.n166 prog Wf:={
 mixed:=kR
 f166:=func131.trans (congrArg some kR)
 f240:=func178.trans (congrArg some kR)
 f276:=func223.trans (congrArg some kR)
 t0:=underlying0
 a0:=isAgg0
 z0:=sizeOf0
 v0:=zeroValue0
 t3:=underlying3
 a3:=isAgg3
 z3:=sizeOf3
 v3:=zeroValue3
 t4:=underlying4
 a4:=isAgg4
 z4:=sizeOf4
 v4:=zeroValue4
 t9:=underlying9
 a9:=isAgg9
 z9:=sizeOf9
 v9:=zeroValue9
 t20:=underlying20
 a20:=isAgg20
 z20:=sizeOf20
 v20:=zeroValue20
 t37:=underlying84
 a37:=isAgg84
 z37:=sizeOf84
 v37:=zeroValue84
 t70:=underlying184
 a70:=isAgg184
 z70:=sizeOf184
 v70:=zeroValue184
 t72:=underlying186
 a72:=isAgg186
 z72:=sizeOf186
 v72:=zeroValue186
 t75:=underlying189
 a75:=isAgg189
 z75:=sizeOf189
 v75:=zeroValue189
 t164:=underlying257
 a164:=isAgg257
 z164:=sizeOf257
 v164:=zeroValue257}
theorem oz:Go.Proofs.Lays.n167 prog Wf:={
 mixed:=kR
 f167:=func133.trans (congrArg some kR)
 f240:=func178.trans (congrArg some kR)
 f276:=func223.trans (congrArg some kR)
 t0:=underlying0
 a0:=isAgg0
 z0:=sizeOf0
 v0:=zeroValue0
 t4:=underlying4
 a4:=isAgg4
 z4:=sizeOf4
 v4:=zeroValue4
 t5:=underlying5
 a5:=isAgg5
 z5:=sizeOf5
 v5:=zeroValue5
 t9:=underlying9
 a9:=isAgg9
 z9:=sizeOf9
 v9:=zeroValue9
 t20:=underlying20
 a20:=isAgg20
 z20:=sizeOf20
 v20:=zeroValue20
 t37:=underlying84
 a37:=isAgg84
 z37:=sizeOf84
 v37:=zeroValue84
 t70:=underlying184
 a70:=isAgg184
 z70:=sizeOf184
 v70:=zeroValue184
 t72:=underlying186
 a72:=isAgg186
 z72:=sizeOf186
 v72:=zeroValue186
 t75:=underlying189
 a75:=isAgg189
 z75:=sizeOf189
 v75:=zeroValue189
 t164:=underlying257
 a164:=isAgg257
 z164:=sizeOf257
 v164:=zeroValue257}
theorem bj:Builder.Extra prog Wf:={
 sizeBuilder:=kR
 liesBuilder:=kR
 t5:=underlying5
 a5:=isAgg5
 z5:=sizeOf5
 v5:=zeroValue5
 infoByte:=kR
 cellsByte:=kR
 sizeByte:=kR
 neB5:=by decide}
theorem bp (a b:List UInt8):Lib.byteCells (a++b)=Lib.byteCells a++Lib.byteCells b:=by simp[Lib.byteCells]
theorem strCells_eq (s:List UInt8):Lib.strCells (strOf s)=Lib.byteCells s:=by simp[Lib.strCells,Lib.byteCells,S3]
theorem oC (bs s:Bs) (hl:bs.length+s.length<=140737488355328):Ag prog Ad 131 [(0,some (0, .bd 186 5 bs))] [.p 0 0 0 0 0,S (strOf s)] [(0,some (0, .bd 186 5 (bs++s)))] (.tup [I s.length, .lit .nilIface]):=by
 refine Zy (vs:=[.string (strOf s)]) ⟨f131,func131,xv4,xv4⟩ fun w b p v hp hb hn=>?_;have BH:(Lib.byteCells bs).length=bs.length:=Lib.byteCells_length bs;refine(oH oy bj b p v hp (Lib.byteCells bs) (strOf s) w (by rw[BH];exact hb) (by rw[BH,S4];exact hl)).mono ?_;rintro en w' ⟨rfl,v',h1,h2,h3⟩;refine⟨_,rfl,fun w U=>?_,_,v', .inr rfl,?_,?_,h3⟩
 .refine .tup _ _ rfl fun i hi=>?_;rcases(by simp at hi;omega:i=0\/i=1) with rfl|rfl
  .rw[S4];exact .lit _ rfl
  exact .lit _ rfl
 .rw[BH,S4,strCells_eq] at h1;rw[bp,aL];exact h1
 rw[h2,hn,S4];simp[List.length_eq_zero_iff]
theorem oB (bs:Bs) (c:UInt8) (hl:bs.length+1<=140737488355328):Ag prog Ad 133 [(0,some (0, .bd 186 5 bs))] [.p 0 0 0 0 0,Uc c] [(0,some (0, .bd 186 5 (bs++[c])))] (.lit .nilIface):=by
 refine Zy (vs:=[.int .u8 ((c.toNat:Nat):Int)]) ⟨f133,func133,xv4,xv4⟩ fun w b p v hp hb hn=>?_;have BH:(Lib.byteCells bs).length=bs.length:=Lib.byteCells_length bs;refine(oG oz bj b p v hp (Lib.byteCells bs) ((c.toNat:Nat):Int) w (by rw[BH];exact hb) (by rw[BH];exact hl)).mono ?_;rintro en w' ⟨rfl,v',h1,h2,h3⟩;refine⟨_,rfl,fun w U=> .lit _ rfl,_,v', .inr rfl,?_,?_,h3⟩
 .rw[BH] at h1;rw[bp,aL];exact h1
 constructor
 .intro h;exact absurd h h2
 intro h;simp at h
theorem dH (w:World) (g n k:Nat) (h:k≠g):(w.freeze ⟨g,0,none⟩ n).heap[k]?=w.heap[k]?:=by
 unfold World.freeze;split
 .rfl
 show(w.heap.modify g _)[k]?=_;rw[Array.getElem?_modify];simp[Ne.symm h]
theorem re (w:World) (a:Addr) (n:Nat):(w.freeze a n).os=w.os/\(w.freeze a n).tape=w.tape/\(w.freeze a n).output=w.output/\(w.freeze a n).heap.size=w.heap.size/\(w.freeze a n).drawn=w.drawn:=by
 unfold World.freeze;split
 .exact⟨rfl,rfl,rfl,rfl,rfl⟩
 exact⟨rfl,rfl,rfl,sM,rfl⟩
theorem oA (bs:Bs):Ag prog Ad 134 [(0,some (0, .bd 186 5 bs))] [.p 0 0 0 0 0] [(0,some (0, .bd 186 5 bs))] (S (strOf bs)):=by
 refine Zy (vs:=[]) ⟨f134,func134,xv4,xv4⟩ fun w b p v hp hb hn=>?_;have BH:(Lib.byteCells bs).length=bs.length:=Lib.byteCells_length bs;by_cases h0:bs=[]
 .subst h0;have hv:=hn.2 rfl;subst hv;refine(oE Tryz.lays169 Tryz.Builder_Extra_169 b p w hb.blk).mono ?_;rintro en w' ⟨rfl,rfl⟩;exact⟨_,rfl,fun w U=> .lit _ rfl,p,_,hp,⟨hb.blk,hb.own,hb.ne⟩,hn,⟨rfl,rfl,rfl,lR _,fun _ _ _ _=>rfl,⟨Nat.le_succ _,fun k hk=> .inl hk⟩⟩⟩
 obtain⟨hlen,Xr⟩:=hb.own;rcases Xr with ⟨hv,_⟩|⟨g,cap,cur,fz,hv,hz,h4,h5,h6,h7,h8,h9⟩
 .exact absurd (hn.1 hv) h0
 subst hv;refine(oD Tryz.lays169 Tryz.Builder_Extra_169 b p g cap cur fz bs w hb.blk h4 h6 h7 oM ⟨hlen, .inr ⟨g,cap,cur,fz,rfl,hz,h4,h5,h6,h7,h8,h9⟩⟩ h0).mono ?_;rintro en w' ⟨rfl,rfl⟩;have sY:Lib.BuilderAtF 186 5 0 b p (Lib.byteCells bs) w.drew:=⟨zL _,_,hb.blk,by rw[BH];exact⟨hlen, .inr ⟨g,cap,cur,fz,rfl,hz,h4,h5,h6,h7,h8,h9⟩⟩,hb.ne⟩;have hF:=sY.froze (g:=g) (cap:=cap) (by rw[BH];exact Lib.cell_of_heap (w:=w.drew) hb.blk 1);rw[BH] at hF;obtain⟨_,v2,k1,k2,k3⟩:=hF;have fl:b≠g:=fun h=>hb.ne (by rw[h];rfl);have Gy:v2= .slice (some ⟨g,0,none⟩) bs.length cap:=by have:=dH w.drew g bs.length b fl;rw[this] at k1;have FE:=hb.blk;have:w.drew.heap[b]?=w.heap[b]?:=rfl;rw[this,FE] at k1;simp at k1;exact k1.symm
 subst Gy;have B8:=re w.drew ⟨g,0,none⟩ bs.length;refine⟨_,rfl,fun w U=> .lit _ rfl,p,_,hp,⟨k1,by rw[BH] at k2;exact k2,k3⟩,hn,⟨B8.1,B8.2.1,B8.2.2.1,Nat.le_of_eq B8.2.2.2.1.symm,fun k hk h1 h2=>?_,⟨by rw[B8.2.2.2.2];exact Nat.le_succ _,fun k hk=> .inl hk⟩⟩⟩
 .exact dH w.drew g bs.length k (fun h=>h2 (by rw[h];rfl))
end Go.Proofs.YtfcgkbinohibcaaGreatDoor
namespace Go.Inf
open Go.Lib
def B3 (l:List Int):List UInt8:=l.flatMap fun n=>itoa n++[32]
theorem yp:B3 []=[]:=rfl
theorem yq (l:List Int) (n:Int):B3 (l++[n])=B3 l++(itoa n++[32]):=by simp[B3]
def Vy (l:List UInt8):Nat:=l.foldl (fun a c=>10*a+(c.toNat - 48)) 0
theorem PV {k:Nat} (h:k<10):(UInt8.ofNat (48+k)).toNat=48+k:=by rw[UInt8.toNat_ofNat'];omega
theorem kL:∀u:Nat,Vy (decDigits u)=u:=by
 intro u;induction u using Nat.strongRecOn with
 |_ u ih=>
  rw[decDigits];split
  .rename_i h;simp only[Vy,List.foldl_cons,List.foldl_nil];rw[PV h];omega
  rename_i h;have:=ih (u / 10) oM;unfold Vy at this ⊢;rw[List.foldl_append,this];simp only[List.foldl_cons,List.foldl_nil];rw[PV (Nat.mod_lt _ dM)];omega
theorem ch:∀u:Nat,(32:UInt8)∉decDigits u:=by
 intro u;induction u using Nat.strongRecOn with
 |_ u ih=>
  have one:∀k,k<10->(32:UInt8)≠UInt8.ofNat (48+k):=fun k hk h=>by have:=congrArg UInt8.toNat h;rw[PV hk] at this;have h32:(32:UInt8).toNat=32:=rfl;omega
  rw[decDigits];split
  .rename_i h;intro hm;exact one u h (List.mem_singleton.1 hm)
  rename_i h;intro hm;rcases List.mem_append.1 hm with hm|hm
  .exact ih (u / 10) oM hm
  exact one _ (Nat.mod_lt _ dM) (List.mem_singleton.1 hm)
theorem g9 {n:Int} (h:0<=n):itoa n=decDigits n.toNat:=by unfold itoa;rw[iN oM]
theorem Qh6:∀{a b r t:List UInt8},(32:UInt8)∉a->(32:UInt8)∉b->a++32::r=b++32::t->a=b/\r=t
 |[],[],_,_,_,_,h=>vy0|[],y::b,_,_,_,hb,h=>by simp only[List.nil_append,List.cons_append,List.cons.injEq] at h;exact absurd (by rw[h.1];exact mS) hb|x::a,[],_,_,ha,_,h=>by simp only[List.nil_append,List.cons_append,List.cons.injEq] at h;exact absurd (by rw[<-h.1];exact mS) ha|x::a,y::b,_,_,ha,hb,h=>by simp only[List.cons_append,List.cons.injEq] at h;obtain⟨h1,h2⟩:=Qh6 (a:=a) (b:=b) (fun hm=>ha (mC _ hm)) (fun hm=>hb (mC _ hm)) h.2;exact⟨by rw[h.1,h1],h2⟩
theorem YN:∀{a b:List Int},(∀n∈a,0<=n)->(∀n∈b,0<=n)->B3 a=B3 b->a=b
 |[],[],_,_,_=>rfl|[],y::b,_,_,h=>by simp[B3] at h|x::a,[],_,_,h=>by simp[B3] at h|x::a,y::b,ha,hb,h=>by
  have hx:=ha x mS;have hy:=hb y mS;have e:∀(z:Int) (l:List Int),B3 (z::l)=itoa z++32::B3 l:=fun z l=>by simp[B3]
  rw[e,e,g9 hx,g9 hy] at h;obtain⟨h1,h2⟩:=Qh6 (ch _) (ch _) h;have h3:=congrArg Vy h1;rw[kL,kL] at h3;rw[YN (fun n hn=>ha n (mC _ hn)) (fun n hn=>hb n (mC _ hn)) h2];congr 1
  omega
end Go.Inf
namespace Go.Proofs.YtfcgkbinohibcaaGreatDoor
open Go Go.Sym Go.Proofs.Tryz
open Go.Inf
structure M1 (p:Pl):Prop where
 ky:Jw p
 nn:∀n∈AZ p,0<=n/\n<=1000000
def Eb:Nat->List BU->List (ByteArray×AV)
 |_,[]=>[]|i,h::t=>(strOf (B3 (AZ h.pl)),I i)::Eb (i+1) t
theorem bJ:∀(i:Nat) (G:List BU),LX (Eb i G)
 |_,[]=>fun p hp=>by cases hp
 |i,h::t=>fun p hp=>by
  rcases List.mem_cons.1 hp with rfl|hp
  .trivial
  exact bJ (i+1) t p hp
theorem mB (i:Nat) (G:List BU):LX (Eb i G)=True:=eq_true (bJ i G)
attribute [go_sem] mB
theorem bN:∀(i:Nat) (G:List BU) (h:BU),Eb i G++[(strOf (B3 (AZ h.pl)),I ((i+G.length:Nat):Int))]=Eb i (G++[h])
 |i,[],h=>by simp[Eb]|i,x::t,h=>by have:=bN (i+1) t h;simp only[Eb,List.cons_append,List.length_cons];rw[<-this,show i+(t.length+1)=i+1+t.length by omega]
theorem bK {k:List UInt8}:∀{i:Nat} {G:List BU},(∀x∈G,B3 (AZ x.pl)≠k)->Jm k (Eb i G)=false
 |_,[],_=>rfl|i,x::t,h=>by rw[Eb,Jm,bK fun y hy=>h y (mC _ hy),S3,dF (h x mS)];rfl
theorem bO {k:List UInt8} {z:AV}:∀{i j:Nat} {G:List BU},j<G.length->B3 (AZ (G.getD j default).pl)=k->(∀m,m<j->B3 (AZ (G.getD m default).pl)≠k)->Jm k (Eb i G)=true/\LN k z (Eb i G)=I ((i+j:Nat):Int)
 |_,_,[],h,_,_=>vz3|i,0,x::t,_,h,_=>by have h':B3 (AZ x.pl)=k:=h;rw[Eb,Jm,LN,S3,iP h',dT h'];exact⟨rfl,rfl⟩|i,j+1,x::t,h,h2,h3=>by have h0:B3 (AZ x.pl)≠k:=h3 0 oM;obtain⟨q1,q2⟩:=bO (k:=k) (z:=z) (i:=i+1) (j:=j) (G:=t) xx0 h2 fun m hm=>h3 (m+1) oM;rw[Eb,Jm,LN,S3,iN h0,q1,q2];exact⟨sM,by congr 2;omega⟩
theorem bM:∀{i j:Nat} {G:List BU} (hj:j<G.length) (x:BU),x.pl=(G.getD j default).pl->Eb i (G.set j x)=Eb i G
 |_,_,[],h,_,_=>vz3|i,0,y::t,_,x,e=>by have e':x.pl=y.pl:=e;simp only[List.set,Eb,e']|i,j+1,y::t,h,x,e=>by simp only[List.set,Eb];rw[bM (i:=i+1) (j:=j) (G:=t) xx0 x e]
def Kj (G:List BU):Hp:=[(0,some (0, .box [.mpO 1 0, .l 2 0 0 G.length])),(1,some (0, .ms (Eb 0 G))),(2,some (0, .own 63 3 (BY G)))]
theorem YP (p:Pl) (h:Jw p):(AZ p).length<=2001000:=by obtain⟨h1,h2,h3,h4⟩:=h;rw[YQ,aL];have:=WF h3;have:=Zo h4;omega
theorem ic:∀{l:List Int},(∀n∈l,0<=n/\n<=1000000)->(B3 l).length<=l.length*22
 |[],_=>lR _|n::l,h=>by
  have h1:=ic (l:=l) fun m hm=>h m (mC _ hm);have h2:=h n mS;have h3:=Lib.itoa_length_le n oM oM;have e:B3 (n::l)=Lib.itoa n++32::B3 l:=by simp[B3]
  rw[e];simp only[aL,List.length_cons];omega
theorem pe (p:Pl) (u:Int) (G G':List BU) (h:M1 p) (hG:G.length<=1000)
  (hc:(G'=G++[⟨u,p.Q,p.R⟩]/\∀x∈G,B3 (AZ x.pl)≠B3 (AZ p))\/
   (∃j,j<G.length/\G'=G.set j ⟨min (G.getD j default).us u,(G.getD j default).sl,(G.getD j default).bn⟩/\B3 (AZ (G.getD j default).pl)=B3 (AZ p)/\∀m,m<j->B3 (AZ (G.getD m default).pl)≠B3 (AZ p))):
  Ag prog Ad 76 (Kj G) [.p 0 0 0 0 0,p.av,I u] (Kj G') (.tup []):=by
 have hf:=WG p h.ky;have A3:=YP p h.ky;have Ei:=h.nn;have OX:=bN 0 G ⟨u,p.Q,p.R⟩;simp only[BU.pl,Nat.zero_add] at OX;unfold Kj;generalize AZ p=ks at*;refine Am func76 ntmps76 ?_;intro w e X hC;refine xz8 ?_;refine xy6 hf ?_;refine uW ?_;refine Aw (fun i:Nat×Nat=>⟨[(0, .p 0 0 0 0 0),(2,I u),(4, .p 104 1 0 0 0),(6, .p 106 2 0 0 0),(13,IS ks),(14,I ks.length),(15,I i.2)],(106,some (2, .bd 186 5 (B3 (ks.take i.2))))::(104,some (1, .box [RS p.Q,RS p.R]))::(0,some (0, .box [.mpO 1 0, .l 2 0 0 G.length]))::(1,some (0, .ms (Eb 0 G)))::(2,some (0, .own 63 3 (BY G)))::[],i.1⟩) (fun i=>i.2<=ks.length) (fun i=>ks.length - i.2) (_,0) (zL _) (.of (lR _) (Ax @yp) A4) ?_;rintro⟨ck,i⟩ hi;simp only at hi;refine xy1 (fun c=>?_) (fun c=>?_)
 .have Aa:i<ks.length:=oM;have hg:=Ao Aa;have hb:=Ei _ (GQ Aa 0);have hs:=Vr Aa (0:Int);have hl:=ic (l:=ks.take i) fun n hm=>Ei n (List.mem_of_mem_take hm);have FL:=yq (ks.take i) (ks.getD i 0);rw[<-hs] at FL;rw[List.length_take,Nat.min_eq_left hi] at hl;generalize ks.getD i 0=n at*;generalize B3 (ks.take i)=acc at*;have DQ:=Lib.itoa_length_le n oM oM;have wi:=yc n oM oM;have w1:=oC acc (Lib.itoa n) oM;have w2:=oB (acc++Lib.itoa n) 32 (by rw[aL];omega);rw[List.append_assoc] at w2;refine xk3 @hg ?_;intro K hK;refine xy0 wi ?_;refine uH ?_;refine CL [(0,0,106,2)] [(106,2,0,0)] true (w1) Bz Bz Ab Ab Ab Ab Ab Ab Ab Ab Ab Ab Ab Ab Ab Ab Ab ?_;refine DM ?_;refine hK _ ?_;clear hK K;refine uR ?_;intro K hK;refine uH ?_;refine CL [(0,0,106,2)] [(106,2,0,0)] true (w2) Bz Bz Ab Ab Ab Ab Ab Ab Ab Ab Ab Ab Ab Ab Ab Ab Ab ?_;refine DM ?_;refine hK _ ?_;clear hK K;refine uZ ?_;refine⟨(_,i+1),uO,uO, .of (lR _) (Ax @FL) A4⟩
 refine At ?_;have Bx:i=ks.length:=oM;subst Bx;rw[List.take_length];have w3:=oA (B3 ks);generalize B3 ks=K9 at*;rcases hc with ⟨rfl,hn⟩|⟨j,hj,rfl,hk,I6⟩;case inr=>
  obtain⟨q1,q2⟩:=bO (z:=I 0) (i:=0) hj hk I6;rw[Nat.zero_add] at q2;have hg:=SF hj;have FG:Eb 0 (G.set j ⟨min (G.getD j default).us u,(G.getD j default).sl,(G.getD j default).bn⟩)=Eb 0 G:=bM hj _ rfl;rw[FG,List.length_set];generalize G.getD j default=x at*;refine uR ?_;intro K hK;refine uH ?_;refine CL [(0,0,106,2)] [(106,2,0,0)] true (w3) Bz Bz Ab Ab Ab Ab Ab Ab Ab Ab Ab Ab Ab Ab Ab Ab Ab ?_;refine DM ?_;refine hK _ ?_;clear hK K;refine Bg (uI @q1 @q2) ?_;refine uF ?_;refine xq2 (uI @q1 (uI @q2 @hg)) ?_;show ∃σ D,IT _ f76.results.toList σ D _ _ _;rw[show f76.results.toList=[] from rfl];(refine DB [(0,0,0,0),(1,0,1,0),(2,0,2,0)] vx1 sM sM sM ?_ ?_ ?_ ?_ ?_;(iterate 3 (focus (first|exact trivial|(simp only[go_sem,seval,Bv,BK,A9,AT,BR,BM]<;>first|trivial|(simp;done)))));all_goals (try simp only[go_sem,seval,Bv,BK,A9,AT,BR,BM,A7,BZ]));have e:(if u<x.us then u else x.us)=min x.us u:=by rw[Int.min_def];split<;>split<;>omega
  rw[e]
 have CP:=bK (i:=0) hn;refine uR ?_;intro K hK;refine uH ?_;refine CL [(0,0,106,2)] [(106,2,0,0)] true (w3) Bz Bz Ab Ab Ab Ab Ab Ab Ab Ab Ab Ab Ab Ab Ab Ab Ab ?_;refine DM ?_;refine hK _ ?_;clear hK K;refine Bg @CP ?_;refine uT ?_;refine xq2 @CP ?_;simp only[OX];refine uD ?_;refine xx8 ?_;refine Ay ?_;rw[show f76.results.toList=[] from rfl];(refine DB [(0,0,0,0),(1,0,1,0),(2,0,2,0)] vx1 sM sM sM ?_ ?_ ?_ ?_ ?_;(iterate 3 (focus (first|exact trivial|(simp only[go_sem,seval,Bv,BK,A9,AT,BR,BM]<;>first|trivial|(simp;done)))));all_goals (try simp only[go_sem,seval,Bv,BK,A9,AT,BR,BM,A7,BZ]))
 done
open Go.Inf
theorem px (x y:Int):Ag prog Ad 181 [] [I x,I y] [] (I (if x<y then -1 else if y<x then 1 else 0)):=by
 by_cases c1:x<y
 .have d1:decide (x<y)=true:=dT c1;rw[iP c1];refine Am func181 ntmps181 ?_;intro w e X hC;refine xz8 ?_;refine xy7 (Pb x) ?_;refine uR ?_;refine xy7 (Pb y) ?_;refine IB @d1 ?_;exact uP
 have d1:decide (x<y)=false:=dF c1;rw[iN c1];by_cases c2:y<x
 .have d2:decide (y<x)=true:=dT c2;rw[iP c2];refine Am func181 ntmps181 ?_;intro w e X hC;refine xz8 ?_;refine xy7 (Pb x) ?_;refine uR ?_;refine xy7 (Pb y) ?_;refine IB (uI @d1 @d2) ?_;exact uP
 have d2:decide (y<x)=false:=dF c2;rw[iN c2];refine Am func181 ntmps181 ?_;intro w e X hC;refine xz8 ?_;refine xy7 (Pb x) ?_;refine uR ?_;refine xy7 (Pb y) ?_;refine IB (uI @d1 @d2) ?_;exact uP
def cmpL:List Int->List Int->Int
 |[],[]=>0|[],_::_=>-1|_::_,[]=>1|a::r,b::t=>if a<b then -1 else if b<a then 1 else cmpL r t
theorem Wk:∀a b:List Int,cmpL a b<0↔CJ a b=true
 |[],[]=>by simp[cmpL,CJ]|[],_::_=>by simp[cmpL,CJ]|_::_,[]=>by simp[cmpL,CJ]|a::r,b::t=>by
  rw[cmpL,CJ];by_cases h1:a<b
  .rw[iP h1,iN oM];simp[h1]
  rw[iN h1];by_cases h2:b<a
  .rw[iP h2,iN oM];simp[h1]
  rw[iN h2,iP oM];exact Wk r t
theorem py {a b:List Int} {i:Nat} (h1:i<a.length) (h2:i<b.length):cmpL (a.drop i) (b.drop i)=if a.getD i 0<b.getD i 0 then -1 else if b.getD i 0<a.getD i 0 then 1 else cmpL (a.drop (i+1)) (b.drop (i+1)):=by rw[List.drop_eq_getElem_cons h1,List.drop_eq_getElem_cons h2,cmpL,gE,gG h1,gE,gG h2];rfl
theorem pC (a b:List Int) (ha:a.length<=10000000) (hb:b.length<=10000000):Ag prog Ad 138 [] [IS a,IS b] [] (I (cmpL a b)):=by
 refine Am func138 ntmps138 ?_;intro w e X hC;refine xy4 ?_;refine Aw (fun i:Nat×Nat=>⟨[(0,IS a),(1,IS b),(9,IS a),(10,I a.length),(11,I i.2)],[],i.1⟩) (fun i=>i.2<=a.length/\i.2<=b.length/\cmpL a b=cmpL (a.drop i.2) (b.drop i.2)) (fun i=>a.length - i.2) (_,0) ⟨zL _,zL _,sM⟩ (Af) ?_;rintro⟨ck,i⟩ ⟨hi,Dw,FG⟩;simp only at hi Dw FG;refine xy1 (fun c=>?_) (fun c=>?_)
 .have Aa:i<a.length:=oM;have g1:=Ao Aa;refine Bg @g1 ?_;refine GF (fun c2=>?_) (fun c2=>?_)
  .have Hs:b.drop i=[]:=List.drop_eq_nil_of_le oM;rw[FG,Hs,List.drop_eq_getElem_cons Aa,cmpL];exact xz5
  have Gv:i<b.length:=oM;have g2:=Ao Gv;have AM:=py Aa Gv;rw[<-FG] at AM;generalize a.getD i 0=x at*;generalize b.getD i 0=z at*;have wc:=px x z;by_cases e1:x<z
  .rw[iP e1] at wc AM;rw[AM];refine xk3 @g2 ?_;refine xy7 wc ?_;refine uZ ?_;exact xz7
  rw[iN e1] at wc AM;by_cases e2:z<x
  .rw[iP e2] at wc AM;rw[AM];refine xk3 @g2 ?_;refine xy7 wc ?_;refine uZ ?_;exact xz7
  rw[iN e2] at wc AM;refine xk3 @g2 ?_;refine xy7 wc ?_;refine uZ ?_;refine xy9 ?_;refine⟨(_,i+1),⟨uO,uO,AM⟩,uO,Af⟩
 refine At ?_;have Bx:i=a.length:=oM;rw[FG,Bx,List.drop_length];refine xy1 (fun c2=>?_) (fun c2=>?_)
 .have:b.drop a.length≠[]:=fun h=>by have:=congrArg List.length h;simp at this;omega
  cases hd:b.drop a.length with
  |nil=>exact absurd hd this|cons y t=>rw[cmpL];exact xz5
 rw[List.drop_eq_nil_of_le oM,cmpL];exact xz5
theorem oJ (x y:BU) (hx:Jw x.pl) (hy:Jw y.pl):Ag prog Ad 137 [] [x.av,y.av] [] (I (cmpL (AZ x.pl) (AZ y.pl))):=by have f1:=WG x.pl hx;have f2:=WG y.pl hy;have l1:=YP x.pl hx;have l2:=YP y.pl hy;have wc:=pC (AZ x.pl) (AZ y.pl) oM oM;obtain⟨xu,xs,xb⟩:=x;obtain⟨yu,ys,yb⟩:=y;simp only[BU.pl] at*;generalize AZ ⟨xs,xb⟩=k1 at*;generalize AZ ⟨ys,yb⟩=k2 at*;refine Am func137 ntmps137 ?_;intro w e X hC;refine uZ ?_;refine uE ?_;intro K hK;refine cP f1 ?_;refine uS ?_;refine cP f2 ?_;refine uS ?_;refine xw6 wc ?_;refine hK _ ?_;clear hK K;exact uP
open Go.Inf
def Kk (y:Ly) (p:Pl) (pl:List T3) (bud:Int):Nat->List Dh->Int->Int×Bool
 |_,[],t=>(t,true)|i,r::l,t=>if(Gk (E8 y p pl i) r).2=false\/bud<t+(Gk (E8 y p pl i) r).1 then(0,false) else Kk y p pl bud (i+1) l (t+(Gk (E8 y p pl i) r).1)
def Gj (y:Ly) (p:Pl) (pl:List T3) (bud:Int) (rs:List Dh):Int×Bool:=Kk y p pl bud 0 rs 0
theorem b6 (v:Vw) (r:Dh):0<=(Gk v r).1/\(Gk v r).1<=1:=by
 unfold Gk;split
 .decide
 split<;>decide
theorem b5 {y:Ly} {p:Pl} {pl:List T3} {bud:Int} {rs:List Dh} {i:Nat} (h:i<rs.length) (t:Int):Kk y p pl bud i (rs.drop i) t=
  if(Gk (E8 y p pl i) (rs.getD i default)).2=false\/bud<t+(Gk (E8 y p pl i) (rs.getD i default)).1 then(0,false) else Kk y p pl bud (i+1) (rs.drop (i+1)) (t+(Gk (E8 y p pl i) (rs.getD i default)).1):=by
 rw[List.drop_eq_getElem_cons h,Kk,gE,gG h];rfl
theorem cC (y:Ly) (p:Pl) (pl:List T3) (bud:Int) (hs:List BU) (rs:List Dh) (h:K5 y p) (hl:rs.length=y.D.length) (hd:∀i,i<rs.length->(rs.getD i default).dv=(i:Int)) (EK:pl.length<=1000)
  (ht:∀d,(E8 y p pl d).tx=[]\/(E8 y p pl d).tx.length=10) (hb:0<=bud/\bud<=2):
  Ag prog Ad 68 [] [p.av, .P [.sl (Eu rs) false], .P [.sl (AA y.U) false, .sl (Ai y.D) false], .P [.sl (Ai pl) false], .P [I bud, .sl (BY hs) false]] [] (.tup [I (Gj y p pl bud rs).1,B (Gj y p pl bud rs).2]):=by
 have hn:=h.n;refine Am func68 ntmps68 ?_;intro w e X hC;refine xy4 ?_;refine Aw (fun i:Nat×Nat×Int=>⟨[(1, .P [.sl (Eu rs) false]),(2, .P [.sl (AA y.U) false, .sl (Ai y.D) false]),(3, .P [.sl (Ai pl) false]),(4, .P [I bud, .sl (BY hs) false]),(5, .p 105 1 0 0 0),(8,I i.2.2),(13, .sl (Eu rs) false),(14,I rs.length),(15,I i.2.1)],(105,some (1, .box [RS p.Q,RS p.R]))::[],i.1⟩) (fun i=>i.2.1<=rs.length/\0<=i.2.2/\i.2.2<=i.2.1/\Gj y p pl bud rs=Kk y p pl bud i.2.1 (rs.drop i.2.1) i.2.2) (fun i=>rs.length - i.2.1) (_,0,0) ⟨zL _,Int.le_refl _,Int.le_refl _,rfl⟩ (Af) ?_;rintro⟨ck,i,t⟩ ⟨hi,Yp,DI,Dt⟩;simp only at hi Yp DI Dt;refine xy1 (fun c=>?_) (fun c=>?_)
 .have Aa:i<rs.length:=oM;have hg:=SY Aa;have AM:=b5 (y:=y) (p:=p) (pl:=pl) (bud:=bud) Aa t;have wc:=pK y p pl (rs.getD i default) i h oM (hd i Aa) EK (ht i);have Xs:=b6 (E8 y p pl i) (rs.getD i default);generalize Gk (E8 y p pl i) (rs.getD i default)=cv at*;generalize rs.getD i default=r at*;rw[<-Dt] at AM;obtain⟨cn,co⟩:=cv;simp only at*;cases co with
  |false=>rw[iP (.inl rfl)] at AM;rw[AM];refine xk3 @hg ?_;refine xy2 wc ?_;refine uZ ?_;refine xq0 ?_;rw[show f68.results.toList=[.tmp 6, .tmp 7] from rfl];exact Bm|true=>
   by_cases c2:bud<t+cn
   .have d2:decide (bud<t+cn)=true:=dT c2;rw[iP (.inr c2)] at AM;rw[AM];refine xk3 @hg ?_;refine xy2 wc ?_;refine Bg @d2 ?_;refine xq0 ?_;rw[show f68.results.toList=[.tmp 6, .tmp 7] from rfl];exact Bm
   have d2:decide (bud<t+cn)=false:=dF c2;rw[iN (fun h=>h.elim (fun h=>vx0) c2)] at AM;refine xk3 @hg ?_;refine xy2 wc ?_;refine Bg @d2 ?_;refine xy9 ?_;refine⟨(_,i+1,t+cn),⟨uO,uO,uO,AM⟩,uO,Af⟩
 refine At ?_;have Bx:i=rs.length:=oM;rw[Dt,Bx,List.drop_length,Kk];refine xz4 ?_;rw[show f68.results.toList=[.tmp 6, .tmp 7] from rfl];exact Bm
end Go.Proofs.YtfcgkbinohibcaaGreatDoor
namespace Go.Sym
open Go Go.Great
variable {C:Cx} {T:AE}
theorem n4 (hC:Cn C T) {id d e el:Nat} {x:Operand} {t u ty1 ty2:TypeId} {pos1 pos2:String} {af1 af2:Array Edge} {full:Bool} {s:St} {Q:Exit->St->Prop} (hx:s.ev x= .sl [] full) (hd:d<C.N) (he:e<C.N) (Bf:(tl T t).ty= .slice el)
  (h:∀b:Bool,Q .normal ((s.put (some d) (.sl [] full) []).put (some e) (.lit (.bool b)) [])):
  BD C (.region id #[⟨some d, .move x,ty1,pos1,af1,none⟩,⟨some e, .binOp .eql t (.tmp d) (.const (.slice none 0 0)) u,ty2,pos2,af2,none⟩] false) Q s:=by
 intro a w hr;obtain⟨ev,h1,AK,hv⟩:=hr.body;have Gz:=Me (s:=s) hv x;rw[hx] at Gz;obtain⟨v,NJ⟩:∃v,v=a.eval x:=⟨_,rfl⟩;rw[<-NJ] at Gz;have C3:∃ao,v= .slice ao 0 0\/∃b off cap,v= .slice (some ⟨b,off,none⟩) 0 cap:=by
  rcases Gz.sl_inv.sl_inv with ⟨_,ao,rfl⟩|⟨b,off,cap,k,f,rfl,_⟩
  ·exact⟨ao, .inl rfl⟩
  exact⟨none, .inr ⟨b,off,cap,rfl⟩⟩
 obtain⟨dd,hu,Ix⟩:=(hC.ty.fit Bf sM).under;rw[Bf] at Ix;obtain⟨b,hb⟩:∃b:Bool,∀w,(Op.equalIn Op.maxDepth t v (.slice none 0 0)).run C.P w= .ok b w:=by
  cases Ix
  rcases C3 with ⟨ao,rfl|⟨b,off,cap,rfl⟩⟩
  ·cases ao with
   |none=>exact⟨true,fun w=>vy3⟩|some ad=>exact⟨false,fun w=>vy3⟩
  exact⟨false,fun w=>vy3⟩
 have xw:∀(e0:An) (n:Nat),AB w e0 (Az n) w e0 (Az (n+1)):=fun e0 n=>by have:=AB.wide w e0 (Az n) n;rw[I1] at this;exact this
 have r1:BS C (s.put (some d) (.sl [] full) []) (a.put (some d) v) w:=
  QN hr hv hd (by rw[<-I1];exact h1.wide) (xw ev s.ck) (by rw[<-I1];exact AK.wide _) hr.frm (Gz.ext (xw ev s.ck))
 obtain⟨ev2,h2,XV,Gy⟩:=r1.body;have r2:BS C ((s.put (some d) (.sl [] full) []).put (some e) (.lit (.bool b)) []) ((a.put (some d) v).put (some e) (.bool b)) w:=
  QN r1 Gy he (by rw[<-I1];exact h2.wide) (xw ev2 _) (by rw[<-I1];exact XV.wide _) r1.frm (.dat _ _ (.lit _ rfl))
 have uh:d<a.tmps.size:=by rw[hr.size];exact hd
 refine wpIn_region_lit (l:=[_,_]) ?_;unfold wpListIn;rw[iP (N0 rfl _)];refine⟨fun _ _=>trivial,?_⟩;rw[Oper.semAt_eq _ _ _ vx3];have e1:(execOp a.eval ⟨some d, .move x,ty1,pos1,af1,none⟩).run C.P w= .ok (.value v) w:=by rw[NJ];rfl
 rw[e1,Oper.uponIn_value];unfold wpListIn;rw[iP (N0 rfl _)];refine⟨fun _ _=>trivial,?_⟩;rw[Oper.semAt_eq _ _ _ vx3];have e2:(a.put (some d) v).eval (.tmp d)=v:=by show(a.tmps.setIfInBounds d v).getD d undef=v;rw[gA,Array.getElem?_setIfInBounds_self_of_lt uh];rfl
 have e3:(execOp (a.put (some d) v).eval ⟨some e, .binOp .eql t (.tmp d) (.const (.slice none 0 0)) u,ty2,pos2,af2,none⟩).run C.P w= .ok (.value (.bool b)) w:=by
  have e4:(binOp .eql t v (.slice none 0 0)).run C.P w= .ok (.bool b) w:=by
   rcases C3 with ⟨ao,rfl|⟨b',off,cap,rfl⟩⟩
   ·simp[binOp,Op.equal,hb w]
   simp[binOp,Op.equal,hb w]
  have e5:(eqGuard .eql t (.tmp d) (.const (.slice none 0 0)) v (.slice none 0 0)).run C.P w= .ok () w:=by simp[eqGuard]
  have e6:(a.put (some d) v).eval (.const (.slice none 0 0))= .slice none 0 0:=rfl;simp only[execOp,e2,e6,Sem.run_bind,e5,e4,Result.andThen_ok,Sem.run_pure]
 rw[e3,Oper.uponIn_value];unfold wpListIn;exact .inl ⟨_,r2,h b⟩
theorem aA {P:Program} {f:FuncId} {hp':Hp} {az:List AV} {r r':AV} (h:Ag P T f [] az hp' r) (hP:Nj hp' r) (hr:Ni hp' r=r'):Ag P T f [] az [] r':=by
 refine⟨h.1,fun w e vals h1 h2 h3 h4 h5=>(h.2 w e vals h1 h2 h3 h4 h5).mono ?_⟩;rintro en w' ⟨v,e',rfl,q1,q2,q3,q4,q5,q6⟩;obtain⟨C,hC⟩:∃C:Cx,C=⟨P,1,w,e,none,[],fun _ _=>False⟩:=⟨_,rfl⟩;have rel:BS C ⟨[(0,r)],hp',2⟩ {tmps:=#[v],defers:=[]} w':=by
  subst hC;refine⟨rfl,rfl,⟨q6.os,q6.tape,q6.output,q6.size,q6.same,q6.drawn⟩,e',q1,⟨q4,h2,q3,q5⟩,fun t=>?_⟩;show VR _ _ _ _ (AC [(0,r)] t) _;simp only[AC];by_cases h0:0=t
  ·subst h0;rw[iP rfl];exact q2
  rw[iN h0];exact .dat _ _ (.bad _)
 have wk:Jy ⟨[(0,r)],hp',2⟩ ⟨[(0,r')],[],2⟩:=by
  refine⟨lR _,fun id=> .inl rfl,fun t=>?_⟩;simp only[AC];by_cases h0:0=t
  ·subst h0;rw[iP rfl,iP rfl];exact .inr (.inr ⟨hP,hr.symm,fun i _=>rfl⟩)
  rw[iN h0];exact .inl rfl
 have rel2:=wk.rel rel;obtain⟨e2,k1,k2,k3⟩:=rel2.body;have k4:=rel2.frm;subst hC;exact⟨v,e2,rfl,k1,by have:=k3 0;simp only[AC,if_true] at this;exact this,k2.ext,k2.zeq,k2.mine,⟨k4.os,k4.tape,k4.output,k4.size,k4.same,k4.drawn⟩⟩
end Go.Sym
namespace Go.Proofs.YtfcgkbinohibcaaGreatDoor
open Go Go.Sym Go.Proofs.Tryz
open Go.Inf
def Pq (f g:T3):Bool:=decide (f.b=g.b)&&decide (f.c=g.c)
theorem qh (f g:T3):Ag prog Ad 167 [] [g.av, .P [I f.a,I f.b,I f.c]] [] (B (Pq f g)):=by
 unfold Pq;cases d1:decide (f.b=g.b) with
 |false=>refine Am func167 ntmps167 ?_;intro w e X hC;refine Bg @d1 ?_;exact uP|true=>refine Am func167 ntmps167 ?_;intro w e X hC;refine Bg @d1 ?_;exact uP
theorem pv (l:List T3) (hl:l.length<=1000):Ag prog Ad 168 [] [.sl (Ai l) false] [(100,some (1, .own 95 3 (Ai l)))] (.l 100 1 0 l.length):=by
 by_cases h0:0<l.length
 .refine Am func168 ntmps168 ?_;intro w e X hC;refine uZ ?_;refine xk1 ?_;rw[show f168.results.toList=[.tmp 2] from rfl];(refine DB [(100,1,105,4)] D4 sM sM sM Bp Bp Bp ?_ ?_;all_goals (first|refine Fb ?_|exact Fc|skip))
 have hn:l=[]:=List.eq_nil_of_length_eq_zero oM;subst hn;refine Am func168 ntmps168 ?_;intro w e X hC;refine xy4 ?_;refine n4 (full:=false) (el:=95) hC rfl (by show 3<f168.ntmps;rw[ntmps168];decide) (by show 4<f168.ntmps;rw[ntmps168];decide) rfl fun b=>?_;cases b with
 |true=>refine xq0 ?_;rw[show f168.results.toList=[.tmp 2] from rfl];(refine DB [(100,1,102,4)] D4 sM sM sM Bp Bp Bp ?_ ?_;all_goals (first|refine Fb ?_|exact Fc|skip));rfl
 |false=>refine xk1 ?_;rw[show f168.results.toList=[.tmp 2] from rfl];(refine DB [(100,1,105,4)] D4 sM sM sM Bp Bp Bp ?_ ?_;all_goals (first|refine Fb ?_|exact Fc|skip))
end Go.Proofs.YtfcgkbinohibcaaGreatDoor
namespace Go.Sym
open Go Go.Great Go.Sort Go.Shelf Go.RowKit Go.Proofs
def dat:AV->Prop
 | .lit _| .sl _ _=>True|_=>False
theorem dat.one {c:AV} (h:dat c):c.one=true:=by cases c<;>first|rfl|exact h.elim
theorem dat.vd {w:World} {U:Nat->Prop} {e:An} {G:Nat->Prop} {c:AV} {v:Value} (h:dat c) (hv:VR w U e G c v):VD w U c v:=by
 cases c with
 |lit _=>obtain⟨h1,h2⟩:=hv.lit_inv;rw[h1];exact .lit _ h2
 |sl _ _=>exact hv.sl_inv|_=>exact h.elim
theorem dat.vc {w:World} {e:An} {G:Nat->Prop} {b n:Nat} {c:AV} {v:Value} (h:dat c) (hv:VC w e G b n c v):VD w (UE e) c v:=by
 cases hv with
 |val _ _ hv=>exact h.vd hv|kid0=>exact h.elim|kid=>exact h.elim
theorem sN {w w':World} (h1:w'.os=w.os) (h2:w'.tape=w.tape) (h3:w'.output=w.output) (h4:w.heap.size<=w'.heap.size) (h5:∀b,b<w.heap.size->w'.heap[b]?=w.heap[b]?) (h6:w.drawn<=w'.drawn):
  w'=grow (w.drewN (w'.drawn - w.drawn)) (w'.heap.extract w.heap.size w'.heap.size):=by
 obtain⟨hp,tp,dr,os,ou⟩:=w;obtain⟨hp',kD,TM,jb,jc⟩:=w';simp only at h1 h2 h3 h4 h5 h6;subst h1 h2 h3;have e1:dr+(TM - dr)=TM:=oM;have e2:hp'=hp++hp'.extract hp.size hp'.size:=by
  refine Array.ext_getElem? fun i=>?_;by_cases hi:i<hp.size
  .rw[Array.getElem?_append_left hi];exact h5 i hi
  rw[Array.getElem?_append_right oM,Array.getElem?_extract];by_cases Dw:i<hp'.size
  .rw[iP oM];congr 1;omega
  rw[iN oM,Array.getElem?_eq_none oM]
 show(⟨hp',kD,TM,jb,jc⟩:World)=⟨hp++hp'.extract hp.size hp'.size,kD,dr+(TM - dr),jb,jc⟩;rw[e1,<-e2]
theorem kn {α:Type} [Inhabited α] (enc:α->List Value) (k:Nat) (w:World) (b off m:Nat) (d:Array α) (os:Array Obj):w.heap.size<=(sortWorldK enc k w b off m d os).heap.size:=by show w.heap.size<=((w.heap.modify b _)++os).size;simp
theorem kj {α:Type} [Inhabited α] (enc:α->List Value) (k:Nat) (w:World) (b off m:Nat) (d:Array α) (os:Array Obj) {b':Nat} (hb:b'<w.heap.size) (Bj:b'≠b):(sortWorldK enc k w b off m d os).heap[b']?=w.heap[b']?:=by show((w.heap.modify b _)++os)[b']?=_;rw[Array.getElem?_append_left xx6,Array.getElem?_modify,iN (Ne.symm Bj)]
theorem Qff {α:Type} [Inhabited α] (enc:α->List Value) (k:Nat) (w:World) (b off m:Nat) (d:Array α) (os:Array Obj) {cs:Array Value} {t:Nat} {fz:Nat×Nat} (hb:w.heap[b]?=some (.cells cs t fz)):
  (sortWorldK enc k w b off m d os).heap[b]?=some (.cells (putCells id off (flatK enc k d) cs) t fz):=by
 have Aa:b<w.heap.size:=(Array.getElem?_eq_some_iff.1 hb).1;show((w.heap.modify b (onCells (putCells id off (flatK enc k d))))++os)[b]?=_;rw[Array.getElem?_append_left (by simpa using Aa),Array.getElem?_modify,iP rfl,hb];rfl
theorem jZ {β:Type} {cf:β->β->Int} (hO:SWO (ltOf cf)):∀{l l':List β},l.Perm l'->(l.Pairwise fun a b=>cf a b<0)->(l'.Pairwise fun a b=>¬cf b a<0)->l=l'
 |[],l',hp,_,_=>(List.nil_perm.1 hp).symm|a::l,[],hp,_,_=>by have:=hp.length_eq;simp at this|a::l,b::l',hp,h1,h2=>by
  obtain⟨p1,p2⟩:=List.pairwise_cons.1 h1;obtain⟨q1,q2⟩:=List.pairwise_cons.1 h2;have KA:a=b:=by
   rcases List.mem_cons.1 (hp.mem_iff.1 (mS:a∈a::l)) with h|h
   .exact h
   rcases List.mem_cons.1 (hp.mem_iff.2 (mS:b∈b::l')) with h'|h'
   .exact h'.symm
   exact absurd (p1 b h') (q1 a h)
  subst KA;rw[jZ hO ((List.perm_cons a).1 hp) p2 q2]
theorem jW {P:Program} {T:AE} {ρ:Ren} (L:SlLaysF0.n6 P ρ) {fS fC t k:Nat} (uu:ρ.f 6=fS) (hE:Enters P fS) (s5:∀args w,(callFunc fC args).run P w= .ok (.enter fC args) w) (Ck:0<k) (aE:∀w,(isAgg (ρ.t 24)).run P w= .ok true w) (zE:∀w,(Go.sizeOf (ρ.t 24)).run P w= .ok k w)
  {β:Type} (av:β->List AV) (Hr:∀x,(av x).length=k/\∀c∈av x,dat c) (Gd:β->Prop) (cf:β->β->Int) (hO:SWO (ltOf cf)) (hC:∀x y,Gd x->Gd y->Ag P T fC [] [.agg (av x), .agg (av y)] [] (.lit (.int .i64 (cf x y))))
  (G G':List β) (h0:G≠[]) (s8:∀x∈G,Gd x) (hl:G.length<=1000000) (hp:G'.Perm G) (hs:G'.Pairwise fun a b=>cf a b<0):
  Ag P T fS [(0,some (0, .own t k (G.map fun x=> .agg (av x))))] [.l 0 0 0 G.length, .fn fC []] [(0,some (0, .own t k (G'.map fun x=> .agg (av x))))] (.tup []):=by
 refine⟨hE,fun w e vals hr hz hg hlen Iv=>?_⟩;obtain⟨ee,he,RX,I2,A8⟩:=hr.live 0 0 _ rfl;obtain⟨Bi,EY,_,Cy,Cq,hblk⟩:=A8;have Dc:ee.n=G.length:=by rw[EY];simp
 cases hb:ee.blk with
 |none=>rw[hb] at hblk;exact absurd (List.map_eq_nil_iff.1 hblk) h0|some q=>
  obtain⟨b,bcap⟩:=q;rw[hb] at hblk;obtain⟨tP,hle,cs,WY,Dt,CI⟩:=hblk;have Un:G.length<=bcap:=by simpa using hle
  have Xt:∀x,(AV.agg (av x)).cells=av x:=fun x=>rfl;have Xg:=Iv 0 sM;have eP:=Iv 1 sM;simp only[List.getElem_cons_zero,List.getElem_cons_succ] at Xg eP;obtain⟨_,_,A2⟩:=Xg.slO_inv;obtain⟨_,C3⟩:=A2 ee he RX;have C3:=C3 (by rw[Dc];omega);unfold Ex at C3;rw[hb] at C3;obtain⟨cap,HJ,Gs,_⟩:=C3;simp only[Nat.zero_mul] at HJ;obtain⟨fv,Jg,Uj,_⟩:=Rq eP;have QjK:fv=#[]:=Array.eq_empty_of_size_eq_zero (by simpa using Uj.symm)
  subst QjK;have Yv:vals=#[.slice (some ⟨b,0,none⟩) G.length cap, .func (.func fC) #[] #[]]:=by
   have Be:vals.size=2:=xv3;refine Array.ext (by simp[Be]) fun i h1 h2=>?_;have hi:i=0\/i=1:=by simp at h2;omega
   rcases hi with rfl|rfl
   ·rw[gA,Array.getElem?_eq_getElem h1] at HJ;simpa using HJ
   rw[gA,Array.getElem?_eq_getElem h1] at Jg;simpa using Jg
  subst Yv;have RQ:b<w.heap.size:=hr.lt 0 ee b bcap he hb;have RN:∀b',UE e b'->b'≠b:=fun b' hu KB=>hu.2 (.inl ⟨0,ee,bcap,he,by rw[KB];exact hb⟩);let α:={p:β×List Value // Gd p.1/\p.2.length=k/\∀j (h:j<(av p.1).length),VD w (UE e) (av p.1)[j] (p.2.getD j undef)}
  have u0:∀i j,i<G.length->j<k->i*k+j<cs.size:=fun i j hi hj=>by rw[Dt];have:=Nat.mul_le_mul_right k (show i+1<=bcap by omega);rw[Nat.add_mul,Nat.one_mul] at this;omega
  have ur:∀i (hi:i<G.length),Gd G[i]/\((List.range k).map fun j=>cs.getD (i*k+j) undef).length=k/\∀j (h:j<(av G[i]).length),VD w (UE e) (av G[i])[j] (((List.range k).map fun j=>cs.getD (i*k+j) undef).getD j undef):=fun i hi=>by
   refine⟨s8 _ (gM hi),sM,fun j hj=>?_⟩;have Db:j<k:=by rw[(Hr _).1] at hj;exact hj
   have gw:=CI i vv5 j (by simp only[List.getElem_map];exact hj);simp only[List.getElem_map] at gw;have:=((Hr G[i]).2 _ (gM hj)).vc gw;simpa[gE,Db] using this
  let el:(i:Fin G.length)->α:=fun i=>⟨(G[i.1]'i.2,(List.range k).map fun j=>cs.getD (i.1*k+j) undef),ur i.1 i.2⟩
  have s9:0<G.length:=List.length_pos_iff.2 h0
  letI:Inhabited α:=⟨el ⟨0,s9⟩⟩
  let enc:α->List Value:=fun p=>p.1.2
  obtain⟨d,hd⟩:∃d:Array α,d=Array.ofFn el:=⟨_,rfl⟩;have DO:d.size=G.length:=by rw[hd];simp
  have Ox : ∀ i (hi : i < G.length), d[i]! = el ⟨i, hi⟩ := fun i hi => by rw[getElem!_pos d i oM];simp[hd]
  have RY:∀x:α,(enc x).length=k:=fun x=>x.2.2.1;have ut:∀x:α,∀v∈enc x,v.oneCell'=true:=fun x v hv=>by
   obtain⟨j,hj,rfl⟩:=List.getElem_of_mem hv;have Ah:j<(av x.1.1).length:=by rw[(Hr _).1];rw[RY] at hj;exact hj
   have:=x.2.2.2 j Ah;have h1:=this.oneCell ((Hr _).2 _ (gM Ah)).one;have e1:x.1.2.getD j undef=(enc x)[j]:=by show(enc x).getD j undef=_;rw[gE,gG hj];rfl
   rw[e1] at h1;exact h1
  have hH:HoldsK enc k w b 0 d:=by
   intro j hj;have Ah:j<G.length*k:=by rw[size_flatK,DO] at hj;exact hj
   have Ue:j / k<G.length:=Nat.div_lt_of_lt_mul (by rw[Nat.mul_comm];exact Ah);have ON:j % k<k:=Nat.mod_lt _ Ck;have XO:j / k*k+j % k=j:=Nat.div_add_mod' j k;have Ql:j<cs.size:=by rw[<-XO];exact u0 _ _ Ue ON
   rw[get_flatK _ _ _ _ (by rw[DO];exact Ah),Ox _ Ue,Nat.zero_add];refine⟨?_,WY.frozen Ql⟩;rw[WY.cell j];show cs[j]?=some ((List.map (fun j'=>cs.getD (j / k*k+j') undef) (List.range k))[j % k]!);rw[getElem!_pos _ _ (by simpa using ON)];simp[XO,Ql]
  have t7:CmpLays P fC #[] enc k (fun x y:α=>cf x.1.1 y.1.1) b 0 d.size w:=by
   intro m os dk _ x y;obtain⟨W,hW⟩:∃W,W=sortWorldK enc k w b 0 m dk os:=⟨_,rfl⟩;rw[<-hW];have Xd:w.heap.size<=W.heap.size:=by rw[hW];exact kn _ _ _ _ _ _ _ _
   have eO:∀b',b'<w.heap.size->UE e b'->W.heap[b']?=w.heap[b']?:=fun b' CO hu=>by rw[hW];exact kj _ _ _ _ _ _ _ _ CO (RN b' hu)
   obtain⟨z,gK⟩:∃z:Nat->Prop,z=fun b'=>b'<w.heap.size/\¬UE e b':=⟨_,rfl⟩;have hU:∀b',UE e b'->UE (eZ z) b':=fun b' hu=>Na.2 fun h=>by rw[gK] at h;exact h.2 hu
   have mono:∀{c:AV} {v:Value},VD w (UE e) c v->VD W (UE (eZ z)) c v:=fun h=>h.mono Xd (fun b' _ hu=>hU b' hu) eO;have agg:∀x:α,VR W (UE (eZ z)) (eZ z) (Az 1) (.agg (av x.1.1)) (.agg (enc x).toArray):=fun x=>by
    refine .dat _ _ (.agg _ _ ?_ (fun i hi=>((Hr _).2 _ (gM hi)).one) fun i hi=>?_)
    ·rw[(Hr _).1];simpa using(RY x).symm
    have:=mono (x.2.2.2 i hi);rw[gA,List.getElem?_toArray,<-gE];exact this
   refine((hC x.1.1 y.1.1 x.2.1 y.2.1).2 W (eZ z) #[.agg (enc x).toArray, .agg (enc y).toArray] (QY fun _=>rfl) (fun b' CO=>?_) (hg.mono Xd (fun b' _ hu=>hU b' hu) eO) rfl (fun i hi=>?_)).mono ?_
   ·have h:z b':=CO;rw[gK] at h;exact tL h.1 Xd
   ·have Ar:i=0\/i=1:=vz0;rcases Ar with rfl|rfl
    ·exact agg x
    exact agg y
   rintro en w' ⟨v,e',rfl,q1,q2,q3,q4,q5,q6⟩;obtain⟨rfl,_⟩:=q2.lit_inv;exact⟨rfl,_,_,sN q6.os q6.tape q6.output q6.size (fun b' CO=>q6.same b' CO Oh) q6.drawn⟩
  have tg:SWO (ltOf fun x y:α=>cf x.1.1 y.1.1):=⟨fun x=>hO.irrefl x.1.1,fun x y z=>hO.trans x.1.1 y.1.1 z.1.1,fun x y z=>hO.ntrans x.1.1 y.1.1 z.1.1⟩;have eX:=AnyQ.slices_SortFunc L k aE zE enc RY ut (fun x y:α=>cf x.1.1 y.1.1) tg fC #[] b 0 cap d w s5 t7 hH RQ (by rw[DO];omega)
  rw[uu,DO] at eX;refine eX.mono ?_;rintro en w' ⟨rfl,d',n,os,fX,Sw,rfl⟩;have Xv:d'.size=G.length:=by rw[<-DO];exact fX.1
  have Qh7:d'.toList.map (fun p:α=>p.1.1)=G':=by
   have e1:d.toList.map (fun p:α=>p.1.1)=G:=by refine List.ext_getElem (by simp[DO]) fun i h1 h2=>?_;have hi:i<G.length:=h2;simp only[List.getElem_map,Array.getElem_toList];have:=Ox i hi;rw[getElem!_pos d i oM] at this;rw[this]
   have p1:(d'.toList.map (fun p:α=>p.1.1)).Perm G:=by rw[<-e1];have:=fX.2.2;rw[show d'.extract 0 G.length=d' by rw[<-Xv];simp,show d.extract 0 G.length=d by rw[<-DO];simp] at this;exact this.map _
   refine(jZ hO (hp.trans p1.symm) hs ?_).symm;rw[List.pairwise_map,List.pairwise_iff_getElem];intro i j hi hj Da;have:=Sw i j (zL _) Da (by rw[<-Xv];simpa using hj);rw[getElem!_pos d' i vv5,getElem!_pos d' j vx2] at this;simp only[Array.getElem_toList];exact oF this
  have Ot:G'.length=G.length:=hp.length_eq;have Mk:∀i (hi:i<G'.length),G'[i]=(d'[i]!).1.1:=fun i hi=>by
   have Ar:i<d'.size:=oM;rw[getElem!_pos d' i Ar];have:(d'.toList.map (fun p:α=>p.1.1))[i]' xx4=G'[i]:=by congr 1
   rw[<-this];simp
  have Mz:w.heap.size<=(sortWorldK enc k w b 0 n d' os).heap.size:=kn _ _ _ _ _ _ _ _;have JU:∀b',b'<w.heap.size->b'≠b->(sortWorldK enc k w b 0 n d' os).heap[b']?=w.heap[b']?:=fun b' h1 h2=>kj _ _ _ _ _ _ _ _ h1 h2;have eC:=holdsK_sortWorldK_c enc k w b 0 d d' n os hH RQ (by rw[Xv,DO]);obtain⟨fz,C1,I7,Ui⟩:=WY;have Yq:=Qff enc k w b 0 n d' os C1;generalize hW:sortWorldK enc k w b 0 n d' os=W at Mz JU eC Yq ⊢;obtain⟨AO,Hv⟩:∃AO,AO=putCells id 0 (flatK enc k d') cs:=⟨_,rfl⟩;rw[<-Hv] at Yq;have eY:AO.size=cs.size:=by rw[Hv];simp[putCells]
  have eu:Cl W b AO t:=⟨fz,Yq,by rw[eY];exact I7,Ui⟩;have ext:AB w e (Az 1) W e (Az 2):=⟨Mz,fun g h=>tL h dM,fun _ _ h=>h,fun b' h1 h2=>JU b' h1 (RN b' h2),fun id Au h _=>⟨Au,h,rfl,rfl, .inl ⟨rfl,rfl⟩⟩⟩;refine⟨_,e,rfl,⟨fun id hid=>?_,fun id g ob hid=>?_,hr.inj,fun id ee b c h1 h2=>tL (hr.lt id ee b c h1 h2) Mz,hr.nz,fun b' B c h=>?_,hr.ko,hr.kk⟩, .dat _ _ (.tup [] #[] rfl fun i hi=>vy6),ext,rfl,fun b' h=> .inr h,⟨?_,?_,?_,Mz,fun b' h1 h2=>JU b' h1 (fun KB=>h2 (.inl ⟨0,ee,bcap,he,by rw[KB];exact hb⟩)),?_⟩⟩
  ·refine hr.dead id ?_;simp only[Hp.get] at hid ⊢;split at hid
   ·cases hid
   rename_i h;rw[iN h]
  ·simp only[Hp.get] at hid;split at hid
   ·rename_i sU;subst sU;cases hid
    refine⟨ee,he,RX,xx1,Bi,by rw[Dc];simp[Ot],Ck,fun i hi=>?_,fun i hi j hj=>?_,?_⟩
    ·simp only[List.getElem_map];exact(Hr _).1
    ·simp only[List.getElem_map] at hj ⊢;exact((Hr _).2 _ (gM _)).one
    rw[hb];refine⟨tP,vv2,AO,eu,by rw[eY,Dt],fun i hi j hj=>?_⟩;have Ar:i<G'.length:=vv5;simp only[List.getElem_map] at hj ⊢;have Co:j<(av G'[i]).length:=hj;have Db:j<k:=by rw[(Hr _).1] at Co;exact Co
    have hc:=(eC.cell (i:=i) (c:=j) oM Db).1;rw[eu.cell,Nat.zero_add] at hc;have G6:AO.getD (i*k+j) undef=(d'[i]!).1.2.getD j undef:=by rw[gA,hc];show (enc d'[i]!)[j]! = (enc d'[i]!).getD j undef;rw[getElem!_pos _ _ (by rw[RY];exact Db),gE,gG (by rw[RY];exact Db)];rfl
    rw[G6];refine .val _ _ (.dat _ _ ?_);have JM:=Mk i Ar;have:=(d'[i]!).2.2.2 j (by rw[(Hr _).1];exact Db);have e1:(AV.agg (av G'[i])).cells[j]'hj=(av (d'[i]!).1.1)[j]'(by rw[(Hr _).1];exact Db):=by show(av G'[i])[j]=_;simp only[JM]
    rw[e1];exact this.mono Mz (fun _ _ h=>h) (fun b' h1 h2=>JU b' h1 (RN b' h2))
   cases hid
  ·obtain⟨h1,h2,h3⟩:=hr.kl b' B c h;exact⟨tL h1 Mz,tL h2 Mz,h3⟩
  ·rw[<-hW];rfl
  ·rw[<-hW];rfl
  ·rw[<-hW];rfl
  rw[<-hW];exact Nat.le_add_right _ _
open Go
def L1 (L:List (List AV)):List AV:=L.map .P
section
variable {L:List (List AV)} {τ:Nm} {hp:Hp}
theorem QiD {f:AV->AV} (h:∀es,f (.P es)= .P es):(L1 L).map f=L1 L:=by unfold L1;rw[List.map_map];exact List.map_congr_left fun a _=>h a
theorem Qjv {p:AV->Prop} (h:∀es,p (.P es)=True):(∀c∈L1 L,p c)=True:=eq_true fun c hc=>by obtain⟨es,_,rfl⟩:=List.mem_map.1 hc;rw[h];trivial
theorem QiC {f:AV->List Nat} (h:∀es,f (.P es)=[]):(L1 L).flatMap f=[]:=List.flatMap_eq_nil_iff.2 fun c hc=>by obtain⟨es,_,rfl⟩:=List.mem_map.1 hc;exact h es
theorem Qjx (m:Bool):(L1 L).map (Cd m τ hp)=L1 L:=QiD fun es=>vz8
theorem Qjy (m:Bool):(∀c∈L1 L,Ce m τ hp c)=True:=Qjv fun es=>vz8
theorem Qjz (m:Bool):(L1 L).flatMap (Cr m τ hp)=[]:=QiC fun es=>vz8
theorem QjA (m:Bool):(L1 L).map (Bw m τ hp)=L1 L:=QiD fun es=>vz8
theorem QjB (m:Bool):(L1 L).flatMap (Bl m τ hp)=[]:=QiC fun es=>vz8
theorem Qju:Jx τ hp (L1 L)=True:=by
 refine eq_true ?_;unfold L1;induction L with
 |nil=>trivial|cons a l ih=>exact⟨by simp only[go_sem],ih⟩
theorem Qjw (p:AV->Prop):(∀c∈L1 L,p c)=∀es∈L,p (.P es):=propext ⟨fun h es he=>h _ (List.mem_map.2 ⟨es,he,rfl⟩),fun h c hc=>by
 obtain⟨es,he,rfl⟩:=List.mem_map.1 hc;exact h es he⟩
end
attribute [go_sem] Qjx Qjy Qjz QjA QjB Qju Qjw
end Go.Sym
namespace Go.Proofs.YtfcgkbinohibcaaGreatDoor
open Go Go.Sym Go.Proofs.Tryz
open Go.Plant Go.Inf
section
variable {A n:Nat} {y:Ly}
theorem qz {p:Pl} {cs:List Int} {fs:List T3} {L:List Int} (h:ER A n y) (hx:Sx A n y p cs fs) (hi:Bh y p L):
  Ag prog Ad 166 [] [.P (Df y (Dz y.U)),p.av,IS cs, .sl (Ai fs) false] [] (.tup [(Cg y p cs fs).1.av, .sl (Ai (Cg y p cs fs).2) false]):=by
 have hl:=h.g.len;have hn:=h.g.n11;have ho:=h.g.ord;have e:=hx.eq;have hs:=TR y p (Dz y.U) cs fs hx.fp oM (by rw[hx.cl,hl]) hx.ff (fun m hm h0=>(Py hx oM h0).1) (by rw[ho,M0];omega) (fun i hi=>by
  rw[ho] at hi ⊢;rw[M0] at hi;rw[Tc hi];omega) (Bd y p cs fs) (H0 y.U p (Fe y.U p cs fs y.U.length) (Dz y.U)).2 e.len (WR hx) h.g.ex hi.srt (by rw[ho,<-hl];rfl)
 have e2:Cg y p cs fs=EQ y.U p cs fs (Bd y p cs fs):=rfl;rw[e2];generalize EQ y.U p cs fs (Bd y p cs fs)=r at*;obtain⟨⟨q1,q2⟩,mv⟩:=r;simp only at hs ⊢;refine aA hs ?_ ?_
 .exact uX
 exact uX
end
instance:DecidableEq Pl:=fun a b=>decidable_of_iff (a.Q=b.Q/\a.R=b.R) ⟨fun h=>by obtain⟨a1,a2⟩:=a;obtain⟨b1,b2⟩:=b;obtain⟨rfl,rfl⟩:=h;rfl,fun h=>by rw[h];exact⟨rfl,rfl⟩⟩
abbrev AY:=Hy Pl
def Ba (x:AY):BU:=⟨x.1,x.2.Q,x.2.R⟩
theorem ZQ (x:AY):(Ba x).pl=x.2:=rfl
theorem dR {p:Pl} {u:Int}:∀{G:List AY},(∀x∈G,x.2≠p)->Inf.gadd G (u,p)=G++[(u,p)]
 |[],_=>rfl|x::t,h=>by rw[Inf.gadd,iN (h x mS),dR fun y hy=>h y (mC _ hy)];rfl
theorem dS {p:Pl} {u:Int}:∀{G:List AY},(∃x∈G,x.2=p)->∃j,j<G.length/\Inf.gadd G (u,p)=G.set j (min (G.getD j (0,⟨[],[]⟩)).1 u,p)/\(G.getD j (0,⟨[],[]⟩)).2=p/\∀m,m<j->(G.getD m (0,⟨[],[]⟩)).2≠p
 |[],h=>by obtain⟨x,hx,_⟩:=h;cases hx
 |x::t,h=>by
  by_cases e:x.2=p
  .exact⟨0,sM,by rw[Inf.gadd,iP e,e];rfl,e,fun m hm=>absurd hm (nZ _)⟩
  obtain⟨j,h1,h2,h3,h4⟩:=dS (u:=u) (G:=t) (by
   obtain⟨z,hz,ez⟩:=h;rcases List.mem_cons.1 hz with rfl|hz
   ·exact absurd ez e
   exact⟨z,hz,ez⟩)
  refine⟨j+1,vv2,by rw[Inf.gadd,iN e,h2];rfl,h3,fun m hm=>?_⟩;cases m with
  |zero=>exact e|succ m=>exact h4 m oM
theorem bv (p:Pl) (u:Int) (G:List AY) (h:M1 p) (hk:∀x∈G,B3 (AZ x.2)=B3 (AZ p)->x.2=p) (hG:G.length<=1000):
  Ag prog Ad 76 (Kj (G.map Ba)) [.p 0 0 0 0 0,p.av,I u] (Kj ((Inf.gadd G (u,p)).map Ba)) (.tup []):=by
 refine pe p u _ _ h (by simpa using hG) ?_;by_cases c:∃x∈G,x.2=p
 .obtain⟨j,h1,h2,h3,h4⟩:=dS (u:=u) c;have DP:∀m,m<G.length->(G.map Ba).getD m default=Ba (G.getD m (0,⟨[],[]⟩)):=fun m hm=>by simp[gE,hm]
  refine .inr ⟨j,vy9,?_,by rw[DP j h1,ZQ,h3],fun m hm=>?_⟩
  .rw[h2,DP j h1,List.map_set];congr 1
   simp only[Ba,h3]
  have Gw:m<G.length:=oM;rw[DP m Gw,ZQ];intro e;refine h4 m hm (hk _ ?_ e);rw[gE,gG Gw];exact gM Gw
 refine .inl ⟨?_,fun x hx e=>?_⟩
 .rw[dR fun x hx e=>c ⟨x,hx,e⟩,List.map_append];rfl
 obtain⟨z,hz,rfl⟩:=List.mem_map.1 hx;exact c ⟨z,hz,hk z hz e⟩
def CQ (f:T3):Int×Int:=(f.b,f.c)
theorem jO (f g:T3):Pq f g=decide (CQ f=CQ g):=by rw[Bool.eq_iff_iff];simp[Pq,CQ]
section
variable (plc:List AV) (cs:List Int) (bud:Int) (kf:Nat) (cp:List (List AV))
def Kc (G:List AY):Hp:=[(0,some (0, .box [.P plc, .p 1 0 0 0 0,IS cs,I bud, .fn kf (L1 cp)])),(1,some (0, .box [.mpO 2 0, .l 3 0 0 G.length])),(2,some (0, .ms (Eb 0 (G.map Ba)))),(3,some (0, .own 63 3 (BY (G.map Ba))))]
end
def L7 (cst:Pl->Int×Bool) (q:Pl):Option Int:=if(cst q).2=true then some (cst q).1 else none
def GD (stp:List T3->Pl) (cst:Pl->Int×Bool) (us bud:Int) (S:List (List T3)) (G:List AY):List AY:=(Kh stp (L7 cst) us bud S).foldl (FW 40) G
theorem aB {G:List AY} (h:40<G.length):∀Y:List AY,Y.foldl (FW 40) G=G
 |[]=>rfl|y::Y=>by rw[List.foldl_cons,FW,iP h,aB h Y]
theorem Qew (stp:List T3->Pl) (cst:Pl->Int×Bool) (us bud:Int) (X:List T3) (S:List (List T3)) (G:List AY):GD stp cst us bud (X::S) G=GD stp cst us bud S (if(cst (stp X)).2=true/\us+X.length+(cst (stp X)).1<=bud then FW 40 G (us+X.length+(cst (stp X)).1,stp X) else G):=by
 unfold GD Kh L7;rw[List.filterMap_cons];by_cases h1:(cst (stp X)).2=true
 .rw[iP h1];simp only;by_cases h2:us+X.length+(cst (stp X)).1<=bud
  .rw[iP h2,iP ⟨h1,h2⟩];rfl
  rw[iN h2,iN fun h=>h2 h.2]
 rw[iN h1,iN fun h=>h1 h.1]
theorem Qev (stp:List T3->Pl) (cst:Pl->Int×Bool) (us bud:Int) (A B:List (List T3)) (G:List AY):GD stp cst us bud (A++B) G=GD stp cst us bud B (GD stp cst us bud A G):=by unfold GD Kh;rw[List.filterMap_append,List.foldl_append]
theorem Zr (stp:List T3->Pl) (cst:Pl->Int×Bool) (us bud:Int) (S:List (List T3)):∀{G:List AY},G.length<=41->(GD stp cst us bud S G).length<=41:=by
 unfold GD;generalize Kh stp (L7 cst) us bud S=Y;induction Y with
 |nil=>exact fun h=>h|cons y Y ih=>
  intro G h;rw[List.foldl_cons];refine ih ?_;unfold FW;split
  .exact h
  have:=P5 G y;omega
theorem dG {Gd:Pl->Prop}:∀{Y G:List AY},(∀y∈Y,Gd y.2)->(∀x∈G,Gd x.2)->∀x∈Y.foldl (FW 40) G,Gd x.2
 |[],G,_,h=>h|y::Y,G,hY,h=>by
  rw[List.foldl_cons];refine dG (fun z hz=>hY z (mC _ hz)) fun x hx=>?_;unfold FW at hx;split at hx
  .exact h x hx
  rcases TV hx with e|⟨z,hz,e⟩
  .rw[e];exact hY y mS
  rw[<-e];exact h z hz
theorem Zq {Gd:Pl->Prop} {stp:List T3->Pl} {cst:Pl->Int×Bool} {us bud:Int} {S:List (List T3)} {G:List AY} (hS:∀X∈S,Gd (stp X)) (hG:∀x∈G,Gd x.2):∀x∈GD stp cst us bud S G,Gd x.2:=by refine dG (fun y hy=>?_) hG;obtain⟨X,hX,c,_,_,rfl⟩:=VU.1 hy;exact hS X hX
theorem P1 {Ok:List T3->Prop} {F:List T3} (Qi:∀sm f,Ok sm->f∈F->(∀g∈sm,CQ f≠CQ g)->sm.length<2->Ok (sm++[f])):∀{others:List T3} {k:Nat} {sm:List T3},sm.length+k<=2->Ok sm->(∀f∈others,f∈F)->∀X∈ext CQ k others sm,Ok X
 |_,0,_,_,_,_,X,hX=>by rw[Ro] at hX;cases hX
 |[],k+1,_,_,_,_,X,hX=>by cases hX
 |f::r,k+1,sm,hl,hs,ho,X,hX=>by
  have hr:=fun g hg=>ho g (mC _ hg);rw[ext] at hX;rcases List.mem_append.1 hX with hX|hX
  .by_cases c:sm.any (fun g=>decide (CQ f=CQ g))=true
   .rw[iP c] at hX;cases hX
   rw[iN c] at hX;have AI:=Qi sm f hs (ho f mS) (fun g hg e=>c (List.any_eq_true.2 ⟨g,hg,dT e⟩)) oM;rcases List.mem_cons.1 hX with rfl|hX
   .exact AI
   exact P1 Qi (by rw[aL,List.length_singleton];omega) AI hr X hX
  exact P1 Qi hl hs hr X hX
section
variable {plc:List AV} {cs:List Int} {bud:Int} {kf:Nat} {cp:List (List AV)} {us:Int} {hp:Pl} {F:List T3} {stp:List T3->Pl} {mv:List T3->List T3} {cst:Pl->Int×Bool} {Ok:List T3->Prop} {Gd:Pl->Prop}
theorem cB (AM:∀X,Ok X->Ag prog Ad 166 [] [.P plc,hp.av,IS cs, .sl (Ai X) false] [] (.tup [(stp X).av, .sl (Ai (mv X)) false]))
  (hco:∀X,Ok X->Ag prog Ad kf [] ((stp X).av::L1 cp) [] (.tup [I (cst (stp X)).1,B (cst (stp X)).2]))
  (Xs:∀q,0<=(cst q).1/\(cst q).1<=1000) (Gu:∀X,Ok X->Gd (stp X)) (Cp:∀q,Gd q->M1 q) (OH:∀a b,Gd a->Gd b->B3 (AZ a)=B3 (AZ b)->a=b)
  (Qi:∀sm f,Ok sm->f∈F->(∀g∈sm,CQ f≠CQ g)->sm.length<2->Ok (sm++[f])) (O2:0<=us) (eT:bud<=2):
  ∀(k:Nat) (sm others:List T3) (G:List AY),us+sm.length+k=bud->Ok sm->(∀f∈others,f∈F)->others.length<=1000->(∀x∈G,Gd x.2)->G.length<=41->
   Ag prog Ad 119 (Kc plc cs bud kf cp G) [.p 0 0 0 0 0,(BU.mk us hp.Q hp.R).av, .sl (Ai others) false, .sl (Ai sm) false] (Kc plc cs bud kf cp (GD stp cst us bud (sm::ext CQ k others sm) G)) (.tup []):=by
 intro k;induction k using Nat.strongRecOn with
 |_ k ih=>
  intro sm others G hk AI JU AR hG Ot;unfold Kc;by_cases c40:40<G.length
  .have e1:GD stp cst us bud (sm::ext CQ k others sm) G=G:=aB c40 _;rw[e1];have d40:=uDt ((40:Int)<(G.length:Int));refine Am func119 ntmps119 ?_;intro w e X hC;refine Bg @d40 ?_;refine xq0 ?_;rw[show f119.results.toList=[] from rfl];(refine DB [(0,0,0,0),(1,0,1,0),(2,0,2,0),(3,0,3,0)] vx1 sM sM sM ?_ ?_ ?_ ?_ ?_;(iterate 3 (focus (first|exact trivial|(simp only[go_sem,seval,Bv,BK,A9,AT,BR,BM]<;>first|trivial|(simp;done)))));all_goals (try simp only[go_sem,seval,Bv,BK,A9,AT,BR,BM,A7,BZ]))
  have d40:=uDf ((40:Int)<(G.length:Int));have w1:=AM sm AI;have w2:=hco sm AI;have ud:=Xs (stp sm);have KG:=Gu sm AI;have e0:=Qew stp cst us bud sm (ext CQ k others sm) G;rw[e0];have T1:∀u:Int,FW 40 G (u,stp sm)=Inf.gadd G (u,stp sm):=fun u=>by rw[FW,iN c40]
  rw[T1];clear e0 T1;have w3:=fun u:Int=>bv (stp sm) u G (Cp _ KG) (fun x hx e=>OH _ _ (hG x hx) KG e) oM;generalize stp sm=q at*;generalize cst q=cv at*;obtain⟨cn,co⟩:=cv;simp only at ud w2 ⊢;generalize I2:(if co=true/\us+sm.length+cn<=bud then Inf.gadd G (us+sm.length+cn,q) else G)=G1;have s6:∀x∈G1,Gd x.2:=fun x hx=>by
   rw[<-I2] at hx;split at hx
   .rcases TV hx with e|⟨z,hz,e⟩
    .rw[e];exact KG
    rw[<-e];exact hG z hz
   exact hG x hx
  have s7:G1.length<=41:=by
   rw[<-I2];split
   .have:=P5 G (us+sm.length+cn,q);omega
   exact Ot
  refine Am func119 ntmps119 ?_;intro w e X hC;refine Bg @d40 ?_;refine uF ?_;refine uD ?_;refine xy5 w1 ?_;refine uE ?_;intro K hK;refine CL [] [] true (w2) Bz Bz Ab Ab Ab Ab Ab Ab Ab Ab Ab Ab Ab Ab Ab Ab Ab ?_;refine xq7 ?_;refine hK _ ?_;clear hK K;show BD _ _ _ _;refine CE (fun i:Nat=>⟨[(0, .p 0 0 0 0 0),(2, .sl (Ai others) false),(3, .sl (Ai sm) false),(5, .p 105 1 0 0 0)],(105,some (1, .box [I us,RS hp.Q,RS hp.R]))::Kc plc cs bud kf cp G1,i⟩) (fun _=>True) ?_ ?_
  .cases co with
   |false=>
    have e1:G1=G:=by rw[<-I2,iN (fun h=>by cases h.1)]
    rw[e1];unfold Kc;refine uE ?_;refine xx8 ?_;refine xq9 ?_;exact⟨_,trivial,Af⟩
   |true=>
    by_cases c5:us+sm.length+cn<=bud
    .have d5:decide (us+(sm.length:Int)+cn<=bud)=true:=dT c5;have e1:G1=Inf.gadd G (us+sm.length+cn,q):=by rw[<-I2,iP ⟨rfl,c5⟩]
     have w4:=w3 (us+sm.length+cn);have QhG:(Inf.gadd G (us+sm.length+cn,q)).length=G1.length:=by rw[e1]
     rw[<-e1] at w4;unfold Kj at w4;unfold Kc;refine xq1 @d5 ?_;refine uT ?_;refine uD ?_;intro K hK;refine⟨oM,oM,?_⟩;refine CL [(0,0,1,0),(1,0,2,0),(2,0,3,0)] [(1,0,0,0),(2,0,1,0),(3,0,2,0)] false (w4) Bz Bz Ab Ab Ab Ab Ab Ab Ab Ab Ab Ab Ab Ab Ab Ab Ab ?_;refine xq7 ?_;refine hK _ ?_;clear hK K;refine uW ?_;exact⟨_,trivial,Af⟩
    have d5:decide (us+(sm.length:Int)+cn<=bud)=false:=dF c5;have e1:G1=G:=by rw[<-I2,iN (fun h=>c5 h.2)]
    rw[e1];unfold Kc;refine xq1 @d5 ?_;refine xq9 ?_;exact⟨_,trivial,Af⟩
  rintro ck -;have Ym:=Qev stp cst us bud;clear I2 w1 w2 w3;unfold Kc;cases k with
  |zero=>
   have d6:=uDt (bud<=us+(sm.length:Int));have e1:GD stp cst us bud (ext CQ 0 others sm) G1=G1:=by rw[Ro];rfl
   rw[e1];refine xq1 @d6 ?_;refine uT ?_;refine Ay ?_;rw[show f119.results.toList=[] from rfl];(refine DB [(0,0,0,0),(1,0,1,0),(2,0,2,0),(3,0,3,0)] vx1 sM sM sM ?_ ?_ ?_ ?_ ?_;(iterate 3 (focus (first|exact trivial|(simp only[go_sem,seval,Bv,BK,A9,AT,BR,BM]<;>first|trivial|(simp;done)))));all_goals (try simp only[go_sem,seval,Bv,BK,A9,AT,BR,BM,A7,BZ]))
  |succ k=>
   have d6:=uDf (bud<=us+(sm.length:Int));refine xq1 @d6 ?_;refine uF ?_;refine xy4 ?_;refine Aw (fun i:Nat×Nat×List AY=>⟨[(0, .p 0 0 0 0 0),(2, .sl (Ai others) false),(3, .sl (Ai sm) false),(5, .p 105 1 0 0 0),(85, .sl (Ai others) false),(86,I others.length),(87,I i.2.1)],(105,some (1, .box [I us,RS hp.Q,RS hp.R]))::(0,some (0, .box [.P plc, .p 1 0 0 0 0,IS cs,I bud, .fn kf (L1 cp)]))::(1,some (0, .box [.mpO 2 0, .l 3 0 0 i.2.2.length]))::(2,some (0, .ms (Eb 0 (i.2.2.map Ba))))::(3,some (0, .own 63 3 (BY (i.2.2.map Ba))))::[],i.1⟩)
    (fun i=>i.2.1<=others.length/\GD stp cst us bud (ext CQ (k+1) others sm) G1=GD stp cst us bud (ext CQ (k+1) (others.drop i.2.1) sm) i.2.2/\(∀x∈i.2.2,Gd x.2)/\i.2.2.length<=41) (fun i=>others.length - i.2.1) (_,0,G1) ⟨zL _,rfl,s6,s7⟩ (Af) ?_
   rintro⟨ck2,i,Gi⟩ ⟨hi,AL,Fk,JH⟩;simp only at hi AL Fk JH;refine xy1 (fun c=>?_) (fun c=>?_)
   .have Aa:i<others.length:=oM;have fq:=By Aa;have fh:=JU _ (GQ Aa default);have Oy:others.drop i=others.getD i default::others.drop (i+1):=by rw[List.drop_eq_getElem_cons Aa,gE,gG Aa];rfl
    rw[Oy] at AL;generalize others.getD i default=f at*;obtain⟨fa,fb,fc⟩:=f;obtain⟨f,JL⟩:∃f:T3,f=⟨fa,fb,fc⟩:=⟨_,rfl⟩;have wcx:=Qif sm 167 [I fa,I fb,I fc] (Pq f) oM (fun g _=>by rw[JL];exact qh ⟨fa,fb,fc⟩ g);rw[<-JL] at fh AL;have Qf:sm.any (fun g=>decide (CQ f=CQ g))=sm.any (Pq f):=by congr 1;funext g;rw[jO]
    rw[ext,Ym,Qf] at AL;cases Lo:sm.any (Pq f) with
    |true=>rw[Lo] at wcx;rw[Lo,iP rfl] at AL;refine xk3 @fq ?_;refine xy2 wcx ?_;refine xy9 ?_;refine⟨(_,i+1,Gi),⟨uO,AL,Fk,JH⟩,uO,Af⟩|false=>
     rw[Lo] at wcx;rw[Lo,iN dM] at AL;refine xk3 @fq ?_;refine xy2 wcx ?_;refine uT ?_;have Jd:=Qi sm f AI fh (fun g hg e=>by
      have:=List.any_eq_false.1 Lo g hg;rw[jO] at this;exact this (dT e)) oM
     have fT:∀g∈others.drop (i+1),g∈F:=fun g hg=>JU g (List.mem_of_mem_drop hg);have Dc:(sm++[f]).length=sm.length+1:=sM;have w5:=ih k oM (sm++[f]) (others.drop (i+1)) Gi (by rw[Dc];omega) Jd fT vq9 Fk JH;have Qa:=Zq (stp:=stp) (cst:=cst) (us:=us) (bud:=bud) (S:=(sm++[f])::ext CQ k (others.drop (i+1)) (sm++[f])) (G:=Gi) (Gd:=Gd) (fun X hX=>by
      rcases List.mem_cons.1 hX with rfl|hX
      ·exact Gu _ Jd
      exact Gu _ (P1 Qi (by rw[Dc];omega) Jd fT X hX)) Fk
     have RB:=Zr stp cst us bud ((sm++[f])::ext CQ k (others.drop (i+1)) (sm++[f])) JH;have Nv:List.drop ((i:Int)+1).toNat (Ai others)=Ai (others.drop (i+1)):=by rw[show((i:Int)+1).toNat=i+1 by omega];simp[Ai]
     rw[JL] at w5;unfold Kc at w5;rw[JL] at AL Qa RB;generalize GD stp cst us bud ((sm++[⟨fa,fb,fc⟩])::ext CQ k (others.drop (i+1)) (sm++[⟨fa,fb,fc⟩])) Gi=Gn at*;refine uD ?_;intro K hK;refine uH ?_;refine CL [] [(203,ck2+18,100,1)] false ((pv sm oM)) Bz Bz Ab Ab Ab Ab Ab Ab Ab Ab Ab Ab Ab Ab Ab Ab Ab ?_;refine xq7 ?_;have z:=@Nv;refine CL [(0,0,0,0),(1,0,1,0),(2,0,2,0),(3,0,3,0)] [(0,0,0,0),(1,0,1,0),(2,0,2,0),(3,0,3,0)] false (w5) (Ke z) (Ke z) (AW z) (AW z) (AW z) (AW z) (AW z) (AW z) (AW z) (AW z) (AW z) (AW z) (AW z) (AW z) (AW z) (AW z) (AW z) ?_;refine QV z ?_;clear z;refine uH ?_;refine hK _ ?_;clear hK K;refine uZ ?_;refine⟨(_,i+1,Gn),⟨uO,AL,Qa,RB⟩,uO,Af⟩
   refine At ?_;have Bx:i=others.length:=oM;rw[Bx,List.drop_length] at AL;have e2:GD stp cst us bud (ext CQ (k+1) [] sm) Gi=Gi:=rfl;rw[AL,e2];refine uZ ?_;show ∃σ D,IT _ f119.results.toList σ D _ _ _;rw[show f119.results.toList=[] from rfl];(refine DB [(0,0,0,0),(1,0,1,0),(2,0,2,0),(3,0,3,0)] vx1 sM sM sM ?_ ?_ ?_ ?_ ?_;(iterate 3 (focus (first|exact trivial|(simp only[go_sem,seval,Bv,BK,A9,AT,BR,BM]<;>first|trivial|(simp;done)))));all_goals (try simp only[go_sem,seval,Bv,BK,A9,AT,BR,BM,A7,BZ]))
end
end Go.Proofs.YtfcgkbinohibcaaGreatDoor
