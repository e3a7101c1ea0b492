/- Lemmas towards scriptLimits_card: no conditions of their own beyond those that each one states. -/
import Derived.Test.YtokkbonoplbiaaaGreatDoorA7
import Derived.Lib.FrozenHead2
import Derived.Lib.Repeat
set_option linter.all false
set_option linter.unusedSimpArgs false
set_option linter.unusedVariables false
set_option linter.deprecated false
set_option linter.unusedVariables false
namespace Go.Proofs
open Go.Shelf Go.RowKit
def NewOrOld (w:World) (v v':Value):Prop:=∀k,v'.ownBlock=some k->v.ownBlock=some k\/w.heap.size<=k
section
variable {P:Program} (w:World)
theorem run_append_strX (t u ty e:TypeId) (i:TypeInfo) (ht:P.underlying t=some (.slice e)) (hu:P.underlying u=some .string) (hi:P.info? e=some i) (hz:i.zero=some (.int .u8 0))
  (hsize:i.size=1) (hby:i.bytes=1) (v:Value) (n:Nat) (xs:List Value) (hown:w.ownsRowF 0 e 1 v n xs) (s:ByteArray) (h63:n+s.size<=maxLen) (hbytes:n+s.size<=140737488355328):
  ∃v' w',(Builtin.append_ #[t,u] ty #[v, .string s]).run P w= .ok v' w'/\w'.ownsRowF 0 e 1 v' (n+s.size) (xs++Lib.strCells s)/\w.grownBy w' v.ownBlock/\(v'= .slice none 0 0↔v= .slice none 0 0/\s.size=0)/\NewOrOld w v v':=by
 obtain⟨v',w',hr,h2,h3,h4⟩:=Lib.run_append_own_stringF (P:=P) w 0 t u ty e i ht hu hi hz hsize hby v n xs hown s h63 hbytes (Nat.zero_le _)
 refine⟨v',w',hr,h2,h3,h4,fun k hk=>?_⟩
 rcases hown.2 with ⟨rfl,rfl⟩|⟨g,cap,cur,fz,rfl,hbg,hg,hfz,hnc,hcm,hcs,htake⟩
 ·obtain⟨v2,w2,hr2,k2,_⟩:=Lib.run_append_own_stringF (P:=P) w w.heap.size t u ty e i ht hu hi hz hsize hby (.slice none 0 0) 0 xs ⟨hown.1, .inl ⟨rfl,rfl⟩⟩ s h63 hbytes (Nat.le_refl _)
  rw[hr] at hr2
  cases hr2
  exact .inr (k2.lt k hk).1
 ·have hxl:xs.length=n:=by simpa using hown.1
  have hcs':cur.size=cap:=by simpa using hcs
  by_cases hroom:n+s.size<=cap
  ·have hr2:=Lib.run_append_room_stringF (P:=P) w t u ty e i ht hu hi hsize g n cap cur fz hg (by simpa using hfz) s hroom (by omega)
   rw[hr] at hr2
   cases hr2
   exact .inl hk
  ·have holds:∀j u,xs[j]?=some u->w.cell? ((⟨g,0,none⟩:Addr).add j)=some u:=hown.cells (g:=g) rfl
   have hr2:=Lib.run_append_grow_string (P:=P) w t u ty e i (.int .u8 0) ht hu hi hz ⟨g,0,none⟩ n cap xs (by rw[hsize];simpa using hxl) holds s (by omega) (by simp only[maxLen] at h63;omega) (by rw[hby];exact growslice_fits (by omega) (by omega))
   rw[hr] at hr2
   cases hr2
   simp only[Value.ownBlock,Option.some.injEq] at hk
   subst hk
   exact .inr (Nat.le_refl _)
theorem run_append_slX (t ty e:TypeId) (i:TypeInfo) (ht:P.underlying t=some (.slice e)) (hi:P.info? e=some i) (hz:i.zero=some (.int .u8 0))
  (hsize:i.size=1) (hby:i.bytes=1) (v:Value) (n:Nat) (xs:List Value) (hown:w.ownsRowF 0 e 1 v n xs) (a:Addr) (m c:Nat) (news:List Value) (hl:news.length=m*1) (hnews:∀j u,news[j]?=some u->w.cell? (a.add j)=some u) (h1:∀u∈news,u.oneCell'=true)
  (h63:n+m<=maxLen) (hbytes:(n+m)*1<=140737488355328):
  ∃v' w',(Builtin.append_ #[t,t] ty #[v, .slice (some a) m c]).run P w= .ok v' w'/\w'.ownsRowF 0 e 1 v' (n+m) (xs++news)/\w.grownBy w' v.ownBlock/\(v'= .slice none 0 0↔v= .slice none 0 0/\m=0)/\NewOrOld w v v':=by
 obtain⟨v',w',hr,h2,h3,h4⟩:=run_append_ownF (P:=P) w 0 t ty e i (.int .u8 0) 1 1 ht hi hz hsize hby rfl (by decide) v n xs hown a m c news hl hnews h1 h63 hbytes (Nat.zero_le _)
 refine⟨v',w',hr,h2,h3,h4,fun k hk=>?_⟩
 rcases hown.2 with ⟨rfl,rfl⟩|⟨g,cap,cur,fz,rfl,hbg,hg,hfz,hnc,hcm,hcs,htake⟩
 ·obtain⟨v2,w2,hr2,k2,_⟩:=run_append_ownF (P:=P) w w.heap.size t ty e i (.int .u8 0) 1 1 ht hi hz hsize hby rfl (by decide) (.slice none 0 0) 0 xs ⟨hown.1, .inl ⟨rfl,rfl⟩⟩ a m c news hl hnews h1 h63 hbytes (Nat.le_refl _)
  rw[hr] at hr2
  cases hr2
  exact .inr (k2.lt k hk).1
 ·have hxl:xs.length=n:=by simpa using hown.1
  have hcs':cur.size=cap:=by simpa using hcs
  by_cases hroom:n+m<=cap
  ·have hr2:=run_append_roomF (P:=P) w t ty e i ht hi g n cap cur fz hg (by rw[hsize];exact hfz) a m c news (by rw[hsize];exact hl) hnews h1 hroom (by rw[hsize,hl];omega)
   rw[hr] at hr2
   cases hr2
   exact .inl hk
  ·have holds:∀j u,xs[j]?=some u->w.cell? ((⟨g,0,none⟩:Addr).add j)=some u:=hown.cells (g:=g) rfl
   have hr2:=run_append_grow (P:=P) w t ty e i (.int .u8 0) ht hi hz ⟨g,0,none⟩ n cap xs (by rw[hsize];exact hown.1) holds a m c news (by rw[hsize];exact hl) hnews (by omega) (by simp only[maxLen] at h63;omega) (by rw[hby];exact growslice_fits (by omega) (by omega))
   rw[hr] at hr2
   cases hr2
   simp only[Value.ownBlock,Option.some.injEq] at hk
   subst hk
   exact .inr (Nat.le_refl _)
theorem wpList_append_strX {ops:Array Oper} {rest:List Oper} {o:Oper} {a:Act} {Q:Exit->Act->World->Prop} (hgd:o.guard=none) (sl x:Operand) (t u:TypeId)
  (ho:o.op= .call {callee:= .builtin .append,args:=#[sl,x],argTypes:=#[t,u]}) (e:TypeId) (i:TypeInfo) (ht:P.underlying t=some (.slice e)) (hu:P.underlying u=some .string) (hi:P.info? e=some i) (hz:i.zero=some (.int .u8 0))
  (hsize:i.size=1) (hby:i.bytes=1) (v:Value) (n:Nat) (xs:List Value) (hs:a.eval sl=v) (hown:w.ownsRowF 0 e 1 v n xs) (s:ByteArray) (hx:a.eval x= .string s) (h63:n+s.size<=maxLen) (hbytes:n+s.size<=140737488355328)
  (h:∀v' w',w'.ownsRowF 0 e 1 v' (n+s.size) (xs++Lib.strCells s)->w.grownBy w' v.ownBlock->(v'= .slice none 0 0↔v= .slice none 0 0/\s.size=0)->NewOrOld w v v'->wpList P ops Q rest (a.put o.dst v') w'):wpList P ops Q (o::rest) a w:=by
 refine wpList_plain hgd fun K hK=>?_
 obtain⟨v',w',hr,h2,h3,h4,h5⟩:=run_append_strX (P:=P) w t u o.type e i ht hu hi hz hsize hby v n xs hown s h63 hbytes
 unfold Oper.wp execOp
 simp only[ho,resolve,invoke,builtin,Sem.run_bind,Sem.run_pure,Result.andThen_ok,List.map_toArray,List.map_cons,List.map_nil,hs,hx,hr]
 exact hK _ _ (h v' w' h2 h3 h4 h5)
theorem wpList_append_slX {ops:Array Oper} {rest:List Oper} {o:Oper} {a:Act} {Q:Exit->Act->World->Prop} (hgd:o.guard=none) (sl x:Operand) (t:TypeId)
  (ho:o.op= .call {callee:= .builtin .append,args:=#[sl,x],argTypes:=#[t,t]}) (e:TypeId) (i:TypeInfo) (ht:P.underlying t=some (.slice e)) (hi:P.info? e=some i) (hz:i.zero=some (.int .u8 0))
  (hsize:i.size=1) (hby:i.bytes=1) (v:Value) (n:Nat) (xs:List Value) (hs:a.eval sl=v) (hown:w.ownsRowF 0 e 1 v n xs) (ad:Addr) (m c:Nat) (news:List Value) (hx:a.eval x= .slice (some ad) m c) (hl:news.length=m*1) (hnews:∀j u,news[j]?=some u->w.cell? (ad.add j)=some u) (h1:∀u∈news,u.oneCell'=true)
  (h63:n+m<=maxLen) (hbytes:(n+m)*1<=140737488355328)
  (h:∀v' w',w'.ownsRowF 0 e 1 v' (n+m) (xs++news)->w.grownBy w' v.ownBlock->(v'= .slice none 0 0↔v= .slice none 0 0/\m=0)->NewOrOld w v v'->wpList P ops Q rest (a.put o.dst v') w'):wpList P ops Q (o::rest) a w:=by
 refine wpList_plain hgd fun K hK=>?_
 obtain⟨v',w',hr,h2,h3,h4,h5⟩:=run_append_slX (P:=P) w t o.type e i ht hi hz hsize hby v n xs hown ad m c news hl hnews h1 h63 hbytes
 unfold Oper.wp execOp
 simp only[ho,resolve,invoke,builtin,Sem.run_bind,Sem.run_pure,Result.andThen_ok,List.map_toArray,List.map_cons,List.map_nil,hs,hx,hr]
 exact hK _ _ (h v' w' h2 h3 h4 h5)
end
structure BdAt (T e:TypeId) (b:Nat) (p v:Value) (n:Nat) (xs:List Value) (w:World):Prop where
 blk:w.heap[b]?=some (.cells #[p,v] T (0,0))
 own:w.ownsRowF 0 e 1 v n xs
 ne:v.ownBlock≠some b
structure BdFr (b:Nat) (v v':Value) (w w':World):Prop where
 os:w'.os=w.os
 tape:w'.tape=w.tape
 output:w'.output=w.output
 size:w.heap.size<=w'.heap.size
 block:∀k,k<w.heap.size->k≠b->some k≠v.ownBlock->w'.heap[k]?=w.heap[k]?
 new:NewOrOld w v v'
variable {P:Program} {ρ:Ren}
set_option maxHeartbeats 2000000 in
set_option maxRecDepth 100000 in
theorem bd_WriteString (L:Lays.n166 P ρ) (X:Builder.Extra P ρ) (b:Nat) (p v:Value) (hp:p= .pointer none\/p= .pointer (some ⟨b,0,none⟩)) (bs:List Value) (s:ByteArray) (w:World) (h:BdAt (ρ.t 72) (ρ.t 5) b p v bs.length bs w) (hlen:bs.length+s.size<=140737488355328):
  Calls P (ρ.f 166) #[.pointer (some ⟨b,0,none⟩), .string s] w fun e w'=>e= .returned (.tuple #[.int .i64 s.size, .nilIface])/\∃v',BdAt (ρ.t 72) (ρ.t 5) b (.pointer (some ⟨b,0,none⟩)) v' (bs.length+s.size) (bs++Lib.strCells s) w'/\(v'= .slice none 0 0↔v= .slice none 0 0/\s.size=0)/\BdFr b v v' w w':=by
 obtain⟨i0,hi,hz0,hz1,hz2⟩:=info_parts X.infoByte
 have mixed:=L.mixed
 have t72:=L.t72;have a72:=L.a72;have z72:=L.z72;have v72:=L.v72;have u72:=run_underlying L.t72
 have t70:=L.t70;have a70:=L.a70;have z70:=L.z70;have v70:=L.v70;have u70:=run_underlying L.t70
 have t37:=L.t37;have a37:=L.a37;have z37:=L.z37;have v37:=L.v37;have u37:=run_underlying L.t37
 have t3:=L.t3;have a3:=L.a3;have z3:=L.z3;have v3:=L.v3;have u3:=run_underlying L.t3
 have t9:=L.t9;have a9:=L.a9;have z9:=L.z9;have v9:=L.v9;have u9:=run_underlying L.t9
 have t4:=L.t4;have a4:=L.a4;have z4:=L.z4;have v4:=L.v4;have u4:=run_underlying L.t4
 have t164:=L.t164;have a164:=L.a164;have z164:=L.z164;have v164:=L.v164;have u164:=run_underlying L.t164
 have t5:=X.t5;have a5:=X.a5;have z5:=X.z5;have v5:=X.v5;have u5:=run_underlying X.t5
 have e240:∀args w,(callFunc (ρ.f 240) args).run P w= .ok (.enter (ρ.f 240) args) w:=enters_of L.f240 (by kernel_rfl) rfl
 have hA:Lib.IsBuilderF (ρ.t 72) (ρ.t 5) 0 b bs w:=by
  rcases hp with rfl|rfl
  ·exact .inl ⟨Nat.zero_le _,v,h.blk,h.own,h.ne⟩
  ·exact .inr ⟨Nat.zero_le _,v,h.blk,h.own,h.ne⟩
 have hcc:Calls P (ρ.f 240) #[.pointer (some ⟨b,0,none⟩)] w fun e w'=>e= .returned (.tuple #[])/\BdAt (ρ.t 72) (ρ.t 5) b (.pointer (some ⟨b,0,none⟩)) v bs.length bs w'/\BdFr b v v w w':=by
  rcases hp with rfl|rfl
  ·refine(Any.Builder_copyCheck_fresh {L with} X.toX72 b w (by rw[Lib.cell_of_heap h.blk];rfl) (by simp[World.shape?,h.blk]) (Lib.frozen_of_heap h.blk 0)).mono ?_
   rintro e w' ⟨rfl,rfl⟩
   have hk:∀k,k≠b->(w.setCell ⟨b,0,none⟩ (.pointer (some ⟨b,0,none⟩))).heap[k]?=w.heap[k]?:=fun k hk=>Below.heap_setCell _ _ _ _ hk
   refine⟨rfl,⟨by simp[World.setCell,Array.getElem?_modify,h.blk],h.own.kept (row:=some b) ⟨rfl,rfl,rfl,by simp[World.setCell],fun k _ hk=>Below.heap_setCell _ _ _ _ (fun e=>hk (by simp[e]))⟩ (.inr h.ne),h.ne⟩,⟨rfl,rfl,rfl,by simp[World.setCell],fun k _ hkb _=>hk k hkb,fun k hk=> .inl hk⟩⟩
  ·refine(Any.Builder_copyCheck_used {L with} X.toX72 b w (by rw[Lib.cell_of_heap h.blk];rfl)).mono ?_
   rintro e w' ⟨rfl,rfl⟩
   exact⟨rfl,h,⟨rfl,rfl,rfl,Nat.le_refl _,fun _ _ _ _=>rfl,fun k hk=> .inl hk⟩⟩
 go_enter L.f166,Body.n166_ntmps ρ
 go_wp2_with (go_at_fn (ρ.f 240);refine hcc.mono ?_)
 rintro e w1 ⟨rfl,h1,hf1⟩
 have hbk:=h1.blk
 have c0:w1.cell? ⟨b,0,none⟩=some (.pointer (some ⟨b,0,none⟩)):=by rw[Lib.cell_of_heap hbk];rfl
 have c1:w1.cell? ⟨b,1,none⟩=some v:=by rw[Lib.cell_of_heap hbk];rfl
 go_wp2_with (at_builtin;refine wpList_append_strX _ rfl _ _ (ρ.t 37) (ρ.t 9) rfl (ρ.t 5) i0 L.t37 L.t9 hi hz0 hz1 hz2 _ _ _ rfl h1.own s rfl ?c3 ?c4 ?_)
 case c3=>unfold maxLen;omega
 case c4=>omega
 intro v' w2 hown' hgrow hnil hnew
 have hlt:b<w1.heap.size:=(Array.getElem?_eq_some_iff.1 hbk).1
 have hb2:w2.heap[b]?=some (.cells #[.pointer (some ⟨b,0,none⟩),v] (ρ.t 72) (0,0)):=by
  rw[hgrow.block b hlt (fun e=>h1.ne e.symm)]
  exact hbk
 have d0:w2.cell? ⟨b,0,none⟩=some (.pointer (some ⟨b,0,none⟩)):=by rw[Lib.cell_of_heap hb2];rfl
 have d1:w2.cell? ⟨b,1,none⟩=some v:=by rw[Lib.cell_of_heap hb2];rfl
 have f1:w2.frozen? ⟨b,1,none⟩=false:=Lib.frozen_of_heap hb2 1
 obtain⟨ao,n',cap,rfl⟩:∃ao n' cap,v'= .slice ao n' cap:=by
  rcases hown'.2 with ⟨hv,_⟩|⟨g,cap,cur,fz,hv,_⟩
  ·exact⟨_,_,_,hv⟩
  ·exact⟨_,_,_,hv⟩
 go_wp2
 go_ret2
 have hput:=Lib.BuilderAtF.put (T:=(ρ.t 72)) (e:=(ρ.t 5)) (B:=0) (p:= .pointer (some ⟨b,0,none⟩)) (Nat.zero_le b) hb2 (bs':=bs++Lib.strCells s) (by simpa[Lib.strCells_length] using hown') X.neB5
 obtain⟨_,v2,k1,k2,k3⟩:=hput
 have hv2:v2= .slice ao n' cap:=by
  have:(w2.setCell ⟨b,1,none⟩ (.slice ao n' cap)).heap[b]?=some (.cells #[.pointer (some ⟨b,0,none⟩), .slice ao n' cap] (ρ.t 72) (0,0)):=by simp[World.setCell,Array.getElem?_modify,hb2]
  rw[this] at k1
  simp at k1
  exact k1.symm
 subst hv2
 refine⟨rfl,_,⟨k1,by simpa[Lib.strCells_length] using k2,k3⟩,by simpa using hnil,⟨hgrow.os.trans hf1.os,hgrow.tape.trans hf1.tape,hgrow.output.trans hf1.output,by have:=hf1.size;have:=hgrow.size;simp[World.setCell];omega,fun k hk hkb hkv=>?_,fun k hk=>?_⟩⟩
 ·rw[Below.heap_setCell _ _ _ _ hkb,hgrow.block k (Nat.lt_of_lt_of_le hk hf1.size) hkv]
  exact hf1.block k hk hkb hkv
 ·rcases hnew k hk with hn|hn
  ·exact .inl hn
  ·exact .inr (Nat.le_trans hf1.size hn)
set_option maxHeartbeats 2000000 in
set_option maxRecDepth 100000 in
theorem bd_WriteByte (L:Lays.n167 P ρ) (X:Builder.Extra P ρ) (b:Nat) (p v:Value) (hp:p= .pointer none\/p= .pointer (some ⟨b,0,none⟩)) (bs:List Value) (c:Int) (w:World) (h:BdAt (ρ.t 72) (ρ.t 5) b p v bs.length bs w) (hlen:bs.length+1<=140737488355328):
  Calls P (ρ.f 167) #[.pointer (some ⟨b,0,none⟩), .int .u8 c] w fun e w'=>e= .returned .nilIface/\∃v',BdAt (ρ.t 72) (ρ.t 5) b (.pointer (some ⟨b,0,none⟩)) v' (bs.length+1) (bs++[.int .u8 c]) w'/\v'≠ .slice none 0 0/\BdFr b v v' w w':=by
 obtain⟨i0,hi,hz0,hz1,hz2⟩:=info_parts X.infoByte
 have mixed:=L.mixed
 have t72:=L.t72;have a72:=L.a72;have z72:=L.z72;have v72:=L.v72;have u72:=run_underlying L.t72
 have t70:=L.t70;have a70:=L.a70;have z70:=L.z70;have v70:=L.v70;have u70:=run_underlying L.t70
 have t5:=L.t5;have a5:=L.a5;have z5:=L.z5;have v5:=L.v5;have u5:=run_underlying L.t5
 have t37:=L.t37;have a37:=L.a37;have z37:=L.z37;have v37:=L.v37;have u37:=run_underlying L.t37
 have t9:=L.t9;have a9:=L.a9;have z9:=L.z9;have v9:=L.v9;have u9:=run_underlying L.t9
 have t4:=L.t4;have a4:=L.a4;have z4:=L.z4;have v4:=L.v4;have u4:=run_underlying L.t4
 have t164:=L.t164;have a164:=L.a164;have z164:=L.z164;have v164:=L.v164;have u164:=run_underlying L.t164
 have e240:∀args w,(callFunc (ρ.f 240) args).run P w= .ok (.enter (ρ.f 240) args) w:=enters_of L.f240 (by kernel_rfl) rfl
 have hcc:Calls P (ρ.f 240) #[.pointer (some ⟨b,0,none⟩)] w fun e w'=>e= .returned (.tuple #[])/\BdAt (ρ.t 72) (ρ.t 5) b (.pointer (some ⟨b,0,none⟩)) v bs.length bs w'/\BdFr b v v w w':=by
  rcases hp with rfl|rfl
  ·refine(Any.Builder_copyCheck_fresh {L with} X.toX72 b w (by rw[Lib.cell_of_heap h.blk];rfl) (by simp[World.shape?,h.blk]) (Lib.frozen_of_heap h.blk 0)).mono ?_
   rintro e w' ⟨rfl,rfl⟩
   have hk:∀k,k≠b->(w.setCell ⟨b,0,none⟩ (.pointer (some ⟨b,0,none⟩))).heap[k]?=w.heap[k]?:=fun k hk=>Below.heap_setCell _ _ _ _ hk
   refine⟨rfl,⟨by simp[World.setCell,Array.getElem?_modify,h.blk],h.own.kept (row:=some b) ⟨rfl,rfl,rfl,by simp[World.setCell],fun k _ hk=>Below.heap_setCell _ _ _ _ (fun e=>hk (by simp[e]))⟩ (.inr h.ne),h.ne⟩,⟨rfl,rfl,rfl,by simp[World.setCell],fun k _ hkb _=>hk k hkb,fun k hk=> .inl hk⟩⟩
  ·refine(Any.Builder_copyCheck_used {L with} X.toX72 b w (by rw[Lib.cell_of_heap h.blk];rfl)).mono ?_
   rintro e w' ⟨rfl,rfl⟩
   exact⟨rfl,h,⟨rfl,rfl,rfl,Nat.le_refl _,fun _ _ _ _=>rfl,fun k hk=> .inl hk⟩⟩
 go_enter L.f167,Body.n167_ntmps ρ
 go_wp2_with (go_at_fn (ρ.f 240);refine hcc.mono ?_)
 rintro e w1 ⟨rfl,h1,hf1⟩
 have hbk:=h1.blk
 have hlt:b<w1.heap.size:=(Array.getElem?_eq_some_iff.1 hbk).1
 have c0:w1.cell? ⟨b,0,none⟩=some (.pointer (some ⟨b,0,none⟩)):=by rw[Lib.cell_of_heap hbk];rfl
 have c1:w1.cell? ⟨b,1,none⟩=some v:=by rw[Lib.cell_of_heap hbk];rfl
 go_wp2_with (at_builtin;refine wpList_append_slX _ rfl _ _ (ρ.t 37) rfl (ρ.t 5) i0 L.t37 hi hz0 hz1 hz2 _ _ _ rfl (h1.own.alloc _) ⟨w1.heap.size,0,none⟩ 1 1 [.int .u8 c] rfl rfl ?c1 ?c2 ?c3 ?c4 ?_)
 case c1=>
  intro j u hj
  match j,hj with
  |0,hj=>simp at hj;subst hj;simp[Addr.add]
 case c2=>intro u hu;simp at hu;subst hu;rfl
 case c3=>unfold maxLen;omega
 case c4=>omega
 intro v' w2 hown' hgrow hnil hnew
 have hb2:w2.heap[b]?=some (.cells #[.pointer (some ⟨b,0,none⟩),v] (ρ.t 72) (0,0)):=by
  rw[hgrow.block b (by simp;omega) (fun e=>h1.ne e.symm),Lib.alloc_old w1 _ b hlt]
  exact hbk
 have d0:w2.cell? ⟨b,0,none⟩=some (.pointer (some ⟨b,0,none⟩)):=by rw[Lib.cell_of_heap hb2];rfl
 have d1:w2.cell? ⟨b,1,none⟩=some v:=by rw[Lib.cell_of_heap hb2];rfl
 have f1:w2.frozen? ⟨b,1,none⟩=false:=Lib.frozen_of_heap hb2 1
 obtain⟨g,cap,rfl⟩:∃g cap,v'= .slice (some ⟨g,0,none⟩) (bs.length+1) cap:=by
  rcases hown'.2 with ⟨_,h0⟩|⟨g,cap,cur,fz,hv,_⟩
  ·omega
  ·exact⟨g,cap,hv⟩
 go_wp2
 go_ret
 have hput:=Lib.BuilderAtF.put (T:=(ρ.t 72)) (e:=(ρ.t 5)) (B:=0) (p:= .pointer (some ⟨b,0,none⟩)) (Nat.zero_le b) hb2 (bs':=bs++[.int .u8 c]) (by simpa using hown') X.neB5
 obtain⟨_,v2,k1,k2,k3⟩:=hput
 have hv2:v2= .slice (some ⟨g,0,none⟩) (bs.length+1) cap:=by
  have:(w2.setCell ⟨b,1,none⟩ (.slice (some ⟨g,0,none⟩) (bs.length+1) cap)).heap[b]?=some (.cells #[.pointer (some ⟨b,0,none⟩), .slice (some ⟨g,0,none⟩) (bs.length+1) cap] (ρ.t 72) (0,0)):=by simp[World.setCell,Array.getElem?_modify,hb2]
  rw[this] at k1
  simp at k1
  exact k1.symm
 subst hv2
 have hsz:w1.heap.size<=w2.heap.size:=by have:=hgrow.size;simp at this;omega
 refine⟨rfl,_,⟨k1,by simpa using k2,k3⟩,by simp,⟨hgrow.os.trans hf1.os,hgrow.tape.trans hf1.tape,hgrow.output.trans hf1.output,by have:=hf1.size;simp[World.setCell];omega,fun k hk hkb hkv=>?_,fun k hk=>?_⟩⟩
 ·have hk1:k<w1.heap.size:=Nat.lt_of_lt_of_le hk hf1.size
  rw[Below.heap_setCell _ _ _ _ hkb,hgrow.block k (by simp;omega) hkv,Lib.alloc_old w1 _ k hk1]
  exact hf1.block k hk hkb hkv
 ·rcases hnew k hk with hn|hn
  ·exact .inl hn
  ·refine .inr ?_
   simp at hn
   have:=hf1.size
   omega
set_option maxHeartbeats 1000000 in
set_option maxRecDepth 100000 in
theorem bd_String (L:Lays.n169 P ρ) (X:Builder.Extra P ρ) (b:Nat) (p:Value) (g cap:Nat) (cur:Array Value) (fz:Nat×Nat) (l:List UInt8) (w:World) (hbk:w.heap[b]?=some (.cells #[p, .slice (some ⟨g,0,none⟩) l.length cap] (ρ.t 72) (0,0))) (hg:w.heap[g]?=some (.cells cur (ρ.t 5) fz))
  (hnc:l.length<=cap) (hcm:cap<=maxLen) (hcs:cur.size=cap) (hown:w.ownsRowF 0 (ρ.t 5) 1 (.slice (some ⟨g,0,none⟩) l.length cap) l.length (Lib.byteCells l)) (h0:l≠[]):
  Calls P (ρ.f 169) #[.pointer (some ⟨b,0,none⟩)] w fun e w'=>e= .returned (.string ⟨l.toArray⟩)/\w'=w.drew.freeze ⟨g,0,none⟩ l.length:=by
 have hl0:l.length≠0:=by simpa using h0
 have c1:w.drew.cell? ⟨b,1,none⟩=some (.slice (some ⟨g,0,none⟩) l.length cap):=by
  have:w.drew.heap[b]?=some (.cells #[p, .slice (some ⟨g,0,none⟩) l.length cap] (ρ.t 72) (0,0)):=hbk
  rw[Lib.cell_of_heap this];rfl
 have hSD:(Builtin.unsafeSliceData_ #[(ρ.t 37)] (ρ.t 127) #[.slice (some ⟨g,0,none⟩) l.length cap]).run P w.drew= .ok (.pointer (some ⟨g,0,none⟩)) w.drew:=
  Lib.run_unsafeSliceData_row _ _ _ _ _ _ (by omega)
 have hUS:(Builtin.unsafeString_ #[(ρ.t 127),(ρ.t 3)] (ρ.t 9) #[.pointer (some ⟨g,0,none⟩), .int .i64 l.length]).run P w.drew= .ok (.string ⟨l.toArray⟩) (w.drew.freeze ⟨g,0,none⟩ l.length):=by
  refine Lib.run_unsafeString_row w.drew (ρ.t 127) (ρ.t 3) (ρ.t 9) (ρ.t 5) L.t127 X.cellsByte g cur.size (by have hg':w.drew.heap[g]?=some (.cells cur (ρ.t 5) fz):=hg;simp[World.shape?,hg']) l h0 (by omega) (by unfold maxLen at hcm;omega) ?_
  intro j x hx
  have:=hown.cells (g:=g) rfl j (.int .u8 x.toNat) (by simp[Lib.byteCells,hx])
  exact this
 have mixed:=L.mixed
 have t72:=L.t72;have a72:=L.a72;have z72:=L.z72;have v72:=L.v72;have u72:=run_underlying L.t72
 have t70:=L.t70;have a70:=L.a70;have z70:=L.z70;have v70:=L.v70;have u70:=run_underlying L.t70
 have t37:=L.t37;have a37:=L.a37;have z37:=L.z37;have v37:=L.v37;have u37:=run_underlying L.t37
 have t127:=L.t127;have a127:=L.a127;have z127:=L.z127;have v127:=L.v127;have u127:=run_underlying L.t127
 have t3:=L.t3;have a3:=L.a3;have z3:=L.z3;have v3:=L.v3;have u3:=run_underlying L.t3
 have t9:=L.t9;have a9:=L.a9;have z9:=L.z9;have v9:=L.v9;have u9:=run_underlying L.t9
 have t5:=X.t5;have a5:=X.a5;have z5:=X.z5;have v5:=X.v5;have u5:=run_underlying X.t5
 go_enter L.f169,Body.n169_ntmps ρ
 go_wp2
 go_region_o
 all_goals (go_wp2;go_ret;exact⟨rfl,rfl⟩)
set_option maxHeartbeats 1000000 in
set_option maxRecDepth 100000 in
theorem bd_String_nil (L:Lays.n169 P ρ) (X:Builder.Extra P ρ) (b:Nat) (p:Value) (w:World) (hbk:w.heap[b]?=some (.cells #[p, .slice none 0 0] (ρ.t 72) (0,0))):
  Calls P (ρ.f 169) #[.pointer (some ⟨b,0,none⟩)] w fun e w'=>e= .returned (.string ⟨#[]⟩)/\w'=w.drew:=by
 have hUS:=Any.unsafeString_none L X
 have c1:w.drew.cell? ⟨b,1,none⟩=some (.slice none 0 0):=by
  have:w.drew.heap[b]?=some (.cells #[p, .slice none 0 0] (ρ.t 72) (0,0)):=hbk
  rw[Lib.cell_of_heap this];rfl
 have hSD:(Builtin.unsafeSliceData_ #[(ρ.t 37)] (ρ.t 127) #[.slice none 0 0]).run P w.drew= .ok (.pointer none) w.drew:=rfl
 have mixed:=L.mixed
 have t72:=L.t72;have a72:=L.a72;have z72:=L.z72;have v72:=L.v72;have u72:=run_underlying L.t72
 have t70:=L.t70;have a70:=L.a70;have z70:=L.z70;have v70:=L.v70;have u70:=run_underlying L.t70
 have t37:=L.t37;have a37:=L.a37;have z37:=L.z37;have v37:=L.v37;have u37:=run_underlying L.t37
 have t127:=L.t127;have a127:=L.a127;have z127:=L.z127;have v127:=L.v127;have u127:=run_underlying L.t127
 have t3:=L.t3;have a3:=L.a3;have z3:=L.z3;have v3:=L.v3;have u3:=run_underlying L.t3
 have t9:=L.t9;have a9:=L.a9;have z9:=L.z9;have v9:=L.v9;have u9:=run_underlying L.t9
 have t5:=X.t5;have a5:=X.a5;have z5:=X.z5;have v5:=X.v5;have u5:=run_underlying X.t5
 go_enter L.f169,Body.n169_ntmps ρ
 go_wp2
 go_region_o
 all_goals (go_wp2;go_ret;exact⟨rfl,rfl⟩)
end Go.Proofs
namespace Go.Proofs.YtokkbonoplbiaaaGreatDoor
open Go Go.Sym Go.Great Go.RowKit Go.Proofs Go.Sort
theorem bd_of_buf {w:World} {e:Env} {b:Nat} {p v:Value} {bs:List UInt8} (h1:w.heap[b]?=some (.cells #[p,v] 100 (0,0))) (h2:BufR w e b 5 bs v) (hk:e.kid b=none):
  BdAt 100 5 b p v bs.length (Lib.byteCells bs) w/\(v= .slice none 0 0↔bs=[])/\(∀g,v.ownBlock=some g->e.kid g=some (b,1)):=by
 rcases h2 with ⟨rfl,rfl⟩|⟨g,cap,cur,fz,rfl,h3,h4,h5,h6,h7,h8,h9,h10⟩
 ·exact⟨⟨h1,⟨rfl, .inl ⟨rfl,rfl⟩⟩,by simp[Value.ownBlock]⟩,by simp,fun g h=>by simp[Value.ownBlock] at h⟩
 ·refine⟨⟨h1,⟨by simp[Lib.byteCells], .inr ⟨g,cap,cur,fz,rfl,Nat.zero_le _,h4,by omega,h6,h7,by omega,?_⟩⟩,?_⟩,?_,?_⟩
  ·rw[Nat.mul_one];exact h9
  ·simp only[Value.ownBlock,ne_eq,Option.some.injEq]
   rintro rfl
   rw[hk] at h3;cases h3
  ·constructor
   ·intro h;simp at h
   ·intro h;exact absurd h h10
  ·intro g' h
   simp only[Value.ownBlock,Option.some.injEq] at h
   subst h;exact h3
theorem sat_bd {f:FuncId} {vs:List Value} {bs bs':List UInt8} {r:AV} (hen:Go.Sym.Enters Tryz.prog f)
  (h:∀(w:World) (b:Nat) (p v:Value),(p= .pointer none\/p= .pointer (some ⟨b,0,none⟩))->BdAt 100 5 b p v bs.length (Lib.byteCells bs) w->(v= .slice none 0 0↔bs=[])->
   Calls Tryz.prog f (.pointer (some ⟨b,0,none⟩)::vs).toArray w fun en w'=>∃x,en= .returned x/\(∀w U,VD w U r x)/\∃p' v',(p'= .pointer none\/p'= .pointer (some ⟨b,0,none⟩))/\BdAt 100 5 b p' v' bs'.length (Lib.byteCells bs') w'/\(v'= .slice none 0 0↔bs'=[])/\BdFr b v v' w w'):
  SatG Tryz.prog tab f [(0,some (0, .bd 100 5 bs))] (.ptO 0 0 0 0 0::vs.map AV.lit) [(0,some (0, .bd 100 5 bs'))] r:=by
 refine⟨hen,fun w e vals hr hz hg hl hargs=>?_⟩
 obtain⟨ee,he,heg,hG,hn0,b,c,p,v,hblk,hb,hp,hbuf⟩:=hr.live 0 0 (.bd 100 5 bs) rfl
 have hobj:ObjB e b:=⟨0,ee,c,he,hblk⟩
 have hkb:e.kid b=none:=hr.ko b hobj
 obtain⟨hbd,hnil,hown⟩:=bd_of_buf hb hbuf hkb
 have hblt:b<w.heap.size:=(Array.getElem?_eq_some_iff.1 hb).1
 have hbz:¬e.z b:=hr.nz 0 ee b c he hblk
 have hvals:vals=(.pointer (some ⟨b,0,none⟩)::vs).toArray:=by
  have hsz:vals.size=vs.length+1:=by rw[<-hl];simp
  apply Array.ext
  ·simp[hsz]
  ·intro i h1 h2
   have hi:i<(AV.ptO 0 0 0 0 0::vs.map AV.lit).length:=by simp;omega
   have ha:=hargs i hi
   rw[Array.getD_eq_getD_getElem?,Array.getElem?_eq_getElem h1] at ha
   cases i with
   |zero=>
    simp only[List.getElem_cons_zero,Option.getD_some] at ha
    obtain⟨_,_,hin⟩:=ha.ptO_inv
    have:=(hin ee he heg).2 hn0 b c hblk
    simpa using this
   |succ i=>
    simp only[List.getElem_cons_succ,List.getElem_map,Option.getD_some] at ha
    have:=ha.lit_inv.1
    simpa using this
 rw[hvals]
 refine(h w b p v hp hbd hnil).mono ?_
 rintro en w' ⟨x,rfl,hx,p',v',hp',hbd',hnil',hfr⟩
 have hds:∀id,id≠0->e id=none:=fun id hid=>hr.dead id (by simp[Hp.get];omega)
 have hnew:∀k,v'.ownBlock=some k->e.kid k=some (b,1)\/w.heap.size<=k:=fun k hk=>(hfr.new k hk).imp (hown k) id
 have hown':∀k,v'.ownBlock=some k->k<w'.heap.size:=fun k hk=>(hbd'.own.lt k hk).2
 obtain⟨e',he'⟩:∃e':Env,e'=⟨e.m,e.z,fun k=>if v'.ownBlock=some k then some (b,1) else none⟩:=⟨_,rfl⟩
 have em:∀id,e' id=e id:=by subst he';intro id;rfl
 have ez:e'.z=e.z:=by subst he';rfl
 have ekid:∀k B c,e'.kid k=some (B,c)->v'.ownBlock=some k/\B=b/\c=1:=by
  subst he'
  intro k B c hk
  by_cases hv:v'.ownBlock=some k
  ·simp only[if_pos hv,Option.some.injEq,Prod.mk.injEq] at hk
   exact⟨hv,hk.1.symm,hk.2.symm⟩
  ·simp[hv] at hk
 have ekid2:∀k,v'.ownBlock=some k->e'.kid k=some (b,1):=by subst he';intro k hk;simp[hk]
 have eobj:∀k,ObjB e' k->k=b:=by
  rintro k ⟨id,ee',c',h1,h2⟩
  rw[em] at h1
  by_cases hid:id=0
  ·subst hid
   rw[he] at h1;cases h1
   rw[hblk] at h2;cases h2;rfl
  ·rw[hds id hid] at h1;cases h1
 have eown:∀k,OwnB e' k->k=b\/v'.ownBlock=some k:=by
  rintro k (h1|⟨B,c',h1,h2⟩)
  ·exact .inl (eobj k h1)
  ·exact .inr (ekid k B c' h1).1
 have eown2:∀k,OwnB e' k->w.heap.size<=k\/OwnB e k:=by
  intro k hk
  rcases eown k hk with rfl|hv
  ·exact .inr (.inl hobj)
  ·rcases hnew k hv with h1|h1
   ·exact .inr (.inr ⟨b,1,h1,hobj⟩)
   ·exact .inl h1
 have nown:∀k,¬OwnB e k->k≠b/\some k≠v.ownBlock:=by
  intro k hk
  refine⟨?_,?_⟩
  ·rintro rfl;exact hk (.inl hobj)
  ·intro h1;exact hk (.inr ⟨b,1,hown k h1.symm,hobj⟩)
 have hbuf':BufR w' e' b 5 bs' v':=by
  by_cases hb0:bs'=[]
  ·exact .inl ⟨hnil'.2 hb0,hb0⟩
  ·obtain⟨hlen,hcase⟩:=hbd'.own
   rcases hcase with ⟨hv,_⟩|⟨g,cap,cur,fz,hv,_,h4,h5,h6,h7,h8,h9⟩
   ·exact absurd (hnil'.1 hv) hb0
   ·refine .inr ⟨g,cap,cur,fz,hv,ekid2 g (by rw[hv];rfl),h4,by omega,h6,h7,by omega,?_,hb0⟩
    rw[Nat.mul_one] at h9;exact h9
 have horel:ORel w' e' (Glt 2) (.bd 100 5 bs') ee:=⟨hn0,b,c,p',v',hblk,hbd'.blk,hp',hbuf'⟩
 have hG2:Glt 2 0:=by unfold Glt;omega
 refine⟨x,e',rfl,⟨?_,?_,?_,?_,?_,?_,?_,?_⟩, .dat _ _ (hx _ _),⟨hfr.size,?_,?_,?_,?_⟩,ez,eown2,⟨hfr.os,hfr.tape,hfr.output,hfr.size,?_⟩⟩
 ·intro id hid
  rw[em]
  refine hds id fun h0=>?_
  subst h0
  cases hid
 ·intro id g ob hid
  simp only[Hp.get] at hid
  by_cases h0:0=id
  ·rw[if_pos h0] at hid
   cases hid
   subst h0
   exact⟨ee,(em 0).trans he,heg,hG2,horel⟩
  ·rw[if_neg h0] at hid;cases hid
 ·intro id id' e1 e2 b1 c1 c2 h1 h2 _ _
  rw[em] at h1 h2
  by_cases i1:id=0
  ·by_cases i2:id'=0
   ·rw[i1,i2]
   ·rw[hds id' i2] at h2;cases h2
  ·rw[hds id i1] at h1;cases h1
 ·intro id e1 b1 c1 h1 h2
  have:=eobj b1 ⟨id,e1,c1,h1,h2⟩
  subst this
  exact Nat.lt_of_lt_of_le hblt hfr.size
 ·intro id e1 b1 c1 h1 h2
  have:=eobj b1 ⟨id,e1,c1,h1,h2⟩
  subst this
  rw[ez];exact hbz
 ·intro k B c1 hk
  obtain⟨h1,rfl,_⟩:=ekid k B c1 hk
  refine⟨hown' k h1,Nat.lt_of_lt_of_le hblt hfr.size,?_⟩
  rw[ez]
  rcases hnew k h1 with h2|h2
  ·exact(hr.kl k _ _ h2).2.2
  ·intro h3
   have:=hz k h3
   omega
 ·intro k hk
  have:=eobj k hk
  subst this
  cases h1:e'.kid k with
  |none=>rfl
  |some q=>exact absurd (ekid k q.1 q.2 h1).1 hbd'.ne
 ·intro k B c1 hk
  obtain⟨_,rfl,_⟩:=ekid k B c1 hk
  cases h1:e'.kid B with
  |none=>rfl
  |some q=>exact absurd (ekid B q.1 q.2 h1).1 hbd'.ne
 ·intro g hg;exact Nat.lt_of_lt_of_le hg (by omega)
 ·intro k hk hu
  refine⟨by rw[ez];exact hu.1,fun h1=>?_⟩
  rcases eown2 k h1 with h2|h2
  ·omega
  ·exact hu.2 h2
 ·intro k hk hu
  obtain⟨h1,h2⟩:=nown k hu.2
  exact hfr.block k hk h1 h2
 ·intro id e1 h1 _
  rw[em] at h1
  exact⟨e1,h1,rfl,rfl, .inl ⟨rfl,rfl⟩⟩
 ·intro k hk hu
  obtain⟨h1,h2⟩:=nown k hu
  exact hfr.block k hk h1 h2
open Go Go.Sym Go.Great Go.RowKit Go.Proofs Go.Sort Go.Scr
def bdRen:Go.Shelf.Ren:=⟨fun|166=>47|167=>48|169=>50|240=>101|276=>124|n=>n,fun|31=>36|9=>9|3=>3|4=>4|0=>0|20=>20|72=>100|76=>103|70=>98|37=>43|75=>102|127=>143|164=>151|5=>5|80=>107|n=>n,fun|n=>n⟩
theorem bdLay166:Go.Proofs.Lays.n166 Tryz.prog bdRen:={
 mixed:=by kernel_rfl
 f166:=Tryz.func47.trans (congrArg some (by kernel_rfl))
 f240:=Tryz.func101.trans (congrArg some (by kernel_rfl))
 f276:=Tryz.func124.trans (congrArg some (by kernel_rfl))
 t0:=Tryz.underlying0
 a0:=Tryz.isAgg0
 z0:=Tryz.sizeOf0
 v0:=Tryz.zeroValue0
 t3:=Tryz.underlying3
 a3:=Tryz.isAgg3
 z3:=Tryz.sizeOf3
 v3:=Tryz.zeroValue3
 t4:=Tryz.underlying4
 a4:=Tryz.isAgg4
 z4:=Tryz.sizeOf4
 v4:=Tryz.zeroValue4
 t9:=Tryz.underlying9
 a9:=Tryz.isAgg9
 z9:=Tryz.sizeOf9
 v9:=Tryz.zeroValue9
 t20:=Tryz.underlying20
 a20:=Tryz.isAgg20
 z20:=Tryz.sizeOf20
 v20:=Tryz.zeroValue20
 t37:=Tryz.underlying43
 a37:=Tryz.isAgg43
 z37:=Tryz.sizeOf43
 v37:=Tryz.zeroValue43
 t70:=Tryz.underlying98
 a70:=Tryz.isAgg98
 z70:=Tryz.sizeOf98
 v70:=Tryz.zeroValue98
 t72:=Tryz.underlying100
 a72:=Tryz.isAgg100
 z72:=Tryz.sizeOf100
 v72:=Tryz.zeroValue100
 t75:=Tryz.underlying102
 a75:=Tryz.isAgg102
 z75:=Tryz.sizeOf102
 v75:=Tryz.zeroValue102
 t164:=Tryz.underlying151
 a164:=Tryz.isAgg151
 z164:=Tryz.sizeOf151
 v164:=Tryz.zeroValue151}
theorem bdLay167:Go.Proofs.Lays.n167 Tryz.prog bdRen:={
 mixed:=by kernel_rfl
 f167:=Tryz.func48.trans (congrArg some (by kernel_rfl))
 f240:=Tryz.func101.trans (congrArg some (by kernel_rfl))
 f276:=Tryz.func124.trans (congrArg some (by kernel_rfl))
 t0:=Tryz.underlying0
 a0:=Tryz.isAgg0
 z0:=Tryz.sizeOf0
 v0:=Tryz.zeroValue0
 t4:=Tryz.underlying4
 a4:=Tryz.isAgg4
 z4:=Tryz.sizeOf4
 v4:=Tryz.zeroValue4
 t5:=Tryz.underlying5
 a5:=Tryz.isAgg5
 z5:=Tryz.sizeOf5
 v5:=Tryz.zeroValue5
 t9:=Tryz.underlying9
 a9:=Tryz.isAgg9
 z9:=Tryz.sizeOf9
 v9:=Tryz.zeroValue9
 t20:=Tryz.underlying20
 a20:=Tryz.isAgg20
 z20:=Tryz.sizeOf20
 v20:=Tryz.zeroValue20
 t37:=Tryz.underlying43
 a37:=Tryz.isAgg43
 z37:=Tryz.sizeOf43
 v37:=Tryz.zeroValue43
 t70:=Tryz.underlying98
 a70:=Tryz.isAgg98
 z70:=Tryz.sizeOf98
 v70:=Tryz.zeroValue98
 t72:=Tryz.underlying100
 a72:=Tryz.isAgg100
 z72:=Tryz.sizeOf100
 v72:=Tryz.zeroValue100
 t75:=Tryz.underlying102
 a75:=Tryz.isAgg102
 z75:=Tryz.sizeOf102
 v75:=Tryz.zeroValue102
 t164:=Tryz.underlying151
 a164:=Tryz.isAgg151
 z164:=Tryz.sizeOf151
 v164:=Tryz.zeroValue151}
theorem bdX:Builder.Extra Tryz.prog bdRen:={
 sizeBuilder:=by kernel_rfl
 liesBuilder:=by kernel_rfl
 t5:=Tryz.underlying5
 a5:=Tryz.isAgg5
 z5:=Tryz.sizeOf5
 v5:=Tryz.zeroValue5
 infoByte:=by kernel_rfl
 cellsByte:=by kernel_rfl
 sizeByte:=by kernel_rfl
 neB5:=by decide}
theorem byteCells_app (a b:List UInt8):Lib.byteCells (a++b)=Lib.byteCells a++Lib.byteCells b:=by simp[Lib.byteCells]
theorem strCells_eq (s:List UInt8):Lib.strCells (strOf s)=Lib.byteCells s:=by simp[Lib.strCells,Lib.byteCells,str_list]
theorem bdWS_sat (bs s:Bs) (hl:bs.length+s.length<=140737488355328):SatG Tryz.prog tab 47 [(0,some (0, .bd 100 5 bs))] [.ptO 0 0 0 0 0,S (strOf s)] [(0,some (0, .bd 100 5 (bs++s)))] (.tup [I s.length, .lit .nilIface]):=by
 refine sat_bd (vs:=[.string (strOf s)]) ⟨Tryz.f47,Tryz.func47,by rfl,by rfl⟩ fun w b p v hp hb hn=>?_
 have hl1:(Lib.byteCells bs).length=bs.length:=Lib.byteCells_length bs
 refine(bd_WriteString bdLay166 bdX b p v hp (Lib.byteCells bs) (strOf s) w (by rw[hl1];exact hb) (by rw[hl1,str_size];exact hl)).mono ?_
 rintro en w' ⟨rfl,v',h1,h2,h3⟩
 refine⟨_,rfl,fun w U=>?_,_,v', .inr rfl,?_,?_,h3⟩
 ·refine .tup _ _ rfl fun i hi=>?_
  rcases(by simp at hi;omega:i=0\/i=1) with rfl|rfl
  ·rw[str_size];exact .lit _ rfl
  ·exact .lit _ rfl
 ·rw[hl1,str_size,strCells_eq] at h1
  rw[byteCells_app,List.length_append]
  exact h1
 ·rw[h2,hn,str_size]
  simp[List.length_eq_zero_iff]
theorem bdWB_sat (bs:Bs) (c:UInt8) (hl:bs.length+1<=140737488355328):SatG Tryz.prog tab 48 [(0,some (0, .bd 100 5 bs))] [.ptO 0 0 0 0 0,Uc c] [(0,some (0, .bd 100 5 (bs++[c])))] (.lit .nilIface):=by
 refine sat_bd (vs:=[.int .u8 ((c.toNat:Nat):Int)]) ⟨Tryz.f48,Tryz.func48,by rfl,by rfl⟩ fun w b p v hp hb hn=>?_
 have hl1:(Lib.byteCells bs).length=bs.length:=Lib.byteCells_length bs
 refine(bd_WriteByte bdLay167 bdX b p v hp (Lib.byteCells bs) ((c.toNat:Nat):Int) w (by rw[hl1];exact hb) (by rw[hl1];exact hl)).mono ?_
 rintro en w' ⟨rfl,v',h1,h2,h3⟩
 refine⟨_,rfl,fun w U=> .lit _ rfl,_,v', .inr rfl,?_,?_,h3⟩
 ·rw[hl1] at h1
  rw[byteCells_app,List.length_append]
  exact h1
 ·constructor
  ·intro h;exact absurd h h2
  ·intro h;simp at h
theorem bdLen_sat (bs:Bs):SatG Tryz.prog tab 49 [(0,some (0, .bd 100 5 bs))] [.ptO 0 0 0 0 0] [(0,some (0, .bd 100 5 bs))] (I bs.length):=by
 refine sat_bd (vs:=[]) ⟨Tryz.f49,Tryz.func49,by rfl,by rfl⟩ fun w b p v hp hb hn=>?_
 have hl1:(Lib.byteCells bs).length=bs.length:=Lib.byteCells_length bs
 have hA:Lib.IsBuilderF 100 5 0 b (Lib.byteCells bs) w:=by
  rcases hp with rfl|rfl
  ·exact .inl ⟨Nat.zero_le _,v,hb.blk,by rw[hl1];exact hb.own,hb.ne⟩
  ·exact .inr ⟨Nat.zero_le _,v,hb.blk,by rw[hl1];exact hb.own,hb.ne⟩
 refine(Tryz.Builder_Len_f 0 b (Lib.byteCells bs) w hA).mono ?_
 rintro en w' ⟨rfl,rfl⟩
 refine⟨_,rfl,fun w U=>?_,p,v,hp,hb,hn,⟨rfl,rfl,rfl,Nat.le_refl _,fun _ _ _ _=>rfl,fun k hk=> .inl hk⟩⟩
 rw[hl1];exact .lit _ rfl
theorem freeze_other (w:World) (g n k:Nat) (h:k≠g):(w.freeze ⟨g,0,none⟩ n).heap[k]?=w.heap[k]?:=by
 unfold World.freeze
 split
 ·rfl
 ·show(w.heap.modify g _)[k]?=_
  rw[Array.getElem?_modify]
  simp[Ne.symm h]
theorem freeze_rest (w:World) (a:Addr) (n:Nat):(w.freeze a n).os=w.os/\(w.freeze a n).tape=w.tape/\(w.freeze a n).output=w.output/\(w.freeze a n).heap.size=w.heap.size:=by
 unfold World.freeze
 split
 ·exact⟨rfl,rfl,rfl,rfl⟩
 ·exact⟨rfl,rfl,rfl,by simp⟩
theorem bdStr_sat (bs:Bs):SatG Tryz.prog tab 50 [(0,some (0, .bd 100 5 bs))] [.ptO 0 0 0 0 0] [(0,some (0, .bd 100 5 bs))] (S (strOf bs)):=by
 refine sat_bd (vs:=[]) ⟨Tryz.f50,Tryz.func50,by rfl,by rfl⟩ fun w b p v hp hb hn=>?_
 have hl1:(Lib.byteCells bs).length=bs.length:=Lib.byteCells_length bs
 by_cases h0:bs=[]
 ·subst h0
  have hv:=hn.2 rfl
  subst hv
  refine(bd_String_nil Tryz.lays169 Tryz.Builder_Extra_169 b p w hb.blk).mono ?_
  rintro en w' ⟨rfl,rfl⟩
  exact⟨_,rfl,fun w U=> .lit _ rfl,p,_,hp,⟨hb.blk,hb.own,hb.ne⟩,hn,⟨rfl,rfl,rfl,Nat.le_refl _,fun _ _ _ _=>rfl,fun k hk=> .inl hk⟩⟩
 ·obtain⟨hlen,hcase⟩:=hb.own
  rcases hcase with ⟨hv,_⟩|⟨g,cap,cur,fz,hv,hz,h4,h5,h6,h7,h8,h9⟩
  ·exact absurd (hn.1 hv) h0
  ·subst hv
   refine(bd_String Tryz.lays169 Tryz.Builder_Extra_169 b p g cap cur fz bs w hb.blk h4 h6 h7 (by omega) ⟨hlen, .inr ⟨g,cap,cur,fz,rfl,hz,h4,h5,h6,h7,h8,h9⟩⟩ h0).mono ?_
   rintro en w' ⟨rfl,rfl⟩
   have hAt:Lib.BuilderAtF 100 5 0 b p (Lib.byteCells bs) w.drew:=⟨Nat.zero_le _,_,hb.blk,by rw[hl1];exact⟨hlen, .inr ⟨g,cap,cur,fz,rfl,hz,h4,h5,h6,h7,h8,h9⟩⟩,hb.ne⟩
   have hF:=hAt.froze (g:=g) (cap:=cap) (by rw[hl1];exact Lib.cell_of_heap (w:=w.drew) hb.blk 1)
   rw[hl1] at hF
   obtain⟨_,v2,k1,k2,k3⟩:=hF
   have hgb:b≠g:=fun h=>hb.ne (by rw[h];rfl)
   have hv2:v2= .slice (some ⟨g,0,none⟩) bs.length cap:=by
    have:=freeze_other w.drew g bs.length b hgb
    rw[this] at k1
    have hbk:=hb.blk
    have:w.drew.heap[b]?=w.heap[b]?:=rfl
    rw[this,hbk] at k1
    simp at k1
    exact k1.symm
   subst hv2
   have hfr:=freeze_rest w.drew ⟨g,0,none⟩ bs.length
   refine⟨_,rfl,fun w U=> .lit _ rfl,p,_,hp,⟨k1,by rw[hl1] at k2;exact k2,k3⟩,hn,⟨hfr.1,hfr.2.1,hfr.2.2.1,Nat.le_of_eq hfr.2.2.2.symm,fun k hk h1 h2=>?_,fun k hk=> .inl hk⟩⟩
   ·exact freeze_other w.drew g bs.length k (fun h=>h2 (by rw[h];rfl))
open Go.Scr
def fmtL:List Acx->Option Bs
 |[]=>some []
 |x::r=>match lineS x with
  |none=>none
  |some a=>(fmtL r).map (fun b=>a++[10]++b)
def formatS (l:List Acx):Bs×Int:=
 if 500<l.length then([],2) else match fmtL l with
  |none=>([],3)
  |some t=>if 65536<t.length then([],2) else(t,0)
theorem lineS_len {x:Acx} (hx:SmA x) {t:Bs} (h:lineS x=some t):t.length<=2008*1000001:=by
 unfold lineS at h
 split at h
 ·rename_i hc
  injection h with h
  subst h
  have hln:=wAct_len ([],false) x
  have hbd:=Bd.act (m:=1000000) (by decide) (w:=([],false)) (fun s hs=>by cases hs) x hx.tx
  have hjl:=join_len hbd
  have hmv:=hx.mv
  have hgl:=hx.gl
  simp only[List.length_nil] at hln
  exact Nat.le_trans hjl (Nat.mul_le_mul_right _ (by omega))
 ·cases h
theorem fmtL_step {l:List Acx} {i:Nat} (h:i<l.length) {acc:Bs} {o:Option Bs} (hi:o=(fmtL (l.drop i)).map (fun b=>acc++b)):
  o=match lineS (l.getD i default) with
   |none=>none
   |some a=>(fmtL (l.drop (i+1))).map (fun b=>(acc++(a++[10]))++b):=by
 rw[hi,List.drop_eq_getElem_cons h,List.getD_eq_getElem?_getD,List.getElem?_eq_getElem h,fmtL,Option.getD_some]
 cases lineS l[i] with
 |none=>rfl
 |some a=>
  simp only[Option.map_map]
  congr 1
  funext b
  simp[List.append_assoc]
theorem format_sat (l:List Acx) (hl:l.length<=1000000) (hs:∀x∈l,SmA x):SatG Tryz.prog tab 21 [] [.sl (acts l) false] [] (.tup [S (strOf (formatS l).1),I (formatS l).2]):=by
 refine uFN Tryz.func21 Tryz.ntmps21 ?_;intro w e X hC
 repeat refine uA ?_
 refine uW ?_;refine condP _ rfl (fun c0=>?_) (fun c0=>?_)
 ·have e:formatS l=([],2):=by unfold formatS;rw[if_pos (by omega)]
  rw[e]
  repeat refine uA ?_
  refine awp_ret ?_;rw[show Tryz.f21.results.toList=[.tmp 2, .tmp 3] from rfl];first|refine uRN ?_|exact uRM
  rfl
 have e0:formatS l=match fmtL l with
  |none=>([],3)
  |some t=>if 65536<t.length then([],2) else(t,0):=by unfold formatS;rw[if_neg (by omega)]
 repeat refine uA ?_
 refine uW ?_
 refine awp_loopW (fun i:Nat×Nat×Bs=>⟨[(2,S (strOf [])),(3,I 0),(4, .ptO 104 6 0 0 0),(12, .sl (acts l) false),(13,I l.length),(14,I i.2.1)],[(104,some (6, .bd 100 5 i.2.2))],i.1⟩) (fun i=>i.2.1<=l.length/\i.2.2.length<=i.2.1*2008002009/\fmtL l=(fmtL (l.drop i.2.1)).map (fun b=>i.2.2++b)) (fun i=>l.length - i.2.1) (_,0,[]) ⟨Nat.zero_le _,Nat.zero_le _,by simp⟩ (uKF) ?_
 rintro⟨ck,i,acc⟩ ⟨hi,ha,hf⟩
 simp only at hi ha hf
 have hal:acc.length<=500*2008002009:=Nat.le_trans ha (Nat.mul_le_mul_right _ (by omega))
 repeat refine uA ?_
 refine uW ?_;refine condP _ rfl (fun h=>?_) (fun h=>?_)
 ·have hlt:i<l.length:=by omega
  have hst:=fmtL_step hlt hf
  have hm:l.getD i default∈l:=by rw[List.getD_eq_getElem?_getD,List.getElem?_eq_getElem hlt];exact List.getElem_mem hlt
  have hx:=hs _ hm
  have h1:=line_sat _ hx
  have hll:=fun t=>lineS_len hx (t:=t)
  refine uA1 (acts_getD hlt) ?_
  generalize l.getD i default=x at*
  cases hln:lineS x with
  |none=>
   rw[hln] at h1 hst
   replace h1:SatG Tryz.prog tab 12 [] [x.av] [] (.tup [S (strOf []),I 3]):=h1
   replace hst:fmtL l=none:=hst
   rw[e0,hst]
   refine uR ?_;intro K hK
   refine uH ?_
   refine callF uTS (h1) uTS uTS uTS ?_;refine uS ?_
   refine hK _ ?_;clear hK K
   repeat refine uA ?_
   refine uT ?_
   repeat refine uA ?_
   refine awp_ret ?_;rw[show Tryz.f21.results.toList=[.tmp 2, .tmp 3] from rfl];first|refine uRN ?_|exact uRM
   rfl
  |some t=>
   rw[hln] at h1 hst
   replace h1:SatG Tryz.prog tab 12 [] [x.av] [] (.tup [S (strOf t),I 0]):=h1
   have htl:=hll t hln
   have w1:=bdWS_sat acc t (by omega)
   have w2:=bdWB_sat (acc++t) 10 (by rw[List.length_append];omega)
   refine uR ?_;intro K hK
   refine uH ?_
   refine callF uTS (h1) uTS uTS uTS ?_;refine uS ?_
   refine hK _ ?_;clear hK K
   repeat refine uA ?_
   refine uF ?_
   refine uR ?_;intro K hK
   refine uH ?_
   refine callE [(0,0,104,6)] [(104,6,0,0)] true (w1) uTR uTR uTE uTE uTE uTE uTE uTE uTE uTE uTE uTE uTE uTE uTE uTE uTE ?_;refine uQS ?_
   refine hK _ ?_;clear hK K
   refine uR ?_;intro K hK
   refine uH ?_
   refine callE [(0,0,104,6)] [(104,6,0,0)] true (w2) uTR uTR uTE uTE uTE uTE uTE uTE uTE uTE uTE uTE uTE uTE uTE uTE uTE ?_;refine uQS ?_
   refine hK _ ?_;clear hK K
   repeat refine uA ?_
   refine⟨(_,i+1,acc++(t++[10])),⟨by simp only;omega,by simp only[List.length_append,List.length_singleton];omega,hst⟩,by simp only;omega,uKF⟩
 ·refine awp_exit ?_
  have:i=l.length:=by omega
  subst this
  rw[List.drop_length] at hf
  replace hf:fmtL l=some acc:=by rw[hf];simp[fmtL]
  have w3:=bdLen_sat acc
  have w4:=bdStr_sat acc
  rw[e0,hf]
  refine uR ?_;intro K hK
  refine uH ?_
  refine callE [(0,0,104,6)] [(104,6,0,0)] true (w3) uTR uTR uTE uTE uTE uTE uTE uTE uTE uTE uTE uTE uTE uTE uTE uTE uTE ?_;refine uQS ?_
  refine hK _ ?_;clear hK K
  refine uW ?_;refine condP _ rfl (fun c1=>?_) (fun c1=>?_)
  ·have c1:65536<acc.length:=by omega
   simp only[if_pos c1]
   repeat refine uA ?_
   refine awp_ret ?_;rw[show Tryz.f21.results.toList=[.tmp 2, .tmp 3] from rfl];first|refine uRN ?_|exact uRM
   rfl
  ·have c1:¬65536<acc.length:=by omega
   simp only[if_neg c1]
   refine uR ?_;intro K hK
   refine uH ?_
   refine callE [(0,0,104,6)] [(104,6,0,0)] true (w4) uTR uTR uTE uTE uTE uTE uTE uTE uTE uTE uTE uTE uTE uTE uTE uTE uTE ?_;refine uQS ?_
   refine hK _ ?_;clear hK K
   refine awp_ret ?_;rw[show Tryz.f21.results.toList=[.tmp 2, .tmp 3] from rfl];first|refine uRN ?_|exact uRM
open Go.Scr
def parseR:Nat->List Acx->Bs->List Acx×Int×Int
 |0,out,_=>(out,0,0)
 |f+1,out,s=>
  if s=[] then(out,0,0)
  else if 500<=out.length then([],out.length+1,2)
  else match parseS (Lib.cut s [10]).1 with
   |none=>([],out.length+1,3)
   |some x=>if(Lib.cut s [10]).2.2 then parseR f (out++[x]) (Lib.cut s [10]).2.1 else([],out.length+1,3)
def parseTS (s:Bs):List Acx×Int×Int:=if 65536<s.length then([],0,2) else parseR s.length [] s
theorem cut_parts (s:Bs):(Lib.cut s [10]).1.length<=s.length/\(Lib.cut s [10]).1.count 32<=s.count 32/\(Lib.cut s [10]).2.1.count 32<=s.count 32/\((Lib.cut s [10]).2.2=true->(Lib.cut s [10]).2.1.length<s.length):=by
 rcases firstOf 10 s with h|⟨w,r,rfl,h⟩
 ·rw[cut_not h]
  exact⟨Nat.le_refl _,Nat.le_refl _,Nat.zero_le _,nofun⟩
 ·rw[cut_at h]
  simp only[List.length_append,List.length_cons,List.count_append,List.count_cons]
  refine⟨by omega,by omega,by omega,fun _=>by omega⟩
theorem parse_sat (s:Bs) (hl:s.length<=1000000) (hc:s.count 32<=999):SatG Tryz.prog tab 24 [] [S (strOf s)] [] (.tup [.sl (acts (parseTS s).1) false,I (parseTS s).2.1,I (parseTS s).2.2]):=by
 refine uFN Tryz.func24 Tryz.ntmps24 ?_;intro w e X hC
 repeat refine uA ?_
 refine uW ?_;refine condP _ rfl (fun c0=>?_) (fun c0=>?_)
 ·have e:parseTS s=([],0,2):=by unfold parseTS;rw[if_pos (by omega)]
  rw[e]
  repeat refine uA ?_
  refine awp_ret ?_;rw[show Tryz.f24.results.toList=[.tmp 2, .tmp 3, .tmp 4] from rfl];first|refine uRN ?_|exact uRM
  rfl
 have e0:parseTS s=parseR s.length [] s:=by unfold parseTS;rw[if_neg (by omega)]
 rw[e0]
 generalize hT:parseR s.length [] s=T
 repeat refine uA ?_
 refine uW ?_
 refine awp_loopW (fun i:Nat×Nat×List Acx×Bs=>⟨[(0,S (strOf i.2.2.2)),(2, .slO 102 1 0 0),(3,I 0),(4,I 0),(5, .slO 105 7 0 i.2.2.1.length)],[(105,some (7, .own 30 23 (acts i.2.2.1))),(102,some (1, .own 30 23 []))],i.1⟩) (fun i=>i.2.2.2.length<=i.2.1/\i.2.2.2.length<=s.length/\i.2.2.2.count 32<=999/\i.2.2.1.length<=500/\parseR i.2.1 i.2.2.1 i.2.2.2=T) (fun i=>i.2.2.2.length) (_,s.length,[],s) ⟨Nat.le_refl _,Nat.le_refl _,hc,Nat.zero_le _,hT⟩ (uKF) ?_
 rintro⟨ck,n,out,t⟩ ⟨h1,h2,h3,h4,h5⟩
 simp only at h1 h2 h3 h4 h5
 repeat refine uA ?_
 refine uW ?_;refine condP _ rfl (fun h=>?_) (fun h=>?_)
 ·obtain⟨n,rfl⟩:∃k,n=k+1:=⟨n - 1,by omega⟩
  have ht:t≠[]:=fun h0=>by rw[h0] at h;simp at h
  rw[parseR,if_neg ht] at h5
  repeat refine uA ?_
  refine uW ?_;refine condP _ rfl (fun c1=>?_) (fun c1=>?_)
  ·rw[if_pos (by omega)] at h5
   rw[<-h5]
   repeat refine uA ?_
   refine awp_ret ?_;rw[show Tryz.f24.results.toList=[.tmp 2, .tmp 3, .tmp 4] from rfl];first|refine uRN ?_|exact uRM
   rfl
  rw[if_neg (by omega)] at h5
  obtain⟨q1,q2,q3,q4⟩:=cut_parts t
  have k1:=cut_sat t [10] (by omega)
  have k2:=parseline_sat (Lib.cut t [10]).1 (by omega) (by omega)
  generalize Lib.cut t [10]=u at*
  obtain⟨a,b,ended⟩:=u
  simp only at q1 q2 q3 q4 k2 h5
  refine uR ?_;intro K hK
  refine uH ?_
  refine callF uTS (k1) uTS uTS uTS ?_;refine uS ?_
  refine hK _ ?_;clear hK K
  cases hp:parseS a with
  |none=>
   rw[hp] at k2 h5
   replace k2:SatG Tryz.prog tab 16 [] [S (strOf a)] [] (.tup [(A0 0).av,I 3]):=k2
   simp only at h5
   rw[<-h5]
   refine uR ?_;intro K hK
   refine uH ?_
   refine callP uTS (k2) uTS uTS uTS ?_;refine uS ?_
   refine uH ?_
   refine hK _ ?_;clear hK K
   cases ended with
   |true=>
    repeat refine uA ?_
    refine uT ?_
    repeat refine uA ?_
    refine awp_ret ?_;rw[show Tryz.f24.results.toList=[.tmp 2, .tmp 3, .tmp 4] from rfl];first|refine uRN ?_|exact uRM
    rfl
   |false=>
    repeat refine uA ?_
    refine uT ?_
    repeat refine uA ?_
    refine awp_ret ?_;rw[show Tryz.f24.results.toList=[.tmp 2, .tmp 3, .tmp 4] from rfl];first|refine uRN ?_|exact uRM
    rfl
  |some x=>
   rw[hp] at k2 h5
   replace k2:SatG Tryz.prog tab 16 [] [S (strOf a)] [] (.tup [x.av,I 0]):=k2
   simp only at h5
   refine uR ?_;intro K hK
   refine uH ?_
   refine callP uTS (k2) uTS uTS uTS ?_;refine uS ?_
   refine uH ?_
   refine hK _ ?_;clear hK K
   cases ended with
   |false=>
    rw[if_neg (by decide)] at h5
    rw[<-h5]
    repeat refine uA ?_
    refine uT ?_
    repeat refine uA ?_
    refine awp_ret ?_;rw[show Tryz.f24.results.toList=[.tmp 2, .tmp 3, .tmp 4] from rfl];first|refine uRN ?_|exact uRM
    rfl
   |true=>
    rw[if_pos rfl] at h5
    have q5:=q4 rfl
    repeat refine uA ?_
    refine uF ?_
    have hsn:acts out++[x.av]=acts (out++[x]):=acts_snoc
    have hln:(out++[x]).length=out.length+1:=by simp
    repeat refine uA1 @hsn ?_
    refine⟨(_,n,out++[x],b),⟨by simp only;omega,by simp only;omega,by simp only;omega,by simp only[List.length_append,List.length_singleton];omega,h5⟩,by simp only;omega, .of (Nat.le_refl _) (uHF1 (uI @hsn @hln)) (uWF1 @hln)⟩
 ·refine awp_exit ?_
  have ht:t=[]:=List.eq_nil_of_length_eq_zero (by omega)
  subst ht
  have h6:T=(out,0,0):=by
   rw[<-h5]
   cases n<;>simp[parseR]
  rw[h6]
  repeat refine uA ?_
  refine awp_ret ?_;rw[show Tryz.f24.results.toList=[.tmp 2, .tmp 3, .tmp 4] from rfl];first|refine uRN ?_|exact uRM
end Go.Proofs.YtokkbonoplbiaaaGreatDoor
namespace Go.Scr
open Go Go.Lib
theorem swap_back2 {s:Bs} (h:(124:UInt8)∉s):swapB 124 10 (swapB 10 124 s)=s:=by
 unfold swapB
 rw[List.map_map]
 conv=>rhs;rw[<-List.map_id s]
 refine List.map_congr_left fun x hx=>?_
 simp only[Function.comp_apply,id_eq]
 have hx':x≠124:=fun e=>h (by rw[<-e];exact hx)
 by_cases h1:x=10
 ·rw[if_pos h1,if_pos rfl,h1]
 ·rw[if_neg h1,if_neg hx']
def msgA (t:Bs):Acx:={A0 3 with txt:=t}
theorem only_msg (t:Bs):only (msgA t)=msgA t:=rfl
theorem line_msg {t:Bs} (h:txtB t=true):lineS (msgA t)=some (sMessage++32::swapB 10 124 t):=by
 have hw:wAct ([],false) (msgA t)=([sMessage,swapB 10 124 t],false):=by
  show wMsg (wWord ([],false) sMessage) t=_
  unfold wMsg wWord
  rw[h];rfl
 unfold lineS
 rw[hw,if_pos ⟨by show(1:Int)<=3;decide,by show(3:Int)<=14;decide,(only_msg t).symm,rfl⟩,join_cons2 32 sMessage (by simp),join_one]
theorem msg_no:(32:UInt8)∉sMessage:=by decide
theorem parse_msg {t:Bs} (h:txtB t=true) (hb:(124:UInt8)∉t):parseS (sMessage++32::swapB 10 124 t)=some (msgA t):=by
 generalize hs:sMessage++32::swapB 10 124 t=s
 have hn:(rd0 s).next=(sMessage,⟨s,splitL 32 (swapB 10 124 t),false⟩):=by
  unfold rd0
  rw[<-hs,splitL_cons msg_no];rfl
 have hc:cut s [32]=(sMessage,swapB 10 124 t,true):=by rw[<-hs];exact cut_at msg_no
 have ha:(rd0 s).act=(msgA t,⟨s,[],false⟩):=by
  unfold Rd.act
  rw[hn]
  simp only
  rw[if_neg (by decide),if_neg (by decide),if_pos trivial]
  unfold Rd.message
  simp only[hc]
  rw[swap_back2 hb];rfl
 unfold parseS
 rw[ha]
 simp only
 rw[if_pos ⟨trivial,trivial,by rw[line_msg h,hs]⟩]
theorem line_crash:lineS (A0 14)=some sCrash:=by decide+kernel
theorem parse_crash:parseS sCrash=some (A0 14):=by decide+kernel
def exA:Acx:={A0 1 with lost:=true,mv:=[⟨1,3,0⟩]}
def exL:Bs:=[116,105,99,107,32,108,111,115,116,32,115,116,105,99,107,58,51,58,48]
def exM:Bs:=[109,101,115,115,97,103,101,32,66,83,77,124,69,78,68,66,83,77,124]
def exT:Bs:=[116,105,99,107,32,109,105,115,115,58,48,58,48,32,115,116,105,99,107,58,51,58,48]
def exV:Bs:=[118,101,114,100,105,99,116,32,48,55,32,99,108,101,97,114]
theorem ex_line:lineS exA=some exL:=by decide+kernel
theorem ex_msg:parseS exM=some (msgA [66,83,77,10,69,78,68,66,83,77,10]):=by decide+kernel
theorem ex_tick:parseS exT=none:=by decide+kernel
theorem ex_verdict:parseS exV=none:=by decide+kernel
end Go.Scr
namespace Go.Proofs.YtokkbonoplbiaaaGreatDoor
open Go Go.Sym
open Go.Scr
theorem count_exM:exM.count 32<=999:=by decide
theorem count_exT:exT.count 32<=999:=by decide
theorem count_exV:exV.count 32<=999:=by decide
theorem sm_exA:SmA exA:=⟨by decide,by decide,by decide,by decide,by decide,by decide,by decide⟩
theorem awake_sat:SatG Tryz.prog tab 19 [] [] [] (B true):=by
 have h1:=line_sat exA sm_exA
 rw[ex_line] at h1
 replace h1:SatG Tryz.prog tab 12 [] [exA.av] [] (.tup [S (strOf exL),I 0]):=h1
 have h2:=parseline_sat exM (by decide) count_exM
 rw[ex_msg] at h2
 replace h2:SatG Tryz.prog tab 16 [] [S (strOf exM)] [] (.tup [(msgA [66,83,77,10,69,78,68,66,83,77,10]).av,I 0]):=h2
 have h3:=parseline_sat exT (by decide) count_exT
 rw[ex_tick] at h3
 replace h3:SatG Tryz.prog tab 16 [] [S (strOf exT)] [] (.tup [(A0 0).av,I 3]):=h3
 have h4:=parseline_sat exV (by decide) count_exV
 rw[ex_verdict] at h4
 replace h4:SatG Tryz.prog tab 16 [] [S (strOf exV)] [] (.tup [(A0 0).av,I 3]):=h4
 refine uFN Tryz.func19 Tryz.ntmps19 ?_;intro w e X hC
 repeat refine uA ?_
 refine uR ?_;intro K hK
 refine uH ?_
 refine callE [] [] false (h1) uTR uTR uTE uTE uTE uTE uTE uTE uTE uTE uTE uTE uTE uTE uTE uTE uTE ?_;refine uQS ?_
 refine hK _ ?_;clear hK K
 refine uR ?_;intro K hK
 refine uH ?_
 refine callP uTS (h2) uTS uTS uTS ?_;refine uS ?_
 refine uH ?_
 refine hK _ ?_;clear hK K
 refine uR ?_;intro K hK
 refine uH ?_
 refine callP uTS (h3) uTS uTS uTS ?_;refine uS ?_
 refine uH ?_
 refine hK _ ?_;clear hK K
 refine uR ?_;intro K hK
 refine uH ?_
 refine callP uTS (h4) uTS uTS uTS ?_;refine uS ?_
 refine uH ?_
 refine hK _ ?_;clear hK K
 have e1:decide (exL=[116,105,99,107,32,108,111,115,116,32,115,116,105,99,107,58,51,58,48])=true:=decide_eq_true rfl
 have e2:decide ((msgA [66,83,77,10,69,78,68,66,83,77,10]).k=3)=true:=decide_eq_true rfl
 have e3:decide ((msgA [66,83,77,10,69,78,68,66,83,77,10]).txt=[66,83,77,10,69,78,68,66,83,77,10])=true:=decide_eq_true rfl
 repeat refine uA1 (uI @e1 (uI @e2 @e3)) ?_
 (refine awp_ret (ret1 uRT ?_);try rfl)
end Go.Proofs.YtokkbonoplbiaaaGreatDoor
namespace Go.Scr
open Go Go.Lib
def cr:Bs:=sCrash++[10]
theorem cr_next (i:Nat):repeatL cr i++cr=repeatL cr (i+1):=by
 rw[repeatL_add cr i 1,repeatL_one]
theorem cr_len (i:Nat):(repeatL cr i).length=6*i:=by
 rw[repeatL_length,Nat.mul_comm];rfl
theorem cr_cut (s:Bs):cut (cr++s) [10]=(sCrash,s,true):=by
 have:cr++s=sCrash++10::s:=by simp[cr]
 rw[this]
 exact cut_at (by decide)
end Go.Scr
namespace Go.Proofs.YtokkbonoplbiaaaGreatDoor
open Go Go.Sym
open Go.Scr
theorem fmtL_crash:∀i,fmtL (List.replicate i (A0 14))=some (Lib.repeatL cr i)
 |0=>rfl
 |i+1=>by
  rw[List.replicate_succ,fmtL,line_crash]
  simp only[fmtL_crash i,Option.map_some]
  rfl
theorem formatS_crash (n:Nat) (hn:n<=1000):formatS (List.replicate n (A0 14))=if 500<n then([],2) else(Lib.repeatL cr n,0):=by
 unfold formatS
 rw[List.length_replicate,fmtL_crash]
 by_cases h:500<n
 ·rw[if_pos h,if_pos h]
 ·rw[if_neg h,if_neg h]
  have:=cr_len n
  show(if 65536<(Lib.repeatL cr n).length then _ else _)=_
  rw[if_neg (by omega)]
theorem parseR_crash:∀(m f:Nat) (out:List Acx),m<=f->out.length<=500->parseR f out (Lib.repeatL cr m)=if out.length+m<=500 then(out++List.replicate m (A0 14),0,0) else([],501,2)
 |0,f,out,_,h=>by
  rw[if_pos (by omega)]
  cases f with
  |zero=>simp[parseR]
  |succ f=>rw[parseR,if_pos (show Lib.repeatL cr 0=[] from rfl)];simp
 |m+1,0,out,h,_=>absurd h (by omega)
 |m+1,f+1,out,h,ho=>by
  have hne:Lib.repeatL cr (m+1)≠[]:=fun e=>by
   have:=cr_len (m+1)
   rw[e] at this
   simp at this
  rw[parseR,if_neg hne]
  by_cases h5:500<=out.length
  ·have h6:out.length=500:=by omega
   rw[if_pos h5,if_neg (by omega),h6]
   rfl
  ·rw[if_neg h5]
   have hc:Lib.cut (Lib.repeatL cr (m+1)) [10]=(sCrash,Lib.repeatL cr m,true):=cr_cut _
   rw[hc]
   simp only[parse_crash,if_true]
   rw[parseR_crash m f (out++[A0 14]) (by omega) (by simp;omega)]
   simp only[List.length_append,List.length_singleton]
   by_cases h7:out.length+1+m<=500
   ·rw[if_pos h7,if_pos (by omega),List.replicate_succ];simp
   ·rw[if_neg h7,if_neg (by omega)]
theorem parseTS_crash (n:Nat) (hn:n<=1000):parseTS (Lib.repeatL cr n)=if n<=500 then(List.replicate n (A0 14),0,0) else([],501,2):=by
 unfold parseTS
 have hl:=cr_len n
 rw[if_neg (by omega),parseR_crash n _ [] (by omega) (Nat.zero_le _)]
 simp
def txA (k:Nat):Bs:=List.replicate k 65
theorem txA_ok (k:Nat):txtB (txA k)=true:=by
 unfold txtB txA
 rw[List.all_replicate]
 split<;>first|rfl|decide
theorem txA_no (k:Nat) (c:UInt8) (h:c≠65):c∉txA k:=by
 unfold txA
 intro hm
 exact h (List.eq_of_mem_replicate hm)
theorem txA_swap (k:Nat):swapB 10 124 (txA k)=txA k:=swapB_not (txA_no k 10 (by decide))
theorem txA_len (k:Nat):(txA k).length=k:=by simp[txA]
def msT (k:Nat):Bs:=sMessage++32::txA k++[10]
theorem msT_len (k:Nat):(msT k).length=k+9:=by
 simp[msT,txA_len,sMessage]
theorem formatS_msg (k:Nat):formatS [msgA (txA k)]=if 65536<k+9 then([],2) else(msT k,0):=by
 have h:=line_msg (txA_ok k)
 rw[txA_swap] at h
 unfold formatS
 rw[if_neg (by show ¬500<1;decide)]
 have hf:fmtL [msgA (txA k)]=some (msT k):=by
  rw[fmtL,h]
  simp only[fmtL,Option.map_some]
  simp[msT]
 rw[hf]
 show(if 65536<(msT k).length then _ else _)=_
 rw[msT_len]
theorem parseTS_msg (k:Nat):parseTS (msT k)=if 65536<k+9 then([],0,2) else([msgA (txA k)],0,0):=by
 unfold parseTS
 rw[msT_len]
 by_cases hk:65536<k+9
 ·rw[if_pos hk,if_pos hk]
 ·rw[if_neg hk,if_neg hk]
  have hp:=parse_msg (txA_ok k) (txA_no k 124 (by decide))
  rw[txA_swap] at hp
  have hne:msT k≠[]:=fun e=>by
   have:=msT_len k
   rw[e] at this
   simp at this
  have hc:Lib.cut (msT k) [10]=(sMessage++32::txA k,[],true):=by
   unfold msT
   refine cut_at (fun h=>?_)
   rcases List.mem_append.1 h with h|h
   ·exact absurd h (by decide)
   ·rcases List.mem_cons.1 h with h|h
    ·exact absurd h (by decide)
    ·exact txA_no k 10 (by decide) h
  rw[parseR,if_neg hne,if_neg (by decide),hc]
  simp only[hp,if_true]
  cases k+8<;>simp[parseR]
theorem msT_count (k:Nat):(msT k).count 32<=999:=by
 unfold msT
 rw[List.count_append,List.count_append,List.count_cons,List.count_eq_zero_of_not_mem (txA_no k 32 (by decide)),List.count_eq_zero_of_not_mem msg_no]
 decide
theorem cr_count (n:Nat):(Lib.repeatL cr n).count 32=0:=by
 refine List.count_eq_zero_of_not_mem fun h=>?_
 induction n with
 |zero=>cases h
 |succ n ih=>
  rcases List.mem_append.1 h with h|h
  ·exact absurd h (by decide)
  ·exact ih h
open Go.Scr
theorem ObW_own {hp hp':Hp} {t k:Nat} {es es':List AV} (h:es'=es.map (mapc (fzk hp))) (h1:∀e∈es,∀c∈e.cells,fzkP hp c) (h2:∀i∈es.flatMap (fun e=>e.cells.flatMap (fzkR hp)),hp'.get i=none):ObW hp hp' (.own t k es) (.own t k es'):=by
 subst h
 exact .own t k es h1 h2
def SLc:AV->Prop
 | .lit _| .sl _ _| .gl _=>True
 |_=>False
theorem fzk_ok {es:List AV} (h:∀e∈es,∀c∈e.cells,SLc c) (hp:Hp):(∀e∈es,∀c∈e.cells,fzkP hp c)/\(es.flatMap fun e=>e.cells.flatMap (fzkR hp))=[]:=by
 refine⟨fun e he c hc=>?_,fm_nil fun e he=>fm_nil fun c hc=>?_⟩
 ·have:=h e he c hc
  cases c<;>first|exact this.elim|trivial
 ·have:=h e he c hc
  cases c<;>first|exact this.elim|rfl
theorem crash_cells (i:Nat):∀e∈acts (List.replicate i (A0 14))++[AV.agg [I 14, .sl [] true, .sl [] true,B false,I 0,I 0,I 0,I 0,I 0,B false, .lit (.string .empty),I 0,I 0, .lit (.string .empty),I 0, .lit (.string .empty),I 0,I 0,I 0, .lit (.string .empty),I 0, .lit (.string .empty),I 0]],∀c∈e.cells,SLc c:=by
 intro e he c hc
 rcases List.mem_append.1 he with he|he
 ·have:=of_eq_true (PE_acts _) e he c hc
  cases c<;>first|exact this.elim|trivial
 ·rw[List.mem_singleton.1 he] at hc
  simp only[AV.cells,List.mem_cons,List.not_mem_nil,or_false] at hc
  rcases hc with rfl|rfl|rfl|rfl|rfl|rfl|rfl|rfl|rfl|rfl|rfl|rfl|rfl|rfl|rfl|rfl|rfl|rfl|rfl|rfl|rfl|rfl|rfl<;>trivial
theorem zero_byts (k:Nat):byts (txA 0++List.replicate k 0)=List.replicate k (.lit (.int .u8 0)):=by
 simp[txA,byts,byteE]
theorem txA_step {j k:Nat} (h:j<k):(byts (txA j++List.replicate (k - j) 0)).set j (.lit (.int .u8 65))=byts (txA (j+1)++List.replicate (k - (j+1)) 0):=by
 rw[byts_set (by decide) (by decide)]
 congr 1
 have e:k - j=(k - (j+1))+1:=by omega
 rw[e,List.replicate_succ,List.set_append_right _ _ (by rw[txA_len];exact Nat.le_refl _),txA_len,Nat.sub_self,List.set_cons_zero]
 unfold txA
 rw[List.replicate_succ']
 simp
theorem limits_sat (x long:Int) (hx:I64 x) (hl:I64 long):SatG Tryz.prog tab 6 [] [I x,I long] [] (B true):=by
 have m1:=mod_sat x 5 hx (by decide)
 have m2:=mod_sat long 5 hl (by decide)
 have b1:=modI_lt (x:=x) (n:=5) (by decide)
 have b2:=modI_lt (x:=long) (n:=5) (by decide)
 obtain⟨u,hu⟩:∃u:Nat,modI x 5=u:=⟨(modI x 5).toNat,by omega⟩
 obtain⟨v,hv⟩:∃v:Nat,modI long 5=v:=⟨(modI long 5).toNat,by omega⟩
 rw[hu] at m1 b1
 rw[hv] at m2 b2
 have ea:498+(u:Int)=((498+u:Nat):Int):=by omega
 have eb:65525+(v:Int)=((65525+v:Nat):Int):=by omega
 generalize hN:498+u=N at*
 generalize hK:65525+v=k at*
 refine uFN Tryz.func6 Tryz.ntmps6 ?_;intro w e X hC
 repeat refine uA ?_
 refine uR ?_;intro K hK
 refine uH ?_
 refine callF uTS (m1) uTS uTS uTS ?_;refine uS ?_
 first|refine uS1 @ea ?_|exact uX1 @ea
 refine uH ?_
 refine hK _ ?_;clear hK K
 repeat refine uA ?_
 refine uW ?_
 refine awp_loopW (fun i:Nat×Nat=>⟨[(0,I N),(1,I long),(4,B false),(5, .slO 105 6 0 i.2),(6,S (strOf (Lib.repeatL cr i.2))),(7,I i.2)],[(105,some (6, .own 30 23 (acts (List.replicate i.2 (A0 14)))))],i.1⟩) (fun i=>i.2<=N) (fun i=>N - i.2) (_,0) (Nat.zero_le _) (uKF) ?_
 rintro⟨ck,i⟩ hi
 simp only at hi
 have hcl:=cr_len i
 repeat refine uA ?_
 refine uW ?_;refine condP _ rfl (fun h=>?_) (fun h=>?_)
 ·have hlt:i<N:=by omega
  have hs:strOf (Lib.repeatL cr i)++({data:=#[99,114,97,115,104,10]}:ByteArray)=strOf (Lib.repeatL cr (i+1)):=by
   rw[show({data:=#[99,114,97,115,104,10]}:ByteArray)=strOf cr from rfl,str_app,cr_next]
  have hrep:(List.replicate i (A0 14)).length=i:=by simp
  repeat refine uA1 (uI @hs @hrep) ?_
  refine⟨(_,i+1),by simp only;omega,by simp only;omega, .of (Nat.le_refl _) (HOk.less rfl (ObW_own ?_ ?_ ?_) .nil) uWF⟩
  ·rw[List.map_append,pe_fzk (of_eq_true (PE_acts _))]
   rw[List.replicate_succ',<-acts_snoc]
   rfl
  ·exact(fzk_ok (crash_cells i) _).1
  ·rw[(fzk_ok (crash_cells i) _).2]
   exact fun q hq=>by cases hq
 ·refine awp_exit ?_
  have:i=N:=by omega
  subst this
  have hli:i<=1000:=by omega
  have f1:=format_sat (List.replicate i (A0 14)) (by rw[List.length_replicate];omega) (fun y hy=>by rw[List.eq_of_mem_replicate hy];exact SmA.zero)
  have p1:=parse_sat (Lib.repeatL cr i) (by omega) (by rw[cr_count];decide)
  have f2:=formatS_crash i hli
  have p2:=parseTS_crash i hli
  generalize formatS (List.replicate i (A0 14))=F at*
  generalize parseTS (Lib.repeatL cr i)=PT at*
  refine uR ?_;intro K hK
  refine uH ?_
  refine callE [] [] true (f1) uTR uTR uTE uTE uTE uTE uTE uTE uTE uTE uTE uTE uTE uTE uTE uTE uTE ?_;refine uQS ?_
  refine hK _ ?_;clear hK K
  refine uR ?_;intro K hK
  refine uH ?_
  refine callP uTS (p1) uTS uTS uTS ?_;refine uS ?_
  refine uH ?_
  refine hK _ ?_;clear hK K
  refine awp_seq ?_
  refine awp_merge (fun q:Nat=>⟨[(1,I long),(4,B false)],[],q⟩) (fun _=>True) ?_ ?_
  ·by_cases h5:500<i
   ·rw[if_pos h5] at f2
    rw[if_neg (by omega)] at p2
    subst f2
    subst p2
    have e0:decide (500<(i:Int))=true:=decide_eq_true (by omega)
    repeat first|refine uC ?_|refine uA1 @e0 ?_
    refine uW ?_
    refine⟨_,trivial,uKF⟩
   ·rw[if_neg h5] at f2
    rw[if_pos (by omega)] at p2
    subst f2
    subst p2
    have e0:decide (500<(i:Int))=false:=decide_eq_false (by omega)
    repeat first|refine uC ?_|refine uA1 @e0 ?_
    refine uW ?_
    refine⟨_,trivial,uKF⟩
  intro ck2 _
  refine uR ?_;intro K hK
  refine uH ?_
  refine callF uTS (m2) uTS uTS uTS ?_;refine uS ?_
  first|refine uS1 @eb ?_|exact uX1 @eb
  refine uH ?_
  refine hK _ ?_;clear hK K
  repeat refine uA ?_
  refine uW ?_
  refine awp_loopW (fun j:Nat×Nat=>⟨[(4,B false),(13, .slO 191 (ck2+3) 0 k),(93,I k),(94,I j.2)],[(191,some (ck2+3, .own 5 1 (byts (txA j.2++List.replicate (k - j.2) 0))))],j.1⟩) (fun j=>j.2<=k) (fun j=>k - j.2) (_,0) (Nat.zero_le _) (.of (Nat.le_refl _) (uHF1 (uI @zero_byts @Nat.sub_zero)) uWF) ?_
  rintro⟨ck3,j⟩ hj
  simp only at hj
  have hjl:(txA j).length+(k - j)=k:=by rw[txA_len];omega
  repeat refine uA ?_
  refine uW ?_;refine condP _ rfl (fun h3=>?_) (fun h3=>?_)
  ·have hlt:j<k:=by omega
   have hset:=txA_step hlt
   repeat refine uA1 (uI @hjl @hset) ?_
   refine⟨(_,j+1),by simp only;omega,by simp only;omega,uKF⟩
  ·refine awp_exit ?_
   have:j=k:=by omega
   subst this
   have hz:txA j++List.replicate (j - j) 0=txA j:=by rw[Nat.sub_self];exact List.append_nil _
   rw[hz]
   have q1:=format_sat [msgA (txA j)] (by show 1<=1000000;decide) (fun y hy=>by
    rw[List.mem_singleton.1 hy]
    exact⟨Nat.zero_le _,Nat.zero_le _,by show(txA j).length<=_;rw[txA_len];omega,Nat.zero_le _,Nat.zero_le _,Nat.zero_le _,Nat.zero_le _⟩)
   have q2:=formatS_msg j
   have q3:=parse_sat (msT j) (by rw[msT_len];omega) (msT_count j)
   have q4:=parseTS_msg j
   have hstr:({data:=#[109,101,115,115,97,103,101,32]}:ByteArray)++strOf (txA j)++({data:=#[10]}:ByteArray)=strOf (msT j):=by
    rw[show({data:=#[109,101,115,115,97,103,101,32]}:ByteArray)=strOf (sMessage++[32]) from rfl,show({data:=#[10]}:ByteArray)=strOf [10] from rfl,str_app,str_app]
    simp[msT]
   have htl:=txA_len j
   have haw:=awake_sat
   generalize formatS [msgA (txA j)]=F2 at*
   generalize parseTS (msT j)=P2 at*
   repeat refine uA ?_
   refine uR ?_;intro K hK
   refine uH ?_
   refine callE [] [] true (q1) uTR uTR uTE uTE uTE uTE uTE uTE uTE uTE uTE uTE uTE uTE uTE uTE uTE ?_;refine uQS ?_
   refine hK _ ?_;clear hK K
   refine uR1 @hstr ?_;intro K hK
   refine uH ?_
   refine callP uTS (q3) uTS uTS uTS ?_;refine uS ?_
   refine uH ?_
   refine hK _ ?_;clear hK K
   by_cases h9:65536<j+9
   ·rw[if_pos h9] at q2 q4
    subst q2
    subst q4
    have e9:decide (65536<(j:Int)+9)=true:=decide_eq_true (by omega)
    have z0:decide (((0:Nat):Int)=0)=true:=decide_eq_true rfl
    repeat first|refine uC ?_|refine uA1 @e9 ?_
    refine uR1 @z0 ?_;intro K hK
    refine uH ?_
    refine callF uTS (haw) uTS uTS uTS ?_;refine uS ?_
    refine hK _ ?_;clear hK K
    (refine awp_ret (ret1 uRT ?_);try rfl)
   ·rw[if_neg h9] at q2 q4
    subst q2
    subst q4
    have e9:decide (65536<(j:Int)+9)=false:=decide_eq_false (by omega)
    have z1:decide (((1:Nat):Int)=1)=true:=decide_eq_true rfl
    have z2:decide (((msT j).length:Int)=(j:Int)+9)=true:=decide_eq_true (by rw[msT_len];omega)
    have z3:decide ((msgA (txA j)).txt=txA j)=true:=decide_eq_true rfl
    have z4:(acts [msgA (txA j)]).getD 0 .bad=(msgA (txA j)).av:=rfl
    repeat first|refine uC ?_|refine uA1 @e9 ?_
    refine uE1 (uI @z1 (uI @z2 (uI @z3 @z4))) ?_;intro K hK
    refine uH ?_
    refine callF uTS (haw) uTS uTS uTS ?_;refine uS ?_
    refine hK _ ?_;clear hK K
    (refine awp_ret (ret1 uRT ?_);try rfl)
end Go.Proofs.YtokkbonoplbiaaaGreatDoor
