/- Lemmas towards scriptTexts_card: no conditions of their own beyond those that each one states. -/
import Derived.Test.YtokkbonoplbiaaaGreatDoorA7
import Derived.Lib.FrozenHead2
set_option linter.all false
set_option linter.unusedSimpArgs false
set_option linter.unusedVariables false
set_option linter.deprecated false
set_option linter.unusedVariables false
namespace Go.Proofs
open Go.Shelf Go.RowKit
def NewOrOld (w:World) (v v':Value):Prop:=∀k,v'.ownBlock=some k->v.ownBlock=some k\/w.heap.size<=k
section
variable {P:Program} (w:World)
theorem run_append_strX (t u ty e:TypeId) (i:TypeInfo) (ht:P.underlying t=some (.slice e)) (hu:P.underlying u=some .string) (hi:P.info? e=some i) (hz:i.zero=some (.int .u8 0))
  (hsize:i.size=1) (hby:i.bytes=1) (v:Value) (n:Nat) (xs:List Value) (hown:w.ownsRowF 0 e 1 v n xs) (s:ByteArray) (h63:n+s.size<=maxLen) (hbytes:n+s.size<=140737488355328):
  ∃v' w',(Builtin.append_ #[t,u] ty #[v, .string s]).run P w= .ok v' w'/\w'.ownsRowF 0 e 1 v' (n+s.size) (xs++Lib.strCells s)/\w.grownBy w' v.ownBlock/\(v'= .slice none 0 0↔v= .slice none 0 0/\s.size=0)/\NewOrOld w v v':=by
 obtain⟨v',w',hr,h2,h3,h4⟩:=Lib.run_append_own_stringF (P:=P) w 0 t u ty e i ht hu hi hz hsize hby v n xs hown s h63 hbytes (Nat.zero_le _)
 refine⟨v',w',hr,h2,h3,h4,fun k hk=>?_⟩
 rcases hown.2 with ⟨rfl,rfl⟩|⟨g,cap,cur,fz,rfl,hbg,hg,hfz,hnc,hcm,hcs,htake⟩
 ·obtain⟨v2,w2,hr2,k2,_⟩:=Lib.run_append_own_stringF (P:=P) w w.heap.size t u ty e i ht hu hi hz hsize hby (.slice none 0 0) 0 xs ⟨hown.1, .inl ⟨rfl,rfl⟩⟩ s h63 hbytes (Nat.le_refl _)
  rw[hr] at hr2
  cases hr2
  exact .inr (k2.lt k hk).1
 ·have hxl:xs.length=n:=by simpa using hown.1
  have hcs':cur.size=cap:=by simpa using hcs
  by_cases hroom:n+s.size<=cap
  ·have hr2:=Lib.run_append_room_stringF (P:=P) w t u ty e i ht hu hi hsize g n cap cur fz hg (by simpa using hfz) s hroom (by omega)
   rw[hr] at hr2
   cases hr2
   exact .inl hk
  ·have holds:∀j u,xs[j]?=some u->w.cell? ((⟨g,0,none⟩:Addr).add j)=some u:=hown.cells (g:=g) rfl
   have hr2:=Lib.run_append_grow_string (P:=P) w t u ty e i (.int .u8 0) ht hu hi hz ⟨g,0,none⟩ n cap xs (by rw[hsize];simpa using hxl) holds s (by omega) (by simp only[maxLen] at h63;omega) (by rw[hby];exact growslice_fits (by omega) (by omega))
   rw[hr] at hr2
   cases hr2
   simp only[Value.ownBlock,Option.some.injEq] at hk
   subst hk
   exact .inr (Nat.le_refl _)
theorem run_append_slX (t ty e:TypeId) (i:TypeInfo) (ht:P.underlying t=some (.slice e)) (hi:P.info? e=some i) (hz:i.zero=some (.int .u8 0))
  (hsize:i.size=1) (hby:i.bytes=1) (v:Value) (n:Nat) (xs:List Value) (hown:w.ownsRowF 0 e 1 v n xs) (a:Addr) (m c:Nat) (news:List Value) (hl:news.length=m*1) (hnews:∀j u,news[j]?=some u->w.cell? (a.add j)=some u) (h1:∀u∈news,u.oneCell'=true)
  (h63:n+m<=maxLen) (hbytes:(n+m)*1<=140737488355328):
  ∃v' w',(Builtin.append_ #[t,t] ty #[v, .slice (some a) m c]).run P w= .ok v' w'/\w'.ownsRowF 0 e 1 v' (n+m) (xs++news)/\w.grownBy w' v.ownBlock/\(v'= .slice none 0 0↔v= .slice none 0 0/\m=0)/\NewOrOld w v v':=by
 obtain⟨v',w',hr,h2,h3,h4⟩:=run_append_ownF (P:=P) w 0 t ty e i (.int .u8 0) 1 1 ht hi hz hsize hby rfl (by decide) v n xs hown a m c news hl hnews h1 h63 hbytes (Nat.zero_le _)
 refine⟨v',w',hr,h2,h3,h4,fun k hk=>?_⟩
 rcases hown.2 with ⟨rfl,rfl⟩|⟨g,cap,cur,fz,rfl,hbg,hg,hfz,hnc,hcm,hcs,htake⟩
 ·obtain⟨v2,w2,hr2,k2,_⟩:=run_append_ownF (P:=P) w w.heap.size t ty e i (.int .u8 0) 1 1 ht hi hz hsize hby rfl (by decide) (.slice none 0 0) 0 xs ⟨hown.1, .inl ⟨rfl,rfl⟩⟩ a m c news hl hnews h1 h63 hbytes (Nat.le_refl _)
  rw[hr] at hr2
  cases hr2
  exact .inr (k2.lt k hk).1
 ·have hxl:xs.length=n:=by simpa using hown.1
  have hcs':cur.size=cap:=by simpa using hcs
  by_cases hroom:n+m<=cap
  ·have hr2:=run_append_roomF (P:=P) w t ty e i ht hi g n cap cur fz hg (by rw[hsize];exact hfz) a m c news (by rw[hsize];exact hl) hnews h1 hroom (by rw[hsize,hl];omega)
   rw[hr] at hr2
   cases hr2
   exact .inl hk
  ·have holds:∀j u,xs[j]?=some u->w.cell? ((⟨g,0,none⟩:Addr).add j)=some u:=hown.cells (g:=g) rfl
   have hr2:=run_append_grow (P:=P) w t ty e i (.int .u8 0) ht hi hz ⟨g,0,none⟩ n cap xs (by rw[hsize];exact hown.1) holds a m c news (by rw[hsize];exact hl) hnews (by omega) (by simp only[maxLen] at h63;omega) (by rw[hby];exact growslice_fits (by omega) (by omega))
   rw[hr] at hr2
   cases hr2
   simp only[Value.ownBlock,Option.some.injEq] at hk
   subst hk
   exact .inr (Nat.le_refl _)
theorem wpList_append_strX {ops:Array Oper} {rest:List Oper} {o:Oper} {a:Act} {Q:Exit->Act->World->Prop} (hgd:o.guard=none) (sl x:Operand) (t u:TypeId)
  (ho:o.op= .call {callee:= .builtin .append,args:=#[sl,x],argTypes:=#[t,u]}) (e:TypeId) (i:TypeInfo) (ht:P.underlying t=some (.slice e)) (hu:P.underlying u=some .string) (hi:P.info? e=some i) (hz:i.zero=some (.int .u8 0))
  (hsize:i.size=1) (hby:i.bytes=1) (v:Value) (n:Nat) (xs:List Value) (hs:a.eval sl=v) (hown:w.ownsRowF 0 e 1 v n xs) (s:ByteArray) (hx:a.eval x= .string s) (h63:n+s.size<=maxLen) (hbytes:n+s.size<=140737488355328)
  (h:∀v' w',w'.ownsRowF 0 e 1 v' (n+s.size) (xs++Lib.strCells s)->w.grownBy w' v.ownBlock->(v'= .slice none 0 0↔v= .slice none 0 0/\s.size=0)->NewOrOld w v v'->wpList P ops Q rest (a.put o.dst v') w'):wpList P ops Q (o::rest) a w:=by
 refine wpList_plain hgd fun K hK=>?_
 obtain⟨v',w',hr,h2,h3,h4,h5⟩:=run_append_strX (P:=P) w t u o.type e i ht hu hi hz hsize hby v n xs hown s h63 hbytes
 unfold Oper.wp execOp
 simp only[ho,resolve,invoke,builtin,Sem.run_bind,Sem.run_pure,Result.andThen_ok,List.map_toArray,List.map_cons,List.map_nil,hs,hx,hr]
 exact hK _ _ (h v' w' h2 h3 h4 h5)
theorem wpList_append_slX {ops:Array Oper} {rest:List Oper} {o:Oper} {a:Act} {Q:Exit->Act->World->Prop} (hgd:o.guard=none) (sl x:Operand) (t:TypeId)
  (ho:o.op= .call {callee:= .builtin .append,args:=#[sl,x],argTypes:=#[t,t]}) (e:TypeId) (i:TypeInfo) (ht:P.underlying t=some (.slice e)) (hi:P.info? e=some i) (hz:i.zero=some (.int .u8 0))
  (hsize:i.size=1) (hby:i.bytes=1) (v:Value) (n:Nat) (xs:List Value) (hs:a.eval sl=v) (hown:w.ownsRowF 0 e 1 v n xs) (ad:Addr) (m c:Nat) (news:List Value) (hx:a.eval x= .slice (some ad) m c) (hl:news.length=m*1) (hnews:∀j u,news[j]?=some u->w.cell? (ad.add j)=some u) (h1:∀u∈news,u.oneCell'=true)
  (h63:n+m<=maxLen) (hbytes:(n+m)*1<=140737488355328)
  (h:∀v' w',w'.ownsRowF 0 e 1 v' (n+m) (xs++news)->w.grownBy w' v.ownBlock->(v'= .slice none 0 0↔v= .slice none 0 0/\m=0)->NewOrOld w v v'->wpList P ops Q rest (a.put o.dst v') w'):wpList P ops Q (o::rest) a w:=by
 refine wpList_plain hgd fun K hK=>?_
 obtain⟨v',w',hr,h2,h3,h4,h5⟩:=run_append_slX (P:=P) w t o.type e i ht hi hz hsize hby v n xs hown ad m c news hl hnews h1 h63 hbytes
 unfold Oper.wp execOp
 simp only[ho,resolve,invoke,builtin,Sem.run_bind,Sem.run_pure,Result.andThen_ok,List.map_toArray,List.map_cons,List.map_nil,hs,hx,hr]
 exact hK _ _ (h v' w' h2 h3 h4 h5)
end
structure BdAt (T e:TypeId) (b:Nat) (p v:Value) (n:Nat) (xs:List Value) (w:World):Prop where
 blk:w.heap[b]?=some (.cells #[p,v] T (0,0))
 own:w.ownsRowF 0 e 1 v n xs
 ne:v.ownBlock≠some b
structure BdFr (b:Nat) (v v':Value) (w w':World):Prop where
 os:w'.os=w.os
 tape:w'.tape=w.tape
 output:w'.output=w.output
 size:w.heap.size<=w'.heap.size
 block:∀k,k<w.heap.size->k≠b->some k≠v.ownBlock->w'.heap[k]?=w.heap[k]?
 new:NewOrOld w v v'
variable {P:Program} {ρ:Ren}
set_option maxHeartbeats 2000000 in
set_option maxRecDepth 100000 in
theorem bd_WriteString (L:Lays.n166 P ρ) (X:Builder.Extra P ρ) (b:Nat) (p v:Value) (hp:p= .pointer none\/p= .pointer (some ⟨b,0,none⟩)) (bs:List Value) (s:ByteArray) (w:World) (h:BdAt (ρ.t 72) (ρ.t 5) b p v bs.length bs w) (hlen:bs.length+s.size<=140737488355328):
  Calls P (ρ.f 166) #[.pointer (some ⟨b,0,none⟩), .string s] w fun e w'=>e= .returned (.tuple #[.int .i64 s.size, .nilIface])/\∃v',BdAt (ρ.t 72) (ρ.t 5) b (.pointer (some ⟨b,0,none⟩)) v' (bs.length+s.size) (bs++Lib.strCells s) w'/\(v'= .slice none 0 0↔v= .slice none 0 0/\s.size=0)/\BdFr b v v' w w':=by
 obtain⟨i0,hi,hz0,hz1,hz2⟩:=info_parts X.infoByte
 have mixed:=L.mixed
 have t72:=L.t72;have a72:=L.a72;have z72:=L.z72;have v72:=L.v72;have u72:=run_underlying L.t72
 have t70:=L.t70;have a70:=L.a70;have z70:=L.z70;have v70:=L.v70;have u70:=run_underlying L.t70
 have t37:=L.t37;have a37:=L.a37;have z37:=L.z37;have v37:=L.v37;have u37:=run_underlying L.t37
 have t3:=L.t3;have a3:=L.a3;have z3:=L.z3;have v3:=L.v3;have u3:=run_underlying L.t3
 have t9:=L.t9;have a9:=L.a9;have z9:=L.z9;have v9:=L.v9;have u9:=run_underlying L.t9
 have t4:=L.t4;have a4:=L.a4;have z4:=L.z4;have v4:=L.v4;have u4:=run_underlying L.t4
 have t164:=L.t164;have a164:=L.a164;have z164:=L.z164;have v164:=L.v164;have u164:=run_underlying L.t164
 have t5:=X.t5;have a5:=X.a5;have z5:=X.z5;have v5:=X.v5;have u5:=run_underlying X.t5
 have e240:∀args w,(callFunc (ρ.f 240) args).run P w= .ok (.enter (ρ.f 240) args) w:=enters_of L.f240 (by kernel_rfl) rfl
 have hA:Lib.IsBuilderF (ρ.t 72) (ρ.t 5) 0 b bs w:=by
  rcases hp with rfl|rfl
  ·exact .inl ⟨Nat.zero_le _,v,h.blk,h.own,h.ne⟩
  ·exact .inr ⟨Nat.zero_le _,v,h.blk,h.own,h.ne⟩
 have hcc:Calls P (ρ.f 240) #[.pointer (some ⟨b,0,none⟩)] w fun e w'=>e= .returned (.tuple #[])/\BdAt (ρ.t 72) (ρ.t 5) b (.pointer (some ⟨b,0,none⟩)) v bs.length bs w'/\BdFr b v v w w':=by
  rcases hp with rfl|rfl
  ·refine(Any.Builder_copyCheck_fresh {L with} X.toX72 b w (by rw[Lib.cell_of_heap h.blk];rfl) (by simp[World.shape?,h.blk]) (Lib.frozen_of_heap h.blk 0)).mono ?_
   rintro e w' ⟨rfl,rfl⟩
   have hk:∀k,k≠b->(w.setCell ⟨b,0,none⟩ (.pointer (some ⟨b,0,none⟩))).heap[k]?=w.heap[k]?:=fun k hk=>Below.heap_setCell _ _ _ _ hk
   refine⟨rfl,⟨by simp[World.setCell,Array.getElem?_modify,h.blk],h.own.kept (row:=some b) ⟨rfl,rfl,rfl,by simp[World.setCell],fun k _ hk=>Below.heap_setCell _ _ _ _ (fun e=>hk (by simp[e]))⟩ (.inr h.ne),h.ne⟩,⟨rfl,rfl,rfl,by simp[World.setCell],fun k _ hkb _=>hk k hkb,fun k hk=> .inl hk⟩⟩
  ·refine(Any.Builder_copyCheck_used {L with} X.toX72 b w (by rw[Lib.cell_of_heap h.blk];rfl)).mono ?_
   rintro e w' ⟨rfl,rfl⟩
   exact⟨rfl,h,⟨rfl,rfl,rfl,Nat.le_refl _,fun _ _ _ _=>rfl,fun k hk=> .inl hk⟩⟩
 go_enter L.f166,Body.n166_ntmps ρ
 go_wp2_with (go_at_fn (ρ.f 240);refine hcc.mono ?_)
 rintro e w1 ⟨rfl,h1,hf1⟩
 have hbk:=h1.blk
 have c0:w1.cell? ⟨b,0,none⟩=some (.pointer (some ⟨b,0,none⟩)):=by rw[Lib.cell_of_heap hbk];rfl
 have c1:w1.cell? ⟨b,1,none⟩=some v:=by rw[Lib.cell_of_heap hbk];rfl
 go_wp2_with (at_builtin;refine wpList_append_strX _ rfl _ _ (ρ.t 37) (ρ.t 9) rfl (ρ.t 5) i0 L.t37 L.t9 hi hz0 hz1 hz2 _ _ _ rfl h1.own s rfl ?c3 ?c4 ?_)
 case c3=>unfold maxLen;omega
 case c4=>omega
 intro v' w2 hown' hgrow hnil hnew
 have hlt:b<w1.heap.size:=(Array.getElem?_eq_some_iff.1 hbk).1
 have hb2:w2.heap[b]?=some (.cells #[.pointer (some ⟨b,0,none⟩),v] (ρ.t 72) (0,0)):=by
  rw[hgrow.block b hlt (fun e=>h1.ne e.symm)]
  exact hbk
 have d0:w2.cell? ⟨b,0,none⟩=some (.pointer (some ⟨b,0,none⟩)):=by rw[Lib.cell_of_heap hb2];rfl
 have d1:w2.cell? ⟨b,1,none⟩=some v:=by rw[Lib.cell_of_heap hb2];rfl
 have f1:w2.frozen? ⟨b,1,none⟩=false:=Lib.frozen_of_heap hb2 1
 obtain⟨ao,n',cap,rfl⟩:∃ao n' cap,v'= .slice ao n' cap:=by
  rcases hown'.2 with ⟨hv,_⟩|⟨g,cap,cur,fz,hv,_⟩
  ·exact⟨_,_,_,hv⟩
  ·exact⟨_,_,_,hv⟩
 go_wp2
 go_ret2
 have hput:=Lib.BuilderAtF.put (T:=(ρ.t 72)) (e:=(ρ.t 5)) (B:=0) (p:= .pointer (some ⟨b,0,none⟩)) (Nat.zero_le b) hb2 (bs':=bs++Lib.strCells s) (by simpa[Lib.strCells_length] using hown') X.neB5
 obtain⟨_,v2,k1,k2,k3⟩:=hput
 have hv2:v2= .slice ao n' cap:=by
  have:(w2.setCell ⟨b,1,none⟩ (.slice ao n' cap)).heap[b]?=some (.cells #[.pointer (some ⟨b,0,none⟩), .slice ao n' cap] (ρ.t 72) (0,0)):=by simp[World.setCell,Array.getElem?_modify,hb2]
  rw[this] at k1
  simp at k1
  exact k1.symm
 subst hv2
 refine⟨rfl,_,⟨k1,by simpa[Lib.strCells_length] using k2,k3⟩,by simpa using hnil,⟨hgrow.os.trans hf1.os,hgrow.tape.trans hf1.tape,hgrow.output.trans hf1.output,by have:=hf1.size;have:=hgrow.size;simp[World.setCell];omega,fun k hk hkb hkv=>?_,fun k hk=>?_⟩⟩
 ·rw[Below.heap_setCell _ _ _ _ hkb,hgrow.block k (Nat.lt_of_lt_of_le hk hf1.size) hkv]
  exact hf1.block k hk hkb hkv
 ·rcases hnew k hk with hn|hn
  ·exact .inl hn
  ·exact .inr (Nat.le_trans hf1.size hn)
set_option maxHeartbeats 2000000 in
set_option maxRecDepth 100000 in
theorem bd_WriteByte (L:Lays.n167 P ρ) (X:Builder.Extra P ρ) (b:Nat) (p v:Value) (hp:p= .pointer none\/p= .pointer (some ⟨b,0,none⟩)) (bs:List Value) (c:Int) (w:World) (h:BdAt (ρ.t 72) (ρ.t 5) b p v bs.length bs w) (hlen:bs.length+1<=140737488355328):
  Calls P (ρ.f 167) #[.pointer (some ⟨b,0,none⟩), .int .u8 c] w fun e w'=>e= .returned .nilIface/\∃v',BdAt (ρ.t 72) (ρ.t 5) b (.pointer (some ⟨b,0,none⟩)) v' (bs.length+1) (bs++[.int .u8 c]) w'/\v'≠ .slice none 0 0/\BdFr b v v' w w':=by
 obtain⟨i0,hi,hz0,hz1,hz2⟩:=info_parts X.infoByte
 have mixed:=L.mixed
 have t72:=L.t72;have a72:=L.a72;have z72:=L.z72;have v72:=L.v72;have u72:=run_underlying L.t72
 have t70:=L.t70;have a70:=L.a70;have z70:=L.z70;have v70:=L.v70;have u70:=run_underlying L.t70
 have t5:=L.t5;have a5:=L.a5;have z5:=L.z5;have v5:=L.v5;have u5:=run_underlying L.t5
 have t37:=L.t37;have a37:=L.a37;have z37:=L.z37;have v37:=L.v37;have u37:=run_underlying L.t37
 have t9:=L.t9;have a9:=L.a9;have z9:=L.z9;have v9:=L.v9;have u9:=run_underlying L.t9
 have t4:=L.t4;have a4:=L.a4;have z4:=L.z4;have v4:=L.v4;have u4:=run_underlying L.t4
 have t164:=L.t164;have a164:=L.a164;have z164:=L.z164;have v164:=L.v164;have u164:=run_underlying L.t164
 have e240:∀args w,(callFunc (ρ.f 240) args).run P w= .ok (.enter (ρ.f 240) args) w:=enters_of L.f240 (by kernel_rfl) rfl
 have hcc:Calls P (ρ.f 240) #[.pointer (some ⟨b,0,none⟩)] w fun e w'=>e= .returned (.tuple #[])/\BdAt (ρ.t 72) (ρ.t 5) b (.pointer (some ⟨b,0,none⟩)) v bs.length bs w'/\BdFr b v v w w':=by
  rcases hp with rfl|rfl
  ·refine(Any.Builder_copyCheck_fresh {L with} X.toX72 b w (by rw[Lib.cell_of_heap h.blk];rfl) (by simp[World.shape?,h.blk]) (Lib.frozen_of_heap h.blk 0)).mono ?_
   rintro e w' ⟨rfl,rfl⟩
   have hk:∀k,k≠b->(w.setCell ⟨b,0,none⟩ (.pointer (some ⟨b,0,none⟩))).heap[k]?=w.heap[k]?:=fun k hk=>Below.heap_setCell _ _ _ _ hk
   refine⟨rfl,⟨by simp[World.setCell,Array.getElem?_modify,h.blk],h.own.kept (row:=some b) ⟨rfl,rfl,rfl,by simp[World.setCell],fun k _ hk=>Below.heap_setCell _ _ _ _ (fun e=>hk (by simp[e]))⟩ (.inr h.ne),h.ne⟩,⟨rfl,rfl,rfl,by simp[World.setCell],fun k _ hkb _=>hk k hkb,fun k hk=> .inl hk⟩⟩
  ·refine(Any.Builder_copyCheck_used {L with} X.toX72 b w (by rw[Lib.cell_of_heap h.blk];rfl)).mono ?_
   rintro e w' ⟨rfl,rfl⟩
   exact⟨rfl,h,⟨rfl,rfl,rfl,Nat.le_refl _,fun _ _ _ _=>rfl,fun k hk=> .inl hk⟩⟩
 go_enter L.f167,Body.n167_ntmps ρ
 go_wp2_with (go_at_fn (ρ.f 240);refine hcc.mono ?_)
 rintro e w1 ⟨rfl,h1,hf1⟩
 have hbk:=h1.blk
 have hlt:b<w1.heap.size:=(Array.getElem?_eq_some_iff.1 hbk).1
 have c0:w1.cell? ⟨b,0,none⟩=some (.pointer (some ⟨b,0,none⟩)):=by rw[Lib.cell_of_heap hbk];rfl
 have c1:w1.cell? ⟨b,1,none⟩=some v:=by rw[Lib.cell_of_heap hbk];rfl
 go_wp2_with (at_builtin;refine wpList_append_slX _ rfl _ _ (ρ.t 37) rfl (ρ.t 5) i0 L.t37 hi hz0 hz1 hz2 _ _ _ rfl (h1.own.alloc _) ⟨w1.heap.size,0,none⟩ 1 1 [.int .u8 c] rfl rfl ?c1 ?c2 ?c3 ?c4 ?_)
 case c1=>
  intro j u hj
  match j,hj with
  |0,hj=>simp at hj;subst hj;simp[Addr.add]
 case c2=>intro u hu;simp at hu;subst hu;rfl
 case c3=>unfold maxLen;omega
 case c4=>omega
 intro v' w2 hown' hgrow hnil hnew
 have hb2:w2.heap[b]?=some (.cells #[.pointer (some ⟨b,0,none⟩),v] (ρ.t 72) (0,0)):=by
  rw[hgrow.block b (by simp;omega) (fun e=>h1.ne e.symm),Lib.alloc_old w1 _ b hlt]
  exact hbk
 have d0:w2.cell? ⟨b,0,none⟩=some (.pointer (some ⟨b,0,none⟩)):=by rw[Lib.cell_of_heap hb2];rfl
 have d1:w2.cell? ⟨b,1,none⟩=some v:=by rw[Lib.cell_of_heap hb2];rfl
 have f1:w2.frozen? ⟨b,1,none⟩=false:=Lib.frozen_of_heap hb2 1
 obtain⟨g,cap,rfl⟩:∃g cap,v'= .slice (some ⟨g,0,none⟩) (bs.length+1) cap:=by
  rcases hown'.2 with ⟨_,h0⟩|⟨g,cap,cur,fz,hv,_⟩
  ·omega
  ·exact⟨g,cap,hv⟩
 go_wp2
 go_ret
 have hput:=Lib.BuilderAtF.put (T:=(ρ.t 72)) (e:=(ρ.t 5)) (B:=0) (p:= .pointer (some ⟨b,0,none⟩)) (Nat.zero_le b) hb2 (bs':=bs++[.int .u8 c]) (by simpa using hown') X.neB5
 obtain⟨_,v2,k1,k2,k3⟩:=hput
 have hv2:v2= .slice (some ⟨g,0,none⟩) (bs.length+1) cap:=by
  have:(w2.setCell ⟨b,1,none⟩ (.slice (some ⟨g,0,none⟩) (bs.length+1) cap)).heap[b]?=some (.cells #[.pointer (some ⟨b,0,none⟩), .slice (some ⟨g,0,none⟩) (bs.length+1) cap] (ρ.t 72) (0,0)):=by simp[World.setCell,Array.getElem?_modify,hb2]
  rw[this] at k1
  simp at k1
  exact k1.symm
 subst hv2
 have hsz:w1.heap.size<=w2.heap.size:=by have:=hgrow.size;simp at this;omega
 refine⟨rfl,_,⟨k1,by simpa using k2,k3⟩,by simp,⟨hgrow.os.trans hf1.os,hgrow.tape.trans hf1.tape,hgrow.output.trans hf1.output,by have:=hf1.size;simp[World.setCell];omega,fun k hk hkb hkv=>?_,fun k hk=>?_⟩⟩
 ·have hk1:k<w1.heap.size:=Nat.lt_of_lt_of_le hk hf1.size
  rw[Below.heap_setCell _ _ _ _ hkb,hgrow.block k (by simp;omega) hkv,Lib.alloc_old w1 _ k hk1]
  exact hf1.block k hk hkb hkv
 ·rcases hnew k hk with hn|hn
  ·exact .inl hn
  ·refine .inr ?_
   simp at hn
   have:=hf1.size
   omega
set_option maxHeartbeats 1000000 in
set_option maxRecDepth 100000 in
theorem bd_String (L:Lays.n169 P ρ) (X:Builder.Extra P ρ) (b:Nat) (p:Value) (g cap:Nat) (cur:Array Value) (fz:Nat×Nat) (l:List UInt8) (w:World) (hbk:w.heap[b]?=some (.cells #[p, .slice (some ⟨g,0,none⟩) l.length cap] (ρ.t 72) (0,0))) (hg:w.heap[g]?=some (.cells cur (ρ.t 5) fz))
  (hnc:l.length<=cap) (hcm:cap<=maxLen) (hcs:cur.size=cap) (hown:w.ownsRowF 0 (ρ.t 5) 1 (.slice (some ⟨g,0,none⟩) l.length cap) l.length (Lib.byteCells l)) (h0:l≠[]):
  Calls P (ρ.f 169) #[.pointer (some ⟨b,0,none⟩)] w fun e w'=>e= .returned (.string ⟨l.toArray⟩)/\w'=w.drew.freeze ⟨g,0,none⟩ l.length:=by
 have hl0:l.length≠0:=by simpa using h0
 have c1:w.drew.cell? ⟨b,1,none⟩=some (.slice (some ⟨g,0,none⟩) l.length cap):=by
  have:w.drew.heap[b]?=some (.cells #[p, .slice (some ⟨g,0,none⟩) l.length cap] (ρ.t 72) (0,0)):=hbk
  rw[Lib.cell_of_heap this];rfl
 have hSD:(Builtin.unsafeSliceData_ #[(ρ.t 37)] (ρ.t 127) #[.slice (some ⟨g,0,none⟩) l.length cap]).run P w.drew= .ok (.pointer (some ⟨g,0,none⟩)) w.drew:=
  Lib.run_unsafeSliceData_row _ _ _ _ _ _ (by omega)
 have hUS:(Builtin.unsafeString_ #[(ρ.t 127),(ρ.t 3)] (ρ.t 9) #[.pointer (some ⟨g,0,none⟩), .int .i64 l.length]).run P w.drew= .ok (.string ⟨l.toArray⟩) (w.drew.freeze ⟨g,0,none⟩ l.length):=by
  refine Lib.run_unsafeString_row w.drew (ρ.t 127) (ρ.t 3) (ρ.t 9) (ρ.t 5) L.t127 X.cellsByte g cur.size (by have hg':w.drew.heap[g]?=some (.cells cur (ρ.t 5) fz):=hg;simp[World.shape?,hg']) l h0 (by omega) (by unfold maxLen at hcm;omega) ?_
  intro j x hx
  have:=hown.cells (g:=g) rfl j (.int .u8 x.toNat) (by simp[Lib.byteCells,hx])
  exact this
 have mixed:=L.mixed
 have t72:=L.t72;have a72:=L.a72;have z72:=L.z72;have v72:=L.v72;have u72:=run_underlying L.t72
 have t70:=L.t70;have a70:=L.a70;have z70:=L.z70;have v70:=L.v70;have u70:=run_underlying L.t70
 have t37:=L.t37;have a37:=L.a37;have z37:=L.z37;have v37:=L.v37;have u37:=run_underlying L.t37
 have t127:=L.t127;have a127:=L.a127;have z127:=L.z127;have v127:=L.v127;have u127:=run_underlying L.t127
 have t3:=L.t3;have a3:=L.a3;have z3:=L.z3;have v3:=L.v3;have u3:=run_underlying L.t3
 have t9:=L.t9;have a9:=L.a9;have z9:=L.z9;have v9:=L.v9;have u9:=run_underlying L.t9
 have t5:=X.t5;have a5:=X.a5;have z5:=X.z5;have v5:=X.v5;have u5:=run_underlying X.t5
 go_enter L.f169,Body.n169_ntmps ρ
 go_wp2
 go_region_o
 all_goals (go_wp2;go_ret;exact⟨rfl,rfl⟩)
set_option maxHeartbeats 1000000 in
set_option maxRecDepth 100000 in
theorem bd_String_nil (L:Lays.n169 P ρ) (X:Builder.Extra P ρ) (b:Nat) (p:Value) (w:World) (hbk:w.heap[b]?=some (.cells #[p, .slice none 0 0] (ρ.t 72) (0,0))):
  Calls P (ρ.f 169) #[.pointer (some ⟨b,0,none⟩)] w fun e w'=>e= .returned (.string ⟨#[]⟩)/\w'=w.drew:=by
 have hUS:=Any.unsafeString_none L X
 have c1:w.drew.cell? ⟨b,1,none⟩=some (.slice none 0 0):=by
  have:w.drew.heap[b]?=some (.cells #[p, .slice none 0 0] (ρ.t 72) (0,0)):=hbk
  rw[Lib.cell_of_heap this];rfl
 have hSD:(Builtin.unsafeSliceData_ #[(ρ.t 37)] (ρ.t 127) #[.slice none 0 0]).run P w.drew= .ok (.pointer none) w.drew:=rfl
 have mixed:=L.mixed
 have t72:=L.t72;have a72:=L.a72;have z72:=L.z72;have v72:=L.v72;have u72:=run_underlying L.t72
 have t70:=L.t70;have a70:=L.a70;have z70:=L.z70;have v70:=L.v70;have u70:=run_underlying L.t70
 have t37:=L.t37;have a37:=L.a37;have z37:=L.z37;have v37:=L.v37;have u37:=run_underlying L.t37
 have t127:=L.t127;have a127:=L.a127;have z127:=L.z127;have v127:=L.v127;have u127:=run_underlying L.t127
 have t3:=L.t3;have a3:=L.a3;have z3:=L.z3;have v3:=L.v3;have u3:=run_underlying L.t3
 have t9:=L.t9;have a9:=L.a9;have z9:=L.z9;have v9:=L.v9;have u9:=run_underlying L.t9
 have t5:=X.t5;have a5:=X.a5;have z5:=X.z5;have v5:=X.v5;have u5:=run_underlying X.t5
 go_enter L.f169,Body.n169_ntmps ρ
 go_wp2
 go_region_o
 all_goals (go_wp2;go_ret;exact⟨rfl,rfl⟩)
end Go.Proofs
namespace Go.Proofs.YtokkbonoplbiaaaGreatDoor
open Go Go.Sym Go.Great Go.RowKit Go.Proofs Go.Sort
theorem bd_of_buf {w:World} {e:Env} {b:Nat} {p v:Value} {bs:List UInt8} (h1:w.heap[b]?=some (.cells #[p,v] 100 (0,0))) (h2:BufR w e b 5 bs v) (hk:e.kid b=none):
  BdAt 100 5 b p v bs.length (Lib.byteCells bs) w/\(v= .slice none 0 0↔bs=[])/\(∀g,v.ownBlock=some g->e.kid g=some (b,1)):=by
 rcases h2 with ⟨rfl,rfl⟩|⟨g,cap,cur,fz,rfl,h3,h4,h5,h6,h7,h8,h9,h10⟩
 ·exact⟨⟨h1,⟨rfl, .inl ⟨rfl,rfl⟩⟩,by simp[Value.ownBlock]⟩,by simp,fun g h=>by simp[Value.ownBlock] at h⟩
 ·refine⟨⟨h1,⟨by simp[Lib.byteCells], .inr ⟨g,cap,cur,fz,rfl,Nat.zero_le _,h4,by omega,h6,h7,by omega,?_⟩⟩,?_⟩,?_,?_⟩
  ·rw[Nat.mul_one];exact h9
  ·simp only[Value.ownBlock,ne_eq,Option.some.injEq]
   rintro rfl
   rw[hk] at h3;cases h3
  ·constructor
   ·intro h;simp at h
   ·intro h;exact absurd h h10
  ·intro g' h
   simp only[Value.ownBlock,Option.some.injEq] at h
   subst h;exact h3
theorem sat_bd {f:FuncId} {vs:List Value} {bs bs':List UInt8} {r:AV} (hen:Go.Sym.Enters Tryz.prog f)
  (h:∀(w:World) (b:Nat) (p v:Value),(p= .pointer none\/p= .pointer (some ⟨b,0,none⟩))->BdAt 100 5 b p v bs.length (Lib.byteCells bs) w->(v= .slice none 0 0↔bs=[])->
   Calls Tryz.prog f (.pointer (some ⟨b,0,none⟩)::vs).toArray w fun en w'=>∃x,en= .returned x/\(∀w U,VD w U r x)/\∃p' v',(p'= .pointer none\/p'= .pointer (some ⟨b,0,none⟩))/\BdAt 100 5 b p' v' bs'.length (Lib.byteCells bs') w'/\(v'= .slice none 0 0↔bs'=[])/\BdFr b v v' w w'):
  SatG Tryz.prog tab f [(0,some (0, .bd 100 5 bs))] (.ptO 0 0 0 0 0::vs.map AV.lit) [(0,some (0, .bd 100 5 bs'))] r:=by
 refine⟨hen,fun w e vals hr hz hg hl hargs=>?_⟩
 obtain⟨ee,he,heg,hG,hn0,b,c,p,v,hblk,hb,hp,hbuf⟩:=hr.live 0 0 (.bd 100 5 bs) rfl
 have hobj:ObjB e b:=⟨0,ee,c,he,hblk⟩
 have hkb:e.kid b=none:=hr.ko b hobj
 obtain⟨hbd,hnil,hown⟩:=bd_of_buf hb hbuf hkb
 have hblt:b<w.heap.size:=(Array.getElem?_eq_some_iff.1 hb).1
 have hbz:¬e.z b:=hr.nz 0 ee b c he hblk
 have hvals:vals=(.pointer (some ⟨b,0,none⟩)::vs).toArray:=by
  have hsz:vals.size=vs.length+1:=by rw[<-hl];simp
  apply Array.ext
  ·simp[hsz]
  ·intro i h1 h2
   have hi:i<(AV.ptO 0 0 0 0 0::vs.map AV.lit).length:=by simp;omega
   have ha:=hargs i hi
   rw[Array.getD_eq_getD_getElem?,Array.getElem?_eq_getElem h1] at ha
   cases i with
   |zero=>
    simp only[List.getElem_cons_zero,Option.getD_some] at ha
    obtain⟨_,_,hin⟩:=ha.ptO_inv
    have:=(hin ee he heg).2 hn0 b c hblk
    simpa using this
   |succ i=>
    simp only[List.getElem_cons_succ,List.getElem_map,Option.getD_some] at ha
    have:=ha.lit_inv.1
    simpa using this
 rw[hvals]
 refine(h w b p v hp hbd hnil).mono ?_
 rintro en w' ⟨x,rfl,hx,p',v',hp',hbd',hnil',hfr⟩
 have hds:∀id,id≠0->e id=none:=fun id hid=>hr.dead id (by simp[Hp.get];omega)
 have hnew:∀k,v'.ownBlock=some k->e.kid k=some (b,1)\/w.heap.size<=k:=fun k hk=>(hfr.new k hk).imp (hown k) id
 have hown':∀k,v'.ownBlock=some k->k<w'.heap.size:=fun k hk=>(hbd'.own.lt k hk).2
 obtain⟨e',he'⟩:∃e':Env,e'=⟨e.m,e.z,fun k=>if v'.ownBlock=some k then some (b,1) else none⟩:=⟨_,rfl⟩
 have em:∀id,e' id=e id:=by subst he';intro id;rfl
 have ez:e'.z=e.z:=by subst he';rfl
 have ekid:∀k B c,e'.kid k=some (B,c)->v'.ownBlock=some k/\B=b/\c=1:=by
  subst he'
  intro k B c hk
  by_cases hv:v'.ownBlock=some k
  ·simp only[if_pos hv,Option.some.injEq,Prod.mk.injEq] at hk
   exact⟨hv,hk.1.symm,hk.2.symm⟩
  ·simp[hv] at hk
 have ekid2:∀k,v'.ownBlock=some k->e'.kid k=some (b,1):=by subst he';intro k hk;simp[hk]
 have eobj:∀k,ObjB e' k->k=b:=by
  rintro k ⟨id,ee',c',h1,h2⟩
  rw[em] at h1
  by_cases hid:id=0
  ·subst hid
   rw[he] at h1;cases h1
   rw[hblk] at h2;cases h2;rfl
  ·rw[hds id hid] at h1;cases h1
 have eown:∀k,OwnB e' k->k=b\/v'.ownBlock=some k:=by
  rintro k (h1|⟨B,c',h1,h2⟩)
  ·exact .inl (eobj k h1)
  ·exact .inr (ekid k B c' h1).1
 have eown2:∀k,OwnB e' k->w.heap.size<=k\/OwnB e k:=by
  intro k hk
  rcases eown k hk with rfl|hv
  ·exact .inr (.inl hobj)
  ·rcases hnew k hv with h1|h1
   ·exact .inr (.inr ⟨b,1,h1,hobj⟩)
   ·exact .inl h1
 have nown:∀k,¬OwnB e k->k≠b/\some k≠v.ownBlock:=by
  intro k hk
  refine⟨?_,?_⟩
  ·rintro rfl;exact hk (.inl hobj)
  ·intro h1;exact hk (.inr ⟨b,1,hown k h1.symm,hobj⟩)
 have hbuf':BufR w' e' b 5 bs' v':=by
  by_cases hb0:bs'=[]
  ·exact .inl ⟨hnil'.2 hb0,hb0⟩
  ·obtain⟨hlen,hcase⟩:=hbd'.own
   rcases hcase with ⟨hv,_⟩|⟨g,cap,cur,fz,hv,_,h4,h5,h6,h7,h8,h9⟩
   ·exact absurd (hnil'.1 hv) hb0
   ·refine .inr ⟨g,cap,cur,fz,hv,ekid2 g (by rw[hv];rfl),h4,by omega,h6,h7,by omega,?_,hb0⟩
    rw[Nat.mul_one] at h9;exact h9
 have horel:ORel w' e' (Glt 2) (.bd 100 5 bs') ee:=⟨hn0,b,c,p',v',hblk,hbd'.blk,hp',hbuf'⟩
 have hG2:Glt 2 0:=by unfold Glt;omega
 refine⟨x,e',rfl,⟨?_,?_,?_,?_,?_,?_,?_,?_⟩, .dat _ _ (hx _ _),⟨hfr.size,?_,?_,?_,?_⟩,ez,eown2,⟨hfr.os,hfr.tape,hfr.output,hfr.size,?_⟩⟩
 ·intro id hid
  rw[em]
  refine hds id fun h0=>?_
  subst h0
  cases hid
 ·intro id g ob hid
  simp only[Hp.get] at hid
  by_cases h0:0=id
  ·rw[if_pos h0] at hid
   cases hid
   subst h0
   exact⟨ee,(em 0).trans he,heg,hG2,horel⟩
  ·rw[if_neg h0] at hid;cases hid
 ·intro id id' e1 e2 b1 c1 c2 h1 h2 _ _
  rw[em] at h1 h2
  by_cases i1:id=0
  ·by_cases i2:id'=0
   ·rw[i1,i2]
   ·rw[hds id' i2] at h2;cases h2
  ·rw[hds id i1] at h1;cases h1
 ·intro id e1 b1 c1 h1 h2
  have:=eobj b1 ⟨id,e1,c1,h1,h2⟩
  subst this
  exact Nat.lt_of_lt_of_le hblt hfr.size
 ·intro id e1 b1 c1 h1 h2
  have:=eobj b1 ⟨id,e1,c1,h1,h2⟩
  subst this
  rw[ez];exact hbz
 ·intro k B c1 hk
  obtain⟨h1,rfl,_⟩:=ekid k B c1 hk
  refine⟨hown' k h1,Nat.lt_of_lt_of_le hblt hfr.size,?_⟩
  rw[ez]
  rcases hnew k h1 with h2|h2
  ·exact(hr.kl k _ _ h2).2.2
  ·intro h3
   have:=hz k h3
   omega
 ·intro k hk
  have:=eobj k hk
  subst this
  cases h1:e'.kid k with
  |none=>rfl
  |some q=>exact absurd (ekid k q.1 q.2 h1).1 hbd'.ne
 ·intro k B c1 hk
  obtain⟨_,rfl,_⟩:=ekid k B c1 hk
  cases h1:e'.kid B with
  |none=>rfl
  |some q=>exact absurd (ekid B q.1 q.2 h1).1 hbd'.ne
 ·intro g hg;exact Nat.lt_of_lt_of_le hg (by omega)
 ·intro k hk hu
  refine⟨by rw[ez];exact hu.1,fun h1=>?_⟩
  rcases eown2 k h1 with h2|h2
  ·omega
  ·exact hu.2 h2
 ·intro k hk hu
  obtain⟨h1,h2⟩:=nown k hu.2
  exact hfr.block k hk h1 h2
 ·intro id e1 h1 _
  rw[em] at h1
  exact⟨e1,h1,rfl,rfl, .inl ⟨rfl,rfl⟩⟩
 ·intro k hk hu
  obtain⟨h1,h2⟩:=nown k hu
  exact hfr.block k hk h1 h2
open Go Go.Sym Go.Great Go.RowKit Go.Proofs Go.Sort Go.Scr
def bdRen:Go.Shelf.Ren:=⟨fun|166=>47|167=>48|169=>50|240=>101|276=>124|n=>n,fun|31=>36|9=>9|3=>3|4=>4|0=>0|20=>20|72=>100|76=>103|70=>98|37=>43|75=>102|127=>143|164=>151|5=>5|80=>107|n=>n,fun|n=>n⟩
theorem bdLay166:Go.Proofs.Lays.n166 Tryz.prog bdRen:={
 mixed:=by kernel_rfl
 f166:=Tryz.func47.trans (congrArg some (by kernel_rfl))
 f240:=Tryz.func101.trans (congrArg some (by kernel_rfl))
 f276:=Tryz.func124.trans (congrArg some (by kernel_rfl))
 t0:=Tryz.underlying0
 a0:=Tryz.isAgg0
 z0:=Tryz.sizeOf0
 v0:=Tryz.zeroValue0
 t3:=Tryz.underlying3
 a3:=Tryz.isAgg3
 z3:=Tryz.sizeOf3
 v3:=Tryz.zeroValue3
 t4:=Tryz.underlying4
 a4:=Tryz.isAgg4
 z4:=Tryz.sizeOf4
 v4:=Tryz.zeroValue4
 t9:=Tryz.underlying9
 a9:=Tryz.isAgg9
 z9:=Tryz.sizeOf9
 v9:=Tryz.zeroValue9
 t20:=Tryz.underlying20
 a20:=Tryz.isAgg20
 z20:=Tryz.sizeOf20
 v20:=Tryz.zeroValue20
 t37:=Tryz.underlying43
 a37:=Tryz.isAgg43
 z37:=Tryz.sizeOf43
 v37:=Tryz.zeroValue43
 t70:=Tryz.underlying98
 a70:=Tryz.isAgg98
 z70:=Tryz.sizeOf98
 v70:=Tryz.zeroValue98
 t72:=Tryz.underlying100
 a72:=Tryz.isAgg100
 z72:=Tryz.sizeOf100
 v72:=Tryz.zeroValue100
 t75:=Tryz.underlying102
 a75:=Tryz.isAgg102
 z75:=Tryz.sizeOf102
 v75:=Tryz.zeroValue102
 t164:=Tryz.underlying151
 a164:=Tryz.isAgg151
 z164:=Tryz.sizeOf151
 v164:=Tryz.zeroValue151}
theorem bdLay167:Go.Proofs.Lays.n167 Tryz.prog bdRen:={
 mixed:=by kernel_rfl
 f167:=Tryz.func48.trans (congrArg some (by kernel_rfl))
 f240:=Tryz.func101.trans (congrArg some (by kernel_rfl))
 f276:=Tryz.func124.trans (congrArg some (by kernel_rfl))
 t0:=Tryz.underlying0
 a0:=Tryz.isAgg0
 z0:=Tryz.sizeOf0
 v0:=Tryz.zeroValue0
 t4:=Tryz.underlying4
 a4:=Tryz.isAgg4
 z4:=Tryz.sizeOf4
 v4:=Tryz.zeroValue4
 t5:=Tryz.underlying5
 a5:=Tryz.isAgg5
 z5:=Tryz.sizeOf5
 v5:=Tryz.zeroValue5
 t9:=Tryz.underlying9
 a9:=Tryz.isAgg9
 z9:=Tryz.sizeOf9
 v9:=Tryz.zeroValue9
 t20:=Tryz.underlying20
 a20:=Tryz.isAgg20
 z20:=Tryz.sizeOf20
 v20:=Tryz.zeroValue20
 t37:=Tryz.underlying43
 a37:=Tryz.isAgg43
 z37:=Tryz.sizeOf43
 v37:=Tryz.zeroValue43
 t70:=Tryz.underlying98
 a70:=Tryz.isAgg98
 z70:=Tryz.sizeOf98
 v70:=Tryz.zeroValue98
 t72:=Tryz.underlying100
 a72:=Tryz.isAgg100
 z72:=Tryz.sizeOf100
 v72:=Tryz.zeroValue100
 t75:=Tryz.underlying102
 a75:=Tryz.isAgg102
 z75:=Tryz.sizeOf102
 v75:=Tryz.zeroValue102
 t164:=Tryz.underlying151
 a164:=Tryz.isAgg151
 z164:=Tryz.sizeOf151
 v164:=Tryz.zeroValue151}
theorem bdX:Builder.Extra Tryz.prog bdRen:={
 sizeBuilder:=by kernel_rfl
 liesBuilder:=by kernel_rfl
 t5:=Tryz.underlying5
 a5:=Tryz.isAgg5
 z5:=Tryz.sizeOf5
 v5:=Tryz.zeroValue5
 infoByte:=by kernel_rfl
 cellsByte:=by kernel_rfl
 sizeByte:=by kernel_rfl
 neB5:=by decide}
theorem byteCells_app (a b:List UInt8):Lib.byteCells (a++b)=Lib.byteCells a++Lib.byteCells b:=by simp[Lib.byteCells]
theorem strCells_eq (s:List UInt8):Lib.strCells (strOf s)=Lib.byteCells s:=by simp[Lib.strCells,Lib.byteCells,str_list]
theorem bdWS_sat (bs s:Bs) (hl:bs.length+s.length<=140737488355328):SatG Tryz.prog tab 47 [(0,some (0, .bd 100 5 bs))] [.ptO 0 0 0 0 0,S (strOf s)] [(0,some (0, .bd 100 5 (bs++s)))] (.tup [I s.length, .lit .nilIface]):=by
 refine sat_bd (vs:=[.string (strOf s)]) ⟨Tryz.f47,Tryz.func47,by rfl,by rfl⟩ fun w b p v hp hb hn=>?_
 have hl1:(Lib.byteCells bs).length=bs.length:=Lib.byteCells_length bs
 refine(bd_WriteString bdLay166 bdX b p v hp (Lib.byteCells bs) (strOf s) w (by rw[hl1];exact hb) (by rw[hl1,str_size];exact hl)).mono ?_
 rintro en w' ⟨rfl,v',h1,h2,h3⟩
 refine⟨_,rfl,fun w U=>?_,_,v', .inr rfl,?_,?_,h3⟩
 ·refine .tup _ _ rfl fun i hi=>?_
  rcases(by simp at hi;omega:i=0\/i=1) with rfl|rfl
  ·rw[str_size];exact .lit _ rfl
  ·exact .lit _ rfl
 ·rw[hl1,str_size,strCells_eq] at h1
  rw[byteCells_app,List.length_append]
  exact h1
 ·rw[h2,hn,str_size]
  simp[List.length_eq_zero_iff]
theorem bdWB_sat (bs:Bs) (c:UInt8) (hl:bs.length+1<=140737488355328):SatG Tryz.prog tab 48 [(0,some (0, .bd 100 5 bs))] [.ptO 0 0 0 0 0,Uc c] [(0,some (0, .bd 100 5 (bs++[c])))] (.lit .nilIface):=by
 refine sat_bd (vs:=[.int .u8 ((c.toNat:Nat):Int)]) ⟨Tryz.f48,Tryz.func48,by rfl,by rfl⟩ fun w b p v hp hb hn=>?_
 have hl1:(Lib.byteCells bs).length=bs.length:=Lib.byteCells_length bs
 refine(bd_WriteByte bdLay167 bdX b p v hp (Lib.byteCells bs) ((c.toNat:Nat):Int) w (by rw[hl1];exact hb) (by rw[hl1];exact hl)).mono ?_
 rintro en w' ⟨rfl,v',h1,h2,h3⟩
 refine⟨_,rfl,fun w U=> .lit _ rfl,_,v', .inr rfl,?_,?_,h3⟩
 ·rw[hl1] at h1
  rw[byteCells_app,List.length_append]
  exact h1
 ·constructor
  ·intro h;exact absurd h h2
  ·intro h;simp at h
theorem bdLen_sat (bs:Bs):SatG Tryz.prog tab 49 [(0,some (0, .bd 100 5 bs))] [.ptO 0 0 0 0 0] [(0,some (0, .bd 100 5 bs))] (I bs.length):=by
 refine sat_bd (vs:=[]) ⟨Tryz.f49,Tryz.func49,by rfl,by rfl⟩ fun w b p v hp hb hn=>?_
 have hl1:(Lib.byteCells bs).length=bs.length:=Lib.byteCells_length bs
 have hA:Lib.IsBuilderF 100 5 0 b (Lib.byteCells bs) w:=by
  rcases hp with rfl|rfl
  ·exact .inl ⟨Nat.zero_le _,v,hb.blk,by rw[hl1];exact hb.own,hb.ne⟩
  ·exact .inr ⟨Nat.zero_le _,v,hb.blk,by rw[hl1];exact hb.own,hb.ne⟩
 refine(Tryz.Builder_Len_f 0 b (Lib.byteCells bs) w hA).mono ?_
 rintro en w' ⟨rfl,rfl⟩
 refine⟨_,rfl,fun w U=>?_,p,v,hp,hb,hn,⟨rfl,rfl,rfl,Nat.le_refl _,fun _ _ _ _=>rfl,fun k hk=> .inl hk⟩⟩
 rw[hl1];exact .lit _ rfl
theorem freeze_other (w:World) (g n k:Nat) (h:k≠g):(w.freeze ⟨g,0,none⟩ n).heap[k]?=w.heap[k]?:=by
 unfold World.freeze
 split
 ·rfl
 ·show(w.heap.modify g _)[k]?=_
  rw[Array.getElem?_modify]
  simp[Ne.symm h]
theorem freeze_rest (w:World) (a:Addr) (n:Nat):(w.freeze a n).os=w.os/\(w.freeze a n).tape=w.tape/\(w.freeze a n).output=w.output/\(w.freeze a n).heap.size=w.heap.size:=by
 unfold World.freeze
 split
 ·exact⟨rfl,rfl,rfl,rfl⟩
 ·exact⟨rfl,rfl,rfl,by simp⟩
theorem bdStr_sat (bs:Bs):SatG Tryz.prog tab 50 [(0,some (0, .bd 100 5 bs))] [.ptO 0 0 0 0 0] [(0,some (0, .bd 100 5 bs))] (S (strOf bs)):=by
 refine sat_bd (vs:=[]) ⟨Tryz.f50,Tryz.func50,by rfl,by rfl⟩ fun w b p v hp hb hn=>?_
 have hl1:(Lib.byteCells bs).length=bs.length:=Lib.byteCells_length bs
 by_cases h0:bs=[]
 ·subst h0
  have hv:=hn.2 rfl
  subst hv
  refine(bd_String_nil Tryz.lays169 Tryz.Builder_Extra_169 b p w hb.blk).mono ?_
  rintro en w' ⟨rfl,rfl⟩
  exact⟨_,rfl,fun w U=> .lit _ rfl,p,_,hp,⟨hb.blk,hb.own,hb.ne⟩,hn,⟨rfl,rfl,rfl,Nat.le_refl _,fun _ _ _ _=>rfl,fun k hk=> .inl hk⟩⟩
 ·obtain⟨hlen,hcase⟩:=hb.own
  rcases hcase with ⟨hv,_⟩|⟨g,cap,cur,fz,hv,hz,h4,h5,h6,h7,h8,h9⟩
  ·exact absurd (hn.1 hv) h0
  ·subst hv
   refine(bd_String Tryz.lays169 Tryz.Builder_Extra_169 b p g cap cur fz bs w hb.blk h4 h6 h7 (by omega) ⟨hlen, .inr ⟨g,cap,cur,fz,rfl,hz,h4,h5,h6,h7,h8,h9⟩⟩ h0).mono ?_
   rintro en w' ⟨rfl,rfl⟩
   have hAt:Lib.BuilderAtF 100 5 0 b p (Lib.byteCells bs) w.drew:=⟨Nat.zero_le _,_,hb.blk,by rw[hl1];exact⟨hlen, .inr ⟨g,cap,cur,fz,rfl,hz,h4,h5,h6,h7,h8,h9⟩⟩,hb.ne⟩
   have hF:=hAt.froze (g:=g) (cap:=cap) (by rw[hl1];exact Lib.cell_of_heap (w:=w.drew) hb.blk 1)
   rw[hl1] at hF
   obtain⟨_,v2,k1,k2,k3⟩:=hF
   have hgb:b≠g:=fun h=>hb.ne (by rw[h];rfl)
   have hv2:v2= .slice (some ⟨g,0,none⟩) bs.length cap:=by
    have:=freeze_other w.drew g bs.length b hgb
    rw[this] at k1
    have hbk:=hb.blk
    have:w.drew.heap[b]?=w.heap[b]?:=rfl
    rw[this,hbk] at k1
    simp at k1
    exact k1.symm
   subst hv2
   have hfr:=freeze_rest w.drew ⟨g,0,none⟩ bs.length
   refine⟨_,rfl,fun w U=> .lit _ rfl,p,_,hp,⟨k1,by rw[hl1] at k2;exact k2,k3⟩,hn,⟨hfr.1,hfr.2.1,hfr.2.2.1,Nat.le_of_eq hfr.2.2.2.symm,fun k hk h1 h2=>?_,fun k hk=> .inl hk⟩⟩
   ·exact freeze_other w.drew g bs.length k (fun h=>h2 (by rw[h];rfl))
open Go.Scr
def fmtL:List Acx->Option Bs
 |[]=>some []
 |x::r=>match lineS x with
  |none=>none
  |some a=>(fmtL r).map (fun b=>a++[10]++b)
def formatS (l:List Acx):Bs×Int:=
 if 500<l.length then([],2) else match fmtL l with
  |none=>([],3)
  |some t=>if 65536<t.length then([],2) else(t,0)
theorem lineS_len {x:Acx} (hx:SmA x) {t:Bs} (h:lineS x=some t):t.length<=2008*1000001:=by
 unfold lineS at h
 split at h
 ·rename_i hc
  injection h with h
  subst h
  have hln:=wAct_len ([],false) x
  have hbd:=Bd.act (m:=1000000) (by decide) (w:=([],false)) (fun s hs=>by cases hs) x hx.tx
  have hjl:=join_len hbd
  have hmv:=hx.mv
  have hgl:=hx.gl
  simp only[List.length_nil] at hln
  exact Nat.le_trans hjl (Nat.mul_le_mul_right _ (by omega))
 ·cases h
theorem fmtL_step {l:List Acx} {i:Nat} (h:i<l.length) {acc:Bs} {o:Option Bs} (hi:o=(fmtL (l.drop i)).map (fun b=>acc++b)):
  o=match lineS (l.getD i default) with
   |none=>none
   |some a=>(fmtL (l.drop (i+1))).map (fun b=>(acc++(a++[10]))++b):=by
 rw[hi,List.drop_eq_getElem_cons h,List.getD_eq_getElem?_getD,List.getElem?_eq_getElem h,fmtL,Option.getD_some]
 cases lineS l[i] with
 |none=>rfl
 |some a=>
  simp only[Option.map_map]
  congr 1
  funext b
  simp[List.append_assoc]
theorem format_sat (l:List Acx) (hl:l.length<=1000000) (hs:∀x∈l,SmA x):SatG Tryz.prog tab 21 [] [.sl (acts l) false] [] (.tup [S (strOf (formatS l).1),I (formatS l).2]):=by
 refine uFN Tryz.func21 Tryz.ntmps21 ?_;intro w e X hC
 repeat refine uA ?_
 refine uW ?_;refine condP _ rfl (fun c0=>?_) (fun c0=>?_)
 ·have e:formatS l=([],2):=by unfold formatS;rw[if_pos (by omega)]
  rw[e]
  repeat refine uA ?_
  refine awp_ret ?_;rw[show Tryz.f21.results.toList=[.tmp 2, .tmp 3] from rfl];first|refine uRN ?_|exact uRM
  rfl
 have e0:formatS l=match fmtL l with
  |none=>([],3)
  |some t=>if 65536<t.length then([],2) else(t,0):=by unfold formatS;rw[if_neg (by omega)]
 repeat refine uA ?_
 refine uW ?_
 refine awp_loopW (fun i:Nat×Nat×Bs=>⟨[(2,S (strOf [])),(3,I 0),(4, .ptO 104 6 0 0 0),(12, .sl (acts l) false),(13,I l.length),(14,I i.2.1)],[(104,some (6, .bd 100 5 i.2.2))],i.1⟩) (fun i=>i.2.1<=l.length/\i.2.2.length<=i.2.1*2008002009/\fmtL l=(fmtL (l.drop i.2.1)).map (fun b=>i.2.2++b)) (fun i=>l.length - i.2.1) (_,0,[]) ⟨Nat.zero_le _,Nat.zero_le _,by simp⟩ (uKF) ?_
 rintro⟨ck,i,acc⟩ ⟨hi,ha,hf⟩
 simp only at hi ha hf
 have hal:acc.length<=500*2008002009:=Nat.le_trans ha (Nat.mul_le_mul_right _ (by omega))
 repeat refine uA ?_
 refine uW ?_;refine condP _ rfl (fun h=>?_) (fun h=>?_)
 ·have hlt:i<l.length:=by omega
  have hst:=fmtL_step hlt hf
  have hm:l.getD i default∈l:=by rw[List.getD_eq_getElem?_getD,List.getElem?_eq_getElem hlt];exact List.getElem_mem hlt
  have hx:=hs _ hm
  have h1:=line_sat _ hx
  have hll:=fun t=>lineS_len hx (t:=t)
  refine uA1 (acts_getD hlt) ?_
  generalize l.getD i default=x at*
  cases hln:lineS x with
  |none=>
   rw[hln] at h1 hst
   replace h1:SatG Tryz.prog tab 12 [] [x.av] [] (.tup [S (strOf []),I 3]):=h1
   replace hst:fmtL l=none:=hst
   rw[e0,hst]
   refine uR ?_;intro K hK
   refine uH ?_
   refine callF uTS (h1) uTS uTS uTS ?_;refine uS ?_
   refine hK _ ?_;clear hK K
   repeat refine uA ?_
   refine uT ?_
   repeat refine uA ?_
   refine awp_ret ?_;rw[show Tryz.f21.results.toList=[.tmp 2, .tmp 3] from rfl];first|refine uRN ?_|exact uRM
   rfl
  |some t=>
   rw[hln] at h1 hst
   replace h1:SatG Tryz.prog tab 12 [] [x.av] [] (.tup [S (strOf t),I 0]):=h1
   have htl:=hll t hln
   have w1:=bdWS_sat acc t (by omega)
   have w2:=bdWB_sat (acc++t) 10 (by rw[List.length_append];omega)
   refine uR ?_;intro K hK
   refine uH ?_
   refine callF uTS (h1) uTS uTS uTS ?_;refine uS ?_
   refine hK _ ?_;clear hK K
   repeat refine uA ?_
   refine uF ?_
   refine uR ?_;intro K hK
   refine uH ?_
   refine callE [(0,0,104,6)] [(104,6,0,0)] true (w1) uTR uTR uTE uTE uTE uTE uTE uTE uTE uTE uTE uTE uTE uTE uTE uTE uTE ?_;refine uQS ?_
   refine hK _ ?_;clear hK K
   refine uR ?_;intro K hK
   refine uH ?_
   refine callE [(0,0,104,6)] [(104,6,0,0)] true (w2) uTR uTR uTE uTE uTE uTE uTE uTE uTE uTE uTE uTE uTE uTE uTE uTE uTE ?_;refine uQS ?_
   refine hK _ ?_;clear hK K
   repeat refine uA ?_
   refine⟨(_,i+1,acc++(t++[10])),⟨by simp only;omega,by simp only[List.length_append,List.length_singleton];omega,hst⟩,by simp only;omega,uKF⟩
 ·refine awp_exit ?_
  have:i=l.length:=by omega
  subst this
  rw[List.drop_length] at hf
  replace hf:fmtL l=some acc:=by rw[hf];simp[fmtL]
  have w3:=bdLen_sat acc
  have w4:=bdStr_sat acc
  rw[e0,hf]
  refine uR ?_;intro K hK
  refine uH ?_
  refine callE [(0,0,104,6)] [(104,6,0,0)] true (w3) uTR uTR uTE uTE uTE uTE uTE uTE uTE uTE uTE uTE uTE uTE uTE uTE uTE ?_;refine uQS ?_
  refine hK _ ?_;clear hK K
  refine uW ?_;refine condP _ rfl (fun c1=>?_) (fun c1=>?_)
  ·have c1:65536<acc.length:=by omega
   simp only[if_pos c1]
   repeat refine uA ?_
   refine awp_ret ?_;rw[show Tryz.f21.results.toList=[.tmp 2, .tmp 3] from rfl];first|refine uRN ?_|exact uRM
   rfl
  ·have c1:¬65536<acc.length:=by omega
   simp only[if_neg c1]
   refine uR ?_;intro K hK
   refine uH ?_
   refine callE [(0,0,104,6)] [(104,6,0,0)] true (w4) uTR uTR uTE uTE uTE uTE uTE uTE uTE uTE uTE uTE uTE uTE uTE uTE uTE ?_;refine uQS ?_
   refine hK _ ?_;clear hK K
   refine awp_ret ?_;rw[show Tryz.f21.results.toList=[.tmp 2, .tmp 3] from rfl];first|refine uRN ?_|exact uRM
open Go.Scr
def parseR:Nat->List Acx->Bs->List Acx×Int×Int
 |0,out,_=>(out,0,0)
 |f+1,out,s=>
  if s=[] then(out,0,0)
  else if 500<=out.length then([],out.length+1,2)
  else match parseS (Lib.cut s [10]).1 with
   |none=>([],out.length+1,3)
   |some x=>if(Lib.cut s [10]).2.2 then parseR f (out++[x]) (Lib.cut s [10]).2.1 else([],out.length+1,3)
def parseTS (s:Bs):List Acx×Int×Int:=if 65536<s.length then([],0,2) else parseR s.length [] s
theorem cut_parts (s:Bs):(Lib.cut s [10]).1.length<=s.length/\(Lib.cut s [10]).1.count 32<=s.count 32/\(Lib.cut s [10]).2.1.count 32<=s.count 32/\((Lib.cut s [10]).2.2=true->(Lib.cut s [10]).2.1.length<s.length):=by
 rcases firstOf 10 s with h|⟨w,r,rfl,h⟩
 ·rw[cut_not h]
  exact⟨Nat.le_refl _,Nat.le_refl _,Nat.zero_le _,nofun⟩
 ·rw[cut_at h]
  simp only[List.length_append,List.length_cons,List.count_append,List.count_cons]
  refine⟨by omega,by omega,by omega,fun _=>by omega⟩
theorem parse_sat (s:Bs) (hl:s.length<=1000000) (hc:s.count 32<=999):SatG Tryz.prog tab 24 [] [S (strOf s)] [] (.tup [.sl (acts (parseTS s).1) false,I (parseTS s).2.1,I (parseTS s).2.2]):=by
 refine uFN Tryz.func24 Tryz.ntmps24 ?_;intro w e X hC
 repeat refine uA ?_
 refine uW ?_;refine condP _ rfl (fun c0=>?_) (fun c0=>?_)
 ·have e:parseTS s=([],0,2):=by unfold parseTS;rw[if_pos (by omega)]
  rw[e]
  repeat refine uA ?_
  refine awp_ret ?_;rw[show Tryz.f24.results.toList=[.tmp 2, .tmp 3, .tmp 4] from rfl];first|refine uRN ?_|exact uRM
  rfl
 have e0:parseTS s=parseR s.length [] s:=by unfold parseTS;rw[if_neg (by omega)]
 rw[e0]
 generalize hT:parseR s.length [] s=T
 repeat refine uA ?_
 refine uW ?_
 refine awp_loopW (fun i:Nat×Nat×List Acx×Bs=>⟨[(0,S (strOf i.2.2.2)),(2, .slO 102 1 0 0),(3,I 0),(4,I 0),(5, .slO 105 7 0 i.2.2.1.length)],[(105,some (7, .own 30 23 (acts i.2.2.1))),(102,some (1, .own 30 23 []))],i.1⟩) (fun i=>i.2.2.2.length<=i.2.1/\i.2.2.2.length<=s.length/\i.2.2.2.count 32<=999/\i.2.2.1.length<=500/\parseR i.2.1 i.2.2.1 i.2.2.2=T) (fun i=>i.2.2.2.length) (_,s.length,[],s) ⟨Nat.le_refl _,Nat.le_refl _,hc,Nat.zero_le _,hT⟩ (uKF) ?_
 rintro⟨ck,n,out,t⟩ ⟨h1,h2,h3,h4,h5⟩
 simp only at h1 h2 h3 h4 h5
 repeat refine uA ?_
 refine uW ?_;refine condP _ rfl (fun h=>?_) (fun h=>?_)
 ·obtain⟨n,rfl⟩:∃k,n=k+1:=⟨n - 1,by omega⟩
  have ht:t≠[]:=fun h0=>by rw[h0] at h;simp at h
  rw[parseR,if_neg ht] at h5
  repeat refine uA ?_
  refine uW ?_;refine condP _ rfl (fun c1=>?_) (fun c1=>?_)
  ·rw[if_pos (by omega)] at h5
   rw[<-h5]
   repeat refine uA ?_
   refine awp_ret ?_;rw[show Tryz.f24.results.toList=[.tmp 2, .tmp 3, .tmp 4] from rfl];first|refine uRN ?_|exact uRM
   rfl
  rw[if_neg (by omega)] at h5
  obtain⟨q1,q2,q3,q4⟩:=cut_parts t
  have k1:=cut_sat t [10] (by omega)
  have k2:=parseline_sat (Lib.cut t [10]).1 (by omega) (by omega)
  generalize Lib.cut t [10]=u at*
  obtain⟨a,b,ended⟩:=u
  simp only at q1 q2 q3 q4 k2 h5
  refine uR ?_;intro K hK
  refine uH ?_
  refine callF uTS (k1) uTS uTS uTS ?_;refine uS ?_
  refine hK _ ?_;clear hK K
  cases hp:parseS a with
  |none=>
   rw[hp] at k2 h5
   replace k2:SatG Tryz.prog tab 16 [] [S (strOf a)] [] (.tup [(A0 0).av,I 3]):=k2
   simp only at h5
   rw[<-h5]
   refine uR ?_;intro K hK
   refine uH ?_
   refine callP uTS (k2) uTS uTS uTS ?_;refine uS ?_
   refine uH ?_
   refine hK _ ?_;clear hK K
   cases ended with
   |true=>
    repeat refine uA ?_
    refine uT ?_
    repeat refine uA ?_
    refine awp_ret ?_;rw[show Tryz.f24.results.toList=[.tmp 2, .tmp 3, .tmp 4] from rfl];first|refine uRN ?_|exact uRM
    rfl
   |false=>
    repeat refine uA ?_
    refine uT ?_
    repeat refine uA ?_
    refine awp_ret ?_;rw[show Tryz.f24.results.toList=[.tmp 2, .tmp 3, .tmp 4] from rfl];first|refine uRN ?_|exact uRM
    rfl
  |some x=>
   rw[hp] at k2 h5
   replace k2:SatG Tryz.prog tab 16 [] [S (strOf a)] [] (.tup [x.av,I 0]):=k2
   simp only at h5
   refine uR ?_;intro K hK
   refine uH ?_
   refine callP uTS (k2) uTS uTS uTS ?_;refine uS ?_
   refine uH ?_
   refine hK _ ?_;clear hK K
   cases ended with
   |false=>
    rw[if_neg (by decide)] at h5
    rw[<-h5]
    repeat refine uA ?_
    refine uT ?_
    repeat refine uA ?_
    refine awp_ret ?_;rw[show Tryz.f24.results.toList=[.tmp 2, .tmp 3, .tmp 4] from rfl];first|refine uRN ?_|exact uRM
    rfl
   |true=>
    rw[if_pos rfl] at h5
    have q5:=q4 rfl
    repeat refine uA ?_
    refine uF ?_
    have hsn:acts out++[x.av]=acts (out++[x]):=acts_snoc
    have hln:(out++[x]).length=out.length+1:=by simp
    repeat refine uA1 @hsn ?_
    refine⟨(_,n,out++[x],b),⟨by simp only;omega,by simp only;omega,by simp only;omega,by simp only[List.length_append,List.length_singleton];omega,h5⟩,by simp only;omega, .of (Nat.le_refl _) (uHF1 (uI @hsn @hln)) (uWF1 @hln)⟩
 ·refine awp_exit ?_
  have ht:t=[]:=List.eq_nil_of_length_eq_zero (by omega)
  subst ht
  have h6:T=(out,0,0):=by
   rw[<-h5]
   cases n<;>simp[parseR]
  rw[h6]
  repeat refine uA ?_
  refine awp_ret ?_;rw[show Tryz.f24.results.toList=[.tmp 2, .tmp 3, .tmp 4] from rfl];first|refine uRN ?_|exact uRM
end Go.Proofs.YtokkbonoplbiaaaGreatDoor
namespace Go.Scr
open Go Go.Lib
theorem swap_back2 {s:Bs} (h:(124:UInt8)∉s):swapB 124 10 (swapB 10 124 s)=s:=by
 unfold swapB
 rw[List.map_map]
 conv=>rhs;rw[<-List.map_id s]
 refine List.map_congr_left fun x hx=>?_
 simp only[Function.comp_apply,id_eq]
 have hx':x≠124:=fun e=>h (by rw[<-e];exact hx)
 by_cases h1:x=10
 ·rw[if_pos h1,if_pos rfl,h1]
 ·rw[if_neg h1,if_neg hx']
def msgA (t:Bs):Acx:={A0 3 with txt:=t}
theorem only_msg (t:Bs):only (msgA t)=msgA t:=rfl
theorem line_msg {t:Bs} (h:txtB t=true):lineS (msgA t)=some (sMessage++32::swapB 10 124 t):=by
 have hw:wAct ([],false) (msgA t)=([sMessage,swapB 10 124 t],false):=by
  show wMsg (wWord ([],false) sMessage) t=_
  unfold wMsg wWord
  rw[h];rfl
 unfold lineS
 rw[hw,if_pos ⟨by show(1:Int)<=3;decide,by show(3:Int)<=14;decide,(only_msg t).symm,rfl⟩,join_cons2 32 sMessage (by simp),join_one]
theorem msg_no:(32:UInt8)∉sMessage:=by decide
theorem parse_msg {t:Bs} (h:txtB t=true) (hb:(124:UInt8)∉t):parseS (sMessage++32::swapB 10 124 t)=some (msgA t):=by
 generalize hs:sMessage++32::swapB 10 124 t=s
 have hn:(rd0 s).next=(sMessage,⟨s,splitL 32 (swapB 10 124 t),false⟩):=by
  unfold rd0
  rw[<-hs,splitL_cons msg_no];rfl
 have hc:cut s [32]=(sMessage,swapB 10 124 t,true):=by rw[<-hs];exact cut_at msg_no
 have ha:(rd0 s).act=(msgA t,⟨s,[],false⟩):=by
  unfold Rd.act
  rw[hn]
  simp only
  rw[if_neg (by decide),if_neg (by decide),if_pos trivial]
  unfold Rd.message
  simp only[hc]
  rw[swap_back2 hb];rfl
 unfold parseS
 rw[ha]
 simp only
 rw[if_pos ⟨trivial,trivial,by rw[line_msg h,hs]⟩]
def exA:Acx:={A0 1 with lost:=true,mv:=[⟨1,3,0⟩]}
def exL:Bs:=[116,105,99,107,32,108,111,115,116,32,115,116,105,99,107,58,51,58,48]
def exM:Bs:=[109,101,115,115,97,103,101,32,66,83,77,124,69,78,68,66,83,77,124]
def exT:Bs:=[116,105,99,107,32,109,105,115,115,58,48,58,48,32,115,116,105,99,107,58,51,58,48]
def exV:Bs:=[118,101,114,100,105,99,116,32,48,55,32,99,108,101,97,114]
theorem ex_line:lineS exA=some exL:=by decide+kernel
theorem ex_msg:parseS exM=some (msgA [66,83,77,10,69,78,68,66,83,77,10]):=by decide+kernel
theorem ex_tick:parseS exT=none:=by decide+kernel
theorem ex_verdict:parseS exV=none:=by decide+kernel
end Go.Scr
namespace Go.Proofs.YtokkbonoplbiaaaGreatDoor
open Go Go.Sym
open Go.Scr
theorem count_exM:exM.count 32<=999:=by decide
theorem count_exT:exT.count 32<=999:=by decide
theorem count_exV:exV.count 32<=999:=by decide
theorem sm_exA:SmA exA:=⟨by decide,by decide,by decide,by decide,by decide,by decide,by decide⟩
theorem awake_sat:SatG Tryz.prog tab 19 [] [] [] (B true):=by
 have h1:=line_sat exA sm_exA
 rw[ex_line] at h1
 replace h1:SatG Tryz.prog tab 12 [] [exA.av] [] (.tup [S (strOf exL),I 0]):=h1
 have h2:=parseline_sat exM (by decide) count_exM
 rw[ex_msg] at h2
 replace h2:SatG Tryz.prog tab 16 [] [S (strOf exM)] [] (.tup [(msgA [66,83,77,10,69,78,68,66,83,77,10]).av,I 0]):=h2
 have h3:=parseline_sat exT (by decide) count_exT
 rw[ex_tick] at h3
 replace h3:SatG Tryz.prog tab 16 [] [S (strOf exT)] [] (.tup [(A0 0).av,I 3]):=h3
 have h4:=parseline_sat exV (by decide) count_exV
 rw[ex_verdict] at h4
 replace h4:SatG Tryz.prog tab 16 [] [S (strOf exV)] [] (.tup [(A0 0).av,I 3]):=h4
 refine uFN Tryz.func19 Tryz.ntmps19 ?_;intro w e X hC
 repeat refine uA ?_
 refine uR ?_;intro K hK
 refine uH ?_
 refine callE [] [] false (h1) uTR uTR uTE uTE uTE uTE uTE uTE uTE uTE uTE uTE uTE uTE uTE uTE uTE ?_;refine uQS ?_
 refine hK _ ?_;clear hK K
 refine uR ?_;intro K hK
 refine uH ?_
 refine callP uTS (h2) uTS uTS uTS ?_;refine uS ?_
 refine uH ?_
 refine hK _ ?_;clear hK K
 refine uR ?_;intro K hK
 refine uH ?_
 refine callP uTS (h3) uTS uTS uTS ?_;refine uS ?_
 refine uH ?_
 refine hK _ ?_;clear hK K
 refine uR ?_;intro K hK
 refine uH ?_
 refine callP uTS (h4) uTS uTS uTS ?_;refine uS ?_
 refine uH ?_
 refine hK _ ?_;clear hK K
 have e1:decide (exL=[116,105,99,107,32,108,111,115,116,32,115,116,105,99,107,58,51,58,48])=true:=decide_eq_true rfl
 have e2:decide ((msgA [66,83,77,10,69,78,68,66,83,77,10]).k=3)=true:=decide_eq_true rfl
 have e3:decide ((msgA [66,83,77,10,69,78,68,66,83,77,10]).txt=[66,83,77,10,69,78,68,66,83,77,10])=true:=decide_eq_true rfl
 repeat refine uA1 (uI @e1 (uI @e2 @e3)) ?_
 (refine awp_ret (ret1 uRT ?_);try rfl)
open Go.Scr
theorem kpick_sat (l:List Int) (a:Nat) (es:List Int) (hf:Fits l) (ha:a<=l.length) (h0:0<es.length) (hn:es.length<=9223372036854775807):
  SatG Tryz.prog tab 33 (srcB l a) [.ptO 0 0 0 0 0,IS es] (srcB l (nxs l a 1)) (I (es.getD (modI (l.getD a 0) es.length).toNat 0)):=by
 have hm:=modI_lt (x:=l.getD a 0) (n:=es.length) (by omega)
 refine uFN Tryz.func33 Tryz.ntmps33 ?_;intro w e X hC
 repeat refine uA ?_
 refine uR ?_;intro K hK
 refine callL rfl ((n_sat l a es.length hf ha (by omega))) uTS uTS uTS uTS uTS ?_;refine uS ?_
 generalize modI (l.getD a 0) es.length=m at*
 have hlt:m.toNat<es.length:=by omega
 first|refine uS1 (ints_getD hlt) ?_|exact uX1 (ints_getD hlt)
 refine⟨(by(repeat' apply And.intro)<;>first|omega|simp),?_⟩
 refine hK _ ?_;clear hK K
 (refine awp_ret (retB1 rfl uTS uTS ?_ ?_);all_goals (first|refine uS ?_|exact uX|skip))
abbrev srcC (l:List Int) (a:Nat):Hp:=srcB l (min a l.length)
theorem getD_min {l:List Int} {a:Nat}:l.getD (min a l.length) 0=l.getD a 0:=by
 have:=nxs_get (l:=l) (a:=a) (i:=0)
 simpa[nxs] using this
theorem min_nxs {l:List Int} {a:Nat}:nxs l (min a l.length) 1=min (a+1) l.length:=by unfold nxs;omega
def gN (l:List Int) (a:Nat) (n:Int):Int:=modI (l.getD a 0) n
def gP (l:List Int) (a:Nat) (es:List Int):Int:=es.getD (gN l a es.length).toNat 0
theorem gN_lt {l:List Int} {a:Nat} {n:Int} (h:1<=n):0<=gN l a n/\gN l a n<n:=modI_lt h
theorem gRaw_sat (l:List Int) (a:Nat) (hf:Fits l):SatG Tryz.prog tab 51 (srcC l a) [.ptO 0 0 0 0 0] (srcC l (a+1)) (I (l.getD a 0)):=by
 have:=raw_sat l (min a l.length) hf (by omega)
 rwa[getD_min,min_nxs] at this
theorem gN_sat (l:List Int) (a:Nat) (n:Int) (hf:Fits l) (hn:n<=9223372036854775807):SatG Tryz.prog tab 23 (srcC l a) [.ptO 0 0 0 0 0,I n] (srcC l (a+1)) (I (gN l a n)):=by
 have:=n_sat l (min a l.length) n hf (by omega) hn
 rwa[getD_min,min_nxs] at this
theorem gP_sat (l:List Int) (a:Nat) (es:List Int) (hf:Fits l) (h0:0<es.length) (hn:es.length<=9223372036854775807):
  SatG Tryz.prog tab 33 (srcC l a) [.ptO 0 0 0 0 0,IS es] (srcC l (a+1)) (I (gP l a es)):=by
 have:=kpick_sat l (min a l.length) es hf (by omega) h0 hn
 rwa[getD_min,min_nxs] at this
def cut2 (l:List Int):List Int:=l.take 2000
theorem new_sat (l:List Int) (h:l.length<=9223372036854775807):SatG Tryz.prog tab 8 [] [IS l] [(100,some (1, .box [IS (cut2 l),I 0]))] (.ptO 100 1 0 0 0):=by
 refine uFN Tryz.func8 Tryz.ntmps8 ?_;intro w e X hC
 repeat refine uA ?_
 refine uW ?_;refine condP _ rfl (fun h=>?_) (fun h=>?_)
 ·repeat refine uA ?_
  have e:ints (l.take 2000)=ints (cut2 l):=rfl
  simp only[ints_take,e]
  refine awp_ret ?_;rw[show Tryz.f8.results.toList=[.tmp 2] from rfl];(refine retG [(100,1,110,10)] uRG (by simp) (by simp) (by simp) uTG uTG uTG ?_ ?_;all_goals (first|refine uSG ?_|exact uXG|skip))
 ·have e:l=cut2 l:=by rw[cut2,List.take_of_length_le (by omega)]
  repeat refine uA ?_
  rw[<-e]
  refine awp_ret ?_;rw[show Tryz.f8.results.toList=[.tmp 2] from rfl];(refine retG [(100,1,110,7)] uRG (by simp) (by simp) (by simp) uTG uTG uTG ?_ ?_;all_goals (first|refine uSG ?_|exact uXG|skip))
def gT (l:List Int) (a:Nat) (es:List Bs):Bs:=es.getD (gN l a es.length).toNat []
theorem gN_I64 {l:List Int} {a:Nat} {n:Int} (hn:I64 n):I64 (gN l a n):=by
 unfold I64 at*
 by_cases h:1<=n
 ·have:=gN_lt (l:=l) (a:=a) h;omega
 ·have:gN l a n=0:=by unfold gN modI;rw[if_pos (by omega)]
  omega
theorem gT_sat (l:List Int) (a:Nat) (es:List Bs) (hf:Fits l) (h0:0<es.length) (hn:es.length<=1000000):
  SatG Tryz.prog tab 15 (srcC l a) [.ptO 0 0 0 0 0, .sl (strs es) false] (srcC l (a+1)) (S (strOf (gT l a es))):=by
 have hm:=gN_lt (l:=l) (a:=a) (n:=es.length) (by omega)
 unfold gT
 refine uFN Tryz.func15 Tryz.ntmps15 ?_;intro w e X hC
 repeat refine uA ?_
 refine uR ?_;intro K hK
 refine callL rfl ((gN_sat l a es.length hf (by omega))) uTS uTS uTS uTS uTS ?_;refine uS ?_
 generalize gN l a es.length=m at*
 have hlt:m.toNat<es.length:=by omega
 first|refine uS1 (strs_getD hlt) ?_|exact uX1 (strs_getD hlt)
 refine⟨(by(repeat' apply And.intro)<;>first|omega|simp),?_⟩
 refine hK _ ?_;clear hK K
 (refine awp_ret (retB1 rfl uTS uTS ?_ ?_);all_goals (first|refine uS ?_|exact uX|skip))
theorem wrapI {x:Int} (h:I64 x):IntKind.i64.wrap x=x:=by
 rw[IntKind.wrap_i64]
 unfold I64 at h
 omega
theorem quoI {m k:Int} (h:0<=m) (h1:m<=9223372036854775807) (hk:0<k):IntKind.i64.wrap (m.tdiv k)=m / k:=by
 rw[Int.tdiv_eq_ediv_of_nonneg h]
 have h2:0<=m / k:=Int.ediv_nonneg h (by omega)
 have h3:m / k<=m:=Int.ediv_le_self _ h
 exact wrapI ⟨by omega,by omega⟩
def plates (i:Int):Plt:=⟨modI i 1000 / 500,117+modI i 1000 / 100 % 5,1000+modI i 1000 % 100⟩
theorem plates_sat (i:Int) (hi:I64 i):SatG Tryz.prog tab 54 [] [I i] [] (Plt.av (plates i)):=by
 have hm:=modI_lt (x:=i) (n:=1000) (by omega)
 unfold plates
 refine uFN Tryz.func54 Tryz.ntmps54 ?_;intro w e X hC
 repeat refine uA ?_
 refine uR ?_;intro K hK
 refine callF uTS ((mod_sat i 1000 hi (by omega))) uTS uTS uTS ?_;refine uS ?_
 refine hK _ ?_;clear hK K
 generalize modI i 1000=m at*
 have e1:=quoI (k:=500) hm.1 (by omega) (by decide)
 have e2:=quoI (k:=100) hm.1 (by omega) (by decide)
 have e3:(m / 100).tmod 5=m / 100 % 5:=Int.tmod_eq_emod_of_nonneg (by omega)
 have e4:m.tmod 100=m % 100:=Int.tmod_eq_emod_of_nonneg hm.1
 repeat refine uA1 (uI @e1 (uI @e2 (uI @e3 @e4))) ?_
 refine awp_ret ?_;rw[show Tryz.f54.results.toList=[.cell 2 24] from rfl];first|refine uRN ?_|exact uRM
theorem kplate_sat (l:List Int) (a:Nat) (n:Int) (hf:Fits l) (hn:I64 n):SatG Tryz.prog tab 27 (srcC l a) [.ptO 0 0 0 0 0,I n] (srcC l (a+1)) (Plt.av (plates (gN l a n))):=by
 refine uFN Tryz.func27 Tryz.ntmps27 ?_;intro w e X hC
 repeat refine uA ?_
 refine uR ?_;intro K hK
 refine callL rfl ((gN_sat l a n hf hn.2)) uTS uTS uTS uTS uTS ?_;refine uS ?_
 refine callF uTS ((plates_sat _ (gN_I64 hn))) uTS uTS uTS ?_;refine uS ?_
 refine hK _ ?_;clear hK K
 refine awp_ret ?_;rw[show Tryz.f27.results.toList=[.cell 4 24] from rfl];(refine(retBs uRG rfl uTC uTC ?_ ?_);all_goals (first|refine uSC ?_|exact uXC|skip))
def carL:List Bs:=[[66,65],[76,72],[83,75]]
def flights (i:Int):Flt:=⟨carL.getD (modI i 27 / 9).toNat [],1+modI i 27 / 3 % 3,[],1+modI i 27 % 3⟩
theorem flights_sat (i:Int) (hi:I64 i):SatG Tryz.prog tab 29 [] [I i] [] (Flt.av (flights i)):=by
 have hm:=modI_lt (x:=i) (n:=27) (by omega)
 unfold flights
 refine uFN Tryz.func29 Tryz.ntmps29 ?_;intro w e X hC
 repeat refine uA ?_
 refine uR ?_;intro K hK
 refine callF uTS ((mod_sat i 27 hi (by omega))) uTS uTS uTS ?_;refine uS ?_
 refine hK _ ?_;clear hK K
 generalize modI i 27=m at*
 have e1:=quoI (k:=9) hm.1 (by omega) (by decide)
 have e2:=quoI (k:=3) hm.1 (by omega) (by decide)
 have e3:(m / 3).tmod 3=m / 3 % 3:=Int.tmod_eq_emod_of_nonneg (by omega)
 have e4:m.tmod 3=m % 3:=Int.tmod_eq_emod_of_nonneg hm.1
 have h0:m / 9=0\/m / 9=1\/m / 9=2:=by omega
 rcases h0 with h0|h0|h0
 ·repeat refine uA1 (uI @e1 (uI @e2 (uI @e3 (uI @e4 @h0)))) ?_
  rw[h0]
  refine awp_ret ?_;rw[show Tryz.f29.results.toList=[.cell 2 26] from rfl];first|refine uRN ?_|exact uRM
  rfl
 ·repeat refine uA1 (uI @e1 (uI @e2 (uI @e3 (uI @e4 @h0)))) ?_
  rw[h0]
  refine awp_ret ?_;rw[show Tryz.f29.results.toList=[.cell 2 26] from rfl];first|refine uRN ?_|exact uRM
  rfl
 ·repeat refine uA1 (uI @e1 (uI @e2 (uI @e3 (uI @e4 @h0)))) ?_
  rw[h0]
  refine awp_ret ?_;rw[show Tryz.f29.results.toList=[.cell 2 26] from rfl];first|refine uRN ?_|exact uRM
  rfl
def carG:List Bs:=[[83,75],[66,65],[76,72]]
def gF (l:List Int) (a:Nat):Flt:=⟨gT l a carG,1+gN l (a+1) 3,[],1+gN l (a+2) 3⟩
theorem gF_sat (l:List Int) (a:Nat) (hf:Fits l):SatG Tryz.prog tab 57 (srcC l a) [.ptO 0 0 0 0 0] (srcC l (a+3)) (Flt.av (gF l a)):=by
 have h1:SatG Tryz.prog tab 15 (srcC l a) [.ptO 0 0 0 0 0, .sl [.lit (.string ⟨#[83,75]⟩), .lit (.string ⟨#[66,65]⟩), .lit (.string ⟨#[76,72]⟩)] false] (srcC l (a+1)) (S (strOf (gT l a carG))):=gT_sat l a carG hf (by decide) (by decide)
 have h2:=gN_sat l (a+1) 3 hf (by decide)
 have h3:=gN_sat l (a+1+1) 3 hf (by decide)
 have b2:=gN_lt (l:=l) (a:=a+1) (n:=3) (by decide)
 have b3:=gN_lt (l:=l) (a:=a+1+1) (n:=3) (by decide)
 refine uFN Tryz.func57 Tryz.ntmps57 ?_;intro w e X hC
 repeat refine uA ?_
 refine uR ?_;intro K hK
 refine callL rfl (h1) uTS uTS uTS uTS uTS ?_;refine uS ?_
 refine callL rfl (h2) uTS uTS uTS uTS uTS ?_;refine uS ?_
 refine uH ?_
 refine callL rfl (h3) uTS uTS uTS uTS uTS ?_;refine uS ?_
 refine uH ?_
 refine hK _ ?_;clear hK K
 refine awp_ret ?_;rw[show Tryz.f57.results.toList=[.cell 2 26] from rfl];(refine(retBs uRG rfl uTC uTC ?_ ?_);all_goals (first|refine uSC ?_|exact uXC|skip))
 rfl
def dgs:Nat->Int->Int->Bs->Bs
 |0,_,_,s=>s
 |k+1,x,n,s=>if 0<x\/(s.length:Int)<n then dgs k (x / 10) n (UInt8.ofNat (48+(x % 10).toNat)::s) else s
theorem dgs_length:∀(k:Nat) (x n:Int) (s:Bs),(dgs k x n s).length<=k+s.length
 |0,_,_,_=>by simp[dgs]
 |k+1,x,n,s=>by
  unfold dgs
  split
  ·have:=dgs_length k (x / 10) n (UInt8.ofNat (48+(x % 10).toNat)::s)
   rw[List.length_cons] at this
   omega
  ·omega
theorem digits_sat (x n:Int) (hx:0<=x/\x<10^12) (hn:n<=12):SatG Tryz.prog tab 55 [] [I x,I n] [] (S (strOf (dgs 12 x n []))):=by
 refine uFN Tryz.func55 Tryz.ntmps55 ?_;intro w e X hC
 repeat refine uA ?_
 refine uW ?_
 refine awp_loopW (fun i:Nat×Nat×Int×Bs=>⟨[(0,I i.2.2.1),(1,I n),(5,S (strOf i.2.2.2))],[],i.1⟩) (fun i=>0<=i.2.2.1/\i.2.2.1<10^i.2.1/\i.2.1<=12/\n<=(i.2.1:Int)+i.2.2.2.length/\i.2.1+i.2.2.2.length=12/\dgs i.2.1 i.2.2.1 n i.2.2.2=dgs 12 x n []) (fun i=>i.2.1) (_,12,x,[]) ⟨hx.1,hx.2,Nat.le_refl _,by simp;omega,rfl,rfl⟩ (uKF) ?_
 rintro⟨ck,k,y,s⟩ ⟨h1,h2,h3,h4,h5,h6⟩
 simp only at h1 h2 h3 h4 h5 h6
 have hk:y<=1000000000000:=by
  have h7:(10:Nat)^k<=10^12:=Nat.pow_le_pow_right (by decide) h3
  have h8:((10^k:Nat):Int)=10^k:=by simp
  omega
 have step:(0<y\/(s.length:Int)<n)->∃j,k=j+1:=by
  intro h
  cases k with
  |zero=>simp at h2 h4;omega
  |succ j=>exact⟨j,rfl⟩
 by_cases c:0<y\/(s.length:Int)<n
 ·obtain⟨j,rfl⟩:=step c
  have e0:dgs (j+1) y n s=dgs j (y / 10) n (UInt8.ofNat (48+(y % 10).toNat)::s):=by rw[dgs,if_pos c]
  have hb:bytesOf [.lit (.int .u8 (IntKind.u8.wrap (48+modI y 10)))]=some [UInt8.ofNat (48+(y % 10).toNat)]:=by
   have hm:modI y 10=y % 10:=by unfold modI;rw[if_neg (by decide)]
   have e7:IntKind.u8.wrap (48+modI y 10)=(((UInt8.ofNat (48+(y % 10).toNat)).toNat:Nat):Int):=by
    rw[hm,IntKind.wrap_u8,UInt8.toNat_ofNat']
    omega
   rw[e7]
   exact byts_bytes [UInt8.ofNat (48+(y % 10).toNat)]
  by_cases c1:0<y
  ·have e1:decide (0<y)=true:=decide_eq_true c1
   repeat refine uA1 @e1 ?_
   refine uT ?_
   have hm:=modI_lt (x:=y) (n:=10) (by decide)
   refine uR ?_;intro K hK
   refine callF uTS ((mod_sat y 10 ⟨by omega,by omega⟩ (by decide))) uTS uTS uTS ?_;refine uS ?_
   refine uH ?_
   first|refine uS1 @hb ?_|exact uX1 @hb
   refine⟨by omega,?_⟩
   refine hK _ ?_;clear hK K
   have e3:=quoI (m:=y) (k:=10) h1 (by omega) (by decide)
   repeat refine uA1 @e3 ?_
   refine⟨(_,j,y / 10,UInt8.ofNat (48+(y % 10).toNat)::s),⟨by simp only;omega,by simp only;rw[Int.pow_succ] at h2;omega,by simp only;omega,by simp only[List.length_cons];omega,by simp only[List.length_cons];omega,by simp only;rw[<-e0];exact h6⟩,by simp only;omega,uKF⟩
  ·have e1:decide (0<y)=false:=decide_eq_false c1
   have e2:=uDt ((s.length:Int)<n)
   repeat refine uA1 (uI @e1 @e2) ?_
   refine uT ?_
   have hm:=modI_lt (x:=y) (n:=10) (by decide)
   refine uR ?_;intro K hK
   refine callF uTS ((mod_sat y 10 ⟨by omega,by omega⟩ (by decide))) uTS uTS uTS ?_;refine uS ?_
   refine uH ?_
   first|refine uS1 @hb ?_|exact uX1 @hb
   refine⟨by omega,?_⟩
   refine hK _ ?_;clear hK K
   have e3:=quoI (m:=y) (k:=10) h1 (by omega) (by decide)
   repeat refine uA1 @e3 ?_
   refine⟨(_,j,y / 10,UInt8.ofNat (48+(y % 10).toNat)::s),⟨by simp only;omega,by simp only;rw[Int.pow_succ] at h2;omega,by simp only;omega,by simp only[List.length_cons];omega,by simp only[List.length_cons];omega,by simp only;rw[<-e0];exact h6⟩,by simp only;omega,uKF⟩
 ·have e1:=uDf (0<y)
  have e2:=uDf ((s.length:Int)<n)
  have e3:dgs k y n s=s:=by
   cases k with
   |zero=>rfl
   |succ j=>rw[dgs,if_neg c]
  rw[e3] at h6
  rw[<-h6]
  repeat refine uA1 (uI @e1 @e2) ?_
  refine uF ?_
  refine awp_exit ?_
  repeat refine uA ?_
  (refine awp_ret (ret1 uRT ?_);try rfl)
open Go.Scr
def desg (i:Int):Bs:=(flights i).car++dgs 12 (flights i).num 4 []++[47]++dgs 12 (flights i).day 2 []
theorem carL_len (n:Nat):(carL.getD n []).length<=2:=by
 match n with
 |0=>decide
 |1=>decide
 |2=>decide
 |n+3=>exact Nat.zero_le 2
theorem flights_b (i:Int):(flights i).car.length<=2/\1<=(flights i).num/\(flights i).num<=3/\1<=(flights i).day/\(flights i).day<=3/\(flights i).suf=[]:=by
 have hm:=modI_lt (x:=i) (n:=27) (by omega)
 unfold flights
 exact⟨carL_len _,by simp only;omega,by simp only;omega,by simp only;omega,by simp only;omega,rfl⟩
theorem desg_len (i:Int):(desg i).length<=27:=by
 have h1:=(flights_b i).1
 have h2:=dgs_length 12 (flights i).num 4 []
 have h3:=dgs_length 12 (flights i).day 2 []
 unfold desg
 simp only[List.length_append,List.length_cons,List.length_nil] at*
 omega
theorem desg_sat (i:Int) (hi:I64 i):SatG Tryz.prog tab 56 [] [I i] [] (S (strOf (desg i))):=by
 obtain⟨b1,b2,b3,b4,b5,b6⟩:=flights_b i
 have h0:=flights_sat i hi
 unfold desg
 generalize flights i=f at*
 have l1:=dgs_length 12 f.num 4 []
 have l2:=dgs_length 12 f.day 2 []
 have h1:=digits_sat f.num 4 ⟨by omega,by omega⟩ (by decide)
 have h2:=digits_sat f.day 2 ⟨by omega,by omega⟩ (by decide)
 generalize dgs 12 f.num 4 []=d1 at*
 generalize dgs 12 f.day 2 []=d2 at*
 refine uFN Tryz.func56 Tryz.ntmps56 ?_;intro w e X hC
 repeat refine uA ?_
 refine uR ?_;intro K hK
 refine callF uTS (h0) uTS uTS uTS ?_;refine uS ?_
 refine hK _ ?_;clear hK K
 refine uD ?_;intro K hK
 refine callF uTS (h1) uTS uTS uTS ?_;refine uS ?_
 simp only[List.length_cons,List.length_nil] at l1 l2
 refine uH ?_
 refine callF uTS (h2) uTS uTS uTS ?_;refine uS ?_
 refine uH ?_
 refine hK _ ?_;clear hK K
 (refine awp_ret (ret1 uRT ?_);try rfl)
def srcP1:Bs:=[66,83,77,10,46,86,47,49,76,67,80,72,47]
def srcP2:Bs:=[10,46,70,47]
def srcP3:Bs:=[47,76,72,82,47,89,10,46,78,47]
def srcP4:Bs:=[47,48,48,49,10,46,83,47,89,47,67,47,48,48,51,10,46,87,47,75,47,49,48,10,46,80,47,68,79,69,47,74,10,69,78,68,66,83,77,10]
def srcT (n i:Int) (p:Plt):Bs:=srcP1++dgs 12 n 1 []++srcP2++desg i++srcP3++dgs 12 p.l 1 []++dgs 12 p.a 3 []++dgs 12 p.s 6 []++srcP4
def SmPl (p:Plt):Prop:=0<=p.l/\p.l<=9/\0<=p.a/\p.a<=999/\0<=p.s/\p.s<=999999
theorem srcT_len (n i:Int) (p:Plt):(srcT n i p).length<=200:=by
 have h0:=desg_len i
 have h1:=dgs_length 12 n 1 []
 have h2:=dgs_length 12 p.l 1 []
 have h3:=dgs_length 12 p.a 3 []
 have h4:=dgs_length 12 p.s 6 []
 unfold srcT
 simp only[List.length_append,List.length_nil,srcP1,srcP2,srcP3,srcP4,List.length_cons] at*
 omega
theorem source_sat (n i:Int) (p:Plt) (hn:0<=n/\n<=1000) (hi:I64 i) (hp:SmPl p):SatG Tryz.prog tab 28 [] [I n,I i,Plt.av p] [] (S (strOf (srcT n i p))):=by
 obtain⟨p1,p2,p3,p4,p5,p6⟩:=hp
 have h0:=desg_len i
 have l1:=dgs_length 12 n 1 []
 have l2:=dgs_length 12 p.l 1 []
 have l3:=dgs_length 12 p.a 3 []
 have l4:=dgs_length 12 p.s 6 []
 have s0:=desg_sat i hi
 have s1:=digits_sat n 1 ⟨by omega,by omega⟩ (by decide)
 have s2:=digits_sat p.l 1 ⟨by omega,by omega⟩ (by decide)
 have s3:=digits_sat p.a 3 ⟨by omega,by omega⟩ (by decide)
 have s4:=digits_sat p.s 6 ⟨by omega,by omega⟩ (by decide)
 unfold srcT
 generalize dgs 12 n 1 []=d1 at*
 generalize dgs 12 p.l 1 []=d2 at*
 generalize dgs 12 p.a 3 []=d3 at*
 generalize dgs 12 p.s 6 []=d4 at*
 generalize desg i=d0 at*
 simp only[List.length_nil] at l1 l2 l3 l4
 refine uFN Tryz.func28 Tryz.ntmps28 ?_;intro w e X hC
 repeat refine uA ?_
 refine uD ?_;intro K hK
 refine callF uTS (s1) uTS uTS uTS ?_;refine uS ?_
 refine uH ?_
 refine callF uTS (s0) uTS uTS uTS ?_;refine uS ?_
 refine uH ?_
 refine callF uTS (s2) uTS uTS uTS ?_;refine uS ?_
 refine uH ?_
 refine callF uTS (s3) uTS uTS uTS ?_;refine uS ?_
 refine uH ?_
 refine callF uTS (s4) uTS uTS uTS ?_;refine uS ?_
 refine uH ?_
 refine hK _ ?_;clear hK K
 (refine awp_ret (ret1 uRT ?_);try rfl)
def brdP:Bs:=[66,66,77,10,46,86,47,49,76,67,80,72,47]
def brdQ:Bs:=[47,76,72,82,47,89,10,46,66,47,48,48,51,10,69,78,68,66,66,77,10]
def brdT (n i:Int):Bs:=brdP++dgs 12 n 1 []++srcP2++desg i++brdQ
theorem brdT_len (n i:Int):(brdT n i).length<=200:=by
 have h0:=desg_len i
 have h1:=dgs_length 12 n 1 []
 unfold brdT
 simp only[List.length_append,List.length_nil,srcP2,brdP,brdQ,List.length_cons] at*
 omega
theorem boarded_sat (n i:Int) (hn:0<=n/\n<=1000) (hi:I64 i):SatG Tryz.prog tab 32 [] [I n,I i] [] (S (strOf (brdT n i))):=by
 have h0:=desg_len i
 have l1:=dgs_length 12 n 1 []
 have s0:=desg_sat i hi
 have s1:=digits_sat n 1 ⟨by omega,by omega⟩ (by decide)
 unfold brdT
 generalize dgs 12 n 1 []=d1 at*
 generalize desg i=d0 at*
 simp only[List.length_nil] at l1
 refine uFN Tryz.func32 Tryz.ntmps32 ?_;intro w e X hC
 repeat refine uA ?_
 refine uR ?_;intro K hK
 refine callF uTS (s1) uTS uTS uTS ?_;refine uS ?_
 refine uH ?_
 refine callF uTS (s0) uTS uTS uTS ?_;refine uS ?_
 refine uH ?_
 refine hK _ ?_;clear hK K
 (refine awp_ret (ret1 uRT ?_);try rfl)
open Go.Scr
def depA (i:Int):AV:= .agg [S (strOf (flights i).car),I (flights i).num,S (strOf (flights i).suf),I (flights i).day,S (strOf [76,72,82]),I (40*i),I (40*i+40),I (40*i+50),I 0,I 0]
def deps:List AV:=[depA 0,depA 1]
theorem deps_getD (i:Int) (h:0<=i/\i<2):deps.getD i.toNat .bad= .agg [S (strOf (flights i).car),I (flights i).num,S (strOf (flights i).suf),I (flights i).day,S (strOf [76,72,82]),I (40*i),I (40*i+40),I (40*i+50),I 0,I 0]:=by
 have:i=0\/i=1:=by omega
 rcases this with rfl|rfl<;>rfl
theorem deps_length:deps.length=2:=rfl
theorem PE_deps:PE deps=True:=by
 refine eq_true fun e he c hc=>?_
 simp only[deps,List.mem_cons,List.not_mem_nil,or_false] at he
 rcases he with rfl|rfl<;>
 ·simp only[depA,AV.cells,List.mem_cons,List.not_mem_nil,or_false] at hc
  rcases hc with rfl|rfl|rfl|rfl|rfl|rfl|rfl|rfl|rfl|rfl<;>first|trivial|rfl
theorem all_deps:(∀y∈deps,y.cells.length=10)=True:=by
 refine eq_true fun e he=>?_
 simp only[deps,List.mem_cons,List.not_mem_nil,or_false] at he
 rcases he with rfl|rfl<;>rfl
attribute [go_sem] deps_length PE_deps all_deps
def gv1 (l:List Int) (a:Nat) (f:Flt):Flt×Nat:=if 0<gN l a 8 then(flights (gN l (a+1) 2),a+2) else(f,a+1)
def gv2 (l:List Int) (a:Nat) (k:Int):Int×Nat:=
 if k=1 then(1+gN l a 20,a+1) else if k=2 then(gN l a 60,a+1) else if k=3 then(gN l a 101,a+1) else(0,a)
def gv3 (l:List Int) (a:Nat) (m:Int):Int×Nat:=if gN l a 12=11 then(l.getD (a+1) 0,a+2) else(m,a+1)
def gV (l:List Int) (a:Nat):Rev×Nat:=
 (⟨1+gN l a 5,(gv3 l (gv2 l (gv1 l (a+4) (gF l (a+1))).2 (1+gN l a 5)).2 (gv2 l (gv1 l (a+4) (gF l (a+1))).2 (1+gN l a 5)).1).1,(gv1 l (a+4) (gF l (a+1))).1⟩,
  (gv3 l (gv2 l (gv1 l (a+4) (gF l (a+1))).2 (1+gN l a 5)).2 (gv2 l (gv1 l (a+4) (gF l (a+1))).2 (1+gN l a 5)).1).2)
theorem gV_sat (l:List Int) (a:Nat) (hf:Fits l):SatG Tryz.prog tab 30 (srcC l a) [.ptO 0 0 0 0 0, .sl deps false] (srcC l (gV l a).2) (Rev.av (gV l a).1):=by
 have h1:=gN_sat l a 5 hf (by decide)
 have b1:=gN_lt (l:=l) (a:=a) (n:=5) (by decide)
 have h2:=gF_sat l (a+1) hf
 unfold gV
 generalize gF l (a+1)=f at*
 generalize gN l a 5=k at*
 refine uFN Tryz.func30 Tryz.ntmps30 ?_;intro w e X hC
 repeat refine uA ?_
 refine uR ?_;intro K hK
 refine callL rfl (h1) uTS uTS uTS uTS uTS ?_;refine uS ?_
 refine uH ?_
 refine callL rfl (h2) uTS uTS uTS uTS uTS ?_;refine uS ?_
 refine hK _ ?_;clear hK K
 refine awp_seq ?_
 refine awp_merge (fun q:Nat=>⟨[(0, .ptO 0 0 0 0 0),(1, .sl deps false),(4, .ptO 104 1 0 0 0),(5, .ptO 105 8 0 0 0)],(105,some (8, .box [I (1+k),I 0,S (strOf (gv1 l (a+4) f).1.car),I (gv1 l (a+4) f).1.num,S (strOf (gv1 l (a+4) f).1.suf),I (gv1 l (a+4) f).1.day]))::(104,some (1, .box [I 0,I 0, .lit (.string .empty),I 0, .lit (.string .empty),I 0]))::srcC l (gv1 l (a+4) f).2,q⟩) (fun _=>True) ?_ ?_
 ·have h3:=gN_sat l (a+4) 8 hf (by decide)
  have b3:=gN_lt (l:=l) (a:=a+4) (n:=8) (by decide)
  have e0:decide (0<((2:Nat):Int))=true:=rfl
  unfold gv1
  generalize gN l (a+4) 8=c at*
  refine uR1 @e0 ?_;intro K hK
  refine callL rfl (h3) uTS uTS uTS uTS uTS ?_;refine uS ?_
  refine hK _ ?_;clear hK K
  refine uW ?_;refine condP _ rfl (fun c0=>?_) (fun c0=>?_)
  ·have h4:=gN_sat l (a+4+1) 2 hf (by decide)
   have b4:=gN_lt (l:=l) (a:=a+4+1) (n:=2) (by decide)
   rw[if_pos c0]
   generalize gN l (a+4+1) 2=d at*
   have g1:=deps_getD d b4
   refine uR ?_;intro K hK
   refine callL rfl (h4) uTS uTS uTS uTS uTS ?_;refine uS ?_
   first|refine uS1 @g1 ?_|exact uX1 @g1
   refine uH ?_
   refine hK _ ?_;clear hK K
   refine uW ?_
   refine⟨_,trivial,uKF⟩
  ·rw[if_neg c0]
   refine uW ?_
   refine⟨_,trivial,uKF⟩
 ·rintro q -
  generalize gv1 l (a+4) f=v at*
  obtain⟨f',a'⟩:=v
  simp only
  refine uA ?_
  refine awp_merge (fun q:Nat=>⟨[(0, .ptO 0 0 0 0 0),(4, .ptO 104 1 0 0 0),(5, .ptO 105 8 0 0 0)],(105,some (8, .box [I (1+k),I (gv2 l a' (1+k)).1,S (strOf f'.car),I f'.num,S (strOf f'.suf),I f'.day]))::(104,some (1, .box [I 0,I 0, .lit (.string .empty),I 0, .lit (.string .empty),I 0]))::srcC l (gv2 l a' (1+k)).2,q⟩) (fun _=>True) ?_ ?_
  ·have b2:=gN_lt (l:=l) (a:=a') (n:=20) (by decide)
   by_cases c1:k=0
   ·have e1:=uDt (1+k=1)
    unfold gv2
    rw[if_pos (by omega)]
    have h5:=gN_sat l a' 20 hf (by decide)
    repeat refine uA1 @e1 ?_
    refine uT ?_
    refine uR ?_;intro K hK
    refine callL rfl (h5) uTS uTS uTS uTS uTS ?_;refine uS ?_
    refine uH ?_
    refine hK _ ?_;clear hK K
    refine uW ?_
    refine⟨_,trivial,uKF⟩
   ·by_cases c2:k=1
    ·have e1:=uDf (1+k=1)
     have e2:=uDt (1+k=2)
     unfold gv2
     rw[if_neg (by omega),if_pos (by omega)]
     have h5:=gN_sat l a' 60 hf (by decide)
     repeat first|refine uC ?_|refine uA1 (uI @e1 @e2) ?_
     refine uR ?_;intro K hK
     refine callL rfl (h5) uTS uTS uTS uTS uTS ?_;refine uS ?_
     refine hK _ ?_;clear hK K
     refine uW ?_
     refine⟨_,trivial,uKF⟩
    ·by_cases c3:k=2
     ·have e1:=uDf (1+k=1)
      have e2:=uDf (1+k=2)
      have e3:=uDt (1+k=3)
      unfold gv2
      rw[if_neg (by omega),if_neg (by omega),if_pos (by omega)]
      have h5:=gN_sat l a' 101 hf (by decide)
      repeat first|refine uC ?_|refine uA1 (uI @e1 (uI @e2 @e3)) ?_
      refine uR ?_;intro K hK
      refine callL rfl (h5) uTS uTS uTS uTS uTS ?_;refine uS ?_
      refine hK _ ?_;clear hK K
      refine uW ?_
      refine⟨_,trivial,uKF⟩
     ·have e1:=uDf (1+k=1)
      have e2:=uDf (1+k=2)
      have e3:=uDf (1+k=3)
      unfold gv2
      rw[if_neg (by omega),if_neg (by omega),if_neg (by omega)]
      repeat first|refine uC ?_|refine uA1 (uI @e1 (uI @e2 @e3)) ?_
      refine uW ?_
      refine⟨_,trivial,uKF⟩
  ·rintro q -
   generalize gv2 l a' (1+k)=v at*
   obtain⟨m,b⟩:=v
   have h6:=gN_sat l b 12 hf (by decide)
   have h7:=gRaw_sat l (b+1) hf
   unfold gv3
   generalize gN l b 12=c at*
   refine uR ?_;intro K hK
   refine callL rfl (h6) uTS uTS uTS uTS uTS ?_;refine uS ?_
   refine hK _ ?_;clear hK K
   refine uW ?_;refine condP _ rfl (fun c0=>?_) (fun c0=>?_)
   ·rw[if_pos c0]
    refine uR ?_;intro K hK
    refine callL rfl (h7) uTS uTS uTS uTS uTS ?_;refine uS ?_
    refine hK _ ?_;clear hK K
    repeat refine uA ?_
    refine awp_ret ?_;rw[show Tryz.f30.results.toList=[.cell 4 28] from rfl];(refine(retBs uRG rfl uTC uTC ?_ ?_);all_goals (first|refine uSC ?_|exact uXC|skip))
   ·rw[if_neg c0]
    repeat refine uA ?_
    refine awp_ret ?_;rw[show Tryz.f30.results.toList=[.cell 4 28] from rfl];(refine(retBs uRG rfl uTC uTC ?_ ?_);all_goals (first|refine uSC ?_|exact uXC|skip))
open Go.Scr
abbrev nodA (nm:Bs) (k n z:Int) (ex:AV):AV:= .agg [S (strOf nm),I k,I n,I z,ex]
abbrev smallN:List AV:=[nodA [73,78] 1 1 0 (IS [1]),nodA [88,82,65,89] 3 1 0 (IS [2]),nodA [71,65,84,69] 6 1 0 (IS [5,3]),nodA [66,69,76,84] 2 2 1 (IS [4]),nodA [67,49] 8 0 1 (.sl [] false),nodA [72,65,78,68] 9 0 0 (.sl [] false)]
abbrev conA (n i:Int):AV:= .agg [I n,S (strOf (flights i).car),I (flights i).num,S (strOf (flights i).suf),I (flights i).day,I 31,I 500,I 9,I 1,I 0, .sl [] false]
abbrev smallA:AV:= .agg [.sl smallN false, .sl [.agg [I 2,I 2,I 0]] false, .sl deps false, .sl [conA 1 0,conA 2 1] false,I 9,I 9,I 9,I 9,I 0,I 3,I 0,I 2]
abbrev smallM:List AV:=[nodA [73,78] 1 1 0 (.slO 107 2 0 1),nodA [88,82,65,89] 3 1 0 (.slO 109 4 0 1),nodA [71,65,84,69] 6 1 0 (.slO 111 6 0 2),nodA [66,69,76,84] 2 2 1 (.slO 113 8 0 1),nodA [67,49] 8 0 1 (.sl [] true),nodA [72,65,78,68] 9 0 0 (.sl [] true)]
theorem deps_take {i:Nat} (h:i<2):deps.take i++[.agg [S (strOf (flights i).car),I (flights i).num,S (strOf (flights i).suf),I (flights i).day,S (strOf [76,72,82]),I (40*i),I (40*i+40),I (40*i+50),I 0,I 0]]=deps.take (i+1):=by
 have:i=0\/i=1:=by omega
 rcases this with rfl|rfl<;>rfl
theorem small_sat:SatG Tryz.prog tab 31 [] [I 0] [] smallA:=by
 have f0:=flights_sat 0 ⟨by decide,by decide⟩
 have f1:=flights_sat 1 ⟨by decide,by decide⟩
 refine uFN Tryz.func31 Tryz.ntmps31 ?_;intro w e X hC
 repeat refine uA ?_
 refine uW ?_
 refine awp_loopW (fun i:Nat×Nat=>⟨[(0,I 0),(2, .ptO 102 1 0 0 0),(3, .slO 117 12 0 6),(4, .slO 104 14 0 i.2),(5,I i.2)],[(104,some (14, .own 113 10 (deps.take i.2))),(117,some (12, .own 115 5 smallM)),(107,some (2, .own 3 1 [I 1])),(109,some (4, .own 3 1 [I 2])),(111,some (6, .own 3 1 [I 5,I 3])),(113,some (8, .own 3 1 [I 4])),(102,some (1, .box [.sl [] true, .sl [] true, .sl [] true, .sl [] true,I 0,I 0,I 0,I 0,I 0,I 0,I 0,I 0]))],i.1⟩) (fun i=>i.2<=2) (fun i=>2 - i.2) (_,0) (Nat.zero_le _) (uKF) ?_
 rintro⟨ck,i⟩ hi
 simp only at hi
 repeat refine uA ?_
 refine uW ?_;refine condP _ rfl (fun h=>?_) (fun h=>?_)
 ·have hlt:i<2:=by omega
  have hf:=flights_sat i ⟨by omega,by omega⟩
  have hl:(deps.take i).length=i:=by rw[List.length_take];exact Nat.min_eq_left (by rw[deps_length];omega)
  have ht:=deps_take hlt
  refine uR ?_;intro K hK
  refine callF uTS (hf) uTS uTS uTS ?_;refine uS ?_
  refine uH ?_
  refine hK _ ?_;clear hK K
  repeat refine uA ?_
  refine⟨(_,i+1),by simp only;omega,by simp only;omega, .of (Nat.le_refl _) (.cons ?_ uHF) uWF⟩
  ·rw[<-ht];rfl
 ·refine awp_exit ?_
  obtain rfl:i=2:=by omega
  have ht:deps.take 2=deps:=rfl
  rw[ht]
  refine uR ?_;intro K hK
  refine callF uTS (f0) uTS uTS uTS ?_;refine uS ?_
  refine callF uTS (f1) uTS uTS uTS ?_;refine uS ?_
  refine hK _ ?_;clear hK K
  repeat refine uA ?_
  refine awp_ret ?_;rw[show Tryz.f31.results.toList=[.cell 2 75] from rfl];first|refine uRN ?_|exact uRM
  rfl
open Go.Scr
def gA5 (l:List Int) (a:Nat) (p:Plt):Acx×Nat:=
 if gN l (gV l (a+4)).2 4=0 then({A0 9 with dev:=1+gN l a 2,plt:=p,con:=1+gN l (a+1) 2},(gV l (a+4)).2+1)
 else if gN l (gV l (a+4)).2 4=1 then({A0 10 with plt:=p,node:=4+gN l (a+2) 2},(gV l (a+4)).2+1)
 else if gN l (gV l (a+4)).2 4=2 then({A0 13 with flt:=flights (gN l (a+3) 2)},(gV l (a+4)).2+1)
 else({A0 5 with rev:=(gV l (a+4)).1},(gV l (a+4)).2+1)
def gA6 (l:List Int) (a:Nat):Acx×Nat:=
 if gN l (a+6) 6=0 then({A0 11 with dev:=1+gN l a 2},a+7)
 else if gN l (a+6) 6=1 then({A0 12 with dev:=1+gN l (a+1) 2},a+7)
 else if gN l (a+6) 6=2 then(A0 14,a+7)
 else if gN l (a+6) 6=3 then({A0 6 with node:=gN l (a+2) 6},a+7)
 else if gN l (a+6) 6=4 then({A0 7 with node:=gN l (a+3) 6},a+7)
 else({A0 3 with txt:=brdT (1+gN l (a+4) 4) (gN l (a+5) 2)},a+7)
def gMv (l:List Int) (a:Nat):List Flaw×Nat:=if gN l a 8=7 then([⟨1+gN l (a+1) 2,gN l (a+2) 4,0⟩],a+3) else([],a+1)
def gGl (l:List Int) (a:Nat):List Flaw×Nat:=if gN l a 8=7 then([⟨gP l (a+1) [3,5,6],0,gN l (a+2) 10⟩],a+3) else([],a+1)
def gAt (l:List Int) (a:Nat):Acx×Nat:=
 ({A0 1 with lost:=decide (gN l a 12=11),mv:=(gMv l (a+1)).1,gl:=(gGl l (gMv l (a+1)).2).1},(gGl l (gMv l (a+1)).2).2)
def gA (l:List Int) (a:Nat):Acx×Nat:=
 if gN l (a+1) 14=0 then({A0 3 with txt:=srcT (1+gN l (a+2) 4) (gN l (a+3) 2) (plates (gN l a 3))},a+4)
 else if gN l (a+1) 14=1 then({A0 2 with plt:=plates (gN l a 3)},a+2)
 else if gN l (a+1) 14=2\/gN l (a+1) 14=3 then({A0 4 with img:=1+gN l (a+2) 3,clr:=decide (0<gN l (a+3) 3)},a+4)
 else if gN l (a+1) 14=4 then({A0 8 with dev:=1+gN l (a+2) 2,plt:=plates (gN l a 3),node:=4,con:=1+gN l (a+3) 2},a+4)
 else if gN l (a+1) 14=5 then gA5 l (a+2) (plates (gN l a 3))
 else if gN l (a+1) 14=6 then gA6 l (a+2)
 else gAt l (a+2)
theorem plates_sm (i:Int):SmPl (plates i):=by
 have hm:=modI_lt (x:=i) (n:=1000) (by omega)
 unfold plates SmPl
 simp only
 omega
theorem sact_0 (l:List Int) (a:Nat) (k:Int) (hf:Fits l) (hc:gN l (a+1) 14=0):SatG Tryz.prog tab 9 (srcC l a) [.ptO 0 0 0 0 0,I k] (srcC l (gA l a).2) (gA l a).1.av:=by
 have h1:=kplate_sat l a 3 hf ⟨by decide,by decide⟩
 have h2:=gN_sat l (a+1) 14 hf (by decide)
 have hp:=plates_sm (gN l a 3)
 have h3:=gN_sat l (a+2) 4 hf (by decide)
 have b3:=gN_lt (l:=l) (a:=a+2) (n:=4) (by decide)
 have h4:=gN_sat l (a+3) 2 hf (by decide)
 have b4:=gN_lt (l:=l) (a:=a+3) (n:=2) (by decide)
 have h5:=source_sat (1+gN l (a+2) 4) (gN l (a+3) 2) (plates (gN l a 3)) ⟨by omega,by omega⟩ ⟨by omega,by omega⟩ hp
 unfold gA
 rw[if_pos hc]
 generalize plates (gN l a 3)=p at*
 generalize gN l (a+2) 4=n3 at*
 generalize gN l (a+3) 2=n4 at*
 rw[hc] at h2
 refine uFN Tryz.func9 Tryz.ntmps9 ?_;intro w e X hC
 repeat refine uA ?_
 refine uR ?_;intro K hK
 refine callL rfl (h1) uTS uTS uTS uTS uTS ?_;refine uS ?_
 refine hK _ ?_;clear hK K
 refine uR ?_;intro K hK
 refine callL rfl (h2) uTS uTS uTS uTS uTS ?_;refine uS ?_
 refine hK _ ?_;clear hK K
 repeat first|refine uC ?_|refine uA ?_
 refine uD ?_;intro K hK
 refine callL rfl (h3) uTS uTS uTS uTS uTS ?_;refine uS ?_
 refine uH ?_
 refine callL rfl (h4) uTS uTS uTS uTS uTS ?_;refine uS ?_
 refine callF uTS (h5) uTS uTS uTS ?_;refine uS ?_
 refine uH ?_
 refine hK _ ?_;clear hK K
 refine awp_ret ?_;rw[show Tryz.f9.results.toList=[.cell 4 30] from rfl];(refine(retBs uRG rfl uTC uTC ?_ ?_);all_goals (first|refine uSC ?_|exact uXC|skip))
 rfl
theorem sact_1 (l:List Int) (a:Nat) (k:Int) (hf:Fits l) (hc:gN l (a+1) 14=1):SatG Tryz.prog tab 9 (srcC l a) [.ptO 0 0 0 0 0,I k] (srcC l (gA l a).2) (gA l a).1.av:=by
 have h1:=kplate_sat l a 3 hf ⟨by decide,by decide⟩
 have h2:=gN_sat l (a+1) 14 hf (by decide)
 have hp:=plates_sm (gN l a 3)
 unfold gA
 rw[if_neg (by omega),if_pos hc]
 generalize plates (gN l a 3)=p at*
 rw[hc] at h2
 refine uFN Tryz.func9 Tryz.ntmps9 ?_;intro w e X hC
 repeat refine uA ?_
 refine uR ?_;intro K hK
 refine callL rfl (h1) uTS uTS uTS uTS uTS ?_;refine uS ?_
 refine hK _ ?_;clear hK K
 refine uR ?_;intro K hK
 refine callL rfl (h2) uTS uTS uTS uTS uTS ?_;refine uS ?_
 refine hK _ ?_;clear hK K
 repeat first|refine uC ?_|refine uA ?_
 refine awp_ret ?_;rw[show Tryz.f9.results.toList=[.cell 4 30] from rfl];(refine(retBs uRG rfl uTC uTC ?_ ?_);all_goals (first|refine uSC ?_|exact uXC|skip))
 rfl
theorem sact_2 (l:List Int) (a:Nat) (k:Int) (hf:Fits l) (hc:gN l (a+1) 14=2):SatG Tryz.prog tab 9 (srcC l a) [.ptO 0 0 0 0 0,I k] (srcC l (gA l a).2) (gA l a).1.av:=by
 have h1:=kplate_sat l a 3 hf ⟨by decide,by decide⟩
 have h2:=gN_sat l (a+1) 14 hf (by decide)
 have hp:=plates_sm (gN l a 3)
 have h3:=gN_sat l (a+2) 3 hf (by decide)
 have b3:=gN_lt (l:=l) (a:=a+2) (n:=3) (by decide)
 have h4:=gN_sat l (a+3) 3 hf (by decide)
 have b4:=gN_lt (l:=l) (a:=a+3) (n:=3) (by decide)
 unfold gA
 rw[if_neg (by omega),if_neg (by omega),if_pos (by omega)]
 generalize plates (gN l a 3)=p at*
 generalize gN l (a+2) 3=n3 at*
 generalize gN l (a+3) 3=n4 at*
 rw[hc] at h2
 refine uFN Tryz.func9 Tryz.ntmps9 ?_;intro w e X hC
 repeat refine uA ?_
 refine uR ?_;intro K hK
 refine callL rfl (h1) uTS uTS uTS uTS uTS ?_;refine uS ?_
 refine hK _ ?_;clear hK K
 refine uR ?_;intro K hK
 refine callL rfl (h2) uTS uTS uTS uTS uTS ?_;refine uS ?_
 refine hK _ ?_;clear hK K
 repeat first|refine uC ?_|refine uA ?_
 refine uR ?_;intro K hK
 refine callL rfl (h3) uTS uTS uTS uTS uTS ?_;refine uS ?_
 refine uH ?_
 refine callL rfl (h4) uTS uTS uTS uTS uTS ?_;refine uS ?_
 refine uH ?_
 refine hK _ ?_;clear hK K
 refine awp_ret ?_;rw[show Tryz.f9.results.toList=[.cell 4 30] from rfl];(refine(retBs uRG rfl uTC uTC ?_ ?_);all_goals (first|refine uSC ?_|exact uXC|skip))
 rfl
theorem sact_3 (l:List Int) (a:Nat) (k:Int) (hf:Fits l) (hc:gN l (a+1) 14=3):SatG Tryz.prog tab 9 (srcC l a) [.ptO 0 0 0 0 0,I k] (srcC l (gA l a).2) (gA l a).1.av:=by
 have h1:=kplate_sat l a 3 hf ⟨by decide,by decide⟩
 have h2:=gN_sat l (a+1) 14 hf (by decide)
 have hp:=plates_sm (gN l a 3)
 have h3:=gN_sat l (a+2) 3 hf (by decide)
 have b3:=gN_lt (l:=l) (a:=a+2) (n:=3) (by decide)
 have h4:=gN_sat l (a+3) 3 hf (by decide)
 have b4:=gN_lt (l:=l) (a:=a+3) (n:=3) (by decide)
 unfold gA
 rw[if_neg (by omega),if_neg (by omega),if_pos (by omega)]
 generalize plates (gN l a 3)=p at*
 generalize gN l (a+2) 3=n3 at*
 generalize gN l (a+3) 3=n4 at*
 rw[hc] at h2
 refine uFN Tryz.func9 Tryz.ntmps9 ?_;intro w e X hC
 repeat refine uA ?_
 refine uR ?_;intro K hK
 refine callL rfl (h1) uTS uTS uTS uTS uTS ?_;refine uS ?_
 refine hK _ ?_;clear hK K
 refine uR ?_;intro K hK
 refine callL rfl (h2) uTS uTS uTS uTS uTS ?_;refine uS ?_
 refine hK _ ?_;clear hK K
 repeat first|refine uC ?_|refine uA ?_
 refine uR ?_;intro K hK
 refine callL rfl (h3) uTS uTS uTS uTS uTS ?_;refine uS ?_
 refine uH ?_
 refine callL rfl (h4) uTS uTS uTS uTS uTS ?_;refine uS ?_
 refine uH ?_
 refine hK _ ?_;clear hK K
 refine awp_ret ?_;rw[show Tryz.f9.results.toList=[.cell 4 30] from rfl];(refine(retBs uRG rfl uTC uTC ?_ ?_);all_goals (first|refine uSC ?_|exact uXC|skip))
 rfl
theorem sact_4 (l:List Int) (a:Nat) (k:Int) (hf:Fits l) (hc:gN l (a+1) 14=4):SatG Tryz.prog tab 9 (srcC l a) [.ptO 0 0 0 0 0,I k] (srcC l (gA l a).2) (gA l a).1.av:=by
 have h1:=kplate_sat l a 3 hf ⟨by decide,by decide⟩
 have h2:=gN_sat l (a+1) 14 hf (by decide)
 have hp:=plates_sm (gN l a 3)
 have h3:=gN_sat l (a+2) 2 hf (by decide)
 have b3:=gN_lt (l:=l) (a:=a+2) (n:=2) (by decide)
 have h4:=gN_sat l (a+3) 2 hf (by decide)
 have b4:=gN_lt (l:=l) (a:=a+3) (n:=2) (by decide)
 unfold gA
 rw[if_neg (by omega),if_neg (by omega),if_neg (by omega),if_pos hc]
 generalize plates (gN l a 3)=p at*
 generalize gN l (a+2) 2=n3 at*
 generalize gN l (a+3) 2=n4 at*
 rw[hc] at h2
 refine uFN Tryz.func9 Tryz.ntmps9 ?_;intro w e X hC
 repeat refine uA ?_
 refine uR ?_;intro K hK
 refine callL rfl (h1) uTS uTS uTS uTS uTS ?_;refine uS ?_
 refine hK _ ?_;clear hK K
 refine uR ?_;intro K hK
 refine callL rfl (h2) uTS uTS uTS uTS uTS ?_;refine uS ?_
 refine hK _ ?_;clear hK K
 repeat first|refine uC ?_|refine uA ?_
 refine uD ?_;intro K hK
 refine callL rfl (h3) uTS uTS uTS uTS uTS ?_;refine uS ?_
 refine uH ?_
 refine callL rfl (h4) uTS uTS uTS uTS uTS ?_;refine uS ?_
 refine uH ?_
 refine hK _ ?_;clear hK K
 refine awp_ret ?_;rw[show Tryz.f9.results.toList=[.cell 4 30] from rfl];(refine(retBs uRG rfl uTC uTC ?_ ?_);all_goals (first|refine uSC ?_|exact uXC|skip))
 rfl
theorem sact_50 (l:List Int) (a:Nat) (k:Int) (hf:Fits l) (hc:gN l (a+1) 14=5) (hd:gN l (gV l (a+2+4)).2 4=0):SatG Tryz.prog tab 9 (srcC l a) [.ptO 0 0 0 0 0,I k] (srcC l (gA l a).2) (gA l a).1.av:=by
 have h1:=kplate_sat l a 3 hf ⟨by decide,by decide⟩
 have h2:=gN_sat l (a+1) 14 hf (by decide)
 have hp:=plates_sm (gN l a 3)
 have h3:=gN_sat l (a+2) 2 hf (by decide)
 have b3:=gN_lt (l:=l) (a:=a+2) (n:=2) (by decide)
 have h4:=gN_sat l (a+2+1) 2 hf (by decide)
 have b4:=gN_lt (l:=l) (a:=a+2+1) (n:=2) (by decide)
 have h5:=gN_sat l (a+2+2) 2 hf (by decide)
 have b5:=gN_lt (l:=l) (a:=a+2+2) (n:=2) (by decide)
 have h6:=gN_sat l (a+2+3) 2 hf (by decide)
 have b6:=gN_lt (l:=l) (a:=a+2+3) (n:=2) (by decide)
 have h7:=flights_sat (gN l (a+2+3) 2) ⟨by omega,by omega⟩
 have h8:=gV_sat l (a+2+4) hf
 have h9:=gN_sat l (gV l (a+2+4)).2 4 hf (by decide)
 rw[hd] at h9
 unfold gA gA5
 rw[if_neg (by omega),if_neg (by omega),if_neg (by omega),if_neg (by omega),if_pos hc,if_pos hd]
 generalize plates (gN l a 3)=p at*
 generalize gN l (a+2) 2=n3 at*
 generalize gN l (a+2+1) 2=n4 at*
 generalize gN l (a+2+2) 2=n5 at*
 generalize gN l (a+2+3) 2=n6 at*
 generalize flights n6=fl at*
 generalize gV l (a+2+4)=v at*
 obtain⟨v,b⟩:=v
 simp only at hd h8 h9 ⊢
 rw[hc] at h2
 refine uFN Tryz.func9 Tryz.ntmps9 ?_;intro w e X hC
 repeat refine uA ?_
 refine uR ?_;intro K hK
 refine callL rfl (h1) uTS uTS uTS uTS uTS ?_;refine uS ?_
 refine hK _ ?_;clear hK K
 refine uR ?_;intro K hK
 refine callL rfl (h2) uTS uTS uTS uTS uTS ?_;refine uS ?_
 refine hK _ ?_;clear hK K
 repeat first|refine uC ?_|refine uA ?_
 refine uD ?_;intro K hK
 refine callL rfl (h3) uTS uTS uTS uTS uTS ?_;refine uS ?_
 refine uH ?_
 refine callL rfl (h4) uTS uTS uTS uTS uTS ?_;refine uS ?_
 refine uH ?_
 refine callL rfl (h5) uTS uTS uTS uTS uTS ?_;refine uS ?_
 refine uH ?_
 refine callL rfl (h6) uTS uTS uTS uTS uTS ?_;refine uS ?_
 refine callF uTS (h7) uTS uTS uTS ?_;refine uS ?_
 refine callP uTS (small_sat) uTS uTS uTS ?_;refine uS ?_
 refine callL rfl (h8) uTS uTS uTS uTS uTS ?_;refine uS ?_
 refine callL rfl (h9) uTS uTS uTS uTS uTS ?_;refine uS ?_
 refine uH ?_
 refine hK _ ?_;clear hK K
 refine awp_ret ?_;rw[show Tryz.f9.results.toList=[.cell 4 30] from rfl];(refine(retBs uRG rfl uTC uTC ?_ ?_);all_goals (first|refine uSC ?_|exact uXC|skip))
 rfl
theorem sact_51 (l:List Int) (a:Nat) (k:Int) (hf:Fits l) (hc:gN l (a+1) 14=5) (hd:gN l (gV l (a+2+4)).2 4=1):SatG Tryz.prog tab 9 (srcC l a) [.ptO 0 0 0 0 0,I k] (srcC l (gA l a).2) (gA l a).1.av:=by
 have h1:=kplate_sat l a 3 hf ⟨by decide,by decide⟩
 have h2:=gN_sat l (a+1) 14 hf (by decide)
 have hp:=plates_sm (gN l a 3)
 have h3:=gN_sat l (a+2) 2 hf (by decide)
 have b3:=gN_lt (l:=l) (a:=a+2) (n:=2) (by decide)
 have h4:=gN_sat l (a+2+1) 2 hf (by decide)
 have b4:=gN_lt (l:=l) (a:=a+2+1) (n:=2) (by decide)
 have h5:=gN_sat l (a+2+2) 2 hf (by decide)
 have b5:=gN_lt (l:=l) (a:=a+2+2) (n:=2) (by decide)
 have h6:=gN_sat l (a+2+3) 2 hf (by decide)
 have b6:=gN_lt (l:=l) (a:=a+2+3) (n:=2) (by decide)
 have h7:=flights_sat (gN l (a+2+3) 2) ⟨by omega,by omega⟩
 have h8:=gV_sat l (a+2+4) hf
 have h9:=gN_sat l (gV l (a+2+4)).2 4 hf (by decide)
 rw[hd] at h9
 unfold gA gA5
 rw[if_neg (by omega),if_neg (by omega),if_neg (by omega),if_neg (by omega),if_pos hc,if_neg (by omega),if_pos hd]
 generalize plates (gN l a 3)=p at*
 generalize gN l (a+2) 2=n3 at*
 generalize gN l (a+2+1) 2=n4 at*
 generalize gN l (a+2+2) 2=n5 at*
 generalize gN l (a+2+3) 2=n6 at*
 generalize flights n6=fl at*
 generalize gV l (a+2+4)=v at*
 obtain⟨v,b⟩:=v
 simp only at hd h8 h9 ⊢
 rw[hc] at h2
 refine uFN Tryz.func9 Tryz.ntmps9 ?_;intro w e X hC
 repeat refine uA ?_
 refine uR ?_;intro K hK
 refine callL rfl (h1) uTS uTS uTS uTS uTS ?_;refine uS ?_
 refine hK _ ?_;clear hK K
 refine uR ?_;intro K hK
 refine callL rfl (h2) uTS uTS uTS uTS uTS ?_;refine uS ?_
 refine hK _ ?_;clear hK K
 repeat first|refine uC ?_|refine uA ?_
 refine uD ?_;intro K hK
 refine callL rfl (h3) uTS uTS uTS uTS uTS ?_;refine uS ?_
 refine uH ?_
 refine callL rfl (h4) uTS uTS uTS uTS uTS ?_;refine uS ?_
 refine uH ?_
 refine callL rfl (h5) uTS uTS uTS uTS uTS ?_;refine uS ?_
 refine uH ?_
 refine callL rfl (h6) uTS uTS uTS uTS uTS ?_;refine uS ?_
 refine callF uTS (h7) uTS uTS uTS ?_;refine uS ?_
 refine callP uTS (small_sat) uTS uTS uTS ?_;refine uS ?_
 refine callL rfl (h8) uTS uTS uTS uTS uTS ?_;refine uS ?_
 refine callL rfl (h9) uTS uTS uTS uTS uTS ?_;refine uS ?_
 refine uH ?_
 refine hK _ ?_;clear hK K
 refine awp_ret ?_;rw[show Tryz.f9.results.toList=[.cell 4 30] from rfl];(refine(retBs uRG rfl uTC uTC ?_ ?_);all_goals (first|refine uSC ?_|exact uXC|skip))
 rfl
theorem sact_52 (l:List Int) (a:Nat) (k:Int) (hf:Fits l) (hc:gN l (a+1) 14=5) (hd:gN l (gV l (a+2+4)).2 4=2):SatG Tryz.prog tab 9 (srcC l a) [.ptO 0 0 0 0 0,I k] (srcC l (gA l a).2) (gA l a).1.av:=by
 have h1:=kplate_sat l a 3 hf ⟨by decide,by decide⟩
 have h2:=gN_sat l (a+1) 14 hf (by decide)
 have hp:=plates_sm (gN l a 3)
 have h3:=gN_sat l (a+2) 2 hf (by decide)
 have b3:=gN_lt (l:=l) (a:=a+2) (n:=2) (by decide)
 have h4:=gN_sat l (a+2+1) 2 hf (by decide)
 have b4:=gN_lt (l:=l) (a:=a+2+1) (n:=2) (by decide)
 have h5:=gN_sat l (a+2+2) 2 hf (by decide)
 have b5:=gN_lt (l:=l) (a:=a+2+2) (n:=2) (by decide)
 have h6:=gN_sat l (a+2+3) 2 hf (by decide)
 have b6:=gN_lt (l:=l) (a:=a+2+3) (n:=2) (by decide)
 have h7:=flights_sat (gN l (a+2+3) 2) ⟨by omega,by omega⟩
 have h8:=gV_sat l (a+2+4) hf
 have h9:=gN_sat l (gV l (a+2+4)).2 4 hf (by decide)
 rw[hd] at h9
 unfold gA gA5
 rw[if_neg (by omega),if_neg (by omega),if_neg (by omega),if_neg (by omega),if_pos hc,if_neg (by omega),if_neg (by omega),if_pos hd]
 generalize plates (gN l a 3)=p at*
 generalize gN l (a+2) 2=n3 at*
 generalize gN l (a+2+1) 2=n4 at*
 generalize gN l (a+2+2) 2=n5 at*
 generalize gN l (a+2+3) 2=n6 at*
 generalize flights n6=fl at*
 generalize gV l (a+2+4)=v at*
 obtain⟨v,b⟩:=v
 simp only at hd h8 h9 ⊢
 rw[hc] at h2
 refine uFN Tryz.func9 Tryz.ntmps9 ?_;intro w e X hC
 repeat refine uA ?_
 refine uR ?_;intro K hK
 refine callL rfl (h1) uTS uTS uTS uTS uTS ?_;refine uS ?_
 refine hK _ ?_;clear hK K
 refine uR ?_;intro K hK
 refine callL rfl (h2) uTS uTS uTS uTS uTS ?_;refine uS ?_
 refine hK _ ?_;clear hK K
 repeat first|refine uC ?_|refine uA ?_
 refine uD ?_;intro K hK
 refine callL rfl (h3) uTS uTS uTS uTS uTS ?_;refine uS ?_
 refine uH ?_
 refine callL rfl (h4) uTS uTS uTS uTS uTS ?_;refine uS ?_
 refine uH ?_
 refine callL rfl (h5) uTS uTS uTS uTS uTS ?_;refine uS ?_
 refine uH ?_
 refine callL rfl (h6) uTS uTS uTS uTS uTS ?_;refine uS ?_
 refine callF uTS (h7) uTS uTS uTS ?_;refine uS ?_
 refine callP uTS (small_sat) uTS uTS uTS ?_;refine uS ?_
 refine callL rfl (h8) uTS uTS uTS uTS uTS ?_;refine uS ?_
 refine callL rfl (h9) uTS uTS uTS uTS uTS ?_;refine uS ?_
 refine uH ?_
 refine hK _ ?_;clear hK K
 refine awp_ret ?_;rw[show Tryz.f9.results.toList=[.cell 4 30] from rfl];(refine(retBs uRG rfl uTC uTC ?_ ?_);all_goals (first|refine uSC ?_|exact uXC|skip))
 rfl
theorem sact_53 (l:List Int) (a:Nat) (k:Int) (hf:Fits l) (hc:gN l (a+1) 14=5) (hd:gN l (gV l (a+2+4)).2 4=3):SatG Tryz.prog tab 9 (srcC l a) [.ptO 0 0 0 0 0,I k] (srcC l (gA l a).2) (gA l a).1.av:=by
 have h1:=kplate_sat l a 3 hf ⟨by decide,by decide⟩
 have h2:=gN_sat l (a+1) 14 hf (by decide)
 have hp:=plates_sm (gN l a 3)
 have h3:=gN_sat l (a+2) 2 hf (by decide)
 have b3:=gN_lt (l:=l) (a:=a+2) (n:=2) (by decide)
 have h4:=gN_sat l (a+2+1) 2 hf (by decide)
 have b4:=gN_lt (l:=l) (a:=a+2+1) (n:=2) (by decide)
 have h5:=gN_sat l (a+2+2) 2 hf (by decide)
 have b5:=gN_lt (l:=l) (a:=a+2+2) (n:=2) (by decide)
 have h6:=gN_sat l (a+2+3) 2 hf (by decide)
 have b6:=gN_lt (l:=l) (a:=a+2+3) (n:=2) (by decide)
 have h7:=flights_sat (gN l (a+2+3) 2) ⟨by omega,by omega⟩
 have h8:=gV_sat l (a+2+4) hf
 have h9:=gN_sat l (gV l (a+2+4)).2 4 hf (by decide)
 rw[hd] at h9
 unfold gA gA5
 rw[if_neg (by omega),if_neg (by omega),if_neg (by omega),if_neg (by omega),if_pos hc,if_neg (by omega),if_neg (by omega),if_neg (by omega)]
 generalize plates (gN l a 3)=p at*
 generalize gN l (a+2) 2=n3 at*
 generalize gN l (a+2+1) 2=n4 at*
 generalize gN l (a+2+2) 2=n5 at*
 generalize gN l (a+2+3) 2=n6 at*
 generalize flights n6=fl at*
 generalize gV l (a+2+4)=v at*
 obtain⟨v,b⟩:=v
 simp only at hd h8 h9 ⊢
 rw[hc] at h2
 refine uFN Tryz.func9 Tryz.ntmps9 ?_;intro w e X hC
 repeat refine uA ?_
 refine uR ?_;intro K hK
 refine callL rfl (h1) uTS uTS uTS uTS uTS ?_;refine uS ?_
 refine hK _ ?_;clear hK K
 refine uR ?_;intro K hK
 refine callL rfl (h2) uTS uTS uTS uTS uTS ?_;refine uS ?_
 refine hK _ ?_;clear hK K
 repeat first|refine uC ?_|refine uA ?_
 refine uD ?_;intro K hK
 refine callL rfl (h3) uTS uTS uTS uTS uTS ?_;refine uS ?_
 refine uH ?_
 refine callL rfl (h4) uTS uTS uTS uTS uTS ?_;refine uS ?_
 refine uH ?_
 refine callL rfl (h5) uTS uTS uTS uTS uTS ?_;refine uS ?_
 refine uH ?_
 refine callL rfl (h6) uTS uTS uTS uTS uTS ?_;refine uS ?_
 refine callF uTS (h7) uTS uTS uTS ?_;refine uS ?_
 refine callP uTS (small_sat) uTS uTS uTS ?_;refine uS ?_
 refine callL rfl (h8) uTS uTS uTS uTS uTS ?_;refine uS ?_
 refine callL rfl (h9) uTS uTS uTS uTS uTS ?_;refine uS ?_
 refine uH ?_
 refine hK _ ?_;clear hK K
 refine awp_ret ?_;rw[show Tryz.f9.results.toList=[.cell 4 30] from rfl];(refine(retBs uRG rfl uTC uTC ?_ ?_);all_goals (first|refine uSC ?_|exact uXC|skip))
 rfl
theorem sact_60 (l:List Int) (a:Nat) (k:Int) (hf:Fits l) (hc:gN l (a+1) 14=6) (hd:gN l (a+2+6) 6=0):SatG Tryz.prog tab 9 (srcC l a) [.ptO 0 0 0 0 0,I k] (srcC l (gA l a).2) (gA l a).1.av:=by
 have h1:=kplate_sat l a 3 hf ⟨by decide,by decide⟩
 have h2:=gN_sat l (a+1) 14 hf (by decide)
 have hp:=plates_sm (gN l a 3)
 have h3:=gN_sat l (a+2) 2 hf (by decide)
 have b3:=gN_lt (l:=l) (a:=a+2) (n:=2) (by decide)
 have h4:=gN_sat l (a+2+1) 2 hf (by decide)
 have b4:=gN_lt (l:=l) (a:=a+2+1) (n:=2) (by decide)
 have h5:=gN_sat l (a+2+2) 6 hf (by decide)
 have b5:=gN_lt (l:=l) (a:=a+2+2) (n:=6) (by decide)
 have h6:=gN_sat l (a+2+3) 6 hf (by decide)
 have b6:=gN_lt (l:=l) (a:=a+2+3) (n:=6) (by decide)
 have h7:=gN_sat l (a+2+4) 4 hf (by decide)
 have b7:=gN_lt (l:=l) (a:=a+2+4) (n:=4) (by decide)
 have h8:=gN_sat l (a+2+5) 2 hf (by decide)
 have b8:=gN_lt (l:=l) (a:=a+2+5) (n:=2) (by decide)
 have h9:=boarded_sat (1+gN l (a+2+4) 4) (gN l (a+2+5) 2) ⟨by omega,by omega⟩ ⟨by omega,by omega⟩
 have h10:=gN_sat l (a+2+6) 6 hf (by decide)
 rw[hd] at h10
 unfold gA gA6
 rw[if_neg (by omega),if_neg (by omega),if_neg (by omega),if_neg (by omega),if_neg (by omega),if_pos hc,if_pos hd]
 generalize plates (gN l a 3)=p at*
 generalize gN l (a+2) 2=n3 at*
 generalize gN l (a+2+1) 2=n4 at*
 generalize gN l (a+2+2) 6=n5 at*
 generalize gN l (a+2+3) 6=n6 at*
 generalize gN l (a+2+4) 4=n7 at*
 generalize gN l (a+2+5) 2=n8 at*
 rw[hc] at h2
 refine uFN Tryz.func9 Tryz.ntmps9 ?_;intro w e X hC
 repeat refine uA ?_
 refine uR ?_;intro K hK
 refine callL rfl (h1) uTS uTS uTS uTS uTS ?_;refine uS ?_
 refine hK _ ?_;clear hK K
 refine uR ?_;intro K hK
 refine callL rfl (h2) uTS uTS uTS uTS uTS ?_;refine uS ?_
 refine hK _ ?_;clear hK K
 repeat first|refine uC ?_|refine uA ?_
 refine uR ?_;intro K hK
 refine callL rfl (h3) uTS uTS uTS uTS uTS ?_;refine uS ?_
 refine uH ?_
 refine callL rfl (h4) uTS uTS uTS uTS uTS ?_;refine uS ?_
 refine uH ?_
 refine callL rfl (h5) uTS uTS uTS uTS uTS ?_;refine uS ?_
 refine callL rfl (h6) uTS uTS uTS uTS uTS ?_;refine uS ?_
 refine callL rfl (h7) uTS uTS uTS uTS uTS ?_;refine uS ?_
 refine uH ?_
 refine callL rfl (h8) uTS uTS uTS uTS uTS ?_;refine uS ?_
 refine callF uTS (h9) uTS uTS uTS ?_;refine uS ?_
 refine callL rfl (h10) uTS uTS uTS uTS uTS ?_;refine uS ?_
 refine uH ?_
 refine hK _ ?_;clear hK K
 refine awp_ret ?_;rw[show Tryz.f9.results.toList=[.cell 4 30] from rfl];(refine(retBs uRG rfl uTC uTC ?_ ?_);all_goals (first|refine uSC ?_|exact uXC|skip))
 rfl
theorem sact_61 (l:List Int) (a:Nat) (k:Int) (hf:Fits l) (hc:gN l (a+1) 14=6) (hd:gN l (a+2+6) 6=1):SatG Tryz.prog tab 9 (srcC l a) [.ptO 0 0 0 0 0,I k] (srcC l (gA l a).2) (gA l a).1.av:=by
 have h1:=kplate_sat l a 3 hf ⟨by decide,by decide⟩
 have h2:=gN_sat l (a+1) 14 hf (by decide)
 have hp:=plates_sm (gN l a 3)
 have h3:=gN_sat l (a+2) 2 hf (by decide)
 have b3:=gN_lt (l:=l) (a:=a+2) (n:=2) (by decide)
 have h4:=gN_sat l (a+2+1) 2 hf (by decide)
 have b4:=gN_lt (l:=l) (a:=a+2+1) (n:=2) (by decide)
 have h5:=gN_sat l (a+2+2) 6 hf (by decide)
 have b5:=gN_lt (l:=l) (a:=a+2+2) (n:=6) (by decide)
 have h6:=gN_sat l (a+2+3) 6 hf (by decide)
 have b6:=gN_lt (l:=l) (a:=a+2+3) (n:=6) (by decide)
 have h7:=gN_sat l (a+2+4) 4 hf (by decide)
 have b7:=gN_lt (l:=l) (a:=a+2+4) (n:=4) (by decide)
 have h8:=gN_sat l (a+2+5) 2 hf (by decide)
 have b8:=gN_lt (l:=l) (a:=a+2+5) (n:=2) (by decide)
 have h9:=boarded_sat (1+gN l (a+2+4) 4) (gN l (a+2+5) 2) ⟨by omega,by omega⟩ ⟨by omega,by omega⟩
 have h10:=gN_sat l (a+2+6) 6 hf (by decide)
 rw[hd] at h10
 unfold gA gA6
 rw[if_neg (by omega),if_neg (by omega),if_neg (by omega),if_neg (by omega),if_neg (by omega),if_pos hc,if_neg (by omega),if_pos hd]
 generalize plates (gN l a 3)=p at*
 generalize gN l (a+2) 2=n3 at*
 generalize gN l (a+2+1) 2=n4 at*
 generalize gN l (a+2+2) 6=n5 at*
 generalize gN l (a+2+3) 6=n6 at*
 generalize gN l (a+2+4) 4=n7 at*
 generalize gN l (a+2+5) 2=n8 at*
 rw[hc] at h2
 refine uFN Tryz.func9 Tryz.ntmps9 ?_;intro w e X hC
 repeat refine uA ?_
 refine uR ?_;intro K hK
 refine callL rfl (h1) uTS uTS uTS uTS uTS ?_;refine uS ?_
 refine hK _ ?_;clear hK K
 refine uR ?_;intro K hK
 refine callL rfl (h2) uTS uTS uTS uTS uTS ?_;refine uS ?_
 refine hK _ ?_;clear hK K
 repeat first|refine uC ?_|refine uA ?_
 refine uR ?_;intro K hK
 refine callL rfl (h3) uTS uTS uTS uTS uTS ?_;refine uS ?_
 refine uH ?_
 refine callL rfl (h4) uTS uTS uTS uTS uTS ?_;refine uS ?_
 refine uH ?_
 refine callL rfl (h5) uTS uTS uTS uTS uTS ?_;refine uS ?_
 refine callL rfl (h6) uTS uTS uTS uTS uTS ?_;refine uS ?_
 refine callL rfl (h7) uTS uTS uTS uTS uTS ?_;refine uS ?_
 refine uH ?_
 refine callL rfl (h8) uTS uTS uTS uTS uTS ?_;refine uS ?_
 refine callF uTS (h9) uTS uTS uTS ?_;refine uS ?_
 refine callL rfl (h10) uTS uTS uTS uTS uTS ?_;refine uS ?_
 refine uH ?_
 refine hK _ ?_;clear hK K
 refine awp_ret ?_;rw[show Tryz.f9.results.toList=[.cell 4 30] from rfl];(refine(retBs uRG rfl uTC uTC ?_ ?_);all_goals (first|refine uSC ?_|exact uXC|skip))
 rfl
theorem sact_62 (l:List Int) (a:Nat) (k:Int) (hf:Fits l) (hc:gN l (a+1) 14=6) (hd:gN l (a+2+6) 6=2):SatG Tryz.prog tab 9 (srcC l a) [.ptO 0 0 0 0 0,I k] (srcC l (gA l a).2) (gA l a).1.av:=by
 have h1:=kplate_sat l a 3 hf ⟨by decide,by decide⟩
 have h2:=gN_sat l (a+1) 14 hf (by decide)
 have hp:=plates_sm (gN l a 3)
 have h3:=gN_sat l (a+2) 2 hf (by decide)
 have b3:=gN_lt (l:=l) (a:=a+2) (n:=2) (by decide)
 have h4:=gN_sat l (a+2+1) 2 hf (by decide)
 have b4:=gN_lt (l:=l) (a:=a+2+1) (n:=2) (by decide)
 have h5:=gN_sat l (a+2+2) 6 hf (by decide)
 have b5:=gN_lt (l:=l) (a:=a+2+2) (n:=6) (by decide)
 have h6:=gN_sat l (a+2+3) 6 hf (by decide)
 have b6:=gN_lt (l:=l) (a:=a+2+3) (n:=6) (by decide)
 have h7:=gN_sat l (a+2+4) 4 hf (by decide)
 have b7:=gN_lt (l:=l) (a:=a+2+4) (n:=4) (by decide)
 have h8:=gN_sat l (a+2+5) 2 hf (by decide)
 have b8:=gN_lt (l:=l) (a:=a+2+5) (n:=2) (by decide)
 have h9:=boarded_sat (1+gN l (a+2+4) 4) (gN l (a+2+5) 2) ⟨by omega,by omega⟩ ⟨by omega,by omega⟩
 have h10:=gN_sat l (a+2+6) 6 hf (by decide)
 rw[hd] at h10
 unfold gA gA6
 rw[if_neg (by omega),if_neg (by omega),if_neg (by omega),if_neg (by omega),if_neg (by omega),if_pos hc,if_neg (by omega),if_neg (by omega),if_pos hd]
 generalize plates (gN l a 3)=p at*
 generalize gN l (a+2) 2=n3 at*
 generalize gN l (a+2+1) 2=n4 at*
 generalize gN l (a+2+2) 6=n5 at*
 generalize gN l (a+2+3) 6=n6 at*
 generalize gN l (a+2+4) 4=n7 at*
 generalize gN l (a+2+5) 2=n8 at*
 rw[hc] at h2
 refine uFN Tryz.func9 Tryz.ntmps9 ?_;intro w e X hC
 repeat refine uA ?_
 refine uR ?_;intro K hK
 refine callL rfl (h1) uTS uTS uTS uTS uTS ?_;refine uS ?_
 refine hK _ ?_;clear hK K
 refine uR ?_;intro K hK
 refine callL rfl (h2) uTS uTS uTS uTS uTS ?_;refine uS ?_
 refine hK _ ?_;clear hK K
 repeat first|refine uC ?_|refine uA ?_
 refine uR ?_;intro K hK
 refine callL rfl (h3) uTS uTS uTS uTS uTS ?_;refine uS ?_
 refine uH ?_
 refine callL rfl (h4) uTS uTS uTS uTS uTS ?_;refine uS ?_
 refine uH ?_
 refine callL rfl (h5) uTS uTS uTS uTS uTS ?_;refine uS ?_
 refine callL rfl (h6) uTS uTS uTS uTS uTS ?_;refine uS ?_
 refine callL rfl (h7) uTS uTS uTS uTS uTS ?_;refine uS ?_
 refine uH ?_
 refine callL rfl (h8) uTS uTS uTS uTS uTS ?_;refine uS ?_
 refine callF uTS (h9) uTS uTS uTS ?_;refine uS ?_
 refine callL rfl (h10) uTS uTS uTS uTS uTS ?_;refine uS ?_
 refine uH ?_
 refine hK _ ?_;clear hK K
 refine awp_ret ?_;rw[show Tryz.f9.results.toList=[.cell 4 30] from rfl];(refine(retBs uRG rfl uTC uTC ?_ ?_);all_goals (first|refine uSC ?_|exact uXC|skip))
 rfl
theorem sact_63 (l:List Int) (a:Nat) (k:Int) (hf:Fits l) (hc:gN l (a+1) 14=6) (hd:gN l (a+2+6) 6=3):SatG Tryz.prog tab 9 (srcC l a) [.ptO 0 0 0 0 0,I k] (srcC l (gA l a).2) (gA l a).1.av:=by
 have h1:=kplate_sat l a 3 hf ⟨by decide,by decide⟩
 have h2:=gN_sat l (a+1) 14 hf (by decide)
 have hp:=plates_sm (gN l a 3)
 have h3:=gN_sat l (a+2) 2 hf (by decide)
 have b3:=gN_lt (l:=l) (a:=a+2) (n:=2) (by decide)
 have h4:=gN_sat l (a+2+1) 2 hf (by decide)
 have b4:=gN_lt (l:=l) (a:=a+2+1) (n:=2) (by decide)
 have h5:=gN_sat l (a+2+2) 6 hf (by decide)
 have b5:=gN_lt (l:=l) (a:=a+2+2) (n:=6) (by decide)
 have h6:=gN_sat l (a+2+3) 6 hf (by decide)
 have b6:=gN_lt (l:=l) (a:=a+2+3) (n:=6) (by decide)
 have h7:=gN_sat l (a+2+4) 4 hf (by decide)
 have b7:=gN_lt (l:=l) (a:=a+2+4) (n:=4) (by decide)
 have h8:=gN_sat l (a+2+5) 2 hf (by decide)
 have b8:=gN_lt (l:=l) (a:=a+2+5) (n:=2) (by decide)
 have h9:=boarded_sat (1+gN l (a+2+4) 4) (gN l (a+2+5) 2) ⟨by omega,by omega⟩ ⟨by omega,by omega⟩
 have h10:=gN_sat l (a+2+6) 6 hf (by decide)
 rw[hd] at h10
 unfold gA gA6
 rw[if_neg (by omega),if_neg (by omega),if_neg (by omega),if_neg (by omega),if_neg (by omega),if_pos hc,if_neg (by omega),if_neg (by omega),if_neg (by omega),if_pos hd]
 generalize plates (gN l a 3)=p at*
 generalize gN l (a+2) 2=n3 at*
 generalize gN l (a+2+1) 2=n4 at*
 generalize gN l (a+2+2) 6=n5 at*
 generalize gN l (a+2+3) 6=n6 at*
 generalize gN l (a+2+4) 4=n7 at*
 generalize gN l (a+2+5) 2=n8 at*
 rw[hc] at h2
 refine uFN Tryz.func9 Tryz.ntmps9 ?_;intro w e X hC
 repeat refine uA ?_
 refine uR ?_;intro K hK
 refine callL rfl (h1) uTS uTS uTS uTS uTS ?_;refine uS ?_
 refine hK _ ?_;clear hK K
 refine uR ?_;intro K hK
 refine callL rfl (h2) uTS uTS uTS uTS uTS ?_;refine uS ?_
 refine hK _ ?_;clear hK K
 repeat first|refine uC ?_|refine uA ?_
 refine uR ?_;intro K hK
 refine callL rfl (h3) uTS uTS uTS uTS uTS ?_;refine uS ?_
 refine uH ?_
 refine callL rfl (h4) uTS uTS uTS uTS uTS ?_;refine uS ?_
 refine uH ?_
 refine callL rfl (h5) uTS uTS uTS uTS uTS ?_;refine uS ?_
 refine callL rfl (h6) uTS uTS uTS uTS uTS ?_;refine uS ?_
 refine callL rfl (h7) uTS uTS uTS uTS uTS ?_;refine uS ?_
 refine uH ?_
 refine callL rfl (h8) uTS uTS uTS uTS uTS ?_;refine uS ?_
 refine callF uTS (h9) uTS uTS uTS ?_;refine uS ?_
 refine callL rfl (h10) uTS uTS uTS uTS uTS ?_;refine uS ?_
 refine uH ?_
 refine hK _ ?_;clear hK K
 refine awp_ret ?_;rw[show Tryz.f9.results.toList=[.cell 4 30] from rfl];(refine(retBs uRG rfl uTC uTC ?_ ?_);all_goals (first|refine uSC ?_|exact uXC|skip))
 rfl
theorem sact_64 (l:List Int) (a:Nat) (k:Int) (hf:Fits l) (hc:gN l (a+1) 14=6) (hd:gN l (a+2+6) 6=4):SatG Tryz.prog tab 9 (srcC l a) [.ptO 0 0 0 0 0,I k] (srcC l (gA l a).2) (gA l a).1.av:=by
 have h1:=kplate_sat l a 3 hf ⟨by decide,by decide⟩
 have h2:=gN_sat l (a+1) 14 hf (by decide)
 have hp:=plates_sm (gN l a 3)
 have h3:=gN_sat l (a+2) 2 hf (by decide)
 have b3:=gN_lt (l:=l) (a:=a+2) (n:=2) (by decide)
 have h4:=gN_sat l (a+2+1) 2 hf (by decide)
 have b4:=gN_lt (l:=l) (a:=a+2+1) (n:=2) (by decide)
 have h5:=gN_sat l (a+2+2) 6 hf (by decide)
 have b5:=gN_lt (l:=l) (a:=a+2+2) (n:=6) (by decide)
 have h6:=gN_sat l (a+2+3) 6 hf (by decide)
 have b6:=gN_lt (l:=l) (a:=a+2+3) (n:=6) (by decide)
 have h7:=gN_sat l (a+2+4) 4 hf (by decide)
 have b7:=gN_lt (l:=l) (a:=a+2+4) (n:=4) (by decide)
 have h8:=gN_sat l (a+2+5) 2 hf (by decide)
 have b8:=gN_lt (l:=l) (a:=a+2+5) (n:=2) (by decide)
 have h9:=boarded_sat (1+gN l (a+2+4) 4) (gN l (a+2+5) 2) ⟨by omega,by omega⟩ ⟨by omega,by omega⟩
 have h10:=gN_sat l (a+2+6) 6 hf (by decide)
 rw[hd] at h10
 unfold gA gA6
 rw[if_neg (by omega),if_neg (by omega),if_neg (by omega),if_neg (by omega),if_neg (by omega),if_pos hc,if_neg (by omega),if_neg (by omega),if_neg (by omega),if_neg (by omega),if_pos hd]
 generalize plates (gN l a 3)=p at*
 generalize gN l (a+2) 2=n3 at*
 generalize gN l (a+2+1) 2=n4 at*
 generalize gN l (a+2+2) 6=n5 at*
 generalize gN l (a+2+3) 6=n6 at*
 generalize gN l (a+2+4) 4=n7 at*
 generalize gN l (a+2+5) 2=n8 at*
 rw[hc] at h2
 refine uFN Tryz.func9 Tryz.ntmps9 ?_;intro w e X hC
 repeat refine uA ?_
 refine uR ?_;intro K hK
 refine callL rfl (h1) uTS uTS uTS uTS uTS ?_;refine uS ?_
 refine hK _ ?_;clear hK K
 refine uR ?_;intro K hK
 refine callL rfl (h2) uTS uTS uTS uTS uTS ?_;refine uS ?_
 refine hK _ ?_;clear hK K
 repeat first|refine uC ?_|refine uA ?_
 refine uR ?_;intro K hK
 refine callL rfl (h3) uTS uTS uTS uTS uTS ?_;refine uS ?_
 refine uH ?_
 refine callL rfl (h4) uTS uTS uTS uTS uTS ?_;refine uS ?_
 refine uH ?_
 refine callL rfl (h5) uTS uTS uTS uTS uTS ?_;refine uS ?_
 refine callL rfl (h6) uTS uTS uTS uTS uTS ?_;refine uS ?_
 refine callL rfl (h7) uTS uTS uTS uTS uTS ?_;refine uS ?_
 refine uH ?_
 refine callL rfl (h8) uTS uTS uTS uTS uTS ?_;refine uS ?_
 refine callF uTS (h9) uTS uTS uTS ?_;refine uS ?_
 refine callL rfl (h10) uTS uTS uTS uTS uTS ?_;refine uS ?_
 refine uH ?_
 refine hK _ ?_;clear hK K
 refine awp_ret ?_;rw[show Tryz.f9.results.toList=[.cell 4 30] from rfl];(refine(retBs uRG rfl uTC uTC ?_ ?_);all_goals (first|refine uSC ?_|exact uXC|skip))
 rfl
theorem sact_65 (l:List Int) (a:Nat) (k:Int) (hf:Fits l) (hc:gN l (a+1) 14=6) (hd:gN l (a+2+6) 6=5):SatG Tryz.prog tab 9 (srcC l a) [.ptO 0 0 0 0 0,I k] (srcC l (gA l a).2) (gA l a).1.av:=by
 have h1:=kplate_sat l a 3 hf ⟨by decide,by decide⟩
 have h2:=gN_sat l (a+1) 14 hf (by decide)
 have hp:=plates_sm (gN l a 3)
 have h3:=gN_sat l (a+2) 2 hf (by decide)
 have b3:=gN_lt (l:=l) (a:=a+2) (n:=2) (by decide)
 have h4:=gN_sat l (a+2+1) 2 hf (by decide)
 have b4:=gN_lt (l:=l) (a:=a+2+1) (n:=2) (by decide)
 have h5:=gN_sat l (a+2+2) 6 hf (by decide)
 have b5:=gN_lt (l:=l) (a:=a+2+2) (n:=6) (by decide)
 have h6:=gN_sat l (a+2+3) 6 hf (by decide)
 have b6:=gN_lt (l:=l) (a:=a+2+3) (n:=6) (by decide)
 have h7:=gN_sat l (a+2+4) 4 hf (by decide)
 have b7:=gN_lt (l:=l) (a:=a+2+4) (n:=4) (by decide)
 have h8:=gN_sat l (a+2+5) 2 hf (by decide)
 have b8:=gN_lt (l:=l) (a:=a+2+5) (n:=2) (by decide)
 have h9:=boarded_sat (1+gN l (a+2+4) 4) (gN l (a+2+5) 2) ⟨by omega,by omega⟩ ⟨by omega,by omega⟩
 have h10:=gN_sat l (a+2+6) 6 hf (by decide)
 rw[hd] at h10
 unfold gA gA6
 rw[if_neg (by omega),if_neg (by omega),if_neg (by omega),if_neg (by omega),if_neg (by omega),if_pos hc,if_neg (by omega),if_neg (by omega),if_neg (by omega),if_neg (by omega),if_neg (by omega)]
 generalize plates (gN l a 3)=p at*
 generalize gN l (a+2) 2=n3 at*
 generalize gN l (a+2+1) 2=n4 at*
 generalize gN l (a+2+2) 6=n5 at*
 generalize gN l (a+2+3) 6=n6 at*
 generalize gN l (a+2+4) 4=n7 at*
 generalize gN l (a+2+5) 2=n8 at*
 rw[hc] at h2
 refine uFN Tryz.func9 Tryz.ntmps9 ?_;intro w e X hC
 repeat refine uA ?_
 refine uR ?_;intro K hK
 refine callL rfl (h1) uTS uTS uTS uTS uTS ?_;refine uS ?_
 refine hK _ ?_;clear hK K
 refine uR ?_;intro K hK
 refine callL rfl (h2) uTS uTS uTS uTS uTS ?_;refine uS ?_
 refine hK _ ?_;clear hK K
 repeat first|refine uC ?_|refine uA ?_
 refine uR ?_;intro K hK
 refine callL rfl (h3) uTS uTS uTS uTS uTS ?_;refine uS ?_
 refine uH ?_
 refine callL rfl (h4) uTS uTS uTS uTS uTS ?_;refine uS ?_
 refine uH ?_
 refine callL rfl (h5) uTS uTS uTS uTS uTS ?_;refine uS ?_
 refine callL rfl (h6) uTS uTS uTS uTS uTS ?_;refine uS ?_
 refine callL rfl (h7) uTS uTS uTS uTS uTS ?_;refine uS ?_
 refine uH ?_
 refine callL rfl (h8) uTS uTS uTS uTS uTS ?_;refine uS ?_
 refine callF uTS (h9) uTS uTS uTS ?_;refine uS ?_
 refine callL rfl (h10) uTS uTS uTS uTS uTS ?_;refine uS ?_
 refine uH ?_
 refine hK _ ?_;clear hK K
 refine awp_ret ?_;rw[show Tryz.f9.results.toList=[.cell 4 30] from rfl];(refine(retBs uRG rfl uTC uTC ?_ ?_);all_goals (first|refine uSC ?_|exact uXC|skip))
 rfl
open Go.Scr
theorem sact_t (l:List Int) (a:Nat) (k:Int) (hf:Fits l) (hc:7<=gN l (a+1) 14):SatG Tryz.prog tab 9 (srcC l a) [.ptO 0 0 0 0 0,I k] (srcC l (gA l a).2) (gA l a).1.av:=by
 have h1:=kplate_sat l a 3 hf ⟨by decide,by decide⟩
 have h2:=gN_sat l (a+1) 14 hf (by decide)
 have h3:=gN_sat l (a+2) 12 hf (by decide)
 have h4:=gN_sat l (a+2+1) 8 hf (by decide)
 have h5:=gN_sat l (a+2+1+1) 2 hf (by decide)
 have b5:=gN_lt (l:=l) (a:=a+2+1+1) (n:=2) (by decide)
 have h6:=gN_sat l (a+2+1+2) 4 hf (by decide)
 have b6:=gN_lt (l:=l) (a:=a+2+1+2) (n:=4) (by decide)
 unfold gA gAt
 rw[if_neg (by omega),if_neg (by omega),if_neg (by omega),if_neg (by omega),if_neg (by omega),if_neg (by omega)]
 have e0:=uDf (gN l (a+1) 14=0)
 have e1:=uDf (gN l (a+1) 14=1)
 have e2:=uDf (gN l (a+1) 14=2)
 have e3:=uDf (gN l (a+1) 14=3)
 have e4:=uDf (gN l (a+1) 14=4)
 have e5:=uDf (gN l (a+1) 14=5)
 have e6:=uDf (gN l (a+1) 14=6)
 generalize gN l (a+1) 14=c at*
 generalize plates (gN l a 3)=p at*
 generalize gN l (a+2) 12=n3 at*
 refine uFN Tryz.func9 Tryz.ntmps9 ?_;intro w e X hC
 repeat refine uA ?_
 refine uR ?_;intro K hK
 refine callL rfl (h1) uTS uTS uTS uTS uTS ?_;refine uS ?_
 refine hK _ ?_;clear hK K
 refine uR ?_;intro K hK
 refine callL rfl (h2) uTS uTS uTS uTS uTS ?_;refine uS ?_
 refine hK _ ?_;clear hK K
 repeat first|refine uC ?_|refine uA1 (uI @e0 (uI @e1 (uI @e2 (uI @e3 (uI @e4 (uI @e5 @e6)))))) ?_
 refine uR ?_;intro K hK
 refine callL rfl (h3) uTS uTS uTS uTS uTS ?_;refine uS ?_
 refine hK _ ?_;clear hK K
 refine awp_seq ?_
 refine awp_merge (fun q:Nat=>⟨[(0, .ptO 0 0 0 0 0),(4, .ptO 104 1 0 0 0),(6, .ptO 106 26 0 0 0)],(106,some (26, .box [I 1, .sl (flaws (gMv l (a+2+1)).1) false, .sl [] true,B (decide (n3=11)),I 0,I 0,I 0,I 0,I 0,B false, .lit (.string .empty),I 0,I 0, .lit (.string .empty),I 0, .lit (.string .empty),I 0,I 0,I 0, .lit (.string .empty),I 0, .lit (.string .empty),I 0]))::(104,some (1, .box [I 0, .sl [] true, .sl [] true,B false,I 0,I 0,I 0,I 0,I 0,B false, .lit (.string .empty),I 0,I 0, .lit (.string .empty),I 0, .lit (.string .empty),I 0,I 0,I 0, .lit (.string .empty),I 0, .lit (.string .empty),I 0]))::srcC l (gMv l (a+2+1)).2,q⟩) (fun _=>True) ?_ ?_
 ·unfold gMv
  generalize gN l (a+2+1) 8=n4 at*
  generalize gN l (a+2+1+1) 2=n5 at*
  generalize gN l (a+2+1+2) 4=n6 at*
  refine uR ?_;intro K hK
  refine callL rfl (h4) uTS uTS uTS uTS uTS ?_;refine uS ?_
  refine hK _ ?_;clear hK K
  refine uW ?_;refine condP _ rfl (fun c0=>?_) (fun c0=>?_)
  ·rw[if_pos c0]
   refine uR ?_;intro K hK
   refine callL rfl (h5) uTS uTS uTS uTS uTS ?_;refine uS ?_
   refine uH ?_
   refine callL rfl (h6) uTS uTS uTS uTS uTS ?_;refine uS ?_
   refine uH ?_
   refine hK _ ?_;clear hK K
   refine uW ?_
   refine⟨_,trivial,uKF⟩
  ·rw[if_neg c0]
   refine uW ?_
   refine⟨_,trivial,uKF⟩
 ·rintro q -
  generalize gMv l (a+2+1)=v at*
  obtain⟨mv,b⟩:=v
  simp only
  have h7:=gN_sat l b 8 hf (by decide)
  have h8:=gP_sat l (b+1) [3,5,6] hf (by decide) (by decide)
  have h9:=gN_sat l (b+2) 10 hf (by decide)
  refine awp_seq ?_
  refine awp_merge (fun q:Nat=>⟨[(0, .ptO 0 0 0 0 0),(4, .ptO 104 1 0 0 0),(6, .ptO 106 26 0 0 0)],(106,some (26, .box [I 1, .sl (flaws mv) false, .sl (flaws (gGl l b).1) false,B (decide (n3=11)),I 0,I 0,I 0,I 0,I 0,B false, .lit (.string .empty),I 0,I 0, .lit (.string .empty),I 0, .lit (.string .empty),I 0,I 0,I 0, .lit (.string .empty),I 0, .lit (.string .empty),I 0]))::(104,some (1, .box [I 0, .sl [] true, .sl [] true,B false,I 0,I 0,I 0,I 0,I 0,B false, .lit (.string .empty),I 0,I 0, .lit (.string .empty),I 0, .lit (.string .empty),I 0,I 0,I 0, .lit (.string .empty),I 0, .lit (.string .empty),I 0]))::srcC l (gGl l b).2,q⟩) (fun _=>True) ?_ ?_
  ·unfold gGl
   generalize gN l b 8=n7 at*
   generalize gP l (b+1) [3,5,6]=n8 at*
   generalize gN l (b+2) 10=n9 at*
   refine uR ?_;intro K hK
   refine callL rfl (h7) uTS uTS uTS uTS uTS ?_;refine uS ?_
   refine hK _ ?_;clear hK K
   refine uW ?_;refine condP _ rfl (fun c0=>?_) (fun c0=>?_)
   ·rw[if_pos c0]
    refine uR ?_;intro K hK
    refine callL rfl (h8) uTS uTS uTS uTS uTS ?_;refine uS ?_
    refine callL rfl (h9) uTS uTS uTS uTS uTS ?_;refine uS ?_
    refine uH ?_
    refine hK _ ?_;clear hK K
    refine uW ?_
    refine⟨_,trivial,uKF⟩
   ·rw[if_neg c0]
    refine uW ?_
    refine⟨_,trivial,uKF⟩
  ·rintro q -
   generalize gGl l b=v at*
   obtain⟨gl,b'⟩:=v
   simp only
   repeat refine uA ?_
   refine awp_ret ?_;rw[show Tryz.f9.results.toList=[.cell 4 30] from rfl];(refine(retBs uRG rfl uTC uTC ?_ ?_);all_goals (first|refine uSC ?_|exact uXC|skip))
   rfl
theorem gA_sat (l:List Int) (a:Nat) (k:Int) (hf:Fits l):SatG Tryz.prog tab 9 (srcC l a) [.ptO 0 0 0 0 0,I k] (srcC l (gA l a).2) (gA l a).1.av:=by
 have b:=gN_lt (l:=l) (a:=a+1) (n:=14) (by decide)
 by_cases c0:gN l (a+1) 14=0
 ·exact sact_0 l a k hf c0
 by_cases c1:gN l (a+1) 14=1
 ·exact sact_1 l a k hf c1
 by_cases c2:gN l (a+1) 14=2
 ·exact sact_2 l a k hf c2
 by_cases c3:gN l (a+1) 14=3
 ·exact sact_3 l a k hf c3
 by_cases c4:gN l (a+1) 14=4
 ·exact sact_4 l a k hf c4
 by_cases c5:gN l (a+1) 14=5
 ·have b5:=gN_lt (l:=l) (a:=(gV l (a+2+4)).2) (n:=4) (by decide)
  by_cases d0:gN l (gV l (a+2+4)).2 4=0
  ·exact sact_50 l a k hf c5 d0
  by_cases d1:gN l (gV l (a+2+4)).2 4=1
  ·exact sact_51 l a k hf c5 d1
  by_cases d2:gN l (gV l (a+2+4)).2 4=2
  ·exact sact_52 l a k hf c5 d2
  exact sact_53 l a k hf c5 (by omega)
 by_cases c6:gN l (a+1) 14=6
 ·have b6:=gN_lt (l:=l) (a:=a+2+6) (n:=6) (by decide)
  by_cases d0:gN l (a+2+6) 6=0
  ·exact sact_60 l a k hf c6 d0
  by_cases d1:gN l (a+2+6) 6=1
  ·exact sact_61 l a k hf c6 d1
  by_cases d2:gN l (a+2+6) 6=2
  ·exact sact_62 l a k hf c6 d2
  by_cases d3:gN l (a+2+6) 6=3
  ·exact sact_63 l a k hf c6 d3
  by_cases d4:gN l (a+2+6) 6=4
  ·exact sact_64 l a k hf c6 d4
  exact sact_65 l a k hf c6 (by omega)
 exact sact_t l a k hf (by omega)
structure SmQ (x:Acx):Prop where
 mv:x.mv.length<=1
 gl:x.gl.length<=1
 tx:x.txt.length<=200
 sp:(32:UInt8)∉x.txt
 rc:x.rev.flt.car.length<=2
 rs:x.rev.flt.suf.length<=2
 fc:x.flt.car.length<=2
 fs:x.flt.suf.length<=2
theorem dgs_no:∀(k:Nat) (x n:Int) (s:Bs),(32:UInt8)∉s->(32:UInt8)∉dgs k x n s
 |0,_,_,s,h=>h
 |k+1,x,n,s,h=>by
  unfold dgs
  split
  ·refine dgs_no k _ n _ fun hm=>?_
   rcases List.mem_cons.1 hm with hm|hm
   ·have h2:=congrArg UInt8.toNat hm
    rw[UInt8.toNat_ofNat'] at h2
    have h3:(32:UInt8).toNat=32:=rfl
    omega
   ·exact h hm
  ·exact h
theorem car_no (n:Nat):(32:UInt8)∉carL.getD n []:=by
 match n with
 |0=>decide
 |1=>decide
 |2=>decide
 |n+3=>exact List.not_mem_nil
theorem desg_no (i:Int):(32:UInt8)∉desg i:=by
 unfold desg
 intro h
 simp only[List.mem_append,List.mem_singleton] at h
 rcases h with ((h|h)|h)|h
 ·exact car_no _ h
 ·exact dgs_no _ _ _ _ (by simp) h
 ·exact absurd h (by decide)
 ·exact dgs_no _ _ _ _ (by simp) h
theorem srcT_no (n i:Int) (p:Plt):(32:UInt8)∉srcT n i p:=by
 unfold srcT
 intro h
 simp only[List.mem_append] at h
 rcases h with (((((((h|h)|h)|h)|h)|h)|h)|h)|h
 ·exact absurd h (by decide)
 ·exact dgs_no _ _ _ _ (by simp) h
 ·exact absurd h (by decide)
 ·exact desg_no _ h
 ·exact absurd h (by decide)
 ·exact dgs_no _ _ _ _ (by simp) h
 ·exact dgs_no _ _ _ _ (by simp) h
 ·exact dgs_no _ _ _ _ (by simp) h
 ·exact absurd h (by decide)
theorem brdT_no (n i:Int):(32:UInt8)∉brdT n i:=by
 unfold brdT
 intro h
 simp only[List.mem_append] at h
 rcases h with (((h|h)|h)|h)|h
 ·exact absurd h (by decide)
 ·exact dgs_no _ _ _ _ (by simp) h
 ·exact absurd h (by decide)
 ·exact desg_no _ h
 ·exact absurd h (by decide)
theorem carG_len (n:Nat):(carG.getD n []).length<=2:=by
 match n with
 |0=>decide
 |1=>decide
 |2=>decide
 |n+3=>exact Nat.zero_le 2
theorem gV_sm (l:List Int) (a:Nat):(gV l a).1.flt.car.length<=2/\(gV l a).1.flt.suf.length<=2:=by
 show(gv1 l (a+4) (gF l (a+1))).1.car.length<=2/\(gv1 l (a+4) (gF l (a+1))).1.suf.length<=2
 unfold gv1
 split
 ·exact⟨(flights_b _).1,by rw[(flights_b _).2.2.2.2.2];exact Nat.zero_le _⟩
 ·exact⟨carG_len _,Nat.zero_le _⟩
theorem smQ0 {x:Acx} (h1:x.mv.length<=1) (h2:x.gl.length<=1) (h3:x.txt=[]) (h4:x.rev=R0) (h5:x.flt=F0):SmQ x:=
 ⟨h1,h2,by rw[h3];exact Nat.zero_le _,by rw[h3];simp,by rw[h4];exact Nat.zero_le _,by rw[h4];exact Nat.zero_le _,by rw[h5];exact Nat.zero_le _,by rw[h5];exact Nat.zero_le _⟩
theorem smQt (t:Bs) (h1:t.length<=200) (h2:(32:UInt8)∉t):SmQ {A0 3 with txt:=t}:=
 ⟨Nat.zero_le _,Nat.zero_le _,h1,h2,Nat.zero_le _,Nat.zero_le _,Nat.zero_le _,Nat.zero_le _⟩
theorem gA_sm (l:List Int) (a:Nat):SmQ (gA l a).1:=by
 unfold gA
 split
 ·exact smQt _ (srcT_len _ _ _) (srcT_no _ _ _)
 split
 ·exact smQ0 (Nat.zero_le _) (Nat.zero_le _) rfl rfl rfl
 split
 ·exact smQ0 (Nat.zero_le _) (Nat.zero_le _) rfl rfl rfl
 split
 ·exact smQ0 (Nat.zero_le _) (Nat.zero_le _) rfl rfl rfl
 split
 ·unfold gA5
  split
  ·exact smQ0 (Nat.zero_le _) (Nat.zero_le _) rfl rfl rfl
  split
  ·exact smQ0 (Nat.zero_le _) (Nat.zero_le _) rfl rfl rfl
  split
  ·exact⟨Nat.zero_le _,Nat.zero_le _,Nat.zero_le _,by show(32:UInt8)∉[];simp,Nat.zero_le _,Nat.zero_le _,(flights_b _).1,by show(flights _).suf.length<=2;rw[(flights_b _).2.2.2.2.2];exact Nat.zero_le _⟩
  ·exact⟨Nat.zero_le _,Nat.zero_le _,Nat.zero_le _,by show(32:UInt8)∉[];simp,(gV_sm _ _).1,(gV_sm _ _).2,Nat.zero_le _,Nat.zero_le _⟩
 split
 ·unfold gA6
  split
  ·exact smQ0 (Nat.zero_le _) (Nat.zero_le _) rfl rfl rfl
  split
  ·exact smQ0 (Nat.zero_le _) (Nat.zero_le _) rfl rfl rfl
  split
  ·exact smQ0 (Nat.zero_le _) (Nat.zero_le _) rfl rfl rfl
  split
  ·exact smQ0 (Nat.zero_le _) (Nat.zero_le _) rfl rfl rfl
  split
  ·exact smQ0 (Nat.zero_le _) (Nat.zero_le _) rfl rfl rfl
  ·exact smQt _ (brdT_len _ _) (brdT_no _ _)
 ·refine smQ0 ?_ ?_ rfl rfl rfl
  ·show(gMv l (a+2+1)).1.length<=1
   unfold gMv
   split<;>simp
  ·show(gGl l (gMv l (a+2+1)).2).1.length<=1
   unfold gGl
   split<;>simp
end Go.Proofs.YtokkbonoplbiaaaGreatDoor
namespace Go.Scr
open Go Go.Lib
theorem digit_no {s:Bs} {c:UInt8} (h:∀x∈s,digit x=true) (hc:digit c=false):c∉s:=fun hm=>by
 have:=h c hm
 rw[hc] at this;cases this
theorem dec_no (n:Nat) {c:UInt8} (hc:digit c=false):c∉decDigits n:=digit_no (dec_digit n) hc
theorem digs_no (n k:Nat) {c:UInt8} (hc:digit c=false):c∉digs n k:=digit_no (digs_digit k n) hc
theorem decW_no (n:Int) {c:UInt8} (hc:digit c=false):c∉decW n:=by
 unfold decW
 split
 ·exact dec_no _ hc
 ·simp
theorem val_dec {n:Int} (h:numB n=true):val (decW n)=some n:=by
 have h0:=of_decide_eq_true h
 unfold decW
 rw[if_pos h]
 have e:((n.toNat:Nat):Int)=n:=by omega
 unfold val
 rw[atoi_num (dec_ne _) (dec_digit _) (by rw[dec_num];omega),dec_num]
 simp only[e]
 rw[if_pos h0]
theorem decW_ne {n:Int} (h:decW n≠[]):numB n=true:=by
 unfold decW at h
 split at h
 ·assumption
 ·exact absurd rfl h
theorem number_w {L:Bs} {n:Int} {ws:List Bs} {b:Bool} (h:numB n=true):Rd.number ⟨L,decW n::ws,b⟩=(n,⟨L,ws,b⟩):=by
 unfold Rd.number Rd.next Rd.value
 simp only[val_dec h]
theorem drop_digs (n k j:Nat):(digs n (k+j)).drop k=digs n j:=by
 rw[digs_app j k n,List.drop_append_of_le_length (by rw[digs_length];exact Nat.le_refl _),List.drop_of_length_le (by rw[digs_length];exact Nat.le_refl _)]
 rfl
theorem take_digs (n k j:Nat):(digs n (k+j)).take k=digs (n / 10^j) k:=by
 rw[digs_app j k n,List.take_append_of_le_length (by rw[digs_length];exact Nat.le_refl _),List.take_of_length_le (by rw[digs_length];exact Nat.le_refl _)]
theorem plt_back {p:Plt} (h:p.ok=true):pltParse p.fmt=(p,0):=by
 have h0:=of_decide_eq_true h
 obtain⟨N,hN⟩:∃N:Nat,p.num=N:=⟨p.num.toNat,by unfold Plt.num;omega⟩
 have hN2:(p.l*1000+p.a)*1000000+p.s=N:=hN
 have e1:p.fmt=digs N 10:=by unfold Plt.fmt;rw[if_pos h,hN,Int.toNat_natCast]
 have t1:(digs N 10).take 1=digs (N / 10^9) 1:=take_digs N 1 9
 have t2:((digs N 10).take 4).drop 1=digs (N / 10^6) 3:=by
  rw[show(digs N 10).take 4=digs (N / 10^6) 4 from take_digs N 4 6]
  exact drop_digs _ 1 3
 have t3:(digs N 10).drop 4=digs N 6:=drop_digs N 4 6
 have e2:pltOf (digs N 10)=p:=by
  unfold pltOf
  rw[t1,t2,t3,digs_num,digs_num,digs_num]
  obtain⟨l,a,s⟩:=p
  simp only at h0 hN2 ⊢
  congr 1<;>omega
 unfold pltParse
 rw[e1,if_pos ⟨digs_length _ _,List.all_eq_true.2 (digs_digit _ _)⟩,e2,if_pos h]
theorem plt_ne {p:Plt} (h:p.fmt≠[]):p.ok=true:=by
 unfold Plt.fmt at h
 split at h
 ·assumption
 ·exact absurd rfl h
theorem plt_no (p:Plt) {c:UInt8} (hc:digit c=false):c∉p.fmt:=by
 unfold Plt.fmt
 split
 ·exact digs_no _ _ hc
 ·simp
theorem plate_w {L:Bs} {p:Plt} {ws:List Bs} {b:Bool} (h:p.ok=true):Rd.plate ⟨L,p.fmt::ws,b⟩=(p,⟨L,ws,b⟩):=by
 unfold Rd.plate Rd.next
 simp only[plt_back h]
 simp
theorem flt_parts {a d u e:Bs} (ha:a.length=2) (hd:d.length=4) (hu:u.length<=1) (he:e.length=2):
  ((a++d++u++[47]++e).length=9\/(a++d++u++[47]++e).length=10)/\(a++d++u++[47]++e).getD ((a++d++u++[47]++e).length - 3) 0=47/\(a++d++u++[47]++e).take 2=a/\
  ((a++d++u++[47]++e).take 6).drop 2=d/\((a++d++u++[47]++e).take ((a++d++u++[47]++e).length - 3)).drop 6=u/\(a++d++u++[47]++e).drop ((a++d++u++[47]++e).length - 2)=e:=by
 match a,ha,d,hd,e,he with
 |[a0,a1],_,[d0,d1,d2,d3],_,[e0,e1],_=>
  match u,hu with
  |[],_=>exact⟨.inl rfl,rfl,rfl,rfl,rfl,rfl⟩
  |[u0],_=>exact⟨.inr rfl,rfl,rfl,rfl,rfl,rfl⟩
theorem carB_len {s:Bs} (h:carB s=true):s.length=2:=by
 unfold carB at h
 simp only[Bool.and_eq_true] at h
 exact of_decide_eq_true h.1.1
theorem sufB_len {s:Bs} (h:sufB s=true):s.length<=1:=by
 unfold sufB at h
 simp only[Bool.and_eq_true] at h
 exact of_decide_eq_true h.1
theorem flt_back {f:Flt} (h:f.ok=true):fltParse f.fmt=(f,0):=by
 have h0:=h
 unfold Flt.ok at h0
 simp only[Bool.and_eq_true,decide_eq_true_eq] at h0
 obtain⟨⟨⟨c1,c2⟩,c3⟩,c4⟩:=h0
 have e1:f.fmt=f.car++digs f.num.toNat 4++f.suf++[47]++digs f.day.toNat 2:=by unfold Flt.fmt;rw[if_pos h]
 rw[e1]
 obtain⟨p1,p2,p3,p4,p5,p6⟩:=flt_parts (a:=f.car) (d:=digs f.num.toNat 4) (u:=f.suf) (e:=digs f.day.toNat 2) (carB_len c1) (digs_length _ _) (sufB_len c3) (digs_length _ _)
 generalize f.car++digs f.num.toNat 4++f.suf++[47]++digs f.day.toNat 2=s at*
 have d4:(digs f.num.toNat 4).all digit=true:=List.all_eq_true.2 (digs_digit _ _)
 have d2:(digs f.day.toNat 2).all digit=true:=List.all_eq_true.2 (digs_digit _ _)
 have e2:fltOf s=f:=by
  unfold fltOf
  rw[p3,p4,p5,p6,digs_num,digs_num]
  obtain⟨car,num,suf,day⟩:=f
  simp only at c2 c4 ⊢
  congr 1<;>omega
 have e3:fltShape s=true:=by
  unfold fltShape
  rw[p2,p3,p4,p5,p6,c1,d4,c3,d2,decide_eq_true p1];rfl
 unfold fltParse
 rw[if_pos e3,e2,if_neg (by omega)]
theorem flt_ne {f:Flt} (h:f.fmt≠[]):f.ok=true:=by
 unfold Flt.fmt at h
 split at h
 ·assumption
 ·exact absurd rfl h
theorem flt_no (f:Flt) {c:UInt8} (hc:digit c=false) (hl:letter c=false) (h47:c≠47):c∉f.fmt:=by
 unfold Flt.fmt
 split
 ·rename_i h
  unfold Flt.ok at h
  simp only[Bool.and_eq_true,decide_eq_true_eq] at h
  obtain⟨⟨⟨c1,c2⟩,c3⟩,c4⟩:=h
  unfold carB at c1
  unfold sufB at c3
  simp only[Bool.and_eq_true,List.all_eq_true,Bool.or_eq_true] at c1 c3
  intro hm
  simp only[List.mem_append,List.mem_singleton] at hm
  rcases hm with (((hm|hm)|hm)|hm)|hm
  ·rcases c1.1.2 c hm with h1|h1
   ·rw[hl] at h1;cases h1
   ·rw[hc] at h1;cases h1
  ·exact digs_no _ _ hc hm
  ·have h1:=c3.2 c hm
   rw[hl] at h1;cases h1
  ·exact h47 hm
  ·exact digs_no _ _ hc hm
 ·simp
theorem flight_w {L:Bs} {f:Flt} {ws:List Bs} {b:Bool} (h:f.ok=true):Rd.flight ⟨L,f.fmt::ws,b⟩=(f,⟨L,ws,b⟩):=by
 unfold Rd.flight Rd.next
 simp only[flt_back h]
 simp
theorem faultN_no (k:Int):58∉faultN k/\32∉faultN k:=by
 unfold faultN
 repeat' split
 all_goals decide
theorem kindOf_fault {k:Int} (h:1<=k/\k<=6):kindOf (faultN k)=k:=by
 have:k=1\/k=2\/k=3\/k=4\/k=5\/k=6:=by omega
 rcases this with rfl|rfl|rfl|rfl|rfl|rfl<;>decide
theorem wFault_split (f:Flaw):splitL 58 (wFault f)=[faultN f.k,decW f.n,decW f.w]:=by
 have e:wFault f=faultN f.k++58::(decW f.n++58::decW f.w):=by unfold wFault;simp
 rw[e,splitL_cons (faultN_no _).1,splitL_cons (decW_no _ (by decide)),splitL_word (decW_no _ (by decide))]
theorem flawB_of {lo hi:Int} {f:Flaw} (h:flawB lo hi f=true):lo<=f.k/\f.k<=hi/\numB f.n=true/\numB f.w=true:=by
 unfold flawB at h
 simp only[Bool.and_eq_true,decide_eq_true_eq] at h
 exact⟨h.1.1.1,h.1.1.2,h.1.2,h.2⟩
theorem fault_w {r:Rd} {f:Flaw} (hk:1<=f.k/\f.k<=6) (hn:numB f.n=true) (hw:numB f.w=true):r.fault (wFault f)=(f,r):=by
 unfold Rd.fault
 rw[wFault_split]
 have e1:([faultN f.k,decW f.n,decW f.w]).getD 0 []=faultN f.k:=rfl
 have e2:([faultN f.k,decW f.n,decW f.w]).getD 1 []=decW f.n:=rfl
 have e3:([faultN f.k,decW f.n,decW f.w]).getD 2 []=decW f.w:=rfl
 rw[e1,e2,e3,kindOf_fault hk,if_pos ⟨rfl,by omega⟩]
 unfold Rd.value
 simp only[val_dec hn,val_dec hw]
theorem wFault_no (f:Flaw):32∉wFault f:=by
 unfold wFault
 intro h
 simp only[List.mem_append,List.mem_singleton] at h
 rcases h with (((h|h)|h)|h)|h
 ·exact(faultN_no _).2 h
 ·exact absurd h (by decide)
 ·exact decW_no _ (by decide) h
 ·exact absurd h (by decide)
 ·exact decW_no _ (by decide) h
theorem wFault_lost (f:Flaw):wFault f≠sLost:=by
 intro h
 have h1:=wFault_split f
 rw[h] at h1
 have h2:splitL 58 sLost=[sLost]:=by decide
 rw[h2] at h1
 simp at h1
theorem wFault_ne (f:Flaw):wFault f≠[]:=by
 unfold wFault
 simp
open Go Go.Lib
theorem wWord_ok {w:Wr} {s:Bs} (h:(wWord w s).2=false):w.2=false/\s≠[]/\wWord w s=(w.1++[s],false):=by
 unfold wWord at h ⊢
 simp only[Bool.or_eq_false_iff] at h
 refine⟨h.1,fun e=>?_,?_⟩
 ·rw[e] at h;exact absurd h.2 (by decide)
 ·rw[h.1,h.2];rfl
theorem wNum_ok {w:Wr} {n:Int} (h:(wNums w [n]).2=false):w.2=false/\numB n=true/\wNums w [n]=(w.1++[decW n],false):=by
 obtain⟨h1,h2,h3⟩:=wWord_ok (w:=w) (s:=decW n) h
 exact⟨h1,decW_ne h2,h3⟩
theorem wNum2_ok {w:Wr} {n m:Int} (h:(wNums w [n,m]).2=false):w.2=false/\numB n=true/\numB m=true/\wNums w [n,m]=(w.1++[decW n,decW m],false):=by
 obtain⟨h1,h2,h3⟩:=wWord_ok (w:=wWord w (decW n)) (s:=decW m) h
 obtain⟨h4,h5,h6⟩:=wWord_ok h1
 refine⟨h4,decW_ne h5,decW_ne h2,?_⟩
 show wWord (wWord w (decW n)) (decW m)=_
 rw[h6] at h3 ⊢
 rw[h3];simp
theorem wFaults_ok {lo hi:Int}:∀{l:List Flaw} {w:Wr},(wFaults lo hi l w).2=false->(∀f∈l,flawB lo hi f=true)/\w.2=false/\wFaults lo hi l w=(w.1++l.map wFault,false)
 |[],w,h=>⟨by simp,h,by
  have h:w.2=false:=h
  show w=_
  rw[List.map_nil,List.append_nil,<-h]⟩
 |f::r,w,h=>by
  unfold wFaults at h ⊢
  by_cases c:flawB lo hi f=true
  ·rw[if_pos c] at h ⊢
   obtain⟨h1,h2,h3⟩:=wFaults_ok h
   obtain⟨h4,h5,h6⟩:=wWord_ok h2
   refine⟨fun x hx=>?_,h4,?_⟩
   ·rcases List.mem_cons.1 hx with rfl|hx
    ·exact c
    ·exact h1 x hx
   ·rw[h3,h6];simp
  ·rw[if_neg c] at h
   cases h
theorem faults_back {L:Bs}:∀{l:List Flaw} {n:Nat} {m g:List Flaw},l.length<=n->(∀f∈l,(1<=f.k/\f.k<=6)/\numB f.n=true/\numB f.w=true)->
  Rd.faults n ⟨L,l.map wFault,false⟩ m g=(m++l.filter (fun f=>decide (f.k<=2)),g++l.filter (fun f=>!decide (f.k<=2)),⟨L,[],false⟩)
 |[],0,m,g,_,_=>by simp[Rd.faults]
 |[],n+1,m,g,_,_=>by simp[Rd.faults]
 |f::l,0,m,g,hn,_=>by simp at hn
 |f::l,n+1,m,g,hn,h=>by
  obtain⟨h1,h2,h3⟩:=h f (by simp)
  have ih:=fun m g=>faults_back (L:=L) (l:=l) (n:=n) (m:=m) (g:=g) (by simpa using hn) fun x hx=>h x (List.mem_cons_of_mem _ hx)
  have e1:Rd.next ⟨L,(f::l).map wFault,false⟩=(wFault f,⟨L,l.map wFault,false⟩):=rfl
  have e2:=fault_w (r:=⟨L,l.map wFault,false⟩) h1 h2 h3
  rw[Rd.faults,e1]
  simp only
  rw[if_pos ⟨by simp,trivial⟩,e2]
  simp only
  by_cases c:f.k<=2
  ·rw[if_pos c,ih]
   simp[c]
  ·rw[if_neg c,ih]
   simp[c]
theorem filter_all {l:List Flaw} {p:Flaw->Bool} (h:∀f∈l,p f=true):l.filter p=l:=List.filter_eq_self.2 h
theorem filter_no {l:List Flaw} {p:Flaw->Bool} (h:∀f∈l,p f=false):l.filter p=[]:=List.filter_eq_nil_iff.2 fun a ha=>by rw[h a ha];decide
theorem parse_of {x:Acx} {s:Bs} {ws:List Bs} (h:lineS x=some s) (hs:s=join ws [32]) (h0:ws≠[]) (hn:∀w∈ws,32∉w) (ha:Rd.act ⟨s,ws,false⟩=(x,⟨s,[],false⟩)):parseS s=some x:=by
 have e:rd0 s=⟨s,ws,false⟩:=by
  unfold rd0
  rw[hs,splitL_join 32 h0 hn]
 unfold parseS
 rw[e,ha]
 exact if_pos ⟨rfl,rfl,h⟩
theorem sp:digit 32=false:=by decide
theorem line_1 {x:Acx} (hk:x.k=1) (ho:x=only x) {s:Bs} (h:lineS x=some s) (hf:(wAct ([],false) x).2=false) (hs:s=join (wAct ([],false) x).1 [32]):parseS s=some x:=by
 have hw:wAct ([],false) x=wFaults 3 6 x.gl (wFaults 1 2 x.mv (if x.lost then wWord (wWord ([],false) sTick) sLost else wWord ([],false) sTick)):=by unfold wAct;rw[if_pos hk]
 rw[hw] at hf hs
 obtain⟨g1,g2,g3⟩:=wFaults_ok hf
 obtain⟨m1,m2,m3⟩:=wFaults_ok g2
 rw[g3,m3] at hs
 have hall:∀f∈x.mv++x.gl,(1<=f.k/\f.k<=6)/\numB f.n=true/\numB f.w=true:=by
  intro f hf
  rcases List.mem_append.1 hf with hf|hf
  ·obtain⟨a,b,c,d⟩:=flawB_of (m1 f hf);exact⟨⟨by omega,by omega⟩,c,d⟩
  ·obtain⟨a,b,c,d⟩:=flawB_of (g1 f hf);exact⟨⟨by omega,by omega⟩,c,d⟩
 have f1:(x.mv++x.gl).filter (fun f=>decide (f.k<=2))=x.mv:=by
  rw[List.filter_append,filter_all fun f hf=>decide_eq_true (flawB_of (m1 f hf)).2.1,filter_no fun f hf=>decide_eq_false (by have:=(flawB_of (g1 f hf)).1;omega),List.append_nil]
 have f2:(x.mv++x.gl).filter (fun f=>!decide (f.k<=2))=x.gl:=by
  rw[List.filter_append,filter_no fun f hf=>by rw[decide_eq_true (flawB_of (m1 f hf)).2.1];rfl,filter_all fun f hf=>by rw[decide_eq_false (by have:=(flawB_of (g1 f hf)).1;omega)];rfl,List.nil_append]
 have hb:=fun L n hn=>faults_back (L:=L) (n:=n) (m:=[]) (g:=[]) hn hall
 have hx:x={A0 1 with mv:=x.mv,gl:=x.gl,lost:=x.lost}:=by
  conv=>lhs;rw[ho]
  unfold only
  rw[if_pos hk,hk]
 have hno:∀w∈(x.mv++x.gl).map wFault,32∉w:=fun w hw=>by
  obtain⟨f,_,rfl⟩:=List.mem_map.1 hw
  exact wFault_no f
 cases hl:x.lost with
 |true=>
  rw[hl] at hs
  have hs:s=join (sTick::sLost::(x.mv++x.gl).map wFault) [32]:=by rw[hs,List.map_append];simp[wWord,sTick,sLost]
  refine parse_of h hs (by simp) (fun w hw=>?_) ?_
  ·rcases List.mem_cons.1 hw with rfl|hw
   ·decide
   ·rcases List.mem_cons.1 hw with rfl|hw
    ·decide
    ·exact hno w hw
  ·show Rd.tick ⟨s,sLost::(x.mv++x.gl).map wFault,false⟩=_
   have ht:Rd.tick ⟨s,sLost::(x.mv++x.gl).map wFault,false⟩=({A0 1 with lost:=true,mv:=(Rd.faults (sLost::(x.mv++x.gl).map wFault).length (Rd.next ⟨s,sLost::(x.mv++x.gl).map wFault,false⟩).2 [] []).1,gl:=(Rd.faults (sLost::(x.mv++x.gl).map wFault).length (Rd.next ⟨s,sLost::(x.mv++x.gl).map wFault,false⟩).2 [] []).2.1},(Rd.faults (sLost::(x.mv++x.gl).map wFault).length (Rd.next ⟨s,sLost::(x.mv++x.gl).map wFault,false⟩).2 [] []).2.2):=if_pos rfl
   rw[ht]
   have e1:(Rd.next ⟨s,sLost::(x.mv++x.gl).map wFault,false⟩).2=⟨s,(x.mv++x.gl).map wFault,false⟩:=rfl
   rw[e1,hb s _ (by simp),f1,f2]
   conv=>rhs;rw[hx,hl]
   rfl
 |false=>
  rw[hl] at hs
  have hs:s=join (sTick::(x.mv++x.gl).map wFault) [32]:=by rw[hs,List.map_append];simp[wWord,sTick]
  refine parse_of h hs (by simp) (fun w hw=>?_) ?_
  ·rcases List.mem_cons.1 hw with rfl|hw
   ·decide
   ·exact hno w hw
  ·show Rd.tick ⟨s,(x.mv++x.gl).map wFault,false⟩=_
   unfold Rd.tick
   have hne:¬((x.mv++x.gl).map wFault).head?=some sLost:=by
    cases x.mv++x.gl with
    |nil=>simp
    |cons f l=>simp[wFault_lost]
   rw[if_neg hne,hb s _ (by simp),f1,f2]
   conv=>rhs;rw[hx,hl]
   rfl
theorem line_2 {x:Acx} (hk:x.k=2) (ho:x=only x) {s:Bs} (h:lineS x=some s) (hf:(wAct ([],false) x).2=false) (hs:s=join (wAct ([],false) x).1 [32]):parseS s=some x:=by
 have hw:wAct ([],false) x=wNums (wWord (wWord ([],false) sInduct) x.plt.fmt) [x.node]:=by
  unfold wAct
  rw[if_neg (by omega),if_pos hk]
 rw[hw] at hf hs
 obtain⟨a1,b1,c1⟩:=wNum_ok hf
 obtain⟨a2,b2,c2⟩:=wWord_ok a1
 rw[c1,c2] at hs
 have hs:s=join [sInduct,x.plt.fmt,decW x.node] [32]:=hs
 have hx:x={A0 2 with plt:=x.plt,node:=x.node}:=by
  conv=>lhs;rw[ho]
  unfold only
  rw[if_neg (by omega),if_pos (by omega),hk]
 refine parse_of h hs (by simp) (fun w hw=>?_) ?_
 ·simp only[List.mem_cons,List.not_mem_nil,or_false] at hw
  rcases hw with rfl|rfl|rfl
  ·decide
  ·exact plt_no _ sp
  ·exact decW_no _ sp
 ·show Rd.act3 2 ⟨s,[x.plt.fmt,decW x.node],false⟩=_
  unfold Rd.act3
  simp only[plate_w (plt_ne b2),number_w b1]
  conv=>rhs;rw[hx]
  try rfl
theorem line_4 {x:Acx} (hk:x.k=4) (ho:x=only x) {s:Bs} (h:lineS x=some s) (hf:(wAct ([],false) x).2=false) (hs:s=join (wAct ([],false) x).1 [32]):parseS s=some x:=by
 have hw:wAct ([],false) x=wWord (wNums (wWord ([],false) sVerdict) [x.img]) (if x.clr then sClear else sAlarm):=by
  unfold wAct
  rw[if_neg (by omega),if_neg (by omega),if_neg (by omega),if_pos hk]
 rw[hw] at hf hs
 obtain⟨a1,b1,c1⟩:=wWord_ok hf
 obtain⟨a2,b2,c2⟩:=wNum_ok a1
 rw[c1,c2] at hs
 have hs:s=join [sVerdict,decW x.img,(if x.clr then sClear else sAlarm)] [32]:=hs
 have hx:x={A0 4 with img:=x.img,clr:=x.clr}:=by
  conv=>lhs;rw[ho]
  unfold only
  rw[if_neg (by omega),if_neg (by omega),if_neg (by omega),if_pos (by omega),hk]
 refine parse_of h hs (by simp) (fun w hw=>?_) ?_
 ·simp only[List.mem_cons,List.not_mem_nil,or_false] at hw
  rcases hw with rfl|rfl|rfl
  ·decide
  ·exact decW_no _ sp
  ·split<;>decide
 ·show Rd.verdict ⟨s,[decW x.img,(if x.clr then sClear else sAlarm)],false⟩=_
  unfold Rd.verdict
  simp only[number_w b2]
  conv=>rhs;rw[hx]
  cases x.clr<;>rfl
theorem line_6 {x:Acx} (hk:x.k=6) (ho:x=only x) {s:Bs} (h:lineS x=some s) (hf:(wAct ([],false) x).2=false) (hs:s=join (wAct ([],false) x).1 [32]):parseS s=some x:=by
 have hw:wAct ([],false) x=wNums (wWord ([],false) sBreak) [x.node]:=by
  unfold wAct
  rw[if_neg (by omega),if_neg (by omega),if_neg (by omega),if_neg (by omega),if_neg (by omega),if_pos hk]
 rw[hw] at hf hs
 obtain⟨a1,b1,c1⟩:=wNum_ok hf
 rw[c1] at hs
 have hs:s=join [sBreak,decW x.node] [32]:=hs
 have hx:x={A0 6 with node:=x.node}:=by
  conv=>lhs;rw[ho]
  unfold only
  rw[if_neg (by omega),if_neg (by omega),if_neg (by omega),if_neg (by omega),if_neg (by omega),if_pos (by omega),hk]
 refine parse_of h hs (by simp) (fun w hw=>?_) ?_
 ·simp only[List.mem_cons,List.not_mem_nil,or_false] at hw
  rcases hw with rfl|rfl
  ·decide
  ·exact decW_no _ sp
 ·show Rd.act1 6 ⟨s,[decW x.node],false⟩=_
  unfold Rd.act1
  simp only[number_w b1]
  conv=>rhs;rw[hx]
  try rfl
theorem line_7 {x:Acx} (hk:x.k=7) (ho:x=only x) {s:Bs} (h:lineS x=some s) (hf:(wAct ([],false) x).2=false) (hs:s=join (wAct ([],false) x).1 [32]):parseS s=some x:=by
 have hw:wAct ([],false) x=wNums (wWord ([],false) sRepair) [x.node]:=by
  unfold wAct
  rw[if_neg (by omega),if_neg (by omega),if_neg (by omega),if_neg (by omega),if_neg (by omega),if_neg (by omega),if_pos hk]
 rw[hw] at hf hs
 obtain⟨a1,b1,c1⟩:=wNum_ok hf
 rw[c1] at hs
 have hs:s=join [sRepair,decW x.node] [32]:=hs
 have hx:x={A0 7 with node:=x.node}:=by
  conv=>lhs;rw[ho]
  unfold only
  rw[if_neg (by omega),if_neg (by omega),if_neg (by omega),if_neg (by omega),if_neg (by omega),if_pos (by omega),hk]
 refine parse_of h hs (by simp) (fun w hw=>?_) ?_
 ·simp only[List.mem_cons,List.not_mem_nil,or_false] at hw
  rcases hw with rfl|rfl
  ·decide
  ·exact decW_no _ sp
 ·show Rd.act1 7 ⟨s,[decW x.node],false⟩=_
  unfold Rd.act1
  simp only[number_w b1]
  conv=>rhs;rw[hx]
  try rfl
theorem line_8 {x:Acx} (hk:x.k=8) (ho:x=only x) {s:Bs} (h:lineS x=some s) (hf:(wAct ([],false) x).2=false) (hs:s=join (wAct ([],false) x).1 [32]):parseS s=some x:=by
 have hw:wAct ([],false) x=wNums (wWord (wNums (wWord ([],false) sLoad) [x.dev]) x.plt.fmt) [x.node,x.con]:=by
  unfold wAct
  rw[if_neg (by omega),if_neg (by omega),if_neg (by omega),if_neg (by omega),if_neg (by omega),if_neg (by omega),if_neg (by omega),if_pos hk]
 rw[hw] at hf hs
 obtain⟨a1,b1,d1,c1⟩:=wNum2_ok hf
 obtain⟨a2,b2,c2⟩:=wWord_ok a1
 obtain⟨a3,b3,c3⟩:=wNum_ok a2
 rw[c1,c2,c3] at hs
 have hs:s=join [sLoad,decW x.dev,x.plt.fmt,decW x.node,decW x.con] [32]:=hs
 have hx:x={A0 8 with dev:=x.dev,plt:=x.plt,node:=x.node,con:=x.con}:=by
  conv=>lhs;rw[ho]
  unfold only
  rw[if_neg (by omega),if_neg (by omega),if_neg (by omega),if_neg (by omega),if_neg (by omega),if_neg (by omega),if_pos (by omega),hk]
 refine parse_of h hs (by simp) (fun w hw=>?_) ?_
 ·simp only[List.mem_cons,List.not_mem_nil,or_false] at hw
  rcases hw with rfl|rfl|rfl|rfl|rfl
  ·decide
  ·exact decW_no _ sp
  ·exact plt_no _ sp
  ·exact decW_no _ sp
  ·exact decW_no _ sp
 ·show Rd.load ⟨s,[decW x.dev,x.plt.fmt,decW x.node,decW x.con],false⟩=_
  unfold Rd.load
  simp only[number_w b3,plate_w (plt_ne b2),number_w b1,number_w d1]
  conv=>rhs;rw[hx]
  try rfl
theorem line_9 {x:Acx} (hk:x.k=9) (ho:x=only x) {s:Bs} (h:lineS x=some s) (hf:(wAct ([],false) x).2=false) (hs:s=join (wAct ([],false) x).1 [32]):parseS s=some x:=by
 have hw:wAct ([],false) x=wNums (wWord (wNums (wWord ([],false) sUnload) [x.dev]) x.plt.fmt) [x.con]:=by
  unfold wAct
  rw[if_neg (by omega),if_neg (by omega),if_neg (by omega),if_neg (by omega),if_neg (by omega),if_neg (by omega),if_neg (by omega),if_neg (by omega),if_pos hk]
 rw[hw] at hf hs
 obtain⟨a1,b1,c1⟩:=wNum_ok hf
 obtain⟨a2,b2,c2⟩:=wWord_ok a1
 obtain⟨a3,b3,c3⟩:=wNum_ok a2
 rw[c1,c2,c3] at hs
 have hs:s=join [sUnload,decW x.dev,x.plt.fmt,decW x.con] [32]:=hs
 have hx:x={A0 9 with dev:=x.dev,plt:=x.plt,con:=x.con}:=by
  conv=>lhs;rw[ho]
  unfold only
  rw[if_neg (by omega),if_neg (by omega),if_neg (by omega),if_neg (by omega),if_neg (by omega),if_neg (by omega),if_neg (by omega),if_pos (by omega),hk]
 refine parse_of h hs (by simp) (fun w hw=>?_) ?_
 ·simp only[List.mem_cons,List.not_mem_nil,or_false] at hw
  rcases hw with rfl|rfl|rfl|rfl
  ·decide
  ·exact decW_no _ sp
  ·exact plt_no _ sp
  ·exact decW_no _ sp
 ·show Rd.unload ⟨s,[decW x.dev,x.plt.fmt,decW x.con],false⟩=_
  unfold Rd.unload
  simp only[number_w b3,plate_w (plt_ne b2),number_w b1]
  conv=>rhs;rw[hx]
  try rfl
theorem line_10 {x:Acx} (hk:x.k=10) (ho:x=only x) {s:Bs} (h:lineS x=some s) (hf:(wAct ([],false) x).2=false) (hs:s=join (wAct ([],false) x).1 [32]):parseS s=some x:=by
 have hw:wAct ([],false) x=wNums (wWord (wWord ([],false) sPick) x.plt.fmt) [x.node]:=by
  unfold wAct
  rw[if_neg (by omega),if_neg (by omega),if_neg (by omega),if_neg (by omega),if_neg (by omega),if_neg (by omega),if_neg (by omega),if_neg (by omega),if_neg (by omega),if_pos hk]
 rw[hw] at hf hs
 obtain⟨a1,b1,c1⟩:=wNum_ok hf
 obtain⟨a2,b2,c2⟩:=wWord_ok a1
 rw[c1,c2] at hs
 have hs:s=join [sPick,x.plt.fmt,decW x.node] [32]:=hs
 have hx:x={A0 10 with plt:=x.plt,node:=x.node}:=by
  conv=>lhs;rw[ho]
  unfold only
  rw[if_neg (by omega),if_pos (by omega),hk]
 refine parse_of h hs (by simp) (fun w hw=>?_) ?_
 ·simp only[List.mem_cons,List.not_mem_nil,or_false] at hw
  rcases hw with rfl|rfl|rfl
  ·decide
  ·exact plt_no _ sp
  ·exact decW_no _ sp
 ·show Rd.act3 10 ⟨s,[x.plt.fmt,decW x.node],false⟩=_
  unfold Rd.act3
  simp only[plate_w (plt_ne b2),number_w b1]
  conv=>rhs;rw[hx]
  try rfl
theorem line_11 {x:Acx} (hk:x.k=11) (ho:x=only x) {s:Bs} (h:lineS x=some s) (hf:(wAct ([],false) x).2=false) (hs:s=join (wAct ([],false) x).1 [32]):parseS s=some x:=by
 have hw:wAct ([],false) x=wNums (wWord ([],false) sOffline) [x.dev]:=by
  unfold wAct
  rw[if_neg (by omega),if_neg (by omega),if_neg (by omega),if_neg (by omega),if_neg (by omega),if_neg (by omega),if_neg (by omega),if_neg (by omega),if_neg (by omega),if_neg (by omega),if_pos hk]
 rw[hw] at hf hs
 obtain⟨a1,b1,c1⟩:=wNum_ok hf
 rw[c1] at hs
 have hs:s=join [sOffline,decW x.dev] [32]:=hs
 have hx:x={A0 11 with dev:=x.dev}:=by
  conv=>lhs;rw[ho]
  unfold only
  rw[if_neg (by omega),if_neg (by omega),if_neg (by omega),if_neg (by omega),if_neg (by omega),if_neg (by omega),if_neg (by omega),if_neg (by omega),if_pos (by omega),hk]
 refine parse_of h hs (by simp) (fun w hw=>?_) ?_
 ·simp only[List.mem_cons,List.not_mem_nil,or_false] at hw
  rcases hw with rfl|rfl
  ·decide
  ·exact decW_no _ sp
 ·show Rd.act2 11 ⟨s,[decW x.dev],false⟩=_
  unfold Rd.act2
  simp only[number_w b1]
  conv=>rhs;rw[hx]
  try rfl
theorem line_12 {x:Acx} (hk:x.k=12) (ho:x=only x) {s:Bs} (h:lineS x=some s) (hf:(wAct ([],false) x).2=false) (hs:s=join (wAct ([],false) x).1 [32]):parseS s=some x:=by
 have hw:wAct ([],false) x=wNums (wWord ([],false) sOnline) [x.dev]:=by
  unfold wAct
  rw[if_neg (by omega),if_neg (by omega),if_neg (by omega),if_neg (by omega),if_neg (by omega),if_neg (by omega),if_neg (by omega),if_neg (by omega),if_neg (by omega),if_neg (by omega),if_neg (by omega),if_pos hk]
 rw[hw] at hf hs
 obtain⟨a1,b1,c1⟩:=wNum_ok hf
 rw[c1] at hs
 have hs:s=join [sOnline,decW x.dev] [32]:=hs
 have hx:x={A0 12 with dev:=x.dev}:=by
  conv=>lhs;rw[ho]
  unfold only
  rw[if_neg (by omega),if_neg (by omega),if_neg (by omega),if_neg (by omega),if_neg (by omega),if_neg (by omega),if_neg (by omega),if_neg (by omega),if_pos (by omega),hk]
 refine parse_of h hs (by simp) (fun w hw=>?_) ?_
 ·simp only[List.mem_cons,List.not_mem_nil,or_false] at hw
  rcases hw with rfl|rfl
  ·decide
  ·exact decW_no _ sp
 ·show Rd.act2 12 ⟨s,[decW x.dev],false⟩=_
  unfold Rd.act2
  simp only[number_w b1]
  conv=>rhs;rw[hx]
  try rfl
theorem line_13 {x:Acx} (hk:x.k=13) (ho:x=only x) {s:Bs} (h:lineS x=some s) (hf:(wAct ([],false) x).2=false) (hs:s=join (wAct ([],false) x).1 [32]):parseS s=some x:=by
 have hw:wAct ([],false) x=wWord (wWord ([],false) sDepart) x.flt.fmt:=by
  unfold wAct
  rw[if_neg (by omega),if_neg (by omega),if_neg (by omega),if_neg (by omega),if_neg (by omega),if_neg (by omega),if_neg (by omega),if_neg (by omega),if_neg (by omega),if_neg (by omega),if_neg (by omega),if_neg (by omega),if_pos hk]
 rw[hw] at hf hs
 obtain⟨a1,b1,c1⟩:=wWord_ok hf
 rw[c1] at hs
 have hs:s=join [sDepart,x.flt.fmt] [32]:=hs
 have hx:x={A0 13 with flt:=x.flt}:=by
  conv=>lhs;rw[ho]
  unfold only
  rw[if_neg (by omega),if_neg (by omega),if_neg (by omega),if_neg (by omega),if_neg (by omega),if_neg (by omega),if_neg (by omega),if_neg (by omega),if_neg (by omega),if_pos (by omega),hk]
 refine parse_of h hs (by simp) (fun w hw=>?_) ?_
 ·simp only[List.mem_cons,List.not_mem_nil,or_false] at hw
  rcases hw with rfl|rfl
  ·decide
  ·exact flt_no _ sp (by decide) (by decide)
 ·show Rd.depart ⟨s,[x.flt.fmt],false⟩=_
  unfold Rd.depart
  simp only[flight_w (flt_ne b1)]
  conv=>rhs;rw[hx]
  try rfl
theorem line_14 {x:Acx} (hk:x.k=14) (ho:x=only x) {s:Bs} (h:lineS x=some s) (hf:(wAct ([],false) x).2=false) (hs:s=join (wAct ([],false) x).1 [32]):parseS s=some x:=by
 have hw:wAct ([],false) x=wWord ([],false) sCrash:=by
  unfold wAct
  rw[if_neg (by omega),if_neg (by omega),if_neg (by omega),if_neg (by omega),if_neg (by omega),if_neg (by omega),if_neg (by omega),if_neg (by omega),if_neg (by omega),if_neg (by omega),if_neg (by omega),if_neg (by omega),if_neg (by omega)]
 rw[hw] at hf hs
 have hs:s=join [sCrash] [32]:=hs
 have hx:x=A0 14:=by
  conv=>lhs;rw[ho]
  unfold only
  rw[if_neg (by omega),if_neg (by omega),if_neg (by omega),if_neg (by omega),if_neg (by omega),if_neg (by omega),if_neg (by omega),if_neg (by omega),if_neg (by omega),if_neg (by omega),hk]
 refine parse_of h hs (by simp) (fun w hw=>?_) ?_
 ·simp only[List.mem_cons,List.not_mem_nil,or_false] at hw
  subst hw
  decide
 ·show Rd.crash ⟨s,[],false⟩=_
  unfold Rd.crash
  rw[hx]
theorem line_3 {x:Acx} (hk:x.k=3) (ho:x=only x) {s:Bs} (h:lineS x=some s) (hf:(wAct ([],false) x).2=false) (hs:s=join (wAct ([],false) x).1 [32]):parseS s=some x:=by
 have hw:wAct ([],false) x=wMsg (wWord ([],false) sMessage) x.txt:=by
  unfold wAct
  rw[if_neg (by omega),if_neg (by omega),if_pos hk]
 rw[hw] at hf hs
 have hx:x=msgA x.txt:=by
  conv=>lhs;rw[ho]
  unfold only
  rw[if_neg (by omega),if_neg (by omega),if_pos (by omega),hk]
  rfl
 have ht:txtB x.txt=true:=by
  have h1:((wWord ([],false) sMessage).2||!txtB x.txt)=false:=hf
  simp only[Bool.or_eq_false_iff,Bool.not_eq_false'] at h1
  exact h1.2
 have hb:(124:UInt8)∉x.txt:=fun hm=>by
  unfold txtB at ht
  rw[List.all_eq_true] at ht
  have h1:=of_decide_eq_true (ht 124 hm)
  have h2:(124:UInt8).toNat=124:=rfl
  omega
 have hl:=line_msg ht
 rw[<-hx,h] at hl
 have hs':=Option.some.inj hl
 rw[hs',parse_msg ht hb,<-hx]
theorem rev_no (k:Int):32∉revN k:=by
 unfold revN
 repeat' split
 all_goals decide
theorem line_5 {x:Acx} (hk:x.k=5) (ho:x=only x) {s:Bs} (h:lineS x=some s) (hf:(wAct ([],false) x).2=false) (hs:s=join (wAct ([],false) x).1 [32]):parseS s=some x:=by
 have hw:wAct ([],false) x=wRev ([],false) x.rev:=by
  unfold wAct
  rw[if_neg (by omega),if_neg (by omega),if_neg (by omega),if_neg (by omega),if_pos hk]
 rw[hw] at hf hs
 have hx:x={A0 5 with rev:=x.rev}:=by
  conv=>lhs;rw[ho]
  unfold only
  rw[if_neg (by omega),if_neg (by omega),if_neg (by omega),if_neg (by omega),if_pos hk,hk]
 generalize x.rev=r at*
 obtain⟨rk,am,fl⟩:=r
 unfold wRev at hf hs
 by_cases c0:1<=rk/\rk<=5
 ·rw[if_pos c0] at hf hs
  by_cases c4:4<=rk
  ·rw[if_pos c4] at hf hs
   simp only[Bool.or_eq_false_iff,Bool.not_eq_false',decide_eq_true_eq] at hf
   obtain⟨hf,ham⟩:=hf
   obtain⟨a1,b1,c1⟩:=wWord_ok hf
   obtain⟨a2,b2,c2⟩:=wWord_ok a1
   rw[c1,c2] at hs
   have hs:s=join [revN rk,fl.fmt] [32]:=hs
   refine parse_of h hs (by simp) (fun w hw=>?_) ?_
   ·simp only[List.mem_cons,List.not_mem_nil,or_false] at hw
    rcases hw with rfl|rfl
    ·exact rev_no _
    ·exact flt_no _ sp (by decide) (by decide)
   ·have hr:rk=4\/rk=5:=by omega
    subst ham
    rcases hr with rfl|rfl
    ·show Rd.revise 4 ⟨s,[fl.fmt],false⟩=_
     unfold Rd.revise
     simp only[flight_w (flt_ne b1)]
     rw[if_neg (by decide),hx]
    ·show Rd.revise 5 ⟨s,[fl.fmt],false⟩=_
     unfold Rd.revise
     simp only[flight_w (flt_ne b1)]
     rw[if_neg (by decide),hx]
  ·rw[if_neg c4] at hf hs
   obtain⟨a0,b0,d0⟩:=wNum_ok hf
   obtain⟨a1,b1,c1⟩:=wWord_ok a0
   obtain⟨a2,b2,c2⟩:=wWord_ok a1
   rw[d0,c1,c2] at hs
   have hs:s=join [revN rk,fl.fmt,decW am] [32]:=hs
   refine parse_of h hs (by simp) (fun w hw=>?_) ?_
   ·simp only[List.mem_cons,List.not_mem_nil,or_false] at hw
    rcases hw with rfl|rfl|rfl
    ·exact rev_no _
    ·exact flt_no _ sp (by decide) (by decide)
    ·exact decW_no _ sp
   ·have hr:rk=1\/rk=2\/rk=3:=by omega
    rcases hr with rfl|rfl|rfl
    ·show Rd.revise 1 ⟨s,[fl.fmt,decW am],false⟩=_
     unfold Rd.revise
     simp only[flight_w (flt_ne b1),number_w b0]
     rw[if_pos (by decide),hx]
    ·show Rd.revise 2 ⟨s,[fl.fmt,decW am],false⟩=_
     unfold Rd.revise
     simp only[flight_w (flt_ne b1),number_w b0]
     rw[if_pos (by decide),hx]
    ·show Rd.revise 3 ⟨s,[fl.fmt,decW am],false⟩=_
     unfold Rd.revise
     simp only[flight_w (flt_ne b1),number_w b0]
     rw[if_pos (by decide),hx]
 ·rw[if_neg c0] at hf
  cases hf
theorem line_parse {x:Acx} {s:Bs} (h:lineS x=some s):parseS s=some x:=by
 have h':=h
 unfold lineS at h'
 split at h'
 ·rename_i hc
  obtain⟨k1,k2,ho,hf⟩:=hc
  have hs:s=join (wAct ([],false) x).1 [32]:=(Option.some.inj h').symm
  clear h'
  have hk:x.k=1\/x.k=2\/x.k=3\/x.k=4\/x.k=5\/x.k=6\/x.k=7\/x.k=8\/x.k=9\/x.k=10\/x.k=11\/x.k=12\/x.k=13\/x.k=14:=by omega
  rcases hk with hk|hk|hk|hk|hk|hk|hk|hk|hk|hk|hk|hk|hk|hk
  ·exact line_1 hk ho h hf hs
  ·exact line_2 hk ho h hf hs
  ·exact line_3 hk ho h hf hs
  ·exact line_4 hk ho h hf hs
  ·exact line_5 hk ho h hf hs
  ·exact line_6 hk ho h hf hs
  ·exact line_7 hk ho h hf hs
  ·exact line_8 hk ho h hf hs
  ·exact line_9 hk ho h hf hs
  ·exact line_10 hk ho h hf hs
  ·exact line_11 hk ho h hf hs
  ·exact line_12 hk ho h hf hs
  ·exact line_13 hk ho h hf hs
  ·exact line_14 hk ho h hf hs
 ·cases h'
theorem parse_line {x:Acx} {s:Bs} (h:parseS s=some x):lineS x=some s:=by
 unfold parseS at h
 split at h
 ·rename_i hc
  injection h with h
  rw[<-h];exact hc.2.2
 ·cases h
end Go.Scr
namespace Go.Proofs.YtokkbonoplbiaaaGreatDoor
open Go Go.Sym Go.Scr Go.Lib
def Nc (c:UInt8) (w:Wr):Prop:=∀s∈w.1,c∉s
theorem Nc.word {c:UInt8} {w:Wr} (h:Nc c w) {s:Bs} (hs:c∉s):Nc c (wWord w s):=by
 intro x hx
 rcases List.mem_append.1 hx with hx|hx
 ·exact h x hx
 ·rw[List.mem_singleton.1 hx];exact hs
theorem Nc.nums {c:UInt8} (hc:digit c=false):∀{l:List Int} {w:Wr},Nc c w->Nc c (wNums w l)
 |[],_,h=>h
 |n::l,_,h=>Nc.nums hc (l:=l) (h.word (decW_no n hc))
theorem Nc.faults {c:UInt8} (hc:∀f,c∉wFault f) {lo hi:Int}:∀{l:List Flaw} {w:Wr},Nc c w->Nc c (wFaults lo hi l w)
 |[],_,h=>h
 |f::r,w,h=>by
  rw[wFaults]
  split
  ·exact Nc.faults hc (h.word (hc f))
  ·exact h
theorem Nc.rev {c:UInt8} (hc:digit c=false) (hl:letter c=false) (h47:c≠47) (hr:∀k,c∉revN k) {w:Wr} (h:Nc c w) (r:Rev):Nc c (wRev w r):=by
 have a:Nc c (wWord (wWord w (revN r.k)) r.flt.fmt):=(h.word (hr _)).word (flt_no _ hc hl h47)
 unfold wRev
 split
 ·split
  ·exact a
  ·exact a.nums hc
 ·exact h
theorem faultN_no10 (k:Int):(10:UInt8)∉faultN k:=by
 unfold faultN
 repeat' split
 all_goals decide
theorem revN_no10 (k:Int):(10:UInt8)∉revN k:=by
 unfold revN
 repeat' split
 all_goals decide
theorem wFault_no10 (f:Flaw):(10:UInt8)∉wFault f:=by
 unfold wFault
 intro h
 simp only[List.mem_append,List.mem_singleton] at h
 rcases h with (((h|h)|h)|h)|h
 ·exact faultN_no10 _ h
 ·exact absurd h (by decide)
 ·exact decW_no _ (by decide) h
 ·exact absurd h (by decide)
 ·exact decW_no _ (by decide) h
theorem Nc.act {c:UInt8} (h:c=10\/c=32) {w:Wr} (hw:Nc c w) (x:Acx) (ht:c∉swapB 10 124 x.txt):Nc c (wAct w x):=by
 have hc:digit c=false:=by rcases h with rfl|rfl<;>decide
 have hl:letter c=false:=by rcases h with rfl|rfl<;>decide
 have h47:c≠47:=by rcases h with rfl|rfl<;>decide
 have hr:∀k,c∉revN k:=fun k=>by
  rcases h with rfl|rfl
  ·exact revN_no10 k
  ·exact rev_no k
 have hf:∀f,c∉wFault f:=fun f=>by
  rcases h with rfl|rfl
  ·exact wFault_no10 f
  ·exact wFault_no f
 refine wAct_by (p:=Nc c) ?_ ?_ ?_ ?_ ?_ ?_ ?_ ?_ ?_ ?_ ?_ ?_ ?_ ?_
 ·refine Nc.faults hf (Nc.faults hf ?_)
  split
  ·exact(hw.word (by rcases h with rfl|rfl<;>decide)).word (by rcases h with rfl|rfl<;>decide)
  ·exact hw.word (by rcases h with rfl|rfl<;>decide)
 ·exact((hw.word (by rcases h with rfl|rfl<;>decide)).word (plt_no _ hc)).nums hc
 ·intro s hs
  rcases List.mem_append.1 hs with hs|hs
  ·exact(hw.word (by rcases h with rfl|rfl<;>decide)) s hs
  ·rw[List.mem_singleton.1 hs];exact ht
 ·refine Nc.word ((hw.word (by rcases h with rfl|rfl<;>decide)).nums hc) ?_
  split
  ·rcases h with rfl|rfl<;>decide
  ·rcases h with rfl|rfl<;>decide
 ·exact hw.rev hc hl h47 hr _
 ·exact(hw.word (by rcases h with rfl|rfl<;>decide)).nums hc
 ·exact(hw.word (by rcases h with rfl|rfl<;>decide)).nums hc
 ·exact(((hw.word (by rcases h with rfl|rfl<;>decide)).nums hc).word (plt_no _ hc)).nums hc
 ·exact(((hw.word (by rcases h with rfl|rfl<;>decide)).nums hc).word (plt_no _ hc)).nums hc
 ·exact((hw.word (by rcases h with rfl|rfl<;>decide)).word (plt_no _ hc)).nums hc
 ·exact(hw.word (by rcases h with rfl|rfl<;>decide)).nums hc
 ·exact(hw.word (by rcases h with rfl|rfl<;>decide)).nums hc
 ·exact(hw.word (by rcases h with rfl|rfl<;>decide)).word (flt_no _ hc hl h47)
 ·exact hw.word (by rcases h with rfl|rfl<;>decide)
theorem join_no {c:UInt8} (hc:c≠32):∀{l:List Bs},(∀s∈l,c∉s)->c∉Lib.join l [32]
 |[],_=>by simp[Lib.join]
 |x::r,h=>by
  have ih:=join_no hc (l:=r) (fun s hs=>h s (List.mem_cons_of_mem _ hs))
  by_cases hr:r=[]
  ·subst hr
   rw[Lib.join_one];exact h x (by simp)
  ·rw[join_cons2 32 x hr]
   intro hm
   rcases List.mem_append.1 hm with hm|hm
   ·exact h x (by simp) hm
   ·rcases List.mem_cons.1 hm with hm|hm
    ·exact hc hm
    ·exact ih hm
theorem line_eq {x:Acx} {s:Bs} (h:lineS x=some s):s=Lib.join (wAct ([],false) x).1 [32]:=by
 unfold lineS at h
 split at h
 ·exact(Option.some.inj h).symm
 ·cases h
theorem swapB_no10 (s:Bs):(10:UInt8)∉swapB 10 124 s:=by
 unfold swapB
 intro h
 obtain⟨y,_,hy⟩:=List.mem_map.1 h
 by_cases c:y=10
 ·rw[if_pos c] at hy;exact absurd hy (by decide)
 ·rw[if_neg c] at hy;exact c hy
theorem line_no10 {x:Acx} {s:Bs} (h:lineS x=some s):(10:UInt8)∉s:=by
 rw[line_eq h]
 exact join_no (by decide) (Nc.act (.inl rfl) (w:=([],false)) (fun s hs=>by cases hs) x (swapB_no10 _))
theorem parse_fmt:∀{l:List Acx} {t:Bs} {n:Nat} {out:List Acx},fmtL l=some t->t.length<=n->out.length+l.length<=500->parseR n out t=(out++l,0,0)
 |[],t,n,out,h,_,_=>by
  cases h
  cases n with
  |zero=>simp[parseR]
  |succ n=>simp[parseR]
 |x::r,t,n,out,h,hn,ho=>by
  rw[fmtL] at h
  cases hl:lineS x with
  |none=>rw[hl] at h;cases h
  |some a=>
   rw[hl] at h
   cases hr:fmtL r with
   |none=>rw[hr] at h;cases h
   |some q=>
    rw[hr] at h
    simp only[Option.map_some,Option.some.injEq] at h
    have ht:t=a++10::q:=by rw[<-h];simp
    have hc:Lib.cut t [10]=(a,q,true):=by rw[ht];exact cut_at (line_no10 hl)
    have hlen:t.length=a.length+q.length+1:=by rw[ht];simp;omega
    simp only[List.length_cons] at ho
    cases n with
    |zero=>omega
    |succ n=>
     rw[parseR,if_neg (by rw[ht];simp),if_neg (by omega),hc,line_parse hl]
     simp only
     rw[if_pos trivial,parse_fmt hr (by omega) (by simp;omega)]
     simp
theorem acts_back {l:List Acx} {t:Bs} (h:fmtL l=some t) (hl:l.length<=500) (ht:t.length<=65536):formatS l=(t,0)/\parseTS t=(l,0,0):=by
 constructor
 ·unfold formatS
  rw[if_neg (by omega),h]
  simp only
  rw[if_neg (by omega)]
 ·unfold parseTS
  rw[if_neg (by omega),parse_fmt h (Nat.le_refl _) (by simpa using hl)]
  rfl
structure SmG (x:Acx):Prop where
 mv:x.mv.length<=1
 gl:x.gl.length<=1
 tx:x.txt.length<=200
 sp:(32:UInt8)∉x.txt
 ln:lineS x≠none
theorem line_small {x:Acx} (h:SmG x) {s:Bs} (hl:lineS x=some s):s.length<=2010/\s.count 32<=9:=by
 rw[line_eq hl]
 have h1:=wAct_len ([],false) x
 have h2:=h.mv
 have h3:=h.gl
 have h4:=Bd.act (m:=200) (by decide) (w:=([],false)) (fun s hs=>by cases hs) x h.tx
 have h5:=join_len h4
 have h6:(wAct ([],false) x).1.length<=10:=by simpa using(by simp only[List.length_nil] at h1;omega)
 refine⟨by have:=Nat.mul_le_mul_right 201 h6;omega,?_⟩
 have hno:(32:UInt8)∉swapB 10 124 x.txt:=by
  unfold swapB
  intro hm
  obtain⟨y,h8,hy⟩:=List.mem_map.1 hm
  by_cases c:y=10
  ·rw[if_pos c] at hy;exact absurd hy (by decide)
  ·rw[if_neg c] at hy;rw[hy] at h8;exact h.sp h8
 have h7:=Nc.act (.inr rfl) (w:=([],false)) (fun s hs=>by cases hs) x hno
 by_cases h0:(wAct ([],false) x).1=[]
 ·rw[h0];decide
 ·have h9:=splitL_length 32 (Lib.join (wAct ([],false) x).1 [32])
  rw[splitL_join 32 h0 h7] at h9
  omega
theorem acts_small:∀{l:List Acx},(∀x∈l,SmG x)->∃t,fmtL l=some t/\t.length<=l.length*2011/\t.count 32<=l.length*9
 |[],_=>⟨[],rfl,by simp,by simp⟩
 |x::r,h=>by
  obtain⟨t,h1,h2,h3⟩:=acts_small (l:=r) fun y hy=>h y (List.mem_cons_of_mem _ hy)
  have hx:=h x (by simp)
  cases hl:lineS x with
  |none=>exact absurd hl hx.ln
  |some a=>
   obtain⟨h4,h5⟩:=line_small hx hl
   refine⟨a++[10]++t,by rw[fmtL,hl,h1];rfl,?_,?_⟩
   ·simp only[List.length_append,List.length_cons,List.length_nil];omega
   ·simp only[List.count_append,List.length_cons]
    have:List.count 32 ([10]:Bs)=0:=by decide
    omega
open Go.Scr
theorem rcar_sat (s:Bs) (hs:s.length<=1000000):SatG Tryz.prog tab 112 [] [S (strOf s)] [] (B (carB s)):=by
 by_cases c0:s.length=2
 ·obtain⟨x,y,rfl⟩:∃x y,s=[x,y]:=by
   match s,c0 with
   |[x,y],_=>exact⟨x,y,rfl⟩
  have hc:carB [x,y]=((letter x||digit x)&&(letter y||digit y)&&(letter x||letter y)):=by simp[carB,Bool.and_assoc]
  have a0:=rlet_sat x
  have a1:=rlet_sat y
  have d0:=rdig_sat x
  have d1:=rdig_sat y
  have i0:([x,y]:Bs).getD 0 0=x:=rfl
  have i1:([x,y]:Bs).getD 1 0=y:=rfl
  rw[hc]
  refine uFN Tryz.func112 Tryz.ntmps112 ?_;intro w e X hC
  repeat refine uA ?_
  refine uF ?_
  cases la:letter x with
  |true=>
   rw[la] at a0
   cases lb:letter y with
   |true=>
    rw[lb] at a1
    refine uD1 (uI @i0 @i1) ?_;intro K hK
    refine uH ?_
    refine callF uTS (a0) uTS uTS uTS ?_;refine uS ?_
    try refine uS1 (uI @i0 @i1) ?_
    refine uH ?_
    refine callF uTS (a1) uTS uTS uTS ?_;refine uS ?_
    refine uH ?_
    refine hK _ ?_;clear hK K
    refine uR1 (uI @i0 @i1) ?_;intro K hK
    refine uH ?_
    refine hK _ ?_;clear hK K
    (refine awp_ret (ret1 uRT ?_);try rfl)
   |false=>
    rw[lb] at a1
    cases lc:digit y with
    |true=>
     rw[lc] at d1
     refine uD1 (uI @i0 @i1) ?_;intro K hK
     refine uH ?_
     refine callF uTS (a0) uTS uTS uTS ?_;refine uS ?_
     try refine uS1 (uI @i0 @i1) ?_
     refine uH ?_
     refine callF uTS (a1) uTS uTS uTS ?_;refine uS ?_
     refine uH ?_
     refine hK _ ?_;clear hK K
     refine uR1 (uI @i0 @i1) ?_;intro K hK
     refine uH ?_
     refine callF uTS (d1) uTS uTS uTS ?_;refine uS ?_
     try refine uS1 (uI @i0 @i1) ?_
     refine uH ?_
     refine hK _ ?_;clear hK K
     (refine awp_ret (ret1 uRT ?_);try rfl)
    |false=>
     rw[lc] at d1
     refine uD1 (uI @i0 @i1) ?_;intro K hK
     refine uH ?_
     refine callF uTS (a0) uTS uTS uTS ?_;refine uS ?_
     try refine uS1 (uI @i0 @i1) ?_
     refine uH ?_
     refine callF uTS (a1) uTS uTS uTS ?_;refine uS ?_
     refine uH ?_
     refine hK _ ?_;clear hK K
     refine uR1 (uI @i0 @i1) ?_;intro K hK
     refine uH ?_
     refine callF uTS (d1) uTS uTS uTS ?_;refine uS ?_
     try refine uS1 (uI @i0 @i1) ?_
     refine uH ?_
     refine hK _ ?_;clear hK K
     (refine awp_ret (ret1 uRT ?_);try rfl)
  |false=>
   rw[la] at a0
   cases lb:letter y with
   |true=>
    rw[lb] at a1
    cases ld:digit x with
    |true=>
     rw[ld] at d0
     refine uD1 (uI @i0 @i1) ?_;intro K hK
     refine uH ?_
     refine callF uTS (a0) uTS uTS uTS ?_;refine uS ?_
     try refine uS1 (uI @i0 @i1) ?_
     refine uH ?_
     refine callF uTS (a1) uTS uTS uTS ?_;refine uS ?_
     refine uH ?_
     refine hK _ ?_;clear hK K
     refine uR1 (uI @i0 @i1) ?_;intro K hK
     refine uH ?_
     refine callF uTS (d0) uTS uTS uTS ?_;refine uS ?_
     try refine uS1 (uI @i0 @i1) ?_
     refine uH ?_
     refine hK _ ?_;clear hK K
     (refine awp_ret (ret1 uRT ?_);try rfl)
    |false=>
     rw[ld] at d0
     refine uD1 (uI @i0 @i1) ?_;intro K hK
     refine uH ?_
     refine callF uTS (a0) uTS uTS uTS ?_;refine uS ?_
     try refine uS1 (uI @i0 @i1) ?_
     refine uH ?_
     refine callF uTS (a1) uTS uTS uTS ?_;refine uS ?_
     refine uH ?_
     refine hK _ ?_;clear hK K
     refine uR1 (uI @i0 @i1) ?_;intro K hK
     refine uH ?_
     refine callF uTS (d0) uTS uTS uTS ?_;refine uS ?_
     try refine uS1 (uI @i0 @i1) ?_
     refine uH ?_
     refine hK _ ?_;clear hK K
     (refine awp_ret (ret1 uRT ?_);try rfl)
   |false=>
    rw[lb] at a1
    cases ld:digit x with
    |true=>
     rw[ld] at d0
     cases lc:digit y with
     |true=>
      rw[lc] at d1
      refine uD1 (uI @i0 @i1) ?_;intro K hK
      refine uH ?_
      refine callF uTS (a0) uTS uTS uTS ?_;refine uS ?_
      try refine uS1 (uI @i0 @i1) ?_
      refine uH ?_
      refine callF uTS (a1) uTS uTS uTS ?_;refine uS ?_
      refine uH ?_
      refine hK _ ?_;clear hK K
      refine uR1 (uI @i0 @i1) ?_;intro K hK
      refine uH ?_
      refine callF uTS (d0) uTS uTS uTS ?_;refine uS ?_
      try refine uS1 (uI @i0 @i1) ?_
      refine uH ?_
      refine callF uTS (d1) uTS uTS uTS ?_;refine uS ?_
      try refine uS1 (uI @i0 @i1) ?_
      refine uH ?_
      refine hK _ ?_;clear hK K
      (refine awp_ret (ret1 uRT ?_);try rfl)
     |false=>
      rw[lc] at d1
      refine uD1 (uI @i0 @i1) ?_;intro K hK
      refine uH ?_
      refine callF uTS (a0) uTS uTS uTS ?_;refine uS ?_
      try refine uS1 (uI @i0 @i1) ?_
      refine uH ?_
      refine callF uTS (a1) uTS uTS uTS ?_;refine uS ?_
      refine uH ?_
      refine hK _ ?_;clear hK K
      refine uR1 (uI @i0 @i1) ?_;intro K hK
      refine uH ?_
      refine callF uTS (d0) uTS uTS uTS ?_;refine uS ?_
      try refine uS1 (uI @i0 @i1) ?_
      refine uH ?_
      refine callF uTS (d1) uTS uTS uTS ?_;refine uS ?_
      try refine uS1 (uI @i0 @i1) ?_
      refine uH ?_
      refine hK _ ?_;clear hK K
      (refine awp_ret (ret1 uRT ?_);try rfl)
    |false=>
     rw[ld] at d0
     refine uD1 (uI @i0 @i1) ?_;intro K hK
     refine uH ?_
     refine callF uTS (a0) uTS uTS uTS ?_;refine uS ?_
     try refine uS1 (uI @i0 @i1) ?_
     refine uH ?_
     refine callF uTS (a1) uTS uTS uTS ?_;refine uS ?_
     refine uH ?_
     refine hK _ ?_;clear hK K
     refine uR1 (uI @i0 @i1) ?_;intro K hK
     refine uH ?_
     refine callF uTS (d0) uTS uTS uTS ?_;refine uS ?_
     try refine uS1 (uI @i0 @i1) ?_
     refine uH ?_
     refine hK _ ?_;clear hK K
     (refine awp_ret (ret1 uRT ?_);try rfl)
 ·have hc:carB s=false:=by
   unfold carB
   rw[decide_eq_false (show ¬s.length=2 by omega)];rfl
  rw[hc]
  have e0:(decide ¬((s.length:Nat):Int)=2)=true:=decide_eq_true (by omega)
  refine uFN Tryz.func112 Tryz.ntmps112 ?_;intro w e X hC
  repeat refine uA1 @e0 ?_
  refine uT ?_
  repeat refine uA ?_
  (refine awp_ret (ret1 uRT ?_);try rfl)
theorem rsuf_sat (s:Bs) (hs:s.length<=1000000):SatG Tryz.prog tab 113 [] [S (strOf s)] [] (B (sufB s)):=by
 match s,hs with
 |[],_=>
  have e0:decide (strOf []=strOf [])=true:=decide_eq_true rfl
  refine uFN Tryz.func113 Tryz.ntmps113 ?_;intro w e X hC
  repeat refine uA ?_
  (refine awp_ret (ret1 uRT ?_);try rfl)
 |[x],_=>
  have hc:sufB [x]=letter x:=by simp[sufB]
  have a0:=rlet_sat x
  have i0:([x]:Bs).getD 0 0=x:=rfl
  rw[hc]
  refine uFN Tryz.func113 Tryz.ntmps113 ?_;intro w e X hC
  have e1:decide (((1:Nat):Int)=1)=true:=rfl
  refine uA ?_
  refine uR1 (uI @i0 @e1) ?_;intro K hK
  refine uH ?_
  refine callF uTS (a0) uTS uTS uTS ?_;refine uS ?_
  refine uH ?_
  refine hK _ ?_;clear hK K
  (refine awp_ret (ret1 uRT ?_);try rfl)
 |x::y::r,hs=>
  have hc:sufB (x::y::r)=false:=by
   unfold sufB
   rw[decide_eq_false (by simp)];rfl
  rw[hc]
  refine uFN Tryz.func113 Tryz.ntmps113 ?_;intro w e X hC
  have e2:=uDf (((r.length+2:Nat):Int)=1)
  repeat refine uA1 @e2 ?_
  (refine awp_ret (ret1 uRT ?_);try rfl)
theorem rfvalid_sat (f:Flt) (h1:f.car.length<=1000000) (h2:f.suf.length<=1000000):SatG Tryz.prog tab 69 [] [Flt.av f] [] (B f.ok):=by
 have g0:=rcar_sat f.car h1
 have g3:=rsuf_sat f.suf h2
 have hok:f.ok=(carB f.car&&(decide (1<=f.num)&&(decide (f.num<=9999)&&(sufB f.suf&&(decide (0<=f.day)&&decide (f.day<=99)))))):=by
  unfold Flt.ok
  simp only[Bool.decide_and,Bool.and_assoc]
 rw[hok]
 refine uFN Tryz.func69 Tryz.ntmps69 ?_;intro w e X hC
 repeat refine uA ?_
 cases e0:carB f.car with
 |false=>
  rw[e0] at g0
  refine uR ?_;intro K hK
  refine uH ?_
  refine callF uTS (g0) uTS uTS uTS ?_;refine uS ?_
  try refine uS ?_
  refine uH ?_
  refine hK _ ?_;clear hK K
  (refine awp_ret (ret1 uRT ?_);try rfl)
 |true=>
  rw[e0] at g0
  cases e1:decide (1<=f.num) with
  |false=>
   refine uR1 @e1 ?_;intro K hK
   refine uH ?_
   refine callF uTS (g0) uTS uTS uTS ?_;refine uS ?_
   try refine uS1 @e1 ?_
   refine uH ?_
   refine hK _ ?_;clear hK K
   (refine awp_ret (ret1 uRT ?_);try rfl)
  |true=>
   cases e2:decide (f.num<=9999) with
   |false=>
    refine uR1 (uI @e1 @e2) ?_;intro K hK
    refine uH ?_
    refine callF uTS (g0) uTS uTS uTS ?_;refine uS ?_
    try refine uS1 (uI @e1 @e2) ?_
    refine uH ?_
    refine hK _ ?_;clear hK K
    (refine awp_ret (ret1 uRT ?_);try rfl)
   |true=>
    cases e3:sufB f.suf with
    |false=>
     rw[e3] at g3
     refine uR1 (uI @e1 @e2) ?_;intro K hK
     refine uH ?_
     refine callF uTS (g0) uTS uTS uTS ?_;refine uS ?_
     try refine uS1 (uI @e1 @e2) ?_
     refine uH ?_
     refine callF uTS (g3) uTS uTS uTS ?_;refine uS ?_
     try refine uS1 (uI @e1 @e2) ?_
     refine uH ?_
     refine hK _ ?_;clear hK K
     (refine awp_ret (ret1 uRT ?_);try rfl)
    |true=>
     rw[e3] at g3
     cases e4:decide (0<=f.day) with
     |false=>
      refine uR1 (uI @e1 (uI @e2 @e4)) ?_;intro K hK
      refine uH ?_
      refine callF uTS (g0) uTS uTS uTS ?_;refine uS ?_
      try refine uS1 (uI @e1 (uI @e2 @e4)) ?_
      refine uH ?_
      refine callF uTS (g3) uTS uTS uTS ?_;refine uS ?_
      try refine uS1 (uI @e1 (uI @e2 @e4)) ?_
      refine uH ?_
      refine hK _ ?_;clear hK K
      (refine awp_ret (ret1 uRT ?_);try rfl)
     |true=>
      cases e5:decide (f.day<=99) with
      |false=>
       refine uR1 (uI @e1 (uI @e2 (uI @e4 @e5))) ?_;intro K hK
       refine uH ?_
       refine callF uTS (g0) uTS uTS uTS ?_;refine uS ?_
       try refine uS1 (uI @e1 (uI @e2 (uI @e4 @e5))) ?_
       refine uH ?_
       refine callF uTS (g3) uTS uTS uTS ?_;refine uS ?_
       try refine uS1 (uI @e1 (uI @e2 (uI @e4 @e5))) ?_
       refine uH ?_
       refine hK _ ?_;clear hK K
       (refine awp_ret (ret1 uRT ?_);try rfl)
      |true=>
       refine uR1 (uI @e1 (uI @e2 (uI @e4 @e5))) ?_;intro K hK
       refine uH ?_
       refine callF uTS (g0) uTS uTS uTS ?_;refine uS ?_
       try refine uS1 (uI @e1 (uI @e2 (uI @e4 @e5))) ?_
       refine uH ?_
       refine callF uTS (g3) uTS uTS uTS ?_;refine uS ?_
       try refine uS1 (uI @e1 (uI @e2 (uI @e4 @e5))) ?_
       refine uH ?_
       refine hK _ ?_;clear hK K
       (refine awp_ret (ret1 uRT ?_);try rfl)
open Go.Scr
theorem rsameF_sat (a b:List Flaw) (ha:a.length<=1000000) (hb:b.length<=1000000):SatG Tryz.prog tab 46 [] [.sl (flaws a) false, .sl (flaws b) false] [] (B (decide (a=b))):=by
 have hno:¬a=b->B (decide (a=b))=B false:=fun h=>by rw[decide_eq_false h]
 refine uFN Tryz.func46 Tryz.ntmps46 ?_;intro w e X hC
 refine uA ?_
 refine uA ?_
 refine uW ?_;refine condP _ rfl (fun c1=>?_) (fun c1=>?_)
 ·rw[hno fun h=>c1 (by rw[h])]
  repeat refine uA ?_
  (refine awp_ret (ret1 uRT ?_);try rfl)
 ·have c1:a.length=b.length:=by omega
  refine uA ?_
  refine uW ?_
  refine awp_loopW (fun i:Nat×Nat=>⟨[(0, .sl (flaws a) false),(1, .sl (flaws b) false),(5,I i.2)],[],i.1⟩) (fun i=>i.2<=a.length/\∀j,j<i.2->a.getD j default=b.getD j default) (fun i=>a.length - i.2) (_,0) ⟨Nat.zero_le _,fun j hj=>absurd hj (Nat.not_lt_zero _)⟩ (uKF) ?_
  rintro⟨ck,i⟩ ⟨hi,hj⟩
  simp only at hi hj
  refine uA ?_
  refine uW ?_;refine condP _ rfl (fun h=>?_) (fun h=>?_)
  ·have hlt:i<a.length:=by omega
   have hlt2:i<b.length:=by omega
   have he:=flaw_beq (a.getD i default) (b.getD i default)
   by_cases c3:a.getD i default=b.getD i default
   ·rw[decide_eq_true c3] at he
    refine uK1 (uI (flaws_getD hlt) (uI (flaws_getD hlt2) @he)) ?_
    refine uF ?_
    repeat refine uA ?_
    refine⟨(_,i+1),⟨by simp only;omega,fun j hj'=>?_⟩,by simp only;omega,uKF⟩
    by_cases hji:j=i
    ·subst hji;exact c3
    ·exact hj j (by simp only at hj';omega)
   ·rw[decide_eq_false c3] at he
    refine uK1 (uI (flaws_getD hlt) (uI (flaws_getD hlt2) @he)) ?_
    refine uT ?_
    rw[hno fun h=>c3 (by rw[h])]
    repeat refine uA ?_
    (refine awp_ret (ret1 uRT ?_);try rfl)
  ·refine awp_exit ?_
   have hs:a=b:=eqL_getD c1 fun j h=>hj j (by omega)
   rw[decide_eq_true hs]
   repeat refine uA ?_
   (refine awp_ret (ret1 uRT ?_);try rfl)
set_option maxRecDepth 10000 in
theorem rsame_0 (a b:Acx) (hamv:a.mv.length<=1000000) (hbmv:b.mv.length<=1000000) (hagl:a.gl.length<=1000000) (hbgl:b.gl.length<=1000000) (h0:¬a.k=b.k):SatG Tryz.prog tab 18 [] [a.av,b.av] [] (B false):=by
 have d0:decide (a.k=b.k)=false:=decide_eq_false h0
 refine uFN Tryz.func18 Tryz.ntmps18 ?_;intro w e X hC
 refine uA ?_
 refine uR1 (uI @d0 @List.append_eq.{0}) ?_;intro K hK
 refine hK _ ?_;clear hK K
 (refine awp_ret (ret1 uRT ?_);try rfl)
set_option maxRecDepth 10000 in
theorem rsame_1 (a b:Acx) (hamv:a.mv.length<=1000000) (hbmv:b.mv.length<=1000000) (hagl:a.gl.length<=1000000) (hbgl:b.gl.length<=1000000) (h0:a.k=b.k) (h1:¬a.lost=b.lost):SatG Tryz.prog tab 18 [] [a.av,b.av] [] (B false):=by
 have d0:decide (a.k=b.k)=true:=decide_eq_true h0
 have d1:(a.lost==b.lost)=false:=beq_eq_false_iff_ne.2 h1
 refine uFN Tryz.func18 Tryz.ntmps18 ?_;intro w e X hC
 refine uA ?_
 refine uR1 (uI @d0 (uI @d1 @List.append_eq.{0})) ?_;intro K hK
 refine hK _ ?_;clear hK K
 (refine awp_ret (ret1 uRT ?_);try rfl)
set_option maxRecDepth 10000 in
theorem rsame_2 (a b:Acx) (hamv:a.mv.length<=1000000) (hbmv:b.mv.length<=1000000) (hagl:a.gl.length<=1000000) (hbgl:b.gl.length<=1000000) (h0:a.k=b.k) (h1:a.lost=b.lost) (h2:¬a.plt=b.plt):SatG Tryz.prog tab 18 [] [a.av,b.av] [] (B false):=by
 have d0:decide (a.k=b.k)=true:=decide_eq_true h0
 have d1:(a.lost==b.lost)=true:=by rw[h1];exact beq_self_eq_true _
 have d2:=plt_beq a.plt b.plt
 rw[decide_eq_false h2] at d2
 refine uFN Tryz.func18 Tryz.ntmps18 ?_;intro w e X hC
 refine uA ?_
 refine uR1 (uI @d0 (uI @d1 (uI @d2 @List.append_eq.{0}))) ?_;intro K hK
 refine hK _ ?_;clear hK K
 (refine awp_ret (ret1 uRT ?_);try rfl)
set_option maxRecDepth 10000 in
theorem rsame_3 (a b:Acx) (hamv:a.mv.length<=1000000) (hbmv:b.mv.length<=1000000) (hagl:a.gl.length<=1000000) (hbgl:b.gl.length<=1000000) (h0:a.k=b.k) (h1:a.lost=b.lost) (h2:a.plt=b.plt) (h3:¬a.node=b.node):SatG Tryz.prog tab 18 [] [a.av,b.av] [] (B false):=by
 have d0:decide (a.k=b.k)=true:=decide_eq_true h0
 have d1:(a.lost==b.lost)=true:=by rw[h1];exact beq_self_eq_true _
 have d2:=plt_beq a.plt b.plt
 rw[decide_eq_true h2] at d2
 have d3:decide (a.node=b.node)=false:=decide_eq_false h3
 refine uFN Tryz.func18 Tryz.ntmps18 ?_;intro w e X hC
 refine uA ?_
 refine uR1 (uI @d0 (uI @d1 (uI @d2 (uI @d3 @List.append_eq.{0})))) ?_;intro K hK
 refine hK _ ?_;clear hK K
 (refine awp_ret (ret1 uRT ?_);try rfl)
set_option maxRecDepth 10000 in
theorem rsame_4 (a b:Acx) (hamv:a.mv.length<=1000000) (hbmv:b.mv.length<=1000000) (hagl:a.gl.length<=1000000) (hbgl:b.gl.length<=1000000) (h0:a.k=b.k) (h1:a.lost=b.lost) (h2:a.plt=b.plt) (h3:a.node=b.node) (h4:¬a.img=b.img):SatG Tryz.prog tab 18 [] [a.av,b.av] [] (B false):=by
 have d0:decide (a.k=b.k)=true:=decide_eq_true h0
 have d1:(a.lost==b.lost)=true:=by rw[h1];exact beq_self_eq_true _
 have d2:=plt_beq a.plt b.plt
 rw[decide_eq_true h2] at d2
 have d3:decide (a.node=b.node)=true:=decide_eq_true h3
 have d4:decide (a.img=b.img)=false:=decide_eq_false h4
 refine uFN Tryz.func18 Tryz.ntmps18 ?_;intro w e X hC
 refine uA ?_
 refine uR1 (uI @d0 (uI @d1 (uI @d2 (uI @d3 (uI @d4 @List.append_eq.{0}))))) ?_;intro K hK
 refine hK _ ?_;clear hK K
 (refine awp_ret (ret1 uRT ?_);try rfl)
set_option maxRecDepth 10000 in
theorem rsame_5 (a b:Acx) (hamv:a.mv.length<=1000000) (hbmv:b.mv.length<=1000000) (hagl:a.gl.length<=1000000) (hbgl:b.gl.length<=1000000) (h0:a.k=b.k) (h1:a.lost=b.lost) (h2:a.plt=b.plt) (h3:a.node=b.node) (h4:a.img=b.img) (h5:¬a.clr=b.clr):SatG Tryz.prog tab 18 [] [a.av,b.av] [] (B false):=by
 have d0:decide (a.k=b.k)=true:=decide_eq_true h0
 have d1:(a.lost==b.lost)=true:=by rw[h1];exact beq_self_eq_true _
 have d2:=plt_beq a.plt b.plt
 rw[decide_eq_true h2] at d2
 have d3:decide (a.node=b.node)=true:=decide_eq_true h3
 have d4:decide (a.img=b.img)=true:=decide_eq_true h4
 have d5:(a.clr==b.clr)=false:=beq_eq_false_iff_ne.2 h5
 refine uFN Tryz.func18 Tryz.ntmps18 ?_;intro w e X hC
 refine uA ?_
 refine uR1 (uI @d0 (uI @d1 (uI @d2 (uI @d3 (uI @d4 (uI @d5 @List.append_eq.{0})))))) ?_;intro K hK
 refine hK _ ?_;clear hK K
 (refine awp_ret (ret1 uRT ?_);try rfl)
set_option maxRecDepth 10000 in
theorem rsame_6 (a b:Acx) (hamv:a.mv.length<=1000000) (hbmv:b.mv.length<=1000000) (hagl:a.gl.length<=1000000) (hbgl:b.gl.length<=1000000) (h0:a.k=b.k) (h1:a.lost=b.lost) (h2:a.plt=b.plt) (h3:a.node=b.node) (h4:a.img=b.img) (h5:a.clr=b.clr) (h6:¬a.txt=b.txt):SatG Tryz.prog tab 18 [] [a.av,b.av] [] (B false):=by
 have d0:decide (a.k=b.k)=true:=decide_eq_true h0
 have d1:(a.lost==b.lost)=true:=by rw[h1];exact beq_self_eq_true _
 have d2:=plt_beq a.plt b.plt
 rw[decide_eq_true h2] at d2
 have d3:decide (a.node=b.node)=true:=decide_eq_true h3
 have d4:decide (a.img=b.img)=true:=decide_eq_true h4
 have d5:(a.clr==b.clr)=true:=by rw[h5];exact beq_self_eq_true _
 have d6:decide (a.txt=b.txt)=false:=decide_eq_false h6
 refine uFN Tryz.func18 Tryz.ntmps18 ?_;intro w e X hC
 refine uA ?_
 refine uR1 (uI @d0 (uI @d1 (uI @d2 (uI @d3 (uI @d4 (uI @d5 (uI @d6 @List.append_eq.{0}))))))) ?_;intro K hK
 refine hK _ ?_;clear hK K
 (refine awp_ret (ret1 uRT ?_);try rfl)
set_option maxRecDepth 10000 in
theorem rsame_7 (a b:Acx) (hamv:a.mv.length<=1000000) (hbmv:b.mv.length<=1000000) (hagl:a.gl.length<=1000000) (hbgl:b.gl.length<=1000000) (h0:a.k=b.k) (h1:a.lost=b.lost) (h2:a.plt=b.plt) (h3:a.node=b.node) (h4:a.img=b.img) (h5:a.clr=b.clr) (h6:a.txt=b.txt) (h7:¬a.rev=b.rev):SatG Tryz.prog tab 18 [] [a.av,b.av] [] (B false):=by
 have d0:decide (a.k=b.k)=true:=decide_eq_true h0
 have d1:(a.lost==b.lost)=true:=by rw[h1];exact beq_self_eq_true _
 have d2:=plt_beq a.plt b.plt
 rw[decide_eq_true h2] at d2
 have d3:decide (a.node=b.node)=true:=decide_eq_true h3
 have d4:decide (a.img=b.img)=true:=decide_eq_true h4
 have d5:(a.clr==b.clr)=true:=by rw[h5];exact beq_self_eq_true _
 have d6:decide (a.txt=b.txt)=true:=decide_eq_true h6
 have d7:=rev_beq a.rev b.rev
 rw[decide_eq_false h7] at d7
 refine uFN Tryz.func18 Tryz.ntmps18 ?_;intro w e X hC
 refine uA ?_
 refine uR1 (uI @d0 (uI @d1 (uI @d2 (uI @d3 (uI @d4 (uI @d5 (uI @d6 (uI @d7 @List.append_eq.{0})))))))) ?_;intro K hK
 refine hK _ ?_;clear hK K
 (refine awp_ret (ret1 uRT ?_);try rfl)
set_option maxRecDepth 10000 in
theorem rsame_8 (a b:Acx) (hamv:a.mv.length<=1000000) (hbmv:b.mv.length<=1000000) (hagl:a.gl.length<=1000000) (hbgl:b.gl.length<=1000000) (h0:a.k=b.k) (h1:a.lost=b.lost) (h2:a.plt=b.plt) (h3:a.node=b.node) (h4:a.img=b.img) (h5:a.clr=b.clr) (h6:a.txt=b.txt) (h7:a.rev=b.rev) (h8:¬a.dev=b.dev):SatG Tryz.prog tab 18 [] [a.av,b.av] [] (B false):=by
 have d0:decide (a.k=b.k)=true:=decide_eq_true h0
 have d1:(a.lost==b.lost)=true:=by rw[h1];exact beq_self_eq_true _
 have d2:=plt_beq a.plt b.plt
 rw[decide_eq_true h2] at d2
 have d3:decide (a.node=b.node)=true:=decide_eq_true h3
 have d4:decide (a.img=b.img)=true:=decide_eq_true h4
 have d5:(a.clr==b.clr)=true:=by rw[h5];exact beq_self_eq_true _
 have d6:decide (a.txt=b.txt)=true:=decide_eq_true h6
 have d7:=rev_beq a.rev b.rev
 rw[decide_eq_true h7] at d7
 have d8:decide (a.dev=b.dev)=false:=decide_eq_false h8
 refine uFN Tryz.func18 Tryz.ntmps18 ?_;intro w e X hC
 refine uA ?_
 refine uR1 (uI @d0 (uI @d1 (uI @d2 (uI @d3 (uI @d4 (uI @d5 (uI @d6 (uI @d7 (uI @d8 @List.append_eq.{0}))))))))) ?_;intro K hK
 refine hK _ ?_;clear hK K
 (refine awp_ret (ret1 uRT ?_);try rfl)
set_option maxRecDepth 10000 in
theorem rsame_9 (a b:Acx) (hamv:a.mv.length<=1000000) (hbmv:b.mv.length<=1000000) (hagl:a.gl.length<=1000000) (hbgl:b.gl.length<=1000000) (h0:a.k=b.k) (h1:a.lost=b.lost) (h2:a.plt=b.plt) (h3:a.node=b.node) (h4:a.img=b.img) (h5:a.clr=b.clr) (h6:a.txt=b.txt) (h7:a.rev=b.rev) (h8:a.dev=b.dev) (h9:¬a.con=b.con):SatG Tryz.prog tab 18 [] [a.av,b.av] [] (B false):=by
 have d0:decide (a.k=b.k)=true:=decide_eq_true h0
 have d1:(a.lost==b.lost)=true:=by rw[h1];exact beq_self_eq_true _
 have d2:=plt_beq a.plt b.plt
 rw[decide_eq_true h2] at d2
 have d3:decide (a.node=b.node)=true:=decide_eq_true h3
 have d4:decide (a.img=b.img)=true:=decide_eq_true h4
 have d5:(a.clr==b.clr)=true:=by rw[h5];exact beq_self_eq_true _
 have d6:decide (a.txt=b.txt)=true:=decide_eq_true h6
 have d7:=rev_beq a.rev b.rev
 rw[decide_eq_true h7] at d7
 have d8:decide (a.dev=b.dev)=true:=decide_eq_true h8
 have d9:decide (a.con=b.con)=false:=decide_eq_false h9
 refine uFN Tryz.func18 Tryz.ntmps18 ?_;intro w e X hC
 refine uA ?_
 refine uR1 (uI @d0 (uI @d1 (uI @d2 (uI @d3 (uI @d4 (uI @d5 (uI @d6 (uI @d7 (uI @d8 (uI @d9 @List.append_eq.{0})))))))))) ?_;intro K hK
 refine hK _ ?_;clear hK K
 (refine awp_ret (ret1 uRT ?_);try rfl)
set_option maxRecDepth 10000 in
theorem rsame_10 (a b:Acx) (hamv:a.mv.length<=1000000) (hbmv:b.mv.length<=1000000) (hagl:a.gl.length<=1000000) (hbgl:b.gl.length<=1000000) (h0:a.k=b.k) (h1:a.lost=b.lost) (h2:a.plt=b.plt) (h3:a.node=b.node) (h4:a.img=b.img) (h5:a.clr=b.clr) (h6:a.txt=b.txt) (h7:a.rev=b.rev) (h8:a.dev=b.dev) (h9:a.con=b.con) (h10:¬a.flt=b.flt):SatG Tryz.prog tab 18 [] [a.av,b.av] [] (B false):=by
 have d0:decide (a.k=b.k)=true:=decide_eq_true h0
 have d1:(a.lost==b.lost)=true:=by rw[h1];exact beq_self_eq_true _
 have d2:=plt_beq a.plt b.plt
 rw[decide_eq_true h2] at d2
 have d3:decide (a.node=b.node)=true:=decide_eq_true h3
 have d4:decide (a.img=b.img)=true:=decide_eq_true h4
 have d5:(a.clr==b.clr)=true:=by rw[h5];exact beq_self_eq_true _
 have d6:decide (a.txt=b.txt)=true:=decide_eq_true h6
 have d7:=rev_beq a.rev b.rev
 rw[decide_eq_true h7] at d7
 have d8:decide (a.dev=b.dev)=true:=decide_eq_true h8
 have d9:decide (a.con=b.con)=true:=decide_eq_true h9
 have d10:=flt_beq a.flt b.flt
 rw[decide_eq_false h10] at d10
 refine uFN Tryz.func18 Tryz.ntmps18 ?_;intro w e X hC
 refine uA ?_
 refine uR1 (uI @d0 (uI @d1 (uI @d2 (uI @d3 (uI @d4 (uI @d5 (uI @d6 (uI @d7 (uI @d8 (uI @d9 (uI @d10 @List.append_eq.{0}))))))))))) ?_;intro K hK
 refine hK _ ?_;clear hK K
 (refine awp_ret (ret1 uRT ?_);try rfl)
set_option maxRecDepth 10000 in
theorem rsame_11 (a b:Acx) (hamv:a.mv.length<=1000000) (hbmv:b.mv.length<=1000000) (hagl:a.gl.length<=1000000) (hbgl:b.gl.length<=1000000) (h0:a.k=b.k) (h1:a.lost=b.lost) (h2:a.plt=b.plt) (h3:a.node=b.node) (h4:a.img=b.img) (h5:a.clr=b.clr) (h6:a.txt=b.txt) (h7:a.rev=b.rev) (h8:a.dev=b.dev) (h9:a.con=b.con) (h10:a.flt=b.flt) (h11:¬a.mv=b.mv):SatG Tryz.prog tab 18 [] [a.av,b.av] [] (B false):=by
 have d0:decide (a.k=b.k)=true:=decide_eq_true h0
 have d1:(a.lost==b.lost)=true:=by rw[h1];exact beq_self_eq_true _
 have d2:=plt_beq a.plt b.plt
 rw[decide_eq_true h2] at d2
 have d3:decide (a.node=b.node)=true:=decide_eq_true h3
 have d4:decide (a.img=b.img)=true:=decide_eq_true h4
 have d5:(a.clr==b.clr)=true:=by rw[h5];exact beq_self_eq_true _
 have d6:decide (a.txt=b.txt)=true:=decide_eq_true h6
 have d7:=rev_beq a.rev b.rev
 rw[decide_eq_true h7] at d7
 have d8:decide (a.dev=b.dev)=true:=decide_eq_true h8
 have d9:decide (a.con=b.con)=true:=decide_eq_true h9
 have d10:=flt_beq a.flt b.flt
 rw[decide_eq_true h10] at d10
 have g11:=rsameF_sat a.mv b.mv hamv hbmv
 rw[decide_eq_false h11] at g11
 refine uFN Tryz.func18 Tryz.ntmps18 ?_;intro w e X hC
 refine uA ?_
 refine uR1 (uI @d0 (uI @d1 (uI @d2 (uI @d3 (uI @d4 (uI @d5 (uI @d6 (uI @d7 (uI @d8 (uI @d9 (uI @d10 @List.append_eq.{0}))))))))))) ?_;intro K hK
 refine callF uTS (g11) uTS uTS uTS ?_;refine uS ?_
 refine hK _ ?_;clear hK K
 (refine awp_ret (ret1 uRT ?_);try rfl)
set_option maxRecDepth 10000 in
theorem rsame_12 (a b:Acx) (hamv:a.mv.length<=1000000) (hbmv:b.mv.length<=1000000) (hagl:a.gl.length<=1000000) (hbgl:b.gl.length<=1000000) (h0:a.k=b.k) (h1:a.lost=b.lost) (h2:a.plt=b.plt) (h3:a.node=b.node) (h4:a.img=b.img) (h5:a.clr=b.clr) (h6:a.txt=b.txt) (h7:a.rev=b.rev) (h8:a.dev=b.dev) (h9:a.con=b.con) (h10:a.flt=b.flt) (h11:a.mv=b.mv):SatG Tryz.prog tab 18 [] [a.av,b.av] [] (B (decide (a.gl=b.gl))):=by
 have d0:decide (a.k=b.k)=true:=decide_eq_true h0
 have d1:(a.lost==b.lost)=true:=by rw[h1];exact beq_self_eq_true _
 have d2:=plt_beq a.plt b.plt
 rw[decide_eq_true h2] at d2
 have d3:decide (a.node=b.node)=true:=decide_eq_true h3
 have d4:decide (a.img=b.img)=true:=decide_eq_true h4
 have d5:(a.clr==b.clr)=true:=by rw[h5];exact beq_self_eq_true _
 have d6:decide (a.txt=b.txt)=true:=decide_eq_true h6
 have d7:=rev_beq a.rev b.rev
 rw[decide_eq_true h7] at d7
 have d8:decide (a.dev=b.dev)=true:=decide_eq_true h8
 have d9:decide (a.con=b.con)=true:=decide_eq_true h9
 have d10:=flt_beq a.flt b.flt
 rw[decide_eq_true h10] at d10
 have g11:=rsameF_sat a.mv b.mv hamv hbmv
 rw[decide_eq_true h11] at g11
 have g12:=rsameF_sat a.gl b.gl hagl hbgl
 refine uFN Tryz.func18 Tryz.ntmps18 ?_;intro w e X hC
 refine uA ?_
 refine uR1 (uI @d0 (uI @d1 (uI @d2 (uI @d3 (uI @d4 (uI @d5 (uI @d6 (uI @d7 (uI @d8 (uI @d9 (uI @d10 @List.append_eq.{0}))))))))))) ?_;intro K hK
 refine callF uTS (g11) uTS uTS uTS ?_;refine uS ?_
 refine callF uTS (g12) uTS uTS uTS ?_;refine uS ?_
 refine hK _ ?_;clear hK K
 (refine awp_ret (ret1 uRT ?_);try rfl)
set_option maxRecDepth 10000 in
theorem rsame_sat (a b:Acx) (hamv:a.mv.length<=1000000) (hbmv:b.mv.length<=1000000) (hagl:a.gl.length<=1000000) (hbgl:b.gl.length<=1000000):SatG Tryz.prog tab 18 [] [a.av,b.av] [] (B (decide (a=b))):=by
 by_cases h0:¬a.k=b.k
 ·rw[decide_eq_false (show ¬a=b from fun h=>h0 (by rw[h]))]
  exact rsame_0 a b hamv hbmv hagl hbgl h0
 replace h0:=Decidable.not_not.1 h0
 by_cases h1:¬a.lost=b.lost
 ·rw[decide_eq_false (show ¬a=b from fun h=>h1 (by rw[h]))]
  exact rsame_1 a b hamv hbmv hagl hbgl h0 h1
 replace h1:=Decidable.not_not.1 h1
 by_cases h2:¬a.plt=b.plt
 ·rw[decide_eq_false (show ¬a=b from fun h=>h2 (by rw[h]))]
  exact rsame_2 a b hamv hbmv hagl hbgl h0 h1 h2
 replace h2:=Decidable.not_not.1 h2
 by_cases h3:¬a.node=b.node
 ·rw[decide_eq_false (show ¬a=b from fun h=>h3 (by rw[h]))]
  exact rsame_3 a b hamv hbmv hagl hbgl h0 h1 h2 h3
 replace h3:=Decidable.not_not.1 h3
 by_cases h4:¬a.img=b.img
 ·rw[decide_eq_false (show ¬a=b from fun h=>h4 (by rw[h]))]
  exact rsame_4 a b hamv hbmv hagl hbgl h0 h1 h2 h3 h4
 replace h4:=Decidable.not_not.1 h4
 by_cases h5:¬a.clr=b.clr
 ·rw[decide_eq_false (show ¬a=b from fun h=>h5 (by rw[h]))]
  exact rsame_5 a b hamv hbmv hagl hbgl h0 h1 h2 h3 h4 h5
 replace h5:=Decidable.not_not.1 h5
 by_cases h6:¬a.txt=b.txt
 ·rw[decide_eq_false (show ¬a=b from fun h=>h6 (by rw[h]))]
  exact rsame_6 a b hamv hbmv hagl hbgl h0 h1 h2 h3 h4 h5 h6
 replace h6:=Decidable.not_not.1 h6
 by_cases h7:¬a.rev=b.rev
 ·rw[decide_eq_false (show ¬a=b from fun h=>h7 (by rw[h]))]
  exact rsame_7 a b hamv hbmv hagl hbgl h0 h1 h2 h3 h4 h5 h6 h7
 replace h7:=Decidable.not_not.1 h7
 by_cases h8:¬a.dev=b.dev
 ·rw[decide_eq_false (show ¬a=b from fun h=>h8 (by rw[h]))]
  exact rsame_8 a b hamv hbmv hagl hbgl h0 h1 h2 h3 h4 h5 h6 h7 h8
 replace h8:=Decidable.not_not.1 h8
 by_cases h9:¬a.con=b.con
 ·rw[decide_eq_false (show ¬a=b from fun h=>h9 (by rw[h]))]
  exact rsame_9 a b hamv hbmv hagl hbgl h0 h1 h2 h3 h4 h5 h6 h7 h8 h9
 replace h9:=Decidable.not_not.1 h9
 by_cases h10:¬a.flt=b.flt
 ·rw[decide_eq_false (show ¬a=b from fun h=>h10 (by rw[h]))]
  exact rsame_10 a b hamv hbmv hagl hbgl h0 h1 h2 h3 h4 h5 h6 h7 h8 h9 h10
 replace h10:=Decidable.not_not.1 h10
 by_cases h11:¬a.mv=b.mv
 ·rw[decide_eq_false (show ¬a=b from fun h=>h11 (by rw[h]))]
  exact rsame_11 a b hamv hbmv hagl hbgl h0 h1 h2 h3 h4 h5 h6 h7 h8 h9 h10 h11
 replace h11:=Decidable.not_not.1 h11
 rw[decide_eq_decide.2 (show a=b↔a.gl=b.gl from⟨fun h=>by rw[h],fun h=>by
  obtain⟨⟩:=a
  obtain⟨⟩:=b
  simp_all⟩)]
 exact rsame_12 a b hamv hbmv hagl hbgl h0 h1 h2 h3 h4 h5 h6 h7 h8 h9 h10 h11
theorem rsameAll_sat (a b:List Acx) (ha:a.length<=1000000) (hb:b.length<=1000000) (sa:∀x∈a,x.mv.length<=1000000/\x.gl.length<=1000000) (sb:∀x∈b,x.mv.length<=1000000/\x.gl.length<=1000000):SatG Tryz.prog tab 26 [] [.sl (acts a) false, .sl (acts b) false] [] (B (decide (a=b))):=by
 have hno:¬a=b->B (decide (a=b))=B false:=fun h=>by rw[decide_eq_false h]
 refine uFN Tryz.func26 Tryz.ntmps26 ?_;intro w e X hC
 refine uA ?_
 refine uA ?_
 refine uW ?_;refine condP _ rfl (fun c1=>?_) (fun c1=>?_)
 ·rw[hno fun h=>c1 (by rw[h])]
  repeat refine uA ?_
  (refine awp_ret (ret1 uRT ?_);try rfl)
 ·have c1:a.length=b.length:=by omega
  refine uA ?_
  refine uW ?_
  refine awp_loopW (fun i:Nat×Nat=>⟨[(0, .sl (acts a) false),(1, .sl (acts b) false),(5,I i.2)],[],i.1⟩) (fun i=>i.2<=a.length/\∀j,j<i.2->a.getD j default=b.getD j default) (fun i=>a.length - i.2) (_,0) ⟨Nat.zero_le _,fun j hj=>absurd hj (Nat.not_lt_zero _)⟩ (uKF) ?_
  rintro⟨ck,i⟩ ⟨hi,hj⟩
  simp only at hi hj
  refine uA ?_
  refine uW ?_;refine condP _ rfl (fun h=>?_) (fun h=>?_)
  ·have hlt:i<a.length:=by omega
   have hlt2:i<b.length:=by omega
   have ma:a.getD i default∈a:=by rw[List.getD_eq_getElem?_getD,List.getElem?_eq_getElem hlt];exact List.getElem_mem hlt
   have mb:b.getD i default∈b:=by rw[List.getD_eq_getElem?_getD,List.getElem?_eq_getElem hlt2];exact List.getElem_mem hlt2
   have he:=rsame_sat (a.getD i default) (b.getD i default) (sa _ ma).1 (sb _ mb).1 (sa _ ma).2 (sb _ mb).2
   by_cases c3:a.getD i default=b.getD i default
   ·rw[decide_eq_true c3] at he
    refine uD1 (uI (acts_getD hlt) (acts_getD hlt2)) ?_;intro K hK
    refine uH ?_
    refine callF uTS (he) uTS uTS uTS ?_;refine uS ?_
    refine uH ?_
    refine hK _ ?_;clear hK K
    refine uF ?_
    repeat refine uA ?_
    refine⟨(_,i+1),⟨by simp only;omega,fun j hj'=>?_⟩,by simp only;omega,uKF⟩
    by_cases hji:j=i
    ·subst hji;exact c3
    ·exact hj j (by simp only at hj';omega)
   ·rw[decide_eq_false c3] at he
    refine uD1 (uI (acts_getD hlt) (acts_getD hlt2)) ?_;intro K hK
    refine uH ?_
    refine callF uTS (he) uTS uTS uTS ?_;refine uS ?_
    refine uH ?_
    refine hK _ ?_;clear hK K
    refine uT ?_
    rw[hno fun h=>c3 (by rw[h])]
    repeat refine uA ?_
    (refine awp_ret (ret1 uRT ?_);try rfl)
  ·refine awp_exit ?_
   have hs:a=b:=eqL_getD c1 fun j h=>hj j (by omega)
   rw[decide_eq_true hs]
   repeat refine uA ?_
   (refine awp_ret (ret1 uRT ?_);try rfl)
open Go.Scr
theorem only_w1 (x:Acx) (hk:x.k=1):SatG Tryz.prog tab 10 [] [x.av] [] (only x).av:=by
 have e1:=uDt (x.k=1)
 have e2:=uDf (x.k=2)
 have e10:=uDf (x.k=10)
 have e3:=uDf (x.k=3)
 have e4:=uDf (x.k=4)
 have e5:=uDf (x.k=5)
 have e6:=uDf (x.k=6)
 have e7:=uDf (x.k=7)
 have e8:=uDf (x.k=8)
 have e9:=uDf (x.k=9)
 have e11:=uDf (x.k=11)
 have e12:=uDf (x.k=12)
 have e13:=uDf (x.k=13)
 have ho:=only_1 hk
 rw[ho]
 refine uFN Tryz.func10 Tryz.ntmps10 ?_;intro w e X hC
 repeat first|refine uC ?_|refine uA1 (uI @e1 (uI @e2 (uI @e10 (uI @e3 (uI @e4 (uI @e5 (uI @e6 (uI @e7 (uI @e8 (uI @e9 (uI @e11 (uI @e12 @e13)))))))))))) ?_
 refine uD ?_;intro K hK
 refine uH ?_
 refine hK _ ?_;clear hK K
 repeat refine uA ?_
 refine awp_ret ?_;rw[show Tryz.f10.results.toList=[.cell 2 30] from rfl];first|refine uRN ?_|exact uRM
 rfl
theorem only_w2 (x:Acx) (hk:x.k=2):SatG Tryz.prog tab 10 [] [x.av] [] (only x).av:=by
 have e1:=uDf (x.k=1)
 have e2:=uDt (x.k=2)
 have e10:=uDf (x.k=10)
 have e3:=uDf (x.k=3)
 have e4:=uDf (x.k=4)
 have e5:=uDf (x.k=5)
 have e6:=uDf (x.k=6)
 have e7:=uDf (x.k=7)
 have e8:=uDf (x.k=8)
 have e9:=uDf (x.k=9)
 have e11:=uDf (x.k=11)
 have e12:=uDf (x.k=12)
 have e13:=uDf (x.k=13)
 have ho:=only_2 hk
 rw[ho]
 refine uFN Tryz.func10 Tryz.ntmps10 ?_;intro w e X hC
 repeat first|refine uC ?_|refine uA1 (uI @e1 (uI @e2 (uI @e10 (uI @e3 (uI @e4 (uI @e5 (uI @e6 (uI @e7 (uI @e8 (uI @e9 (uI @e11 (uI @e12 @e13)))))))))))) ?_
 refine uD ?_;intro K hK
 refine uH ?_
 refine hK _ ?_;clear hK K
 repeat refine uA ?_
 refine awp_ret ?_;rw[show Tryz.f10.results.toList=[.cell 2 30] from rfl];first|refine uRN ?_|exact uRM
 rfl
theorem only_w10 (x:Acx) (hk:x.k=10):SatG Tryz.prog tab 10 [] [x.av] [] (only x).av:=by
 have e1:=uDf (x.k=1)
 have e2:=uDf (x.k=2)
 have e10:=uDt (x.k=10)
 have e3:=uDf (x.k=3)
 have e4:=uDf (x.k=4)
 have e5:=uDf (x.k=5)
 have e6:=uDf (x.k=6)
 have e7:=uDf (x.k=7)
 have e8:=uDf (x.k=8)
 have e9:=uDf (x.k=9)
 have e11:=uDf (x.k=11)
 have e12:=uDf (x.k=12)
 have e13:=uDf (x.k=13)
 have ho:=only_10 hk
 rw[ho]
 refine uFN Tryz.func10 Tryz.ntmps10 ?_;intro w e X hC
 repeat first|refine uC ?_|refine uA1 (uI @e1 (uI @e2 (uI @e10 (uI @e3 (uI @e4 (uI @e5 (uI @e6 (uI @e7 (uI @e8 (uI @e9 (uI @e11 (uI @e12 @e13)))))))))))) ?_
 refine uD ?_;intro K hK
 refine uH ?_
 refine hK _ ?_;clear hK K
 repeat refine uA ?_
 refine awp_ret ?_;rw[show Tryz.f10.results.toList=[.cell 2 30] from rfl];first|refine uRN ?_|exact uRM
 rfl
theorem only_w3 (x:Acx) (hk:x.k=3):SatG Tryz.prog tab 10 [] [x.av] [] (only x).av:=by
 have e1:=uDf (x.k=1)
 have e2:=uDf (x.k=2)
 have e10:=uDf (x.k=10)
 have e3:=uDt (x.k=3)
 have e4:=uDf (x.k=4)
 have e5:=uDf (x.k=5)
 have e6:=uDf (x.k=6)
 have e7:=uDf (x.k=7)
 have e8:=uDf (x.k=8)
 have e9:=uDf (x.k=9)
 have e11:=uDf (x.k=11)
 have e12:=uDf (x.k=12)
 have e13:=uDf (x.k=13)
 have ho:=only_3 hk
 rw[ho]
 refine uFN Tryz.func10 Tryz.ntmps10 ?_;intro w e X hC
 repeat first|refine uC ?_|refine uA1 (uI @e1 (uI @e2 (uI @e10 (uI @e3 (uI @e4 (uI @e5 (uI @e6 (uI @e7 (uI @e8 (uI @e9 (uI @e11 (uI @e12 @e13)))))))))))) ?_
 repeat refine uA ?_
 refine awp_ret ?_;rw[show Tryz.f10.results.toList=[.cell 2 30] from rfl];first|refine uRN ?_|exact uRM
 rfl
theorem only_w4 (x:Acx) (hk:x.k=4):SatG Tryz.prog tab 10 [] [x.av] [] (only x).av:=by
 have e1:=uDf (x.k=1)
 have e2:=uDf (x.k=2)
 have e10:=uDf (x.k=10)
 have e3:=uDf (x.k=3)
 have e4:=uDt (x.k=4)
 have e5:=uDf (x.k=5)
 have e6:=uDf (x.k=6)
 have e7:=uDf (x.k=7)
 have e8:=uDf (x.k=8)
 have e9:=uDf (x.k=9)
 have e11:=uDf (x.k=11)
 have e12:=uDf (x.k=12)
 have e13:=uDf (x.k=13)
 have ho:=only_4 hk
 rw[ho]
 refine uFN Tryz.func10 Tryz.ntmps10 ?_;intro w e X hC
 repeat first|refine uC ?_|refine uA1 (uI @e1 (uI @e2 (uI @e10 (uI @e3 (uI @e4 (uI @e5 (uI @e6 (uI @e7 (uI @e8 (uI @e9 (uI @e11 (uI @e12 @e13)))))))))))) ?_
 refine uD ?_;intro K hK
 refine uH ?_
 refine hK _ ?_;clear hK K
 repeat refine uA ?_
 refine awp_ret ?_;rw[show Tryz.f10.results.toList=[.cell 2 30] from rfl];first|refine uRN ?_|exact uRM
 rfl
theorem only_w5 (x:Acx) (hk:x.k=5):SatG Tryz.prog tab 10 [] [x.av] [] (only x).av:=by
 have e1:=uDf (x.k=1)
 have e2:=uDf (x.k=2)
 have e10:=uDf (x.k=10)
 have e3:=uDf (x.k=3)
 have e4:=uDf (x.k=4)
 have e5:=uDt (x.k=5)
 have e6:=uDf (x.k=6)
 have e7:=uDf (x.k=7)
 have e8:=uDf (x.k=8)
 have e9:=uDf (x.k=9)
 have e11:=uDf (x.k=11)
 have e12:=uDf (x.k=12)
 have e13:=uDf (x.k=13)
 have ho:=only_5 hk
 rw[ho]
 refine uFN Tryz.func10 Tryz.ntmps10 ?_;intro w e X hC
 repeat first|refine uC ?_|refine uA1 (uI @e1 (uI @e2 (uI @e10 (uI @e3 (uI @e4 (uI @e5 (uI @e6 (uI @e7 (uI @e8 (uI @e9 (uI @e11 (uI @e12 @e13)))))))))))) ?_
 repeat refine uA ?_
 refine awp_ret ?_;rw[show Tryz.f10.results.toList=[.cell 2 30] from rfl];first|refine uRN ?_|exact uRM
 rfl
theorem only_w6 (x:Acx) (hk:x.k=6):SatG Tryz.prog tab 10 [] [x.av] [] (only x).av:=by
 have e1:=uDf (x.k=1)
 have e2:=uDf (x.k=2)
 have e10:=uDf (x.k=10)
 have e3:=uDf (x.k=3)
 have e4:=uDf (x.k=4)
 have e5:=uDf (x.k=5)
 have e6:=uDt (x.k=6)
 have e7:=uDf (x.k=7)
 have e8:=uDf (x.k=8)
 have e9:=uDf (x.k=9)
 have e11:=uDf (x.k=11)
 have e12:=uDf (x.k=12)
 have e13:=uDf (x.k=13)
 have ho:=only_6 hk
 rw[ho]
 refine uFN Tryz.func10 Tryz.ntmps10 ?_;intro w e X hC
 repeat first|refine uC ?_|refine uA1 (uI @e1 (uI @e2 (uI @e10 (uI @e3 (uI @e4 (uI @e5 (uI @e6 (uI @e7 (uI @e8 (uI @e9 (uI @e11 (uI @e12 @e13)))))))))))) ?_
 repeat refine uA ?_
 refine awp_ret ?_;rw[show Tryz.f10.results.toList=[.cell 2 30] from rfl];first|refine uRN ?_|exact uRM
 rfl
theorem only_w7 (x:Acx) (hk:x.k=7):SatG Tryz.prog tab 10 [] [x.av] [] (only x).av:=by
 have e1:=uDf (x.k=1)
 have e2:=uDf (x.k=2)
 have e10:=uDf (x.k=10)
 have e3:=uDf (x.k=3)
 have e4:=uDf (x.k=4)
 have e5:=uDf (x.k=5)
 have e6:=uDf (x.k=6)
 have e7:=uDt (x.k=7)
 have e8:=uDf (x.k=8)
 have e9:=uDf (x.k=9)
 have e11:=uDf (x.k=11)
 have e12:=uDf (x.k=12)
 have e13:=uDf (x.k=13)
 have ho:=only_7 hk
 rw[ho]
 refine uFN Tryz.func10 Tryz.ntmps10 ?_;intro w e X hC
 repeat first|refine uC ?_|refine uA1 (uI @e1 (uI @e2 (uI @e10 (uI @e3 (uI @e4 (uI @e5 (uI @e6 (uI @e7 (uI @e8 (uI @e9 (uI @e11 (uI @e12 @e13)))))))))))) ?_
 repeat refine uA ?_
 refine awp_ret ?_;rw[show Tryz.f10.results.toList=[.cell 2 30] from rfl];first|refine uRN ?_|exact uRM
 rfl
theorem only_w8 (x:Acx) (hk:x.k=8):SatG Tryz.prog tab 10 [] [x.av] [] (only x).av:=by
 have e1:=uDf (x.k=1)
 have e2:=uDf (x.k=2)
 have e10:=uDf (x.k=10)
 have e3:=uDf (x.k=3)
 have e4:=uDf (x.k=4)
 have e5:=uDf (x.k=5)
 have e6:=uDf (x.k=6)
 have e7:=uDf (x.k=7)
 have e8:=uDt (x.k=8)
 have e9:=uDf (x.k=9)
 have e11:=uDf (x.k=11)
 have e12:=uDf (x.k=12)
 have e13:=uDf (x.k=13)
 have ho:=only_8 hk
 rw[ho]
 refine uFN Tryz.func10 Tryz.ntmps10 ?_;intro w e X hC
 repeat first|refine uC ?_|refine uA1 (uI @e1 (uI @e2 (uI @e10 (uI @e3 (uI @e4 (uI @e5 (uI @e6 (uI @e7 (uI @e8 (uI @e9 (uI @e11 (uI @e12 @e13)))))))))))) ?_
 refine uD ?_;intro K hK
 refine uH ?_
 refine hK _ ?_;clear hK K
 repeat refine uA ?_
 refine awp_ret ?_;rw[show Tryz.f10.results.toList=[.cell 2 30] from rfl];first|refine uRN ?_|exact uRM
 rfl
theorem only_w9 (x:Acx) (hk:x.k=9):SatG Tryz.prog tab 10 [] [x.av] [] (only x).av:=by
 have e1:=uDf (x.k=1)
 have e2:=uDf (x.k=2)
 have e10:=uDf (x.k=10)
 have e3:=uDf (x.k=3)
 have e4:=uDf (x.k=4)
 have e5:=uDf (x.k=5)
 have e6:=uDf (x.k=6)
 have e7:=uDf (x.k=7)
 have e8:=uDf (x.k=8)
 have e9:=uDt (x.k=9)
 have e11:=uDf (x.k=11)
 have e12:=uDf (x.k=12)
 have e13:=uDf (x.k=13)
 have ho:=only_9 hk
 rw[ho]
 refine uFN Tryz.func10 Tryz.ntmps10 ?_;intro w e X hC
 repeat first|refine uC ?_|refine uA1 (uI @e1 (uI @e2 (uI @e10 (uI @e3 (uI @e4 (uI @e5 (uI @e6 (uI @e7 (uI @e8 (uI @e9 (uI @e11 (uI @e12 @e13)))))))))))) ?_
 refine uD ?_;intro K hK
 refine uH ?_
 refine hK _ ?_;clear hK K
 repeat refine uA ?_
 refine awp_ret ?_;rw[show Tryz.f10.results.toList=[.cell 2 30] from rfl];first|refine uRN ?_|exact uRM
 rfl
theorem only_w11 (x:Acx) (hk:x.k=11):SatG Tryz.prog tab 10 [] [x.av] [] (only x).av:=by
 have e1:=uDf (x.k=1)
 have e2:=uDf (x.k=2)
 have e10:=uDf (x.k=10)
 have e3:=uDf (x.k=3)
 have e4:=uDf (x.k=4)
 have e5:=uDf (x.k=5)
 have e6:=uDf (x.k=6)
 have e7:=uDf (x.k=7)
 have e8:=uDf (x.k=8)
 have e9:=uDf (x.k=9)
 have e11:=uDt (x.k=11)
 have e12:=uDf (x.k=12)
 have e13:=uDf (x.k=13)
 have ho:=only_11 hk
 rw[ho]
 refine uFN Tryz.func10 Tryz.ntmps10 ?_;intro w e X hC
 repeat first|refine uC ?_|refine uA1 (uI @e1 (uI @e2 (uI @e10 (uI @e3 (uI @e4 (uI @e5 (uI @e6 (uI @e7 (uI @e8 (uI @e9 (uI @e11 (uI @e12 @e13)))))))))))) ?_
 repeat refine uA ?_
 refine awp_ret ?_;rw[show Tryz.f10.results.toList=[.cell 2 30] from rfl];first|refine uRN ?_|exact uRM
 rfl
theorem only_w12 (x:Acx) (hk:x.k=12):SatG Tryz.prog tab 10 [] [x.av] [] (only x).av:=by
 have e1:=uDf (x.k=1)
 have e2:=uDf (x.k=2)
 have e10:=uDf (x.k=10)
 have e3:=uDf (x.k=3)
 have e4:=uDf (x.k=4)
 have e5:=uDf (x.k=5)
 have e6:=uDf (x.k=6)
 have e7:=uDf (x.k=7)
 have e8:=uDf (x.k=8)
 have e9:=uDf (x.k=9)
 have e11:=uDf (x.k=11)
 have e12:=uDt (x.k=12)
 have e13:=uDf (x.k=13)
 have ho:=only_12 hk
 rw[ho]
 refine uFN Tryz.func10 Tryz.ntmps10 ?_;intro w e X hC
 repeat first|refine uC ?_|refine uA1 (uI @e1 (uI @e2 (uI @e10 (uI @e3 (uI @e4 (uI @e5 (uI @e6 (uI @e7 (uI @e8 (uI @e9 (uI @e11 (uI @e12 @e13)))))))))))) ?_
 repeat refine uA ?_
 refine awp_ret ?_;rw[show Tryz.f10.results.toList=[.cell 2 30] from rfl];first|refine uRN ?_|exact uRM
 rfl
theorem only_w13 (x:Acx) (hk:x.k=13):SatG Tryz.prog tab 10 [] [x.av] [] (only x).av:=by
 have e1:=uDf (x.k=1)
 have e2:=uDf (x.k=2)
 have e10:=uDf (x.k=10)
 have e3:=uDf (x.k=3)
 have e4:=uDf (x.k=4)
 have e5:=uDf (x.k=5)
 have e6:=uDf (x.k=6)
 have e7:=uDf (x.k=7)
 have e8:=uDf (x.k=8)
 have e9:=uDf (x.k=9)
 have e11:=uDf (x.k=11)
 have e12:=uDf (x.k=12)
 have e13:=uDt (x.k=13)
 have ho:=only_13 hk
 rw[ho]
 refine uFN Tryz.func10 Tryz.ntmps10 ?_;intro w e X hC
 repeat first|refine uC ?_|refine uA1 (uI @e1 (uI @e2 (uI @e10 (uI @e3 (uI @e4 (uI @e5 (uI @e6 (uI @e7 (uI @e8 (uI @e9 (uI @e11 (uI @e12 @e13)))))))))))) ?_
 repeat refine uA ?_
 refine awp_ret ?_;rw[show Tryz.f10.results.toList=[.cell 2 30] from rfl];first|refine uRN ?_|exact uRM
 rfl
theorem only_w0 (x:Acx) (n1:¬x.k=1) (n2:¬x.k=2) (n10:¬x.k=10) (n3:¬x.k=3) (n4:¬x.k=4) (n5:¬x.k=5) (n6:¬x.k=6) (n7:¬x.k=7) (n8:¬x.k=8) (n9:¬x.k=9) (n11:¬x.k=11) (n12:¬x.k=12) (n13:¬x.k=13):SatG Tryz.prog tab 10 [] [x.av] [] (only x).av:=by
 have e1:=uDf (x.k=1)
 have e2:=uDf (x.k=2)
 have e10:=uDf (x.k=10)
 have e3:=uDf (x.k=3)
 have e4:=uDf (x.k=4)
 have e5:=uDf (x.k=5)
 have e6:=uDf (x.k=6)
 have e7:=uDf (x.k=7)
 have e8:=uDf (x.k=8)
 have e9:=uDf (x.k=9)
 have e11:=uDf (x.k=11)
 have e12:=uDf (x.k=12)
 have e13:=uDf (x.k=13)
 have ho:=only_0 n1 n2 n10 n3 n4 n5 n6 n7 n8 n9 n11 n12 n13
 rw[ho]
 refine uFN Tryz.func10 Tryz.ntmps10 ?_;intro w e X hC
 repeat first|refine uC ?_|refine uA1 (uI @e1 (uI @e2 (uI @e10 (uI @e3 (uI @e4 (uI @e5 (uI @e6 (uI @e7 (uI @e8 (uI @e9 (uI @e11 (uI @e12 @e13)))))))))))) ?_
 repeat refine uA ?_
 refine awp_ret ?_;rw[show Tryz.f10.results.toList=[.cell 2 30] from rfl];first|refine uRN ?_|exact uRM
 rfl
theorem only_sat (x:Acx):SatG Tryz.prog tab 10 [] [x.av] [] (only x).av:=by
 by_cases n1:x.k=1
 ·exact only_w1 x n1
 by_cases n2:x.k=2
 ·exact only_w2 x n2
 by_cases n10:x.k=10
 ·exact only_w10 x n10
 by_cases n3:x.k=3
 ·exact only_w3 x n3
 by_cases n4:x.k=4
 ·exact only_w4 x n4
 by_cases n5:x.k=5
 ·exact only_w5 x n5
 by_cases n6:x.k=6
 ·exact only_w6 x n6
 by_cases n7:x.k=7
 ·exact only_w7 x n7
 by_cases n8:x.k=8
 ·exact only_w8 x n8
 by_cases n9:x.k=9
 ·exact only_w9 x n9
 by_cases n11:x.k=11
 ·exact only_w11 x n11
 by_cases n12:x.k=12
 ·exact only_w12 x n12
 by_cases n13:x.k=13
 ·exact only_w13 x n13
 exact only_w0 x n1 n2 n10 n3 n4 n5 n6 n7 n8 n9 n11 n12 n13
open Go.Scr
theorem rfaults_sat (l:List Flaw) (lo hi:Int) (hl:l.length<=1000000):SatG Tryz.prog tab 67 [] [.sl (flaws l) false,I lo,I hi] [] (B (l.all (flawB lo hi))):=by
 refine uFN Tryz.func67 Tryz.ntmps67 ?_;intro w e X hC
 repeat refine uA ?_
 refine uW ?_
 refine awp_loopW (fun i:Nat×Nat=>⟨[(0, .sl (flaws l) false),(1,I lo),(2,I hi),(7,I i.2)],[],i.1⟩) (fun i=>i.2<=l.length/\∀j,j<i.2->flawB lo hi (l.getD j default)=true) (fun i=>l.length - i.2) (_,0) ⟨Nat.zero_le _,fun j hj=>absurd hj (Nat.not_lt_zero _)⟩ (uKF) ?_
 rintro⟨ck,i⟩ ⟨hi',hj⟩
 simp only at hi' hj
 refine uA ?_
 refine uW ?_;refine condP _ rfl (fun h=>?_) (fun h=>?_)
 ·have hlt:i<l.length:=by omega
  have hm:l.getD i default∈l:=by rw[List.getD_eq_getElem?_getD,List.getElem?_eq_getElem hlt];exact List.getElem_mem hlt
  have hno:flawB lo hi (l.getD i default)=false->B (l.all (flawB lo hi))=B false:=fun h=>by
   rw[List.all_eq_false.2 ⟨_,hm,by rw[h];decide⟩]
  have hb:flawB lo hi (l.getD i default)=(!decide ((l.getD i default).k<lo)&&(!decide (hi<(l.getD i default).k)&&(numB (l.getD i default).n&&numB (l.getD i default).w))):=by
   unfold flawB
   rw[Bool.decide_and,Bool.and_assoc,Bool.and_assoc,<-decide_not,<-decide_not,decide_eq_decide.2 (Int.not_lt (a:=(l.getD i default).k) (b:=lo)),decide_eq_decide.2 (Int.not_lt (a:=hi) (b:=(l.getD i default).k))]
  have g2:SatG Tryz.prog tab 70 [] [I (l.getD i default).n] [] (B (numB (l.getD i default).n)):=num_sat _
  have g3:SatG Tryz.prog tab 70 [] [I (l.getD i default).w] [] (B (numB (l.getD i default).w)):=num_sat _
  cases e0:decide ((l.getD i default).k<lo) with
  |true=>
   refine uR1 (uI (flaws_getD hlt) @e0) ?_;intro K hK
   refine uH ?_
   refine hK _ ?_;clear hK K
   refine uT ?_
   rw[hno (by rw[hb,e0];rfl)]
   repeat refine uA ?_
   (refine awp_ret (ret1 uRT ?_);try rfl)
  |false=>
   cases e1:decide (hi<(l.getD i default).k) with
   |true=>
    refine uR1 (uI (flaws_getD hlt) (uI @e0 @e1)) ?_;intro K hK
    refine uH ?_
    refine hK _ ?_;clear hK K
    refine uT ?_
    rw[hno (by rw[hb,e0,e1];rfl)]
    repeat refine uA ?_
    (refine awp_ret (ret1 uRT ?_);try rfl)
   |false=>
    cases e2:numB (l.getD i default).n with
    |false=>
     rw[e2] at g2
     refine uR1 (uI (flaws_getD hlt) (uI @e0 @e1)) ?_;intro K hK
     refine uH ?_
     refine callF uTS (g2) uTS uTS uTS ?_;refine uS ?_
     try refine uS1 (uI (flaws_getD hlt) (uI @e0 @e1)) ?_
     refine uH ?_
     refine hK _ ?_;clear hK K
     refine uT ?_
     rw[hno (by rw[hb,e0,e1,e2];rfl)]
     repeat refine uA ?_
     (refine awp_ret (ret1 uRT ?_);try rfl)
    |true=>
     rw[e2] at g2
     cases e3:numB (l.getD i default).w with
     |false=>
      rw[e3] at g3
      refine uR1 (uI (flaws_getD hlt) (uI @e0 @e1)) ?_;intro K hK
      refine uH ?_
      refine callF uTS (g2) uTS uTS uTS ?_;refine uS ?_
      try refine uS1 (uI (flaws_getD hlt) (uI @e0 @e1)) ?_
      refine uH ?_
      refine callF uTS (g3) uTS uTS uTS ?_;refine uS ?_
      try refine uS1 (uI (flaws_getD hlt) (uI @e0 @e1)) ?_
      refine uH ?_
      refine hK _ ?_;clear hK K
      refine uT ?_
      rw[hno (by rw[hb,e0,e1,e2,e3];rfl)]
      repeat refine uA ?_
      (refine awp_ret (ret1 uRT ?_);try rfl)
     |true=>
      rw[e3] at g3
      refine uR1 (uI (flaws_getD hlt) (uI @e0 @e1)) ?_;intro K hK
      refine uH ?_
      refine callF uTS (g2) uTS uTS uTS ?_;refine uS ?_
      try refine uS1 (uI (flaws_getD hlt) (uI @e0 @e1)) ?_
      refine uH ?_
      refine callF uTS (g3) uTS uTS uTS ?_;refine uS ?_
      try refine uS1 (uI (flaws_getD hlt) (uI @e0 @e1)) ?_
      refine uH ?_
      refine hK _ ?_;clear hK K
      refine uF ?_
      repeat refine uA ?_
      refine⟨(_,i+1),⟨by simp only;omega,fun j hj'=>?_⟩,by simp only;omega,uKF⟩
      by_cases hji:j=i
      ·subst hji;rw[hb,e0,e1,e2,e3];rfl
      ·exact hj j (by simp only at hj';omega)
 ·refine awp_exit ?_
  have hall:l.all (flawB lo hi)=true:=List.all_eq_true.2 fun x hx=>by
   obtain⟨j,hj',rfl⟩:=List.getElem_of_mem hx
   have:=hj j (by omega)
   rwa[List.getD_eq_getElem?_getD,List.getElem?_eq_getElem hj'] at this
  rw[hall]
  repeat refine uA ?_
  (refine awp_ret (ret1 uRT ?_);try rfl)
theorem rtext_sat (s:Bs) (hl:s.length<=1000000):SatG Tryz.prog tab 68 [] [S (strOf s)] [] (B (txtB s)):=by
 refine uFN Tryz.func68 Tryz.ntmps68 ?_;intro w e X hC
 repeat refine uA ?_
 refine uW ?_
 refine awp_loopW (fun i:Nat×Nat=>⟨[(0,S (strOf s)),(3,I i.2)],[],i.1⟩) (fun i=>i.2<=s.length/\∀j,j<i.2->txtB [s.getD j 0]=true) (fun i=>s.length - i.2) (_,0) ⟨Nat.zero_le _,fun j hj=>absurd hj (Nat.not_lt_zero _)⟩ (uKF) ?_
 rintro⟨ck,i⟩ ⟨hi',hj⟩
 simp only at hi' hj
 refine uA ?_
 refine uW ?_;refine condP _ rfl (fun h=>?_) (fun h=>?_)
 ·have hlt:i<s.length:=by omega
  have hm:s.getD i 0∈s:=by rw[List.getD_eq_getElem?_getD,List.getElem?_eq_getElem hlt];exact List.getElem_mem hlt
  have hno:txtB [s.getD i 0]=false->B (txtB s)=B false:=fun h=>by
   rw[show txtB s=false from List.all_eq_false.2 ⟨_,hm,by
    have h1:(decide ((s.getD i 0).toNat=10\/(32<=(s.getD i 0).toNat/\(s.getD i 0).toNat<=126/\(s.getD i 0).toNat≠124))&&true)=false:=h
    rw[Bool.and_true] at h1
    rw[h1];decide⟩]
  have hb:∀c:UInt8,txtB [c]=decide (c.toNat=10\/(32<=c.toNat/\c.toNat<=126/\c.toNat≠124)):=fun c=>by
   show(decide _&&true)=_
   rw[Bool.and_true]
  have step:∀j,j<i+1->txtB [s.getD i 0]=true->txtB [s.getD j 0]=true:=fun j hj' ht=>by
   by_cases hji:j=i
   ·subst hji;exact ht
   ·exact hj j (by omega)
  have hc:=hb (s.getD i 0)
  generalize hce:s.getD i 0=c at*
  by_cases c0:c.toNat=10
  ·have e0:(decide ¬((c.toNat:Nat):Int)=10)=false:=decide_eq_false (by omega)
   repeat refine uA1 (uI @hce @e0) ?_
   refine uF ?_
   repeat refine uA ?_
   refine⟨(_,i+1),⟨by simp only;omega,fun j hj'=>step j hj' (by rw[hc];exact decide_eq_true (.inl c0))⟩,by simp only;omega,uKF⟩
  ·have e0:(decide ¬((c.toNat:Nat):Int)=10)=true:=decide_eq_true (by omega)
   by_cases c1:c.toNat<32
   ·have e1:=uDt (((c.toNat:Nat):Int)<32)
    rw[hno (by rw[hc];exact decide_eq_false (by omega))]
    repeat refine uA1 (uI @hce (uI @e0 @e1)) ?_
    refine uT ?_
    repeat refine uA ?_
    (refine awp_ret (ret1 uRT ?_);try rfl)
   ·have e1:=uDf (((c.toNat:Nat):Int)<32)
    by_cases c2:126<c.toNat
    ·have e2:=uDt (126<((c.toNat:Nat):Int))
     rw[hno (by rw[hc];exact decide_eq_false (by omega))]
     repeat refine uA1 (uI @hce (uI @e0 (uI @e1 @e2))) ?_
     refine uT ?_
     repeat refine uA ?_
     (refine awp_ret (ret1 uRT ?_);try rfl)
    ·have e2:=uDf (126<((c.toNat:Nat):Int))
     by_cases c3:c.toNat=124
     ·have e3:=uDt (((c.toNat:Nat):Int)=124)
      rw[hno (by rw[hc];exact decide_eq_false (by omega))]
      repeat refine uA1 (uI @hce (uI @e0 (uI @e1 (uI @e2 @e3)))) ?_
      refine uT ?_
      repeat refine uA ?_
      (refine awp_ret (ret1 uRT ?_);try rfl)
     ·have e3:=uDf (((c.toNat:Nat):Int)=124)
      repeat refine uA1 (uI @hce (uI @e0 (uI @e1 (uI @e2 @e3)))) ?_
      refine uF ?_
      repeat refine uA ?_
      refine⟨(_,i+1),⟨by simp only;omega,fun j hj'=>step j hj' (by rw[hc];exact decide_eq_true (.inr ⟨by omega,by omega,by omega⟩))⟩,by simp only;omega,uKF⟩
 ·refine awp_exit ?_
  have hall:txtB s=true:=List.all_eq_true.2 fun x hx=>by
   obtain⟨j,hj',rfl⟩:=List.getElem_of_mem hx
   have h1:=hj j (by omega)
   rw[List.getD_eq_getElem?_getD,List.getElem?_eq_getElem hj'] at h1
   have h2:(decide ((s[j]).toNat=10\/(32<=(s[j]).toNat/\(s[j]).toNat<=126/\(s[j]).toNat≠124))&&true)=true:=h1
   rw[Bool.and_true] at h2
   exact h2
  rw[hall]
  repeat refine uA ?_
  (refine awp_ret (ret1 uRT ?_);try rfl)
open Go Go.Sym Go.Scr Go.Lib
def revB (r:Rev):Bool:=decide (1<=r.k/\r.k<=5)&&(r.flt.ok&&(numB r.amt&&(decide (r.k<=3)||decide (r.amt=0))))
def numsB (x:Acx):Bool:=numB x.node&&(numB x.img&&(numB x.dev&&numB x.con))
def bodyB (x:Acx):Bool:=
 if x.k=1 then x.mv.all (flawB 1 2)&&x.gl.all (flawB 3 6)
 else if x.k=3 then txtB x.txt
 else if x.k=5 then revB x.rev
 else if x.k=13 then x.flt.ok
 else if x.k=2\/x.k=10\/x.k=8\/x.k=9 then x.plt.ok&&numsB x
 else numsB x
def plainA (x:Acx):Bool:=decide (1<=x.k/\x.k<=14)&&(decide (x=only x)&&bodyB x)
theorem bad_word (w:Wr) (s:Bs):(wWord w s).2=(w.2||s.isEmpty):=rfl
theorem decW_emp (n:Int):(decW n).isEmpty=!numB n:=by
 unfold decW
 cases h:numB n with
 |true=>
  rw[if_pos rfl]
  cases h1:decDigits n.toNat with
  |nil=>exact absurd h1 (dec_ne _)
  |cons a b=>rfl
 |false=>rfl
theorem bad_num (w:Wr) (n:Int):(wNums w [n]).2=(w.2||!numB n):=by
 show(wWord w (decW n)).2=_
 rw[bad_word,decW_emp]
theorem bad_num2 (w:Wr) (n m:Int):(wNums w [n,m]).2=(w.2||!numB n||!numB m):=by
 show(wWord (wWord w (decW n)) (decW m)).2=_
 rw[bad_word,bad_word,decW_emp,decW_emp]
theorem plt_emp (p:Plt):p.fmt.isEmpty=!p.ok:=by
 cases h:p.ok with
 |true=>
  unfold Plt.fmt
  rw[if_pos h]
  rfl
 |false=>
  unfold Plt.fmt
  rw[if_neg (by rw[h];decide)]
  rfl
theorem flt_emp (f:Flt):f.fmt.isEmpty=!f.ok:=by
 cases h:f.ok with
 |true=>
  unfold Flt.fmt
  rw[if_pos h]
  simp
 |false=>
  unfold Flt.fmt
  rw[if_neg (by rw[h];decide)]
  rfl
theorem bad_faults (lo hi:Int):∀(l:List Flaw) (w:Wr),(wFaults lo hi l w).2=(w.2||!l.all (flawB lo hi))
 |[],w=>by show w.2=_;simp
 |f::r,w=>by
  unfold wFaults
  cases c:flawB lo hi f with
  |true=>
   rw[if_pos rfl,bad_faults lo hi r,bad_word]
   have:(wFault f).isEmpty=false:=by
    cases h:wFault f with
    |nil=>exact absurd h (wFault_ne f)
    |cons a b=>rfl
   rw[this,List.all_cons,c]
   simp
  |false=>
   rw[if_neg (by decide),List.all_cons,c]
   simp
theorem revN_emp {k:Int} (h:1<=k/\k<=5):(revN k).isEmpty=false:=by
 have:k=1\/k=2\/k=3\/k=4\/k=5:=by omega
 rcases this with rfl|rfl|rfl|rfl|rfl<;>rfl
theorem bad_rev (w:Wr) (r:Rev):(wRev w r).2=(w.2||!revB r):=by
 unfold wRev revB
 by_cases h:1<=r.k/\r.k<=5
 ·rw[if_pos h,decide_eq_true h]
  by_cases h4:4<=r.k
  ·rw[if_pos h4,decide_eq_false (by omega:¬r.k<=3)]
   simp only[bad_word,revN_emp h,flt_emp,Bool.or_false,Bool.true_and,Bool.false_or]
   by_cases h0:r.amt=0
   ·rw[decide_eq_true h0,h0,show numB 0=true from rfl]
    simp
   ·rw[decide_eq_false h0]
    simp
  ·rw[if_neg h4,decide_eq_true (by omega:r.k<=3),bad_num,bad_word,bad_word,revN_emp h,flt_emp]
   cases w.2<;>cases r.flt.ok<;>cases numB r.amt<;>rfl
 ·rw[if_neg h,decide_eq_false h]
  simp
theorem act_bad {x:Acx} (hk:1<=x.k/\x.k<=14) (ho:x=only x):(wAct ([],false) x).2=!bodyB x:=by
 have z:numB 0=true:=rfl
 unfold wAct bodyB numsB
 by_cases h1:x.k=1
 ·rw[if_pos h1,if_pos h1,bad_faults,bad_faults]
  have:(if x.lost=true then wWord (wWord ([],false) sTick) sLost else wWord ([],false) sTick).2=false:=by
   cases x.lost<;>rfl
  rw[this]
  cases x.mv.all (flawB 1 2)<;>cases x.gl.all (flawB 3 6)<;>rfl
 rw[if_neg h1,if_neg h1]
 by_cases h2:x.k=2
 ·have e:=ho
  unfold only at e
  rw[if_neg h1,if_pos (.inl h2)] at e
  have e1:=congrArg Acx.img e
  have e2:=congrArg Acx.dev e
  have e3:=congrArg Acx.con e
  simp only[A0] at e1 e2 e3
  rw[if_pos h2,if_neg (by omega),if_neg (by omega),if_neg (by omega),if_pos (by omega),bad_num,bad_word,bad_word,plt_emp,e1,e2,e3,z]
  cases x.plt.ok<;>cases numB x.node<;>rfl
 rw[if_neg h2]
 by_cases h3:x.k=3
 ·rw[if_pos h3,if_pos h3]
  rfl
 rw[if_neg h3,if_neg h3]
 by_cases h4:x.k=4
 ·have e:=ho
  unfold only at e
  rw[if_neg h1,if_neg (by omega),if_neg h3,if_pos h4] at e
  have e1:=congrArg Acx.node e
  have e2:=congrArg Acx.dev e
  have e3:=congrArg Acx.con e
  simp only[A0] at e1 e2 e3
  have hc:(if x.clr=true then sClear else sAlarm).isEmpty=false:=by cases x.clr<;>rfl
  rw[if_pos h4,bad_word,bad_num,bad_word,hc,if_neg (by omega),if_neg (by omega),if_neg (by omega),e1,e2,e3,z]
  cases numB x.img<;>rfl
 rw[if_neg h4]
 by_cases h5:x.k=5
 ·rw[if_pos h5,if_pos h5,bad_rev]
  rfl
 rw[if_neg h5,if_neg h5]
 by_cases h6:x.k=6
 ·have e:=ho
  unfold only at e
  rw[if_neg h1,if_neg (by omega),if_neg h3,if_neg h4,if_neg h5,if_pos (.inl h6)] at e
  have e1:=congrArg Acx.img e
  have e2:=congrArg Acx.dev e
  have e3:=congrArg Acx.con e
  simp only[A0] at e1 e2 e3
  rw[if_pos h6,if_neg (by omega),if_neg (by omega),bad_num,bad_word,e1,e2,e3,z]
  cases numB x.node<;>rfl
 rw[if_neg h6]
 by_cases h7:x.k=7
 ·have e:=ho
  unfold only at e
  rw[if_neg h1,if_neg (by omega),if_neg h3,if_neg h4,if_neg h5,if_pos (.inr h7)] at e
  have e1:=congrArg Acx.img e
  have e2:=congrArg Acx.dev e
  have e3:=congrArg Acx.con e
  simp only[A0] at e1 e2 e3
  rw[if_pos h7,if_neg (by omega),if_neg (by omega),bad_num,bad_word,e1,e2,e3,z]
  cases numB x.node<;>rfl
 rw[if_neg h7]
 by_cases h8:x.k=8
 ·have e:=ho
  unfold only at e
  rw[if_neg h1,if_neg (by omega),if_neg h3,if_neg h4,if_neg h5,if_neg (by omega),if_pos h8] at e
  have e1:=congrArg Acx.img e
  simp only[A0] at e1
  rw[if_pos h8,if_neg (by omega),if_pos (by omega),bad_num2,bad_word,bad_num,bad_word,plt_emp,e1,z]
  cases x.plt.ok<;>cases numB x.node<;>cases numB x.dev<;>cases numB x.con<;>rfl
 rw[if_neg h8]
 by_cases h9:x.k=9
 ·have e:=ho
  unfold only at e
  rw[if_neg h1,if_neg (by omega),if_neg h3,if_neg h4,if_neg h5,if_neg (by omega),if_neg h8,if_pos h9] at e
  have e1:=congrArg Acx.img e
  have e2:=congrArg Acx.node e
  simp only[A0] at e1 e2
  rw[if_pos h9,if_neg (by omega),if_pos (by omega),bad_num,bad_word,bad_num,bad_word,plt_emp,e1,e2,z]
  cases x.plt.ok<;>cases numB x.dev<;>cases numB x.con<;>rfl
 rw[if_neg h9]
 by_cases h10:x.k=10
 ·have e:=ho
  unfold only at e
  rw[if_neg h1,if_pos (.inr h10)] at e
  have e1:=congrArg Acx.img e
  have e2:=congrArg Acx.dev e
  have e3:=congrArg Acx.con e
  simp only[A0] at e1 e2 e3
  rw[if_pos h10,if_neg (by omega),if_pos (by omega),bad_num,bad_word,bad_word,plt_emp,e1,e2,e3,z]
  cases x.plt.ok<;>cases numB x.node<;>rfl
 rw[if_neg h10]
 by_cases h11:x.k=11
 ·have e:=ho
  unfold only at e
  rw[if_neg h1,if_neg (by omega),if_neg h3,if_neg h4,if_neg h5,if_neg (by omega),if_neg h8,if_neg h9,if_pos (.inl h11)] at e
  have e1:=congrArg Acx.img e
  have e2:=congrArg Acx.node e
  have e3:=congrArg Acx.con e
  simp only[A0] at e1 e2 e3
  rw[if_pos h11,if_neg (by omega),if_neg (by omega),bad_num,bad_word,e1,e2,e3,z]
  cases numB x.dev<;>rfl
 rw[if_neg h11]
 by_cases h12:x.k=12
 ·have e:=ho
  unfold only at e
  rw[if_neg h1,if_neg (by omega),if_neg h3,if_neg h4,if_neg h5,if_neg (by omega),if_neg h8,if_neg h9,if_pos (.inr h12)] at e
  have e1:=congrArg Acx.img e
  have e2:=congrArg Acx.node e
  have e3:=congrArg Acx.con e
  simp only[A0] at e1 e2 e3
  rw[if_pos h12,if_neg (by omega),if_neg (by omega),bad_num,bad_word,e1,e2,e3,z]
  cases numB x.dev<;>rfl
 rw[if_neg h12]
 by_cases h13:x.k=13
 ·rw[if_pos h13,if_pos h13,bad_word,bad_word,flt_emp]
  rfl
 have e:=ho
 unfold only at e
 rw[if_neg h1,if_neg (by omega),if_neg h3,if_neg h4,if_neg h5,if_neg (by omega),if_neg h8,if_neg h9,if_neg (by omega),if_neg h13] at e
 have e1:=congrArg Acx.img e
 have e2:=congrArg Acx.node e
 have e3:=congrArg Acx.con e
 have e4:=congrArg Acx.dev e
 simp only[A0] at e1 e2 e3 e4
 rw[if_neg h13,if_neg h13,if_neg (by omega),bad_word,e1,e2,e3,e4,z]
 rfl
theorem plainA_line (x:Acx):plainA x=(lineS x).isSome:=by
 unfold plainA lineS
 by_cases hk:1<=x.k/\x.k<=14
 ·by_cases ho:x=only x
  ·rw[decide_eq_true hk,decide_eq_true ho,Bool.true_and,Bool.true_and]
   have:=act_bad hk ho
   cases hb:bodyB x with
   |true=>
    rw[hb] at this
    rw[if_pos ⟨hk.1,hk.2,ho,this⟩]
    rfl
   |false=>
    rw[hb] at this
    rw[if_neg (fun h=>by rw[this] at h;exact absurd h.2.2.2 (by decide))]
    rfl
  ·rw[decide_eq_false ho,if_neg (fun h=>ho h.2.2.1)]
   simp
 ·rw[decide_eq_false hk,if_neg (fun h=>hk ⟨h.1,h.2.1⟩)]
  rfl
open Go.Scr
theorem revB_n0 {r:Rev} (h:decide (r.k<1)=true):revB r=false:=by
 unfold revB
 rw[decide_eq_false (by have:=of_decide_eq_true h;omega)]
 rfl
theorem revB_n1 {r:Rev} (h:decide (5<r.k)=true):revB r=false:=by
 unfold revB
 rw[decide_eq_false (by have:=of_decide_eq_true h;omega)]
 rfl
theorem revB_n2 {r:Rev} (h:r.flt.ok=false):revB r=false:=by
 unfold revB
 rw[h,Bool.false_and,Bool.and_false]
theorem revB_yes {r:Rev} (h0:decide (r.k<1)=false) (h1:decide (5<r.k)=false) (h2:r.flt.ok=true):revB r=(numB r.amt&&(decide (r.k<=3)||decide (r.amt=0))):=by
 unfold revB
 rw[h2,decide_eq_true (by have:=of_decide_eq_false h0;have:=of_decide_eq_false h1;omega),Bool.true_and,Bool.true_and]
theorem plain_lo (x:Acx) (hk:x.k<1):SatG Tryz.prog tab 37 [] [x.av] [] (B false):=by
 have k1:decide (x.k<1)=true:=decide_eq_true hk
 refine uFN Tryz.func37 Tryz.ntmps37 ?_;intro w e X hC
 refine uA ?_
 refine uD1 @k1 ?_;intro K hK
 refine uH ?_
 refine hK _ ?_;clear hK K
 refine uT ?_
 repeat refine uA ?_
 (refine awp_ret (ret1 uRT ?_);try rfl)
theorem plain_hi (x:Acx) (hk:14<x.k):SatG Tryz.prog tab 37 [] [x.av] [] (B false):=by
 have k1:=uDf (x.k<1)
 have k2:decide (14<x.k)=true:=decide_eq_true hk
 refine uFN Tryz.func37 Tryz.ntmps37 ?_;intro w e X hC
 refine uA ?_
 refine uD1 (uI @k1 @k2) ?_;intro K hK
 refine uH ?_
 refine hK _ ?_;clear hK K
 refine uT ?_
 repeat refine uA ?_
 (refine awp_ret (ret1 uRT ?_);try rfl)
theorem plain_sp (x:Acx) (hk:1<=x.k/\x.k<=14) (h1:x.mv.length<=1000000) (h2:x.gl.length<=1000000) (ho:¬x=only x) (h3:(only x).mv.length<=1000000) (h4:(only x).gl.length<=1000000):SatG Tryz.prog tab 37 [] [x.av] [] (B false):=by
 have k1:=uDf (x.k<1)
 have k2:=uDf (14<x.k)
 have g1:=only_sat x
 have g2:=rsame_sat x (only x) h1 h3 h2 h4
 rw[decide_eq_false ho] at g2
 refine uFN Tryz.func37 Tryz.ntmps37 ?_;intro w e X hC
 refine uA ?_
 refine uD1 (uI @k1 @k2) ?_;intro K hK
 refine uH ?_
 refine callP uTS (g1) uTS uTS uTS ?_;refine uS ?_
 refine uH ?_
 refine callF uTS (g2) uTS uTS uTS ?_;refine uS ?_
 refine uH ?_
 refine hK _ ?_;clear hK K
 refine uT ?_
 repeat refine uA ?_
 (refine awp_ret (ret1 uRT ?_);try rfl)
theorem plain_1 (x:Acx) (hk:1<=x.k/\x.k<=14) (h1:x.mv.length<=1000000) (h2:x.gl.length<=1000000) (ho:x=only x) (h3:(only x).mv.length<=1000000) (h4:(only x).gl.length<=1000000) (hq:x.k=1):SatG Tryz.prog tab 37 [] [x.av] [] (B (x.mv.all (flawB 1 2)&&x.gl.all (flawB 3 6))):=by
 have k1:=uDf (x.k<1)
 have k2:=uDf (14<x.k)
 have g1:=only_sat x
 have g2:=rsame_sat x (only x) h1 h3 h2 h4
 have e1:=uDt (x.k=1)
 have e3:=uDf (x.k=3)
 have e5:=uDf (x.k=5)
 have e2:=uDf (x.k=2)
 have e10:=uDf (x.k=10)
 have e8:=uDf (x.k=8)
 have e9:=uDf (x.k=9)
 have e13:=uDf (x.k=13)
 rw[decide_eq_true ho] at g2
 refine uFN Tryz.func37 Tryz.ntmps37 ?_;intro w e X hC
 refine uA ?_
 refine uD1 (uI @k1 @k2) ?_;intro K hK
 refine uH ?_
 refine callP uTS (g1) uTS uTS uTS ?_;refine uS ?_
 refine uH ?_
 refine callF uTS (g2) uTS uTS uTS ?_;refine uS ?_
 refine uH ?_
 refine hK _ ?_;clear hK K
 refine uF ?_
 repeat first|refine uC ?_|refine uA1 (uI @e1 (uI @e3 (uI @e5 (uI @e2 (uI @e10 (uI @e8 (uI @e9 @e13))))))) ?_
 clear g1 g2
 have g0:=rfaults_sat x.mv 1 2 h1
 have g1:=rfaults_sat x.gl 3 6 h2
 cases e0:x.mv.all (flawB 1 2) with
 |false=>
  rw[e0] at g0
  refine uR ?_;intro K hK
  refine uH ?_
  refine callF uTS (g0) uTS uTS uTS ?_;refine uS ?_
  try refine uS ?_
  refine uH ?_
  refine hK _ ?_;clear hK K
  (refine awp_ret (ret1 uRT ?_);try rfl)
 |true=>
  rw[e0] at g0
  cases e1:x.gl.all (flawB 3 6) with
  |false=>
   rw[e1] at g1
   refine uR ?_;intro K hK
   refine uH ?_
   refine callF uTS (g0) uTS uTS uTS ?_;refine uS ?_
   try refine uS ?_
   refine uH ?_
   refine callF uTS (g1) uTS uTS uTS ?_;refine uS ?_
   try refine uS ?_
   refine uH ?_
   refine hK _ ?_;clear hK K
   (refine awp_ret (ret1 uRT ?_);try rfl)
  |true=>
   rw[e1] at g1
   refine uR ?_;intro K hK
   refine uH ?_
   refine callF uTS (g0) uTS uTS uTS ?_;refine uS ?_
   try refine uS ?_
   refine uH ?_
   refine callF uTS (g1) uTS uTS uTS ?_;refine uS ?_
   try refine uS ?_
   refine uH ?_
   refine hK _ ?_;clear hK K
   (refine awp_ret (ret1 uRT ?_);try rfl)
theorem plain_3 (x:Acx) (hk:1<=x.k/\x.k<=14) (h1:x.mv.length<=1000000) (h2:x.gl.length<=1000000) (ho:x=only x) (h3:(only x).mv.length<=1000000) (h4:(only x).gl.length<=1000000) (hq:x.k=3) (h5:x.txt.length<=1000000):SatG Tryz.prog tab 37 [] [x.av] [] (B (txtB x.txt)):=by
 have k1:=uDf (x.k<1)
 have k2:=uDf (14<x.k)
 have g1:=only_sat x
 have g2:=rsame_sat x (only x) h1 h3 h2 h4
 have e1:=uDf (x.k=1)
 have e3:=uDt (x.k=3)
 have e5:=uDf (x.k=5)
 have e2:=uDf (x.k=2)
 have e10:=uDf (x.k=10)
 have e8:=uDf (x.k=8)
 have e9:=uDf (x.k=9)
 have e13:=uDf (x.k=13)
 rw[decide_eq_true ho] at g2
 refine uFN Tryz.func37 Tryz.ntmps37 ?_;intro w e X hC
 refine uA ?_
 refine uD1 (uI @k1 @k2) ?_;intro K hK
 refine uH ?_
 refine callP uTS (g1) uTS uTS uTS ?_;refine uS ?_
 refine uH ?_
 refine callF uTS (g2) uTS uTS uTS ?_;refine uS ?_
 refine uH ?_
 refine hK _ ?_;clear hK K
 refine uF ?_
 repeat first|refine uC ?_|refine uA1 (uI @e1 (uI @e3 (uI @e5 (uI @e2 (uI @e10 (uI @e8 (uI @e9 @e13))))))) ?_
 clear g1 g2
 have g0:=rtext_sat x.txt h5
 refine uR ?_;intro K hK
 refine uH ?_
 refine callF uTS (g0) uTS uTS uTS ?_;refine uS ?_
 refine uH ?_
 refine hK _ ?_;clear hK K
 (refine awp_ret (ret1 uRT ?_);try rfl)
theorem plain_13 (x:Acx) (hk:1<=x.k/\x.k<=14) (h1:x.mv.length<=1000000) (h2:x.gl.length<=1000000) (ho:x=only x) (h3:(only x).mv.length<=1000000) (h4:(only x).gl.length<=1000000) (hq:x.k=13) (h5:x.flt.car.length<=1000000) (h6:x.flt.suf.length<=1000000):SatG Tryz.prog tab 37 [] [x.av] [] (B (x.flt.ok)):=by
 have k1:=uDf (x.k<1)
 have k2:=uDf (14<x.k)
 have g1:=only_sat x
 have g2:=rsame_sat x (only x) h1 h3 h2 h4
 have e1:=uDf (x.k=1)
 have e3:=uDf (x.k=3)
 have e5:=uDf (x.k=5)
 have e2:=uDf (x.k=2)
 have e10:=uDf (x.k=10)
 have e8:=uDf (x.k=8)
 have e9:=uDf (x.k=9)
 have e13:=uDt (x.k=13)
 rw[decide_eq_true ho] at g2
 refine uFN Tryz.func37 Tryz.ntmps37 ?_;intro w e X hC
 refine uA ?_
 refine uD1 (uI @k1 @k2) ?_;intro K hK
 refine uH ?_
 refine callP uTS (g1) uTS uTS uTS ?_;refine uS ?_
 refine uH ?_
 refine callF uTS (g2) uTS uTS uTS ?_;refine uS ?_
 refine uH ?_
 refine hK _ ?_;clear hK K
 refine uF ?_
 repeat first|refine uC ?_|refine uA1 (uI @e1 (uI @e3 (uI @e5 (uI @e2 (uI @e10 (uI @e8 (uI @e9 @e13))))))) ?_
 clear g1 g2
 have g0:=rfvalid_sat x.flt h5 h6
 refine uR ?_;intro K hK
 refine uH ?_
 refine callF uTS (g0) uTS uTS uTS ?_;refine uS ?_
 refine uH ?_
 refine hK _ ?_;clear hK K
 (refine awp_ret (ret1 uRT ?_);try rfl)
theorem plain_0 (x:Acx) (hk:1<=x.k/\x.k<=14) (h1:x.mv.length<=1000000) (h2:x.gl.length<=1000000) (ho:x=only x) (h3:(only x).mv.length<=1000000) (h4:(only x).gl.length<=1000000) (hq:¬x.k=1/\¬x.k=3/\¬x.k=5/\¬x.k=2/\¬x.k=10/\¬x.k=8/\¬x.k=9/\¬x.k=13):SatG Tryz.prog tab 37 [] [x.av] [] (B (numsB x)):=by
 have k1:=uDf (x.k<1)
 have k2:=uDf (14<x.k)
 have g1:=only_sat x
 have g2:=rsame_sat x (only x) h1 h3 h2 h4
 have e1:=uDf (x.k=1)
 have e3:=uDf (x.k=3)
 have e5:=uDf (x.k=5)
 have e2:=uDf (x.k=2)
 have e10:=uDf (x.k=10)
 have e8:=uDf (x.k=8)
 have e9:=uDf (x.k=9)
 have e13:=uDf (x.k=13)
 rw[decide_eq_true ho] at g2
 refine uFN Tryz.func37 Tryz.ntmps37 ?_;intro w e X hC
 refine uA ?_
 refine uD1 (uI @k1 @k2) ?_;intro K hK
 refine uH ?_
 refine callP uTS (g1) uTS uTS uTS ?_;refine uS ?_
 refine uH ?_
 refine callF uTS (g2) uTS uTS uTS ?_;refine uS ?_
 refine uH ?_
 refine hK _ ?_;clear hK K
 refine uF ?_
 repeat first|refine uC ?_|refine uA1 (uI @e1 (uI @e3 (uI @e5 (uI @e2 (uI @e10 (uI @e8 (uI @e9 @e13))))))) ?_
 clear g1 g2
 have g0:SatG Tryz.prog tab 70 [] [I x.node] [] (B (numB x.node)):=num_sat _
 have g1:SatG Tryz.prog tab 70 [] [I x.img] [] (B (numB x.img)):=num_sat _
 have g2:SatG Tryz.prog tab 70 [] [I x.dev] [] (B (numB x.dev)):=num_sat _
 have g3:SatG Tryz.prog tab 70 [] [I x.con] [] (B (numB x.con)):=num_sat _
 rw[show numsB x=(numB x.node&&(numB x.img&&(numB x.dev&&numB x.con))) from rfl]
 cases e0:numB x.node with
 |false=>
  rw[e0] at g0
  refine uR ?_;intro K hK
  refine uH ?_
  refine callF uTS (g0) uTS uTS uTS ?_;refine uS ?_
  try refine uS ?_
  refine uH ?_
  refine hK _ ?_;clear hK K
  (refine awp_ret (ret1 uRT ?_);try rfl)
 |true=>
  rw[e0] at g0
  cases e1:numB x.img with
  |false=>
   rw[e1] at g1
   refine uR ?_;intro K hK
   refine uH ?_
   refine callF uTS (g0) uTS uTS uTS ?_;refine uS ?_
   try refine uS ?_
   refine uH ?_
   refine callF uTS (g1) uTS uTS uTS ?_;refine uS ?_
   try refine uS ?_
   refine uH ?_
   refine hK _ ?_;clear hK K
   (refine awp_ret (ret1 uRT ?_);try rfl)
  |true=>
   rw[e1] at g1
   cases e2:numB x.dev with
   |false=>
    rw[e2] at g2
    refine uR ?_;intro K hK
    refine uH ?_
    refine callF uTS (g0) uTS uTS uTS ?_;refine uS ?_
    try refine uS ?_
    refine uH ?_
    refine callF uTS (g1) uTS uTS uTS ?_;refine uS ?_
    try refine uS ?_
    refine uH ?_
    refine callF uTS (g2) uTS uTS uTS ?_;refine uS ?_
    try refine uS ?_
    refine uH ?_
    refine hK _ ?_;clear hK K
    (refine awp_ret (ret1 uRT ?_);try rfl)
   |true=>
    rw[e2] at g2
    cases e3:numB x.con with
    |false=>
     rw[e3] at g3
     refine uR ?_;intro K hK
     refine uH ?_
     refine callF uTS (g0) uTS uTS uTS ?_;refine uS ?_
     try refine uS ?_
     refine uH ?_
     refine callF uTS (g1) uTS uTS uTS ?_;refine uS ?_
     try refine uS ?_
     refine uH ?_
     refine callF uTS (g2) uTS uTS uTS ?_;refine uS ?_
     try refine uS ?_
     refine uH ?_
     refine callF uTS (g3) uTS uTS uTS ?_;refine uS ?_
     try refine uS ?_
     refine uH ?_
     refine hK _ ?_;clear hK K
     (refine awp_ret (ret1 uRT ?_);try rfl)
    |true=>
     rw[e3] at g3
     refine uR ?_;intro K hK
     refine uH ?_
     refine callF uTS (g0) uTS uTS uTS ?_;refine uS ?_
     try refine uS ?_
     refine uH ?_
     refine callF uTS (g1) uTS uTS uTS ?_;refine uS ?_
     try refine uS ?_
     refine uH ?_
     refine callF uTS (g2) uTS uTS uTS ?_;refine uS ?_
     try refine uS ?_
     refine uH ?_
     refine callF uTS (g3) uTS uTS uTS ?_;refine uS ?_
     try refine uS ?_
     refine uH ?_
     refine hK _ ?_;clear hK K
     (refine awp_ret (ret1 uRT ?_);try rfl)
theorem plain_2 (x:Acx) (hk:1<=x.k/\x.k<=14) (h1:x.mv.length<=1000000) (h2:x.gl.length<=1000000) (ho:x=only x) (h3:(only x).mv.length<=1000000) (h4:(only x).gl.length<=1000000) (hq:x.k=2):SatG Tryz.prog tab 37 [] [x.av] [] (B (x.plt.ok&&numsB x)):=by
 have k1:=uDf (x.k<1)
 have k2:=uDf (14<x.k)
 have g1:=only_sat x
 have g2:=rsame_sat x (only x) h1 h3 h2 h4
 have e1:=uDf (x.k=1)
 have e3:=uDf (x.k=3)
 have e5:=uDf (x.k=5)
 have e2:=uDt (x.k=2)
 have e10:=uDf (x.k=10)
 have e8:=uDf (x.k=8)
 have e9:=uDf (x.k=9)
 have e13:=uDf (x.k=13)
 rw[decide_eq_true ho] at g2
 refine uFN Tryz.func37 Tryz.ntmps37 ?_;intro w e X hC
 refine uA ?_
 refine uD1 (uI @k1 @k2) ?_;intro K hK
 refine uH ?_
 refine callP uTS (g1) uTS uTS uTS ?_;refine uS ?_
 refine uH ?_
 refine callF uTS (g2) uTS uTS uTS ?_;refine uS ?_
 refine uH ?_
 refine hK _ ?_;clear hK K
 refine uF ?_
 repeat first|refine uC ?_|refine uA1 (uI @e1 (uI @e3 (uI @e5 (uI @e2 (uI @e10 (uI @e8 (uI @e9 @e13))))))) ?_
 clear g1 g2
 have gp:=rvalid_sat x.plt
 refine uR ?_;intro K hK
 refine uH ?_
 refine callF uTS (gp) uTS uTS uTS ?_;refine uS ?_
 refine uH ?_
 refine hK _ ?_;clear hK K
 cases ep:x.plt.ok with
 |false=>
  refine uT ?_
  repeat refine uA ?_
  (refine awp_ret (ret1 uRT ?_);try rfl)
 |true=>
  refine uF ?_
  have g0:SatG Tryz.prog tab 70 [] [I x.node] [] (B (numB x.node)):=num_sat _
  have g1:SatG Tryz.prog tab 70 [] [I x.img] [] (B (numB x.img)):=num_sat _
  have g2:SatG Tryz.prog tab 70 [] [I x.dev] [] (B (numB x.dev)):=num_sat _
  have g3:SatG Tryz.prog tab 70 [] [I x.con] [] (B (numB x.con)):=num_sat _
  rw[show numsB x=(numB x.node&&(numB x.img&&(numB x.dev&&numB x.con))) from rfl]
  cases e0:numB x.node with
  |false=>
   rw[e0] at g0
   refine uR ?_;intro K hK
   refine uH ?_
   refine callF uTS (g0) uTS uTS uTS ?_;refine uS ?_
   try refine uS ?_
   refine uH ?_
   refine hK _ ?_;clear hK K
   (refine awp_ret (ret1 uRT ?_);try rfl)
  |true=>
   rw[e0] at g0
   cases e1:numB x.img with
   |false=>
    rw[e1] at g1
    refine uR ?_;intro K hK
    refine uH ?_
    refine callF uTS (g0) uTS uTS uTS ?_;refine uS ?_
    try refine uS ?_
    refine uH ?_
    refine callF uTS (g1) uTS uTS uTS ?_;refine uS ?_
    try refine uS ?_
    refine uH ?_
    refine hK _ ?_;clear hK K
    (refine awp_ret (ret1 uRT ?_);try rfl)
   |true=>
    rw[e1] at g1
    cases e2:numB x.dev with
    |false=>
     rw[e2] at g2
     refine uR ?_;intro K hK
     refine uH ?_
     refine callF uTS (g0) uTS uTS uTS ?_;refine uS ?_
     try refine uS ?_
     refine uH ?_
     refine callF uTS (g1) uTS uTS uTS ?_;refine uS ?_
     try refine uS ?_
     refine uH ?_
     refine callF uTS (g2) uTS uTS uTS ?_;refine uS ?_
     try refine uS ?_
     refine uH ?_
     refine hK _ ?_;clear hK K
     (refine awp_ret (ret1 uRT ?_);try rfl)
    |true=>
     rw[e2] at g2
     cases e3:numB x.con with
     |false=>
      rw[e3] at g3
      refine uR ?_;intro K hK
      refine uH ?_
      refine callF uTS (g0) uTS uTS uTS ?_;refine uS ?_
      try refine uS ?_
      refine uH ?_
      refine callF uTS (g1) uTS uTS uTS ?_;refine uS ?_
      try refine uS ?_
      refine uH ?_
      refine callF uTS (g2) uTS uTS uTS ?_;refine uS ?_
      try refine uS ?_
      refine uH ?_
      refine callF uTS (g3) uTS uTS uTS ?_;refine uS ?_
      try refine uS ?_
      refine uH ?_
      refine hK _ ?_;clear hK K
      (refine awp_ret (ret1 uRT ?_);try rfl)
     |true=>
      rw[e3] at g3
      refine uR ?_;intro K hK
      refine uH ?_
      refine callF uTS (g0) uTS uTS uTS ?_;refine uS ?_
      try refine uS ?_
      refine uH ?_
      refine callF uTS (g1) uTS uTS uTS ?_;refine uS ?_
      try refine uS ?_
      refine uH ?_
      refine callF uTS (g2) uTS uTS uTS ?_;refine uS ?_
      try refine uS ?_
      refine uH ?_
      refine callF uTS (g3) uTS uTS uTS ?_;refine uS ?_
      try refine uS ?_
      refine uH ?_
      refine hK _ ?_;clear hK K
      (refine awp_ret (ret1 uRT ?_);try rfl)
theorem plain_10 (x:Acx) (hk:1<=x.k/\x.k<=14) (h1:x.mv.length<=1000000) (h2:x.gl.length<=1000000) (ho:x=only x) (h3:(only x).mv.length<=1000000) (h4:(only x).gl.length<=1000000) (hq:x.k=10):SatG Tryz.prog tab 37 [] [x.av] [] (B (x.plt.ok&&numsB x)):=by
 have k1:=uDf (x.k<1)
 have k2:=uDf (14<x.k)
 have g1:=only_sat x
 have g2:=rsame_sat x (only x) h1 h3 h2 h4
 have e1:=uDf (x.k=1)
 have e3:=uDf (x.k=3)
 have e5:=uDf (x.k=5)
 have e2:=uDf (x.k=2)
 have e10:=uDt (x.k=10)
 have e8:=uDf (x.k=8)
 have e9:=uDf (x.k=9)
 have e13:=uDf (x.k=13)
 rw[decide_eq_true ho] at g2
 refine uFN Tryz.func37 Tryz.ntmps37 ?_;intro w e X hC
 refine uA ?_
 refine uD1 (uI @k1 @k2) ?_;intro K hK
 refine uH ?_
 refine callP uTS (g1) uTS uTS uTS ?_;refine uS ?_
 refine uH ?_
 refine callF uTS (g2) uTS uTS uTS ?_;refine uS ?_
 refine uH ?_
 refine hK _ ?_;clear hK K
 refine uF ?_
 repeat first|refine uC ?_|refine uA1 (uI @e1 (uI @e3 (uI @e5 (uI @e2 (uI @e10 (uI @e8 (uI @e9 @e13))))))) ?_
 clear g1 g2
 have gp:=rvalid_sat x.plt
 refine uR ?_;intro K hK
 refine uH ?_
 refine callF uTS (gp) uTS uTS uTS ?_;refine uS ?_
 refine uH ?_
 refine hK _ ?_;clear hK K
 cases ep:x.plt.ok with
 |false=>
  refine uT ?_
  repeat refine uA ?_
  (refine awp_ret (ret1 uRT ?_);try rfl)
 |true=>
  refine uF ?_
  have g0:SatG Tryz.prog tab 70 [] [I x.node] [] (B (numB x.node)):=num_sat _
  have g1:SatG Tryz.prog tab 70 [] [I x.img] [] (B (numB x.img)):=num_sat _
  have g2:SatG Tryz.prog tab 70 [] [I x.dev] [] (B (numB x.dev)):=num_sat _
  have g3:SatG Tryz.prog tab 70 [] [I x.con] [] (B (numB x.con)):=num_sat _
  rw[show numsB x=(numB x.node&&(numB x.img&&(numB x.dev&&numB x.con))) from rfl]
  cases e0:numB x.node with
  |false=>
   rw[e0] at g0
   refine uR ?_;intro K hK
   refine uH ?_
   refine callF uTS (g0) uTS uTS uTS ?_;refine uS ?_
   try refine uS ?_
   refine uH ?_
   refine hK _ ?_;clear hK K
   (refine awp_ret (ret1 uRT ?_);try rfl)
  |true=>
   rw[e0] at g0
   cases e1:numB x.img with
   |false=>
    rw[e1] at g1
    refine uR ?_;intro K hK
    refine uH ?_
    refine callF uTS (g0) uTS uTS uTS ?_;refine uS ?_
    try refine uS ?_
    refine uH ?_
    refine callF uTS (g1) uTS uTS uTS ?_;refine uS ?_
    try refine uS ?_
    refine uH ?_
    refine hK _ ?_;clear hK K
    (refine awp_ret (ret1 uRT ?_);try rfl)
   |true=>
    rw[e1] at g1
    cases e2:numB x.dev with
    |false=>
     rw[e2] at g2
     refine uR ?_;intro K hK
     refine uH ?_
     refine callF uTS (g0) uTS uTS uTS ?_;refine uS ?_
     try refine uS ?_
     refine uH ?_
     refine callF uTS (g1) uTS uTS uTS ?_;refine uS ?_
     try refine uS ?_
     refine uH ?_
     refine callF uTS (g2) uTS uTS uTS ?_;refine uS ?_
     try refine uS ?_
     refine uH ?_
     refine hK _ ?_;clear hK K
     (refine awp_ret (ret1 uRT ?_);try rfl)
    |true=>
     rw[e2] at g2
     cases e3:numB x.con with
     |false=>
      rw[e3] at g3
      refine uR ?_;intro K hK
      refine uH ?_
      refine callF uTS (g0) uTS uTS uTS ?_;refine uS ?_
      try refine uS ?_
      refine uH ?_
      refine callF uTS (g1) uTS uTS uTS ?_;refine uS ?_
      try refine uS ?_
      refine uH ?_
      refine callF uTS (g2) uTS uTS uTS ?_;refine uS ?_
      try refine uS ?_
      refine uH ?_
      refine callF uTS (g3) uTS uTS uTS ?_;refine uS ?_
      try refine uS ?_
      refine uH ?_
      refine hK _ ?_;clear hK K
      (refine awp_ret (ret1 uRT ?_);try rfl)
     |true=>
      rw[e3] at g3
      refine uR ?_;intro K hK
      refine uH ?_
      refine callF uTS (g0) uTS uTS uTS ?_;refine uS ?_
      try refine uS ?_
      refine uH ?_
      refine callF uTS (g1) uTS uTS uTS ?_;refine uS ?_
      try refine uS ?_
      refine uH ?_
      refine callF uTS (g2) uTS uTS uTS ?_;refine uS ?_
      try refine uS ?_
      refine uH ?_
      refine callF uTS (g3) uTS uTS uTS ?_;refine uS ?_
      try refine uS ?_
      refine uH ?_
      refine hK _ ?_;clear hK K
      (refine awp_ret (ret1 uRT ?_);try rfl)
theorem plain_8 (x:Acx) (hk:1<=x.k/\x.k<=14) (h1:x.mv.length<=1000000) (h2:x.gl.length<=1000000) (ho:x=only x) (h3:(only x).mv.length<=1000000) (h4:(only x).gl.length<=1000000) (hq:x.k=8):SatG Tryz.prog tab 37 [] [x.av] [] (B (x.plt.ok&&numsB x)):=by
 have k1:=uDf (x.k<1)
 have k2:=uDf (14<x.k)
 have g1:=only_sat x
 have g2:=rsame_sat x (only x) h1 h3 h2 h4
 have e1:=uDf (x.k=1)
 have e3:=uDf (x.k=3)
 have e5:=uDf (x.k=5)
 have e2:=uDf (x.k=2)
 have e10:=uDf (x.k=10)
 have e8:=uDt (x.k=8)
 have e9:=uDf (x.k=9)
 have e13:=uDf (x.k=13)
 rw[decide_eq_true ho] at g2
 refine uFN Tryz.func37 Tryz.ntmps37 ?_;intro w e X hC
 refine uA ?_
 refine uD1 (uI @k1 @k2) ?_;intro K hK
 refine uH ?_
 refine callP uTS (g1) uTS uTS uTS ?_;refine uS ?_
 refine uH ?_
 refine callF uTS (g2) uTS uTS uTS ?_;refine uS ?_
 refine uH ?_
 refine hK _ ?_;clear hK K
 refine uF ?_
 repeat first|refine uC ?_|refine uA1 (uI @e1 (uI @e3 (uI @e5 (uI @e2 (uI @e10 (uI @e8 (uI @e9 @e13))))))) ?_
 clear g1 g2
 have gp:=rvalid_sat x.plt
 refine uR ?_;intro K hK
 refine uH ?_
 refine callF uTS (gp) uTS uTS uTS ?_;refine uS ?_
 refine uH ?_
 refine hK _ ?_;clear hK K
 cases ep:x.plt.ok with
 |false=>
  refine uT ?_
  repeat refine uA ?_
  (refine awp_ret (ret1 uRT ?_);try rfl)
 |true=>
  refine uF ?_
  have g0:SatG Tryz.prog tab 70 [] [I x.node] [] (B (numB x.node)):=num_sat _
  have g1:SatG Tryz.prog tab 70 [] [I x.img] [] (B (numB x.img)):=num_sat _
  have g2:SatG Tryz.prog tab 70 [] [I x.dev] [] (B (numB x.dev)):=num_sat _
  have g3:SatG Tryz.prog tab 70 [] [I x.con] [] (B (numB x.con)):=num_sat _
  rw[show numsB x=(numB x.node&&(numB x.img&&(numB x.dev&&numB x.con))) from rfl]
  cases e0:numB x.node with
  |false=>
   rw[e0] at g0
   refine uR ?_;intro K hK
   refine uH ?_
   refine callF uTS (g0) uTS uTS uTS ?_;refine uS ?_
   try refine uS ?_
   refine uH ?_
   refine hK _ ?_;clear hK K
   (refine awp_ret (ret1 uRT ?_);try rfl)
  |true=>
   rw[e0] at g0
   cases e1:numB x.img with
   |false=>
    rw[e1] at g1
    refine uR ?_;intro K hK
    refine uH ?_
    refine callF uTS (g0) uTS uTS uTS ?_;refine uS ?_
    try refine uS ?_
    refine uH ?_
    refine callF uTS (g1) uTS uTS uTS ?_;refine uS ?_
    try refine uS ?_
    refine uH ?_
    refine hK _ ?_;clear hK K
    (refine awp_ret (ret1 uRT ?_);try rfl)
   |true=>
    rw[e1] at g1
    cases e2:numB x.dev with
    |false=>
     rw[e2] at g2
     refine uR ?_;intro K hK
     refine uH ?_
     refine callF uTS (g0) uTS uTS uTS ?_;refine uS ?_
     try refine uS ?_
     refine uH ?_
     refine callF uTS (g1) uTS uTS uTS ?_;refine uS ?_
     try refine uS ?_
     refine uH ?_
     refine callF uTS (g2) uTS uTS uTS ?_;refine uS ?_
     try refine uS ?_
     refine uH ?_
     refine hK _ ?_;clear hK K
     (refine awp_ret (ret1 uRT ?_);try rfl)
    |true=>
     rw[e2] at g2
     cases e3:numB x.con with
     |false=>
      rw[e3] at g3
      refine uR ?_;intro K hK
      refine uH ?_
      refine callF uTS (g0) uTS uTS uTS ?_;refine uS ?_
      try refine uS ?_
      refine uH ?_
      refine callF uTS (g1) uTS uTS uTS ?_;refine uS ?_
      try refine uS ?_
      refine uH ?_
      refine callF uTS (g2) uTS uTS uTS ?_;refine uS ?_
      try refine uS ?_
      refine uH ?_
      refine callF uTS (g3) uTS uTS uTS ?_;refine uS ?_
      try refine uS ?_
      refine uH ?_
      refine hK _ ?_;clear hK K
      (refine awp_ret (ret1 uRT ?_);try rfl)
     |true=>
      rw[e3] at g3
      refine uR ?_;intro K hK
      refine uH ?_
      refine callF uTS (g0) uTS uTS uTS ?_;refine uS ?_
      try refine uS ?_
      refine uH ?_
      refine callF uTS (g1) uTS uTS uTS ?_;refine uS ?_
      try refine uS ?_
      refine uH ?_
      refine callF uTS (g2) uTS uTS uTS ?_;refine uS ?_
      try refine uS ?_
      refine uH ?_
      refine callF uTS (g3) uTS uTS uTS ?_;refine uS ?_
      try refine uS ?_
      refine uH ?_
      refine hK _ ?_;clear hK K
      (refine awp_ret (ret1 uRT ?_);try rfl)
theorem plain_9 (x:Acx) (hk:1<=x.k/\x.k<=14) (h1:x.mv.length<=1000000) (h2:x.gl.length<=1000000) (ho:x=only x) (h3:(only x).mv.length<=1000000) (h4:(only x).gl.length<=1000000) (hq:x.k=9):SatG Tryz.prog tab 37 [] [x.av] [] (B (x.plt.ok&&numsB x)):=by
 have k1:=uDf (x.k<1)
 have k2:=uDf (14<x.k)
 have g1:=only_sat x
 have g2:=rsame_sat x (only x) h1 h3 h2 h4
 have e1:=uDf (x.k=1)
 have e3:=uDf (x.k=3)
 have e5:=uDf (x.k=5)
 have e2:=uDf (x.k=2)
 have e10:=uDf (x.k=10)
 have e8:=uDf (x.k=8)
 have e9:=uDt (x.k=9)
 have e13:=uDf (x.k=13)
 rw[decide_eq_true ho] at g2
 refine uFN Tryz.func37 Tryz.ntmps37 ?_;intro w e X hC
 refine uA ?_
 refine uD1 (uI @k1 @k2) ?_;intro K hK
 refine uH ?_
 refine callP uTS (g1) uTS uTS uTS ?_;refine uS ?_
 refine uH ?_
 refine callF uTS (g2) uTS uTS uTS ?_;refine uS ?_
 refine uH ?_
 refine hK _ ?_;clear hK K
 refine uF ?_
 repeat first|refine uC ?_|refine uA1 (uI @e1 (uI @e3 (uI @e5 (uI @e2 (uI @e10 (uI @e8 (uI @e9 @e13))))))) ?_
 clear g1 g2
 have gp:=rvalid_sat x.plt
 refine uR ?_;intro K hK
 refine uH ?_
 refine callF uTS (gp) uTS uTS uTS ?_;refine uS ?_
 refine uH ?_
 refine hK _ ?_;clear hK K
 cases ep:x.plt.ok with
 |false=>
  refine uT ?_
  repeat refine uA ?_
  (refine awp_ret (ret1 uRT ?_);try rfl)
 |true=>
  refine uF ?_
  have g0:SatG Tryz.prog tab 70 [] [I x.node] [] (B (numB x.node)):=num_sat _
  have g1:SatG Tryz.prog tab 70 [] [I x.img] [] (B (numB x.img)):=num_sat _
  have g2:SatG Tryz.prog tab 70 [] [I x.dev] [] (B (numB x.dev)):=num_sat _
  have g3:SatG Tryz.prog tab 70 [] [I x.con] [] (B (numB x.con)):=num_sat _
  rw[show numsB x=(numB x.node&&(numB x.img&&(numB x.dev&&numB x.con))) from rfl]
  cases e0:numB x.node with
  |false=>
   rw[e0] at g0
   refine uR ?_;intro K hK
   refine uH ?_
   refine callF uTS (g0) uTS uTS uTS ?_;refine uS ?_
   try refine uS ?_
   refine uH ?_
   refine hK _ ?_;clear hK K
   (refine awp_ret (ret1 uRT ?_);try rfl)
  |true=>
   rw[e0] at g0
   cases e1:numB x.img with
   |false=>
    rw[e1] at g1
    refine uR ?_;intro K hK
    refine uH ?_
    refine callF uTS (g0) uTS uTS uTS ?_;refine uS ?_
    try refine uS ?_
    refine uH ?_
    refine callF uTS (g1) uTS uTS uTS ?_;refine uS ?_
    try refine uS ?_
    refine uH ?_
    refine hK _ ?_;clear hK K
    (refine awp_ret (ret1 uRT ?_);try rfl)
   |true=>
    rw[e1] at g1
    cases e2:numB x.dev with
    |false=>
     rw[e2] at g2
     refine uR ?_;intro K hK
     refine uH ?_
     refine callF uTS (g0) uTS uTS uTS ?_;refine uS ?_
     try refine uS ?_
     refine uH ?_
     refine callF uTS (g1) uTS uTS uTS ?_;refine uS ?_
     try refine uS ?_
     refine uH ?_
     refine callF uTS (g2) uTS uTS uTS ?_;refine uS ?_
     try refine uS ?_
     refine uH ?_
     refine hK _ ?_;clear hK K
     (refine awp_ret (ret1 uRT ?_);try rfl)
    |true=>
     rw[e2] at g2
     cases e3:numB x.con with
     |false=>
      rw[e3] at g3
      refine uR ?_;intro K hK
      refine uH ?_
      refine callF uTS (g0) uTS uTS uTS ?_;refine uS ?_
      try refine uS ?_
      refine uH ?_
      refine callF uTS (g1) uTS uTS uTS ?_;refine uS ?_
      try refine uS ?_
      refine uH ?_
      refine callF uTS (g2) uTS uTS uTS ?_;refine uS ?_
      try refine uS ?_
      refine uH ?_
      refine callF uTS (g3) uTS uTS uTS ?_;refine uS ?_
      try refine uS ?_
      refine uH ?_
      refine hK _ ?_;clear hK K
      (refine awp_ret (ret1 uRT ?_);try rfl)
     |true=>
      rw[e3] at g3
      refine uR ?_;intro K hK
      refine uH ?_
      refine callF uTS (g0) uTS uTS uTS ?_;refine uS ?_
      try refine uS ?_
      refine uH ?_
      refine callF uTS (g1) uTS uTS uTS ?_;refine uS ?_
      try refine uS ?_
      refine uH ?_
      refine callF uTS (g2) uTS uTS uTS ?_;refine uS ?_
      try refine uS ?_
      refine uH ?_
      refine callF uTS (g3) uTS uTS uTS ?_;refine uS ?_
      try refine uS ?_
      refine uH ?_
      refine hK _ ?_;clear hK K
      (refine awp_ret (ret1 uRT ?_);try rfl)
theorem plain_5 (x:Acx) (hk:1<=x.k/\x.k<=14) (h1:x.mv.length<=1000000) (h2:x.gl.length<=1000000) (ho:x=only x) (h3:(only x).mv.length<=1000000) (h4:(only x).gl.length<=1000000) (hq:x.k=5) (h5:x.rev.flt.car.length<=1000000) (h6:x.rev.flt.suf.length<=1000000):SatG Tryz.prog tab 37 [] [x.av] [] (B (revB x.rev)):=by
 have k1:=uDf (x.k<1)
 have k2:=uDf (14<x.k)
 have g1:=only_sat x
 have g2:=rsame_sat x (only x) h1 h3 h2 h4
 have e1:=uDf (x.k=1)
 have e3:=uDf (x.k=3)
 have e5:=uDt (x.k=5)
 have e2:=uDf (x.k=2)
 have e10:=uDf (x.k=10)
 have e8:=uDf (x.k=8)
 have e9:=uDf (x.k=9)
 have e13:=uDf (x.k=13)
 rw[decide_eq_true ho] at g2
 refine uFN Tryz.func37 Tryz.ntmps37 ?_;intro w e X hC
 refine uA ?_
 refine uD1 (uI @k1 @k2) ?_;intro K hK
 refine uH ?_
 refine callP uTS (g1) uTS uTS uTS ?_;refine uS ?_
 refine uH ?_
 refine callF uTS (g2) uTS uTS uTS ?_;refine uS ?_
 refine uH ?_
 refine hK _ ?_;clear hK K
 refine uF ?_
 repeat first|refine uC ?_|refine uA1 (uI @e1 (uI @e3 (uI @e5 (uI @e2 (uI @e10 (uI @e8 (uI @e9 @e13))))))) ?_
 clear g1 g2
 have g2:=rfvalid_sat x.rev.flt h5 h6
 cases e0:decide (x.rev.k<1) with
 |true=>
  refine uR1 @e0 ?_;intro K hK
  refine uH ?_
  refine hK _ ?_;clear hK K
  refine uT ?_
  rw[revB_n0 e0]
  repeat refine uA ?_
  (refine awp_ret (ret1 uRT ?_);try rfl)
 |false=>
  cases e1:decide (5<x.rev.k) with
  |true=>
   refine uR1 (uI @e0 @e1) ?_;intro K hK
   refine uH ?_
   refine hK _ ?_;clear hK K
   refine uT ?_
   rw[revB_n1 e1]
   repeat refine uA ?_
   (refine awp_ret (ret1 uRT ?_);try rfl)
  |false=>
   cases e2:x.rev.flt.ok with
   |false=>
    rw[e2] at g2
    refine uR1 (uI @e0 @e1) ?_;intro K hK
    refine uH ?_
    refine callF uTS (g2) uTS uTS uTS ?_;refine uS ?_
    try refine uS1 (uI @e0 @e1) ?_
    refine uH ?_
    refine hK _ ?_;clear hK K
    refine uT ?_
    rw[revB_n2 e2]
    repeat refine uA ?_
    (refine awp_ret (ret1 uRT ?_);try rfl)
   |true=>
    rw[e2] at g2
    refine uR1 (uI @e0 @e1) ?_;intro K hK
    refine uH ?_
    refine callF uTS (g2) uTS uTS uTS ?_;refine uS ?_
    try refine uS1 (uI @e0 @e1) ?_
    refine uH ?_
    refine hK _ ?_;clear hK K
    refine uF ?_
    rw[revB_yes e0 e1 e2]
    clear g2
    have g0:SatG Tryz.prog tab 70 [] [I x.rev.amt] [] (B (numB x.rev.amt)):=num_sat _
    cases f0:numB x.rev.amt with
    |false=>
     rw[f0] at g0
     refine uR ?_;intro K hK
     refine uH ?_
     refine callF uTS (g0) uTS uTS uTS ?_;refine uS ?_
     refine uH ?_
     refine hK _ ?_;clear hK K
     (refine awp_ret (ret1 uRT ?_);try rfl)
    |true=>
     rw[f0] at g0
     cases f1:decide (x.rev.k<=3) with
     |true=>
      refine uR1 @f1 ?_;intro K hK
      refine uH ?_
      refine callF uTS (g0) uTS uTS uTS ?_;refine uS ?_
      try refine uS1 @f1 ?_
      refine uH ?_
      refine hK _ ?_;clear hK K
      (refine awp_ret (ret1 uRT ?_);try rfl)
     |false=>
      refine uR1 @f1 ?_;intro K hK
      refine uH ?_
      refine callF uTS (g0) uTS uTS uTS ?_;refine uS ?_
      try refine uS1 @f1 ?_
      refine uH ?_
      refine hK _ ?_;clear hK K
      (refine awp_ret (ret1 uRT ?_);try rfl)
theorem only_mv (x:Acx):(only x).mv.length<=x.mv.length:=by
 unfold only
 split
 ·exact Nat.le_refl _
 ·repeat' split
  all_goals exact Nat.zero_le _
theorem only_gl (x:Acx):(only x).gl.length<=x.gl.length:=by
 unfold only
 split
 ·exact Nat.le_refl _
 ·repeat' split
  all_goals exact Nat.zero_le _
theorem plain_sat (x:Acx) (hx:SmA x):SatG Tryz.prog tab 37 [] [x.av] [] (B (plainA x)):=by
 have h1:x.mv.length<=1000000:=by have:=hx.mv;omega
 have h2:x.gl.length<=1000000:=by have:=hx.gl;omega
 have h3:(only x).mv.length<=1000000:=by have:=only_mv x;omega
 have h4:(only x).gl.length<=1000000:=by have:=only_gl x;omega
 by_cases k1:x.k<1
 ·rw[show plainA x=false by unfold plainA;rw[decide_eq_false (by omega)];rfl]
  exact plain_lo x k1
 by_cases k2:14<x.k
 ·rw[show plainA x=false by unfold plainA;rw[decide_eq_false (by omega)];rfl]
  exact plain_hi x k2
 have hk:1<=x.k/\x.k<=14:=by omega
 by_cases ho:x=only x
 ·rw[show plainA x=bodyB x by unfold plainA;rw[decide_eq_true hk,decide_eq_true ho];rfl]
  unfold bodyB
  by_cases q1:x.k=1
  ·rw[if_pos q1];exact plain_1 x hk h1 h2 ho h3 h4 q1
  rw[if_neg q1]
  by_cases q3:x.k=3
  ·rw[if_pos q3];exact plain_3 x hk h1 h2 ho h3 h4 q3 hx.tx
  rw[if_neg q3]
  by_cases q5:x.k=5
  ·rw[if_pos q5];exact plain_5 x hk h1 h2 ho h3 h4 q5 hx.rc hx.rs
  rw[if_neg q5]
  by_cases q13:x.k=13
  ·rw[if_pos q13];exact plain_13 x hk h1 h2 ho h3 h4 q13 hx.fc hx.fs
  rw[if_neg q13]
  by_cases q2:x.k=2
  ·rw[if_pos (by omega)];exact plain_2 x hk h1 h2 ho h3 h4 q2
  by_cases q10:x.k=10
  ·rw[if_pos (by omega)];exact plain_10 x hk h1 h2 ho h3 h4 q10
  by_cases q8:x.k=8
  ·rw[if_pos (by omega)];exact plain_8 x hk h1 h2 ho h3 h4 q8
  by_cases q9:x.k=9
  ·rw[if_pos (by omega)];exact plain_9 x hk h1 h2 ho h3 h4 q9
  rw[if_neg (by omega)]
  exact plain_0 x hk h1 h2 ho h3 h4 ⟨q1,q3,q5,q2,q10,q8,q9,q13⟩
 ·rw[show plainA x=false by unfold plainA;rw[decide_eq_false ho,Bool.false_and,Bool.and_false]]
  exact plain_sp x hk h1 h2 ho h3 h4
end Go.Proofs.YtokkbonoplbiaaaGreatDoor
