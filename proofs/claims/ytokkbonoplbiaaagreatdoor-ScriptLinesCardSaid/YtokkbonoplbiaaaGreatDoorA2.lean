/- Lemmas towards scriptLines_card: no conditions of their own beyond those that each one states. -/
import Derived.Test.YtokkbonoplbiaaaGreatDoorA1
import Derived.Laws.IdiomCopy
import Derived.Laws.BytesString
import Derived.MapKept
import Derived.Lib.ConvBytes
import Derived.TacticsIn
import Derived.RangeFuncLeaves
import Derived.RangeFuncRecord
import Derived.OrdersIn
set_option linter.all false
set_option linter.unusedSimpArgs false
set_option linter.unusedVariables false
set_option linter.deprecated false
namespace Go.Sym
open Go Go.Great
section
variable {C:Cx} {e:Env} {G:Nat->Prop} {g:Nat} {hp:Hp} {w:World} {T:Tab}
theorem info_one {P:Program} {t:Nat} {ti:TI} (hf:TFit P t ti) (h:ti.size=1):(P.info? t).map (·.size)=some 1:=by
 obtain⟨i,h1,h2,_⟩:=hf.info
 simp[h1,h2,h]
theorem HRel.same_get {hp':Hp} (h:HRel w e G hp) (hh:∀i,hp'.get i=hp.get i):HRel w e G hp':=h.congr (fun _=>Iff.rfl) hh
theorem run_copy_row_cl {P:Program} (w:World) (dT sT ty elem:TypeId) (b o dLen dCap:Nat) (a:Addr) (sLen sCap:Nat) (cur:Array Value) (t:TypeId) (cs:List Value)
  (hu:P.underlying dT=some (.slice elem)) (hs:(P.info? elem).map (·.size)=some 1) (hg:Cl w b cur t) (hn:cs.length=Nat.min sLen dLen)
  (hsrc:∀j v,cs[j]?=some v->w.cell? (a.add j)=some v) (hfit:o+cs.length<=cur.size) (h1:∀v∈cs,v.oneCell'=true):
  (Builtin.copy_ #[dT,sT] ty #[.slice (some ⟨b,o,none⟩) dLen dCap, .slice (some a) sLen sCap]).run P w=
   .ok (goInt cs.length) (w.setRow b (cur.toList.take o++cs++cur.toList.drop (o+cs.length)).toArray):=by
 obtain⟨fz,hg,hnf⟩:=hg
 have hl:=run_loadCells_list (P:=P) w a cs hsrc
 have hst:=run_storeCells_cl (P:=P) (off:=o) cs 0 cur w hg hnf (by simpa using hfit) h1
 cases hq:P.info? elem with
 |none=>simp[hq] at hs
 |some i=>
  have hi:i.size=1:=by simpa[hq] using hs
  simp[Builtin.copy_,run_underlying hu,Builtin.lenOf,Builtin.firstCells,sizeOf,typeInfo,hq,hi,<-hn,hl,hst]
theorem opCopy_ok (p:Pre C e G g hp w) (hT:TOk C.P T) {t st ty:Nat} {d x:AV} {xd xx:Value} (hd:VR w (UE e) e G d xd) (hx:VR w (UE e) e G x xx) (h:(opCopy T t hp d x).1):
  OpOk C e G g hp w (opCopy T t hp d x) (((Builtin.copy_ #[t,st] ty #[xd,xx]).run C.P w).andThen fun v w=> .ok (.value v) w):=by
 unfold opCopy at h ⊢
 split at h
 ·rename_i el id g' off len ys hty hs
  split at h
  ·rename_i g'' t' k es hg
   obtain⟨rfl,hl,rfl,hes,hsp,h1,h2,h0⟩:=h
   obtain⟨dd,hu,hdd⟩:=(hT.fit hty (by simp)).under
   rw[hty] at hdd;cases hdd
   have hf:=hT.fits (t:=el) (by omega)
   have hi1:=info_one hf hes
   obtain⟨ee,he,hgg,hn,hok,hor⟩:=slO_val p.hr hd hg hl
   obtain⟨hk,_,hk0,hkl,q1,hb⟩:=hor
   obtain⟨news,hsrc⟩:=src_ok p.hr hx hsp hs (k:=1) (by omega) h1 fun y hy c hc=>(h2 y hy c hc).2
   obtain⟨a,cap,hshape⟩:=hsrc.shape
   have hnl:news.length=ys.length:=by rw[hsrc.len];omega
   unfold SlOK at hok
   cases hbl:ee.blk with
   |none=>rw[hbl] at hok;omega
   |some q=>
    obtain⟨b,bcap⟩:=q
    rw[hbl] at hok hb
    obtain⟨dcap,rfl,hcp,hlc⟩:=hok
    obtain⟨hm,hlb,cs,hh,hsz,hv⟩:=hb
    have hbo:ObjB e b:=⟨id,ee,bcap,he,hbl⟩
    generalize hN:min ys.length len=N
    have hrun:(Builtin.copy_ #[t,st] ty #[.slice (some ⟨b,off*ee.k,none⟩) len dcap,xx]).run C.P w=
      .ok (goInt N) (w.setRow b (cs.toList.take (off*ee.k)++news.take N++cs.toList.drop (off*ee.k+N)).toArray):=by
     by_cases hz:N=0
     ·subst hshape
      rw[run_copy_none w t st ty el _ _ _ _ _ _ hu hi1 (by show min ys.length len=0;omega)]
      subst hz
      simp only[List.take_zero,List.append_nil,Nat.add_zero,List.take_append_drop,Array.toArray_toList]
      obtain⟨fz,hh,_⟩:=hh
      rw[setRow_self w b cs t' fz hh];rfl
     ·obtain⟨b',off',cap',hx',hc'⟩:=hsrc.at_.resolve_left (by omega)
      have hlen:(news.take N).length=N:=by simp;omega
      have:=run_copy_row_cl (P:=C.P) w t st ty el b (off*ee.k) len dcap ⟨b',off',none⟩ ys.length cap' cs t' (news.take N) hu hi1 hh (by rw[hlen];exact hN.symm) (fun j v hj=>hc' j v (by
       rw[List.getElem?_take] at hj
       split at hj
       ·exact hj
       ·cases hj)) (by rw[hlen,hsz,hk];omega) (fun v hv=>hsrc.oneCell (by omega) v (List.mem_of_mem_take hv))
      rw[hlen,<-hx'] at this
      exact this
    rw[hrun,Result.andThen_ok]
    have hlen:(news.take N).length=N:=by simp;omega
    have hk1:ee.k=1:=hk
    subst hgg
    refine(wr_obj p he hbl _ ?_ (.inl ⟨_,rfl, .dat _ _ (.lit _ rfl)⟩)).2
    generalize hcs':(cs.toList.take (off*ee.k)++news.take N++cs.toList.drop (off*ee.k+N)).toArray=cs'
    have ext:=Ext.write (w:=w) (g:=g) (G:=G) he hbl cs'
    have hlen':(es.take off++ys.take N++es.drop (off+N)).length=es.length:=by simp;omega
    have get1:∀i (hi:i<(es.take off++ys.take N++es.drop (off+N)).length),∃(_:i<es.length),(off<=i/\i<off+N/\∃(h':i - off<ys.length),(es.take off++ys.take N++es.drop (off+N))[i]=ys[i - off]/\cs'.getD i undef=news.getD (i - off) undef)\/
      ((es.take off++ys.take N++es.drop (off+N))[i]=es[i]'(by omega)/\cs'.getD i undef=cs.getD i undef):=by
     intro i hi
     have hie:i<es.length:=by omega
     refine⟨hie,?_⟩
     have hcv:cs'.getD i undef=if off<=i/\i<off+N then(news.take N).getD (i - off) undef else cs.getD i undef:=by
      rw[<-hcs',hk1,Nat.mul_one]
      have:=getD_splice (cur:=cs.toList) (vs:=news.take N) (off:=off) (j:=i) (by rw[hlen,Array.length_toList,hsz];omega)
      rw[hlen] at this
      rw[this]
     by_cases hr:off<=i/\i<off+N
     ·left
      have hy:i - off<ys.length:=by omega
      refine⟨hr.1,hr.2,hy,?_,?_⟩
      ·rw[List.getElem_append_left (by simp;omega),List.getElem_append_right (by simp;omega),List.getElem_take]
       congr 1
       simp;omega
      ·rw[hcv,if_pos hr,List.getD_eq_getElem?_getD,List.getD_eq_getElem?_getD,List.getElem?_take,if_pos (by omega)]
     ·right
      refine⟨?_,by rw[hcv,if_neg hr]⟩
      by_cases h1:i<off
      ·rw[List.getElem_append_left (by simp;omega),List.getElem_append_left (by simp;omega),List.getElem_take]
      ·rw[List.getElem_append_right (by simp;omega),List.getElem_drop]
       congr 1
       simp;omega
    refine⟨hk,by rw[hn,hlen'],hk0,?_,?_,?_⟩
    ·intro i hi
     obtain⟨hie,⟨_,_,h',h3,_⟩|⟨h3,_⟩⟩:=get1 i hi
     ·rw[h3];exact hsrc.lens _ h'
     ·rw[h3];exact hkl _ _
    ·intro i hi j hj
     obtain⟨hie,⟨_,_,h',h3,_⟩|⟨h3,_⟩⟩:=get1 i hi
     ·simp only[h3] at hj ⊢;exact hsrc.one _ h' _ _
     ·simp only[h3] at hj ⊢;exact q1 _ _ _ _
    ·rw[hbl]
     refine⟨hm,by rw[hlen'];exact hlb,cs',hh.setRow ?_,?_,?_⟩
     ·rw[<-hcs',hsz,hk1];simp only[List.size_toArray,List.length_append,List.length_take,List.length_drop,Array.length_toList];omega
     ·rw[<-hcs',hk1];simp only[List.size_toArray,List.length_append,List.length_take,List.length_drop,Array.length_toList];omega
     ·intro i hi j hj
      obtain⟨hie,⟨h5,h6,h',h3,h4⟩|⟨h3,h4⟩⟩:=get1 i hi
      ·have hj0:j=0:=by
        simp only[h3] at hj
        have:=hsrc.lens _ h'
        omega
       subst hj0
       simp only[Nat.mul_one,Nat.add_zero,h4,h3]
       have:=hsrc.vals _ h' 0 (by rw[hsrc.lens _ h'];omega)
       simp only[Nat.mul_one,Nat.add_zero] at this
       exact .val _ _ (this.ext ext)
      ·have hj0:j=0:=by
        simp only[h3] at hj
        have:=hkl _ hie
        omega
       subst hj0
       simp only[Nat.mul_one,Nat.add_zero,h4,h3]
       have:=hv _ hie 0 (by rw[hkl _ hie];omega)
       simp only[Nat.mul_one,Nat.add_zero] at this
       refine this.ext ext fun b1 hb1=>⟨setRow_other w b b1 cs' ?_,hb1⟩
       rintro rfl
       have:=p.hr.ko b1 hbo
       rw[hb1] at this;cases this
  ·exact h.elim
 ·exact h.elim
theorem zeroCells_getD {z:Array Value} {n k:Nat} (hz:z.size=k) {i j:Nat} (hi:i<n) (hj:j<k):(Builtin.zeroCells z n).toList.getD (i*k+j) undef=z.getD j undef:=by
 have hlt:=mul_lt_of hi hj
 have hmod:=(divmod_of (i:=i) hj).2
 simp only[Builtin.zeroCells,List.getD_eq_getElem?_getD,Array.getElem?_toList,Array.getElem?_map,Array.getElem?_range,hz,hlt,if_true,Option.map_some,Option.getD_some,hmod,Array.getD_eq_getD_getElem?]
 have:j<z.size:=by omega
 simp[this]
theorem opClear_ok (p:Pre C e G g hp w) (hT:TOk C.P T) {t ty:Nat} {d:AV} {xd:Value} (hd:VR w (UE e) e G d xd) (h:(opClear T t hp d).1):
  OpOk C e G g hp w (opClear T t hp d) (((Builtin.clear_ #[t] ty #[xd]).run C.P w).andThen fun v w=> .ok (.value v) w):=by
 unfold opClear at h ⊢
 split at h
 ·rename_i el id g' off len hty
  split at h
  ·rename_i g'' t' k es hg
   obtain⟨rfl,hl,hkz⟩:=h
   obtain⟨dd,hu,hdd⟩:=(hT.fit hty (by simp)).under
   rw[hty] at hdd;cases hdd
   obtain⟨ee,he,hgg,hn,hok,hor⟩:=slO_val p.hr hd hg hl
   obtain⟨hk,_,hk0,hkl,q1,hb⟩:=hor
   have hf:=hT.fits (t:=el) (by omega)
   obtain⟨v1,v2,v3⟩:=zval_zav (w:=w) hf (UE e)
   obtain⟨c1,c2,c3⟩:=cells_valsD v1 v2
   have htup:∀w' e' G',VR w' (UE e') e' G' (.tup []) (.tuple #[]):=fun w' e' G'=> .dat _ _ (.tup [] #[] rfl (fun i hi=>by simp at hi))
   by_cases hz:len=0
   ·obtain⟨a,cap,rfl⟩:=hok.shape
    subst hz
    have hrun:(Builtin.clear_ #[t] ty #[.slice a 0 cap]).run C.P w= .ok (.tuple #[]) w:=by
     cases a<;>simp[Builtin.clear_,run_underlying hu]
    rw[hrun,Result.andThen_ok]
    have x1:=Ext.wide w e G g
    refine⟨_,w,e,rfl,p.hr.wide.same_get fun j=>?_,x1,p.ln.wide g,p.fr, .inl ⟨_,rfl,htup _ _ _⟩⟩
    simp only[List.cons_append,List.nil_append,List.replicate_zero,List.append_nil]
    by_cases hj:j=id
    ·subst hj;rw[Hp.get_cons_same,hg,List.take_of_length_le (by omega)]
    ·rw[Hp.get_cons_other _ _ hj]
   ·unfold SlOK at hok
    cases hbl:ee.blk with
    |none=>rw[hbl] at hok;omega
    |some q=>
     obtain⟨b,bcap⟩:=q
     rw[hbl] at hok hb
     obtain⟨cap,rfl,hcp,hlc⟩:=hok
     obtain⟨hm,hlb,cs,hh,hsz,hv⟩:=hb
     have hbo:ObjB e b:=⟨id,ee,bcap,he,hbl⟩
     have hzz:(tl T el).zval.cells.size=k:=by rw[c1,v3,hkz]
     have hzl:(Builtin.zeroCells (tl T el).zval.cells len).toList.length=len*k:=by rw[Array.length_toList,size_zeroCells,hzz]
     have hfit:off*k+len*k<=cs.size:=by rw[hsz,<-Nat.add_mul];exact Nat.mul_le_mul_right _ (by omega)
     obtain⟨fz,hh0,hnf⟩:=hh
     have hh:Cl w b cs t':=⟨fz,hh0,hnf⟩
     have hst:=run_storeCells_cl (P:=C.P) (off:=off*ee.k) (Builtin.zeroCells (tl T el).zval.cells len).toList 0 cs w hh0 hnf (by rw[hk,hzl];omega) (by
      intro v hv'
      obtain⟨i,hi,rfl⟩:=List.getElem_of_mem hv'
      have hil:i<len*k:=by rw[<-hzl];exact hi
      have e1:i / k*k+i % k=i:=by rw[Nat.mul_comm];exact Nat.div_add_mod i k
      have:=zeroCells_getD (n:=len) hzz (i:=i / k) (j:=i % k) ((Nat.div_lt_iff_lt_mul hk0).2 hil) (Nat.mod_lt _ hk0)
      rw[e1,List.getD_eq_getElem?_getD,List.getElem?_eq_getElem hi] at this
      simp only[Option.getD_some] at this
      rw[this]
      have hlt:i % k<(tl T el).zval.cells.size:=by rw[hzz];exact Nat.mod_lt _ hk0
      rw[Array.getD_eq_getD_getElem?,Array.getElem?_eq_getElem hlt]
      exact c3 _ (Array.getElem_mem _))
     have hrun:(Builtin.clear_ #[t] ty #[.slice (some ⟨b,off*ee.k,none⟩) len cap]).run C.P w=
       .ok (.tuple #[]) (w.setRow b (cs.toList.take (off*ee.k)++(Builtin.zeroCells (tl T el).zval.cells len).toList++cs.toList.drop (off*ee.k+len*k)).toArray):=by
      match len,hz with
      |n+1,_=>
       simp[Builtin.clear_,run_underlying hu,run_zeroValue' hf,hst,hzl]
     rw[hrun,Result.andThen_ok]
     subst hgg
     refine(wr_obj p he hbl _ ?_ (.inl ⟨_,rfl,htup _ _ _⟩)).2
     generalize hcs':(cs.toList.take (off*ee.k)++(Builtin.zeroCells (tl T el).zval.cells len).toList++cs.toList.drop (off*ee.k+len*k)).toArray=cs'
     have ext:=Ext.write (w:=w) (g:=g) (G:=G) he hbl cs'
     have hlen':(es.take off++List.replicate len (tl T el).zav).length=es.length:=by simp;omega
     have get1:∀i (hi:i<(es.take off++List.replicate len (tl T el).zav).length),∃(_:i<es.length),((es.take off++List.replicate len (tl T el).zav)[i]=(tl T el).zav/\∀j,j<k->cs'.getD (i*k+j) undef=(tl T el).zval.cells.getD j undef)\/
       ((es.take off++List.replicate len (tl T el).zav)[i]=es[i]'(by omega)/\∀j,j<k->cs'.getD (i*k+j) undef=cs.getD (i*k+j) undef):=by
      intro i hi
      have hie:i<es.length:=by omega
      refine⟨hie,?_⟩
      have hcv:∀c,cs'.getD c undef=if off*k<=c/\c<off*k+len*k then(Builtin.zeroCells (tl T el).zval.cells len).toList.getD (c - off*k) undef else cs.getD c undef:=by
       intro c
       rw[<-hcs',hk]
       have:=getD_splice (cur:=cs.toList) (vs:=(Builtin.zeroCells (tl T el).zval.cells len).toList) (off:=off*k) (j:=c) (by rw[hzl,Array.length_toList];omega)
       rw[hzl] at this
       rw[this]
      by_cases hr:i<off
      ·right
       refine⟨by rw[List.getElem_append_left (by simp;omega),List.getElem_take],fun j hj=>?_⟩
       rw[hcv,if_neg]
       have:i*k+j<off*k:=mul_lt_of hr hj
       omega
      ·left
       refine⟨by rw[List.getElem_append_right (by simp;omega)];simp,fun j hj=>?_⟩
       have h1:off*k<=i*k:=Nat.mul_le_mul_right _ (by omega)
       have h2:i*k+j<(off+len)*k:=mul_lt_of (by omega) hj
       rw[Nat.add_mul] at h2
       rw[hcv,if_pos ⟨by omega,h2⟩]
       have h3:i*k+j - off*k=(i - off)*k+j:=by rw[Nat.sub_mul];omega
       rw[h3]
       exact zeroCells_getD hzz (by omega) hj
     refine⟨hk,by rw[hn,hlen'],hk0,?_,?_,?_⟩
     ·intro i hi
      obtain⟨hie,⟨h3,_⟩|⟨h3,_⟩⟩:=get1 i hi
      ·rw[h3,v3,hkz]
      ·rw[h3];exact hkl _ _
     ·intro i hi j hj
      obtain⟨hie,⟨h3,_⟩|⟨h3,_⟩⟩:=get1 i hi
      ·simp only[h3] at hj ⊢;exact v2 _ (List.getElem_mem _)
      ·simp only[h3] at hj ⊢;exact q1 _ _ _ _
     ·rw[hbl]
      refine⟨hm,by rw[hlen'];exact hlb,cs',hh.setRow ?_,?_,?_⟩
      ·rw[<-hcs',hk];simp only[List.size_toArray,List.length_append,List.length_take,List.length_drop,Array.length_toList,size_zeroCells,hzz];omega
      ·rw[<-hcs',hk];simp only[List.size_toArray,List.length_append,List.length_take,List.length_drop,Array.length_toList,size_zeroCells,hzz];omega
      ·intro i hi j hj
       obtain⟨hie,⟨h3,h4⟩|⟨h3,h4⟩⟩:=get1 i hi
       ·have hjk:j<k:=by simp only[h3,v3] at hj;omega
        have hj':j<(tl T el).zav.cells.length:=by omega
        rw[h4 j hjk]
        simp only[h3]
        exact .val _ _ (.dat _ _ ((c2 j hj').mono ext.size ext.un ext.same))
       ·have hjk:j<k:=by simp only[h3] at hj;have:=hkl _ hie;omega
        rw[h4 j hjk]
        simp only[h3] at hj ⊢
        refine(hv _ hie j hj).ext ext fun b1 hb1=>⟨setRow_other w b b1 cs' ?_,hb1⟩
        rintro rfl
        have:=p.hr.ko b1 hbo
        rw[hb1] at this;cases this
  ·exact h.elim
 ·exact h.elim
theorem bytesOf_spec:∀{ys:List AV} {bs:List UInt8},bytesOf ys=some bs->∃ns:List Int,ys=ns.map (fun n=> .lit (.int .u8 n))/\bs=ns.map fun n=>UInt8.ofNat n.toNat
 |[],bs,h=>by simp only[bytesOf,Option.some.injEq] at h;subst h;exact⟨[],rfl,rfl⟩
 |y::ys,bs,h=>by
  unfold bytesOf at h
  split at h
  ·rename_i heq;cases heq
  ·rename_i n heq
   cases heq
   cases hb:bytesOf ys with
   |none=>rw[hb] at h;cases h
   |some bs'=>
    rw[hb] at h
    simp only[Option.map_some,Option.some.injEq] at h
    obtain⟨ns,h1,h2⟩:=bytesOf_spec hb
    subst h1 h2 h
    exact⟨_::ns,rfl,rfl⟩
  ·cases h
theorem push_fold (ns:List Int):∀s:ByteArray,ns.foldl (fun r n=>r.push (UInt8.ofNat n.toNat)) s=⟨(s.data.toList++ns.map fun n=>UInt8.ofNat n.toNat).toArray⟩:=by
 induction ns with
 |nil=>intro s;cases s;simp
 |cons n ns ih=>
  intro s
  rw[List.foldl_cons,ih]
  congr 1
  cases s
  simp[ByteArray.push]
theorem bytes_ok (p:Pre C e G g hp w) {src dst el:Nat} (hs:C.P.underlying src=some (.slice el)) (he:C.P.underlying el=some (.int .u8)) (hd:C.P.underlying dst=some .string) {v:AV} {x:Value} (hx:VR w (UE e) e G v x)
  {ys:List AV} (hsv:srcE hp v=some ys) (hsp:srcP hp v) {bs:List UInt8} (hb:bytesOf ys=some bs) {P:Prop}:
  OpOk C e G g hp w (P, .lit (.string (strOf bs)),[]) (((convert src dst x).run C.P w).andThen fun v w=> .ok (.value v) w):=by
 obtain⟨ns,rfl,rfl⟩:=bytesOf_spec hb
 obtain⟨news,hsrc⟩:=src_ok p.hr hx hsp hsv (k:=1) (by omega) (by
  intro y hy
  obtain⟨n,_,rfl⟩:=List.mem_map.1 hy
  rfl) (by
  intro y hy c hc
  obtain⟨n,_,rfl⟩:=List.mem_map.1 hy
  simp only[AV.cells,List.mem_singleton] at hc
  subst hc;rfl)
 obtain⟨a,cap,rfl⟩:=hsrc.shape
 rw[run_convert_bytes_string w src dst el a _ cap hs he hd]
 have hnews:news=ns.map (Value.int .u8):=by
  apply List.ext_getElem?
  intro i
  by_cases hi:i<ns.length
  ·have h0:=hsrc.vals i (by simpa using hi) 0 (by simp[AV.cells])
   simp only[List.getElem_map,AV.cells,List.getElem_singleton,Nat.mul_one,Nat.add_zero] at h0
   obtain⟨h1,_⟩:=h0.lit_inv
   have hin:i<news.length:=by rw[hsrc.len];simpa using hi
   rw[List.getD_eq_getElem?_getD,List.getElem?_eq_getElem hin] at h1
   simp only[Option.getD_some] at h1
   rw[List.getElem?_eq_getElem hin,h1]
   simp[hi]
  ·rw[List.getElem?_eq_none (by rw[hsrc.len];simp;omega),List.getElem?_eq_none (by simp;omega)]
 have hrun:(Conv.bytesToString (.slice a (ns.map fun n=>AV.lit (.int .u8 n)).length cap)).run C.P w= .ok (.string (strOf (ns.map fun n=>UInt8.ofNat n.toNat))) w:=by
  cases a with
  |none=>
   have:ns=[]:=by
    rcases hsrc.at_ with h|⟨b,off,cap',h,_⟩
    ·simpa using h
    ·cases h
   subst this
   simp[Conv.bytesToString,strOf,ByteArray.empty,ByteArray.emptyWithCapacity];rfl
  |some ad=>
   have hl:=run_loadCells_list (P:=C.P) w ad news (fun j v hj=>by
    rcases hsrc.at_ with h|⟨b,off,cap',h,hc⟩
    ·rw[List.getElem?_eq_none (by rw[hsrc.len,h];omega)] at hj;cases hj
    ·cases h;exact hc j v hj)
   rw[hsrc.len,Nat.mul_one,hnews] at hl
   rw[run_bytesToString w ad _ cap ns hl,push_fold]
   rfl
 rw[hrun,Result.andThen_ok]
 exact .pure p (.dat _ _ (.lit _ rfl))
theorem eqC_ok {P:Program} (w:World) (d:Nat) {t:Nat} {z:ZC} {td:TypeDesc} (hu:P.underlying t=some td) (hz:z.eqs td) {a b:AV} {x y:Value} {U:Nat->Prop} {e:Env} {G:Nat->Prop} (ha:VR w U e G a x) (hb:VR w U e G b y)
  (h:(eqC z a b).1):(Op.equalIn (d+1) t x y).run P w= .ok (eqC z a b).2 w:=by
 unfold eqC at h ⊢
 split at h
 ·obtain⟨rfl,_⟩:=ha.lit_inv
  obtain⟨rfl,_⟩:=hb.lit_inv
  obtain⟨k,rfl⟩:=hz
  subst h
  rw[run_equalIn_int w d t _ k _ _ hu];rfl
 ·obtain⟨rfl,_⟩:=ha.lit_inv
  obtain⟨rfl,_⟩:=hb.lit_inv
  cases hz
  rw[run_equalIn_bool w d t _ _ hu]
 ·obtain⟨rfl,_⟩:=ha.lit_inv
  obtain⟨rfl,_⟩:=hb.lit_inv
  cases hz
  rw[run_equalIn_string w d t _ _ hu,ByteArray.toList_eq,ByteArray.toList_eq]
  congr 1
  rw[Bool.eq_iff_iff];simp
 ·exact h.elim
theorem part_one {P:Program} (w:World) {t o:Nat} {z:ZC} {td:TypeDesc} (hu:P.underlying t=some td) (hz:z.eqs td) {cs:Array Value} (hlt:o<cs.size):(part t cs o).run P w= .ok (cs.getD o undef) w:=by
 unfold part isAgg
 rw[Sem.run_bind,Sem.run_bind,run_underlying hu]
 cases z<;>first|exact hz.elim|skip
 ·obtain⟨k,rfl⟩:=hz;simp[hlt,Array.getD_eq_getD_getElem?]
 ·cases hz;simp[hlt,Array.getD_eq_getD_getElem?]
 ·cases hz;simp[hlt,Array.getD_eq_getD_getElem?]
theorem eqCs_len:∀{zs:List ZC} {as bs:List AV},(eqCs zs as bs).1->as.length=zs.length/\bs.length=zs.length
 |[],[],[],_=>⟨rfl,rfl⟩
 |z::zs,a::as,b::bs,h=>by
  obtain⟨h1,h2⟩:=eqCs_len h.2
  exact⟨by simp[h1],by simp[h2]⟩
 |[],_::_,_,h=>h.elim
 |[],[],_::_,h=>h.elim
 |_::_,[],_,h=>h.elim
 |_::_,_::_,[],h=>h.elim
theorem eqCs_app:∀{z1 z2:List ZC} {as bs:List AV},(eqCs (z1++z2) as bs).1->∃a1 a2 b1 b2,as=a1++a2/\bs=b1++b2/\(eqCs z1 a1 b1).1/\(eqCs z2 a2 b2).1/\(eqCs (z1++z2) as bs).2=((eqCs z1 a1 b1).2&&(eqCs z2 a2 b2).2)
 |[],z2,as,bs,h=>⟨[],as,[],bs,rfl,rfl,trivial,h,by simp[eqCs]⟩
 |z::z1,z2,a::as,b::bs,h=>by
  obtain⟨h1,h2⟩:=h
  obtain⟨a1,a2,b1,b2,rfl,rfl,k1,k2,k3⟩:=eqCs_app (z1:=z1) h2
  refine⟨a::a1,a2,b::b1,b2,rfl,rfl,⟨h1,k1⟩,k2,?_⟩
  have e1:(eqCs ((z::z1)++z2) (a::(a1++a2)) (b::(b1++b2))).2=((eqC z a b).2&&(eqCs (z1++z2) (a1++a2) (b1++b2)).2):=rfl
  have e2:(eqCs (z::z1) (a::a1) (b::b1)).2=((eqC z a b).2&&(eqCs z1 a1 b1).2):=rfl
  rw[e1,e2,k3,Bool.and_assoc]
 |_::_,_,[],_,h=>h.elim
 |_::_,_,_::_,[],h=>h.elim
theorem eqCs_ok {P:Program} (w:World) {U:Nat->Prop} {e:Env} {G:Nat->Prop} {n o:Nat} {fs:List Field} {zs:List ZC} (hF:EqF P n o fs zs):∀(d:Nat) (as bs:List AV) (xs ys:Array Value),n<=d->
  (∀i (h:i<as.length),VR w U e G as[i] (xs.getD (o+i) undef))->(∀i (h:i<bs.length),VR w U e G bs[i] (ys.getD (o+i) undef))->o+as.length<=xs.size->o+bs.length<=ys.size->
  (eqCs zs as bs).1->(Op.eqFields (d+1) xs ys fs).run P w= .ok (eqCs zs as bs).2 w:=by
 induction hF with
 |nil n o=>
  intro d as bs xs ys _ _ _ _ _ h
  cases as<;>cases bs<;>first|exact h.elim|simp[Op.eqFields,eqCs]
 |one n o f fs z zs td f1 f2 f3 f4 _ ih=>
  intro d as bs xs ys hd ha hb hs1 hs2 h
  cases as with
  |nil=>exact h.elim
  |cons a as=>cases bs with
   |nil=>exact h.elim
   |cons b bs=>
    obtain⟨h1,h2⟩:=h
    have a0:=ha 0 (by simp)
    have b0:=hb 0 (by simp)
    simp only[List.getElem_cons_zero,Nat.add_zero] at a0 b0
    have hlt1:o<xs.size:=by simp at hs1;omega
    have hlt2:o<ys.size:=by simp at hs2;omega
    have ih:=ih d as bs xs ys hd
     (fun i hi=>by have:=ha (i+1) (by simpa using hi);simp only[List.getElem_cons_succ] at this;rw[show o+1+i=o+(i+1) from by omega];exact this)
     (fun i hi=>by have:=hb (i+1) (by simpa using hi);simp only[List.getElem_cons_succ] at this;rw[show o+1+i=o+(i+1) from by omega];exact this)
     (by simp at hs1;omega) (by simp at hs2;omega) h2
    have heq:=eqC_ok w d f3 f4 a0 b0 h1
    unfold Op.eqFields
    rw[if_pos f1,Sem.run_bind,f2,part_one w f3 f4 hlt1,Result.andThen_ok,Sem.run_bind,part_one w f3 f4 hlt2,Result.andThen_ok,Sem.run_bind,heq,Result.andThen_ok]
    unfold eqCs
    cases hr:(eqC z a b).2 with
    |true=>simp only[Bool.not_true,Bool.false_eq_true,if_false,Bool.true_and];exact ih
    |false=>simp
 |sub n o f fs z1 z2 i f1 f2 f3 f4 f5 f6 _ _ ih1 ih2=>
  intro d as bs xs ys hd ha hb hs1 hs2 h
  obtain⟨a1,a2,b1,b2,rfl,rfl,k1,k2,k3⟩:=eqCs_app h
  obtain⟨la,lb⟩:=eqCs_len k1
  rw[k3]
  obtain⟨d,rfl⟩:∃d',d=d'+1:=⟨d - 1,by omega⟩
  simp only[List.length_append] at hs1 hs2
  have hpart:∀cs:Array Value,(part f.type cs o).run P w= .ok (.agg (cs.extract o (o+z1.length))) w:=by
   intro cs
   unfold part isAgg
   simp[run_underlying f3,sizeOf,typeInfo,f5,f6,Result.andThen]
  have hex:∀(cs:Array Value) (i:Nat),i<z1.length->o+z1.length<=cs.size->(cs.extract o (o+z1.length)).getD (0+i) undef=cs.getD (o+i) undef:=by
   intro cs i hi hle
   rw[Array.getD_eq_getD_getElem?,Array.getD_eq_getD_getElem?,Array.getElem?_extract,Nat.zero_add,if_pos (by omega)]
  have q1:=ih1 d a1 b1 (xs.extract o (o+z1.length)) (ys.extract o (o+z1.length)) (by omega)
   (fun i hi=>by
    have:=ha i (by simp;omega)
    rw[List.getElem_append_left hi] at this
    rw[hex xs i (by omega) (by omega)];exact this)
   (fun i hi=>by
    have:=hb i (by simp;omega)
    rw[List.getElem_append_left hi] at this
    rw[hex ys i (by omega) (by omega)];exact this)
   (by simp;omega) (by simp;omega) k1
  have q2:=ih2 (d+1) a2 b2 xs ys hd
   (fun i hi=>by
    have:=ha (a1.length+i) (by simp;omega)
    rw[List.getElem_append_right (by omega)] at this
    simp only[Nat.add_sub_cancel_left] at this
    rw[show o+z1.length+i=o+(a1.length+i) from by omega];exact this)
   (fun i hi=>by
    have:=hb (b1.length+i) (by simp;omega)
    rw[List.getElem_append_right (by omega)] at this
    simp only[Nat.add_sub_cancel_left] at this
    rw[show o+z1.length+i=o+(b1.length+i) from by omega];exact this)
   (by omega) (by omega) k2
  unfold Op.eqFields
  rw[if_pos f1,Sem.run_bind,f2,hpart,Result.andThen_ok,Sem.run_bind,hpart,Result.andThen_ok,Sem.run_bind,run_equalIn_agg w (d+1) f.type _ _ f3 f4,q1,Result.andThen_ok]
  cases hr:(eqCs z1 a1 b1).2 with
  |true=>simp only[Bool.not_true,Bool.false_eq_true,if_false,Bool.true_and];exact q2
  |false=>simp
theorem bopAgg_ok (p:Pre C e G g hp w) (hT:TOk C.P T) (op:BinOp) {t:Nat} {x y:Operand} {as bs:List AV} {xa xb:Value} (ha:VR w (UE e) e G (.agg as) xa) (hb:VR w (UE e) e G (.agg bs) xb) (h:(bopAgg op (tl T t) as bs).1):
  OpOk C e G g hp w (bopAgg op (tl T t) as bs) (((do eqGuard op t x y xa xb;let v<-binOp op t xa xb;Pure.pure (Next.value v)):Sem Next).run C.P w):=by
 obtain⟨xs,rfl,hl1,_,hv1⟩:=ha.agg_inv
 obtain⟨ys,rfl,hl2,_,hv2⟩:=hb.agg_inv
 have main:(tl T t).eq=true->(eqCs (tl T t).zs as bs).1->(eqGuard op t x y (.agg xs) (.agg ys)).run C.P w= .ok () w/\(Op.equalIn 10000 t (.agg xs) (.agg ys)).run C.P w= .ok (eqCs (tl T t).zs as bs).2 w:=by
  intro h1 h3
  have hfit:TFit C.P t (tl T t):=by
   rcases hT t with h|h
   ·rw[h] at h1;cases h1
   ·exact h
  obtain⟨q1,q2,q3,q4⟩:=hfit.eqs h1
  obtain⟨k1,k2⟩:=eqCs_len h3
  refine⟨run_eqGuard_agg w op t x y xs ys q3,?_⟩
  rw[run_equalIn_agg w 9999 t xs ys q1 q2]
  exact eqCs_ok w (U:=UE e) (e:=e) (G:=G) q4 9998 as bs xs ys (by omega) (fun i hi=>by rw[Nat.zero_add];exact hv1 i hi) (fun i hi=>by rw[Nat.zero_add];exact hv2 i hi) (by omega) (by omega) h3
 cases op<;>simp only[bopAgg,R.no,R.val] at h ⊢
 case eql=>
  obtain⟨h1,h2⟩:=main h.1 h.2
  rw[Sem.run_bind,h1,Result.andThen_ok,Sem.run_bind,run_eql_struct,h2]
  simp only[Result.andThen_ok,Sem.run_pure]
  exact ok_bool p _ _
 case neq=>
  obtain⟨h1,h2⟩:=main h.1 h.2
  rw[Sem.run_bind,h1,Result.andThen_ok,Sem.run_bind,run_neq_struct,h2]
  simp only[Result.andThen_ok,Sem.run_pure]
  exact ok_bool p _ _
 all_goals exact h.elim
end
open Go
section
variable {C:Cx} {e:Env} {G:Nat->Prop} {g:Nat} {hp:Hp} {w:World} {T:Tab}
theorem VR.mpO_inv {U:Nat->Prop} {id g:Nat} {x:Value} (h:VR w U e G (.mpO id g) x):G g/\x.oneCell'=true/\
  ∀ee,e id=some ee->ee.g=g->ee.n=0->∀b c,ee.blk=some (b,c)->x= .map (some b):=by
 cases h with
 |dat _ _ h=>cases h
 |mpO _ _ _ h1 h2 h3=>exact⟨h1,h2,h3⟩
def keyv (p:Int×Int):Value×Value:=(.int .i64 p.1, .int .i64 p.2)
theorem findNow_map {n:Int}:∀(es:List MapEntry) (l:List (Int×Int)) (i:Nat),es.map (fun m=>(m.key,m.val))=l.map keyv->
  Instr.findNow (.int .i64) (.int .i64 n) es i=some ((mfind n l i).map fun q=>(q.1, .int .i64 q.2))
 |[],[],_,_=>rfl
 |[],_::_,_,h=>by simp at h
 |_::_,[],_,h=>by simp at h
 |m::es,p::l,i,h=>by
  simp only[List.map_cons,List.cons.injEq] at h
  obtain⟨h1,h2⟩:=h
  have hk:m.key= .int .i64 p.1:=congrArg Prod.fst h1
  have hv:m.val= .int .i64 p.2:=congrArg Prod.snd h1
  have ih:=findNow_map (n:=n) es l (i+1) h2
  simp only[Instr.findNow,hk,Instr.sameNow,if_true,mfind]
  by_cases hn:n=p.1
  ·subst hn
   simp[hv]
  ·rw[if_neg hn]
   have:(n==p.1)=false:=by simpa using hn
   rw[this]
   exact ih
theorem mfind_lt {n:Int}:∀{l:List (Int×Int)} {i j:Nat} {v:Int},mfind n l i=some (j,v)->i<=j/\j<i+l.length/\l[j - i]?=some (n,v)
 |[],_,_,_,h=>by cases h
 |p::l,i,j,v,h=>by
  rw[mfind] at h
  split at h
  ·next hn=>
   cases h
   subst hn
   refine⟨Nat.le_refl _,by simp,by simp⟩
  ·obtain⟨h1,h2,h3⟩:=mfind_lt h
   refine⟨by omega,by simp;omega,?_⟩
   have:j - i=(j - (i+1))+1:=by omega
   rw[this,List.getElem?_cons_succ]
   exact h3
theorem lookup_ok (p:Pre C e G g hp w) (hT:TOk C.P T) {t:Nat} {m k:AV} {xm xk:Value} (hm:VR w (UE e) e G m xm) (hk:VR w (UE e) e G k xk) (h:(opLookup T t hp m k).1):
  OpOk C e G g hp w (opLookup T t hp m k) (((Instr.lookup t xm xk false).run C.P w).andThen fun v w=> .ok (.value v) w):=by
 unfold opLookup at h ⊢
 split at h
 ·rename_i kt et id g' n hty
  obtain⟨rfl,_⟩:=hk.lit_inv
  cases hg:hp.get id with
  |none=>simp only[hg] at h;exact h.elim
  |some q=>
   obtain⟨g'',ob⟩:=q
   cases ob with
   |box _=>simp only[hg] at h;exact h.elim
   |own _ _ _=>simp only[hg] at h;exact h.elim
   |ms _=>simp only[hg] at h;exact h.elim
   |bd _ _ _=>simp only[hg] at h;exact h.elim
   |mp es=>
    simp only[hg,R.val] at h ⊢
    obtain⟨rfl,hkt,hsz,hz⟩:=h
    obtain⟨_,_,hin⟩:=hm.mpO_inv
    obtain⟨ee,he,hgg,_,hor⟩:=p.hr.live id _ _ hg
    obtain⟨hn0,b,c,vs,cl,hb,hh,hvs⟩:=hor
    obtain rfl:=hin ee he hgg hn0 b c hb
    obtain⟨d,hu,hd⟩:=(hT.fit hty (by simp)).under
    rw[hty] at hd;cases hd
    obtain⟨d2,hu2,hd2⟩:=(hT.fit hkt (by simp)).under
    rw[hkt] at hd2;cases hd2
    have hzr:=run_zeroValue' (hT.fits hsz) w
    rw[hz] at hzr
    have hf:=MapKept.run_findKey (P:=C.P) (w:=w) hu2 (findNow_map (n:=n) vs.toList es 0 hvs)
    have hc:=MapKept.run_checkKey (P:=C.P) (w:=w) hu2 (k:= .int .i64 n) (by simp[MapKept.IsKey]) vs.isEmpty 9999
    have:(Instr.lookup t (.map (some b)) (.int .i64 n) false).run C.P w= .ok (.int .i64 (mget es n)) w:=by
     unfold mget
     cases hmf:mfind n es 0 with
     |none=>
      rw[hmf] at hf
      simp only[Option.map_none] at hf
      simp[Instr.lookup,run_underlying hu,MapKept.run_getObj_map hh,hc,hf,hzr,Result.andThen]
     |some q=>
      rw[hmf] at hf
      simp only[Option.map_some] at hf
      simp[Instr.lookup,run_underlying hu,MapKept.run_getObj_map hh,hc,hf,Result.andThen]
    rw[this,Result.andThen_ok]
    exact ok_int p _ _ _
 ·exact h.elim
theorem wr_any (p:Pre C e G g hp w) {id:Nat} {ee:EE} {b c:Nat} (he:e id=some ee) (hb:ee.blk=some (b,c)) {w':World} (hsz:w'.heap.size=w.heap.size)
  (hoth:∀b',b'≠b->w'.heap[b']?=w.heap[b']?) (h1:w'.os=w.os) (h2:w'.tape=w.tape) (h3:w'.output=w.output) {ob:Ob}
  (ho:ORel w' e (gadd G g) ob ee) {P:Prop}:OpOk C e G g hp w (P, .bad,[(id,some (ee.g,ob))]) (.ok .skip w'):=by
 have hbo:ObjB e b:=⟨id,ee,c,he,hb⟩
 have ext:Ext w e G w' e (gadd G g):=by
  refine Ext.mk' (by omega) (fun _ h=> .inl h) rfl (fun _ _ h=>h) (fun b' _ hu=>hoth b' ?_) fun _ ee' h _=>⟨ee',h,rfl,rfl, .inl ⟨rfl,rfl⟩⟩
  rintro rfl
  exact hu (.inl hbo)
 have key:HRel w' e (gadd G g) ((id,some (ee.g,ob))::hp):=by
  refine p.hr.step (fun j=>j=id) ext rfl (fun j hj=>⟨rfl,Hp.get_cons_other _ _ hj⟩) (fun j ej b1 c1 hj hej hbj=>⟨hoth b1 ?_,fun b2 c2 hk2=>⟨hoth b2 ?_,hk2⟩⟩)
   (fun j hj hn=>by subst hj;rw[Hp.get_cons_same] at hn;cases hn) (fun j gj obj hj hg=>by subst hj;rw[Hp.get_cons_same] at hg;cases hg;exact⟨ee,he,rfl, .inl (p.hr.gen _ _ he),ho⟩)
   (fun j ej b1 c1 hj hej hbj=>?_) (fun b1 B c1 hk1=>by rw[hsz];exact p.hr.kl b1 B c1 hk1) p.hr.ko p.hr.kk
  ·rintro rfl;exact hj (p.hr.inj j id ej ee b1 c1 c hej he hbj hb)
  ·rintro rfl
   have:=p.hr.ko b2 hbo
   rw[hk2] at this;cases this
  ·subst hj
   rw[he] at hej;cases hej
   rw[hb] at hbj;cases hbj
   exact⟨by rw[hsz];exact p.hr.lt _ _ _ _ he hb,p.hr.nz _ _ _ _ he hb,fun j' ej' c' hj' hbj'=>p.hr.inj _ _ _ _ _ _ _ hj' he hbj' hb⟩
 refine⟨.skip,w',e,rfl,key,ext,p.ln.step p.fr.size ext rfl (fun _ _ h=>h),p.fr.step p.ln h1 h2 h3 (by omega) (fun b' _ hu=>hoth b' ?_), .inr ⟨rfl,rfl⟩⟩
 rintro rfl;exact hu (.inl hbo)
theorem mapUpd_ok (p:Pre C e G g hp w) (hT:TOk C.P T) {t:Nat} {m k v:AV} {xm xk xv:Value} (hm:VR w (UE e) e G m xm) (hk:VR w (UE e) e G k xk) (hv:VR w (UE e) e G v xv) (h:(opMapUpd T t hp m k v).1):
  OpOk C e G g hp w (opMapUpd T t hp m k v) (((Instr.mapUpdate t xm xk xv).run C.P w).andThen fun _ w=> .ok .skip w):=by
 unfold opMapUpd at h ⊢
 split at h
 ·rename_i kt et id g' n x hty
  obtain⟨rfl,_⟩:=hk.lit_inv
  obtain⟨rfl,_⟩:=hv.lit_inv
  cases hg:hp.get id with
  |none=>simp only[hg] at h;exact h.elim
  |some q=>
   obtain⟨g'',ob⟩:=q
   cases ob with
   |box _=>simp only[hg] at h;exact h.elim
   |own _ _ _=>simp only[hg] at h;exact h.elim
   |ms _=>simp only[hg] at h;exact h.elim
   |bd _ _ _=>simp only[hg] at h;exact h.elim
   |mp es=>
    simp only[hg] at h ⊢
    obtain⟨rfl,hkt⟩:=h
    obtain⟨_,_,hin⟩:=hm.mpO_inv
    obtain⟨ee,he,hgg,_,hor⟩:=p.hr.live id _ _ hg
    obtain⟨hn0,b,c,vs,cl,hb,hh,hvs⟩:=hor
    obtain rfl:=hin ee he hgg hn0 b c hb
    obtain⟨d,hu,hd⟩:=(hT.fit hty (by simp)).under
    rw[hty] at hd;cases hd
    obtain⟨d2,hu2,hd2⟩:=(hT.fit hkt (by simp)).under
    rw[hkt] at hd2;cases hd2
    have hf:=MapKept.run_findKey (P:=C.P) (w:=w) hu2 (findNow_map (n:=n) vs.toList es 0 hvs)
    have hc:=MapKept.run_checkKey (P:=C.P) (w:=w) hu2 (k:= .int .i64 n) (by simp[MapKept.IsKey]) false 9999
    have hlen:vs.toList.length=es.length:=by have:=congrArg List.length hvs;simpa using this
    have hset:∀o,(setObj b o).run C.P w= .ok () {w with heap:=w.heap.setIfInBounds b o}:=fun o=>MapKept.run_setObj_map o hh
    have fin:∀(vs':Array MapEntry) (cl':Nat),vs'.toList.map (fun m=>(m.key,m.val))=(mset es n x).map keyv->
      OpOk C e G g hp w (True, .bad,[(id,some (ee.g, .mp (mset es n x)))]) (.ok .skip {w with heap:=w.heap.setIfInBounds b (.map vs' cl')}):=by
     intro vs' cl' h'
     obtain⟨s1,s2⟩:=MapKept.heap_set (o':= .map vs' cl') hh
     exact wr_any (ob:= .mp (mset es n x)) p he hb (w':={w with heap:=w.heap.setIfInBounds b (.map vs' cl')}) (by simp) s2 rfl rfl rfl ⟨hn0,b,c,vs',cl',hb,s1,h'⟩
    subst hgg
    unfold mset at fin ⊢
    cases hmf:mfind n es 0 with
    |none=>
     rw[hmf] at hf
     simp only[hmf] at fin ⊢
     have:(Instr.mapUpdate t (.map (some b)) (.int .i64 n) (.int .i64 x)).run C.P w= .ok () {w with heap:=w.heap.setIfInBounds b (.map (vs.push {key:= .int .i64 n,val:= .int .i64 x,born:=cl}) (cl+1))}:=by
      simp only[Option.map_none] at hf
      simp[Instr.mapUpdate,run_underlying hu,MapKept.run_getObj_map hh,hc,hf,hset,Result.andThen]
     rw[this,Result.andThen_ok]
     have:=fin (vs.push {key:= .int .i64 n,val:= .int .i64 x,born:=cl}) (cl+1) (by simp only[Array.toList_push,List.map_append,hvs];rfl)
     obtain⟨nx,w1,e1,r⟩:=this
     exact⟨nx,w1,e1,r⟩
    |some q=>
     obtain⟨j,y⟩:=q
     rw[hmf] at hf
     simp only[hmf] at fin ⊢
     obtain⟨_,hj,hjg⟩:=mfind_lt hmf
     simp only[Nat.zero_add,Nat.sub_zero] at hj hjg
     have hjl:j<vs.size:=by rw[<-Array.length_toList];omega
     have hold:((vs[j]?).map (·.key)).getD (.int .i64 n)= .int .i64 n:=by
      have e1:=congrArg (fun l=>l[j]?) hvs
      simp only[List.getElem?_map,hjg,Option.map_some] at e1
      rw[Array.getElem?_toList] at e1
      cases hx:vs[j]? with
      |none=>rfl
      |some m=>rw[hx] at e1;simp only[Option.map_some,Option.some.injEq,Prod.mk.injEq] at e1;exact e1.1
     have hkeep:=MapKept.run_keyThatStays (P:=C.P) (w:=w) (d:= .int .i64) (k:= .int .i64 n) (by simp[MapKept.IsKey])
     have:(Instr.mapUpdate t (.map (some b)) (.int .i64 n) (.int .i64 x)).run C.P w= .ok () {w with heap:=w.heap.setIfInBounds b (.map (vs.modify j fun e=>{e with key:= .int .i64 n,val:= .int .i64 x}) cl)}:=by
      simp only[Option.map_some] at hf
      simp[Instr.mapUpdate,run_underlying hu,MapKept.run_getObj_map hh,hc,hf,hold,hkeep,hset,Result.andThen]
     rw[this,Result.andThen_ok]
     have:=fin (vs.modify j fun e=>{e with key:= .int .i64 n,val:= .int .i64 x}) cl (by
      refine List.ext_getElem? fun i=>?_
      have e1:=congrArg (fun l=>l[i]?) hvs
      simp only[List.getElem?_map,Array.getElem?_toList] at e1 ⊢
      rw[Array.getElem?_modify,List.getElem?_set]
      by_cases hij:j=i
      ·subst hij
       simp only[if_true,hj]
       have:vs[j]?=some vs[j]:=by simp[hjl]
       rw[this]
       rfl
      ·simp only[hij,if_false]
       exact e1)
     obtain⟨nx,w1,e1,r⟩:=this
     exact⟨nx,w1,e1,r⟩
 ·exact h.elim
theorem makeMap_ok (p:Pre C e G g hp w) {did t:Nat}:OpOk C e G g hp w (True, .mpO did g,[(did,some (g, .mp []))]) (((Instr.makeMap t none).run C.P w).andThen fun v w=> .ok (.value v) w):=by
 have:(Instr.makeMap t none).run C.P w= .ok (.map (some w.heap.size)) (w.alloc (.map #[] 0)):=by
  rfl
 rw[this,Result.andThen_ok]
 refine mk_obj p (Grow.alloc w _) (ee:=⟨g,some (w.heap.size,0),0,0⟩) rfl (by rintro b c ⟨⟩;exact⟨Nat.le_refl _,by rw[size_new];omega⟩) ?_ ?_
 ·exact⟨rfl,w.heap.size,0,#[],0,rfl,heap_new w _,rfl⟩
 ·refine .mpO _ _ _ (.inr rfl) rfl fun ee he _ _ b c hb=>?_
  rw[eset_same] at he
  cases he
  cases hb
  rfl
theorem nilcmp_ok (p:Pre C e G g hp w) (hT:TOk C.P T) (op:BinOp) {t:Nat} {x y:Operand} {va vb:AV} {xa xb:Value} (ha:VR w (UE e) e G va xa) (hy:isNil y=true->xb= .slice none 0 0)
  (hb:isNil y=false->OpOk C e G g hp w (bop op (tl T t) va vb) (((do eqGuard op t x y xa xb;let v<-binOp op t xa xb;Pure.pure (Next.value v)):Sem Next).run C.P w))
  (h:(bopB (isNil y) op (tl T t) va vb).1):
  OpOk C e G g hp w (bopB (isNil y) op (tl T t) va vb) (((do eqGuard op t x y xa xb;let v<-binOp op t xa xb;Pure.pure (Next.value v)):Sem Next).run C.P w):=by
 cases hn:isNil y with
 |false=>rw[hn] at h;exact hb hn
 |true=>
  rw[hn] at h
  obtain rfl:=hy hn
  unfold bopB at h ⊢
  simp only at h ⊢
  have key:∀{es:List AV} {full:Bool} {el:Nat},(tl T t).ty= .slice el->va= .sl es full->0<es.length->(eqGuard op t x y xa (.slice none 0 0)).run C.P w= .ok () w/\(Op.equalIn Op.maxDepth t xa (.slice none 0 0)).run C.P w= .ok false w:=by
   rintro es full el hty rfl hl
   obtain⟨d,hu,hd⟩:=(hT.fit hty (by simp)).under
   rw[hty] at hd;cases hd
   rcases ha.sl_inv.sl_inv with ⟨rfl,_⟩|⟨b,off,cap,k',f,rfl,_⟩
   ·simp at hl
   ·refine⟨by cases op<;>simp[eqGuard],?_⟩
    rw[show Op.maxDepth=9999+1 from rfl,Op.equalIn,Sem.run_bind,run_underlying hu]
    rfl
  split at h
  ·rename_i hty
   obtain⟨k1,k2⟩:=key hty rfl h
   have:(binOp .eql t xa (.slice none 0 0)).run C.P w= .ok (.bool false) w:=by
    rcases ha.sl_inv.sl_inv with ⟨rfl,_⟩|⟨b,off,cap,k',f,rfl,_⟩
    ·simp[R.val] at h
    ·simp[binOp,Op.equal,k2]
   rw[Sem.run_bind,k1,Result.andThen_ok,Sem.run_bind,this]
   exact ok_bool p _ _
  ·rename_i hty
   obtain⟨k1,k2⟩:=key hty rfl h
   have:(binOp .neq t xa (.slice none 0 0)).run C.P w= .ok (.bool true) w:=by
    rcases ha.sl_inv.sl_inv with ⟨rfl,_⟩|⟨b,off,cap,k',f,rfl,_⟩
    ·simp[R.val] at h
    ·simp[binOp,Op.equal,k2]
   rw[Sem.run_bind,k1,Result.andThen_ok,Sem.run_bind,this]
   exact ok_bool p _ _
  ·exact h.elim
end
open Go
section
variable {C:Cx} {e:Env} {G:Nat->Prop} {g:Nat} {hp:Hp} {w:World} {T:Tab}
theorem bytes_eq {a b:ByteArray} (h:a.data.toList=b.data.toList):a=b:=by
 cases a;cases b
 simp only at h
 rw[Array.toList_inj] at h
 simp[h]
def sfind (k:List UInt8):List (ByteArray×AV)->Nat->Option Nat
 |[],_=>none
 |p::l,i=>if p.1.data.toList=k then some i else sfind k l (i+1)
theorem sfind_some {k:List UInt8} {z:AV}:∀{l:List (ByteArray×AV)} {i j:Nat},sfind k l i=some j->i<=j/\(∃p,l[j - i]?=some p/\sget k z l=p.2)/\shas k l=true
 |[],_,_,h=>by cases h
 |p::l,i,j,h=>by
  rw[sfind] at h
  split at h
  ·next hp=>
   cases h
   refine⟨Nat.le_refl _,⟨p,by simp,by rw[sget,if_pos hp]⟩,by simp[shas,hp]⟩
  ·next hp=>
   obtain⟨h1,⟨q,h2,h3⟩,h4⟩:=sfind_some (z:=z) h
   have e1:j - i=(j - (i+1))+1:=by omega
   refine⟨by omega,⟨q,by rw[e1,List.getElem?_cons_succ];exact h2,by rw[sget,if_neg hp];exact h3⟩,by simp[shas,h4]⟩
theorem sfind_none {k:List UInt8} {z:AV}:∀{l:List (ByteArray×AV)} {i:Nat},sfind k l i=none->sget k z l=z/\shas k l=false
 |[],_,_=>⟨rfl,rfl⟩
 |p::l,i,h=>by
  rw[sfind] at h
  split at h
  ·cases h
  ·next hp=>
   obtain⟨h1,h2⟩:=sfind_none (z:=z) h
   exact⟨by rw[sget,if_neg hp];exact h1,by simp[shas,hp,h2]⟩
theorem findNow_strs {s:ByteArray}:∀(vs:List MapEntry) (l:List (ByteArray×AV)) (i:Nat),vs.length=l.length->(∀(j:Nat) (m:MapEntry) (p:ByteArray×AV),vs[j]?=some m->l[j]?=some p->m.key= .string p.1)->
  Instr.findNow .string (.string s) vs i=some ((sfind s.data.toList l i).bind fun j=>(vs[j - i]?).map fun m=>(j,m.val))
 |[],[],_,_,_=>rfl
 |[],_::_,_,h,_=>by simp at h
 |_::_,[],_,h,_=>by simp at h
 |m::vs,p::l,i,h,hk=>by
  have hk0:m.key= .string p.1:=hk 0 m p rfl rfl
  have ih:=findNow_strs (s:=s) vs l (i+1) (by simpa using h) fun j m' p' h1 h2=>hk (j+1) m' p' (by simpa using h1) (by simpa using h2)
  simp only[Instr.findNow,hk0,Instr.sameNow,sfind]
  by_cases hs:p.1.data.toList=s.data.toList
  ·have hb:(s==p.1)=true:=(MapKept.bytes_beq _ _).2 (bytes_eq hs).symm
   rw[hb,if_pos hs]
   simp
  ·have hb:(s==p.1)=false:=by
    cases hq:(s==p.1) with
    |false=>rfl
    |true=>exact absurd (by rw[(MapKept.bytes_beq _ _).1 hq]) hs
   rw[hb,if_neg hs]
   simp only[ih]
   cases hf:sfind s.data.toList l (i+1) with
   |none=>rfl
   |some j=>
    obtain⟨h1,_⟩:=sfind_some (z:= .bad) hf
    have e1:j - i=(j - (i+1))+1:=by omega
    simp only[Option.bind_some,e1,List.getElem?_cons_succ]
theorem lookup2_ok (p:Pre C e G g hp w) (hT:TOk C.P T) {t:Nat} {m k:AV} {xm xk:Value} (hm:VR w (UE e) e G m xm) (hk:VR w (UE e) e G k xk) (h:(opLookup2 T t hp m k).1):
  OpOk C e G g hp w (opLookup2 T t hp m k) (((Instr.lookup t xm xk true).run C.P w).andThen fun v w=> .ok (.value v) w):=by
 unfold opLookup2 at h ⊢
 split at h
 ·rename_i kt et id g' s hty
  obtain⟨rfl,_⟩:=hk.lit_inv
  cases hg:hp.get id with
  |none=>simp only[hg] at h;exact h.elim
  |some q=>
   obtain⟨g'',ob⟩:=q
   cases ob with
   |box _=>simp only[hg] at h;exact h.elim
   |own _ _ _=>simp only[hg] at h;exact h.elim
   |mp _=>simp only[hg] at h;exact h.elim
   |bd _ _ _=>simp only[hg] at h;exact h.elim
   |ms es=>
    simp only[hg,R.val] at h ⊢
    obtain⟨rfl,hkt,hsz,hag⟩:=h
    obtain⟨_,_,hin⟩:=hm.mpO_inv
    obtain⟨ee,he,hgg,_,hor⟩:=p.hr.live id _ _ hg
    obtain⟨hn0,b,c,vs,cl,hb,hh,hlen,hvs⟩:=hor
    obtain rfl:=hin ee he hgg hn0 b c hb
    obtain⟨d,hu,hd⟩:=(hT.fit hty (by simp)).under
    rw[hty] at hd;cases hd
    obtain⟨d2,hu2,hd2⟩:=(hT.fit hkt (by simp)).under
    rw[hkt] at hd2;cases hd2
    have hzr:=run_zeroValue' (hT.fits hsz) w
    have hzz:=(zval_zav (w:=w) (hT.fits hsz) (UE e)).1
    have hf:=MapKept.run_findKey (P:=C.P) (w:=w) hu2 (findNow_strs (s:=s) vs.toList es 0 (by simpa using hlen) fun j m' p' h1 h2=>(hvs j m' p' (by simpa using h1) h2).1)
    have hc:=MapKept.run_checkKey (P:=C.P) (w:=w) hu2 (k:= .string s) (by simp[MapKept.IsKey]) vs.isEmpty 9999
    cases hsf:sfind s.data.toList es 0 with
    |none=>
     rw[hsf] at hf
     simp only[Option.bind_none] at hf
     obtain⟨h1,h2⟩:=sfind_none (z:=(tl T et).zav) hsf
     have:(Instr.lookup t (.map (some b)) (.string s) true).run C.P w= .ok (.tuple #[(tl T et).zval, .bool false]) w:=by
      simp[Instr.lookup,run_underlying hu,MapKept.run_getObj_map hh,hc,hf,hzr,Result.andThen]
     rw[this,Result.andThen_ok,h1,h2]
     refine .pure p (.tup _ _ rfl fun i hi=>?_)
     rcases(by simp at hi;omega:i=0\/i=1) with rfl|rfl
     ·exact .dat _ _ hzz
     ·exact .dat _ _ (.lit _ rfl)
    |some j=>
     rw[hsf] at hf
     obtain⟨_,⟨q,hq,h1⟩,h2⟩:=sfind_some (z:=(tl T et).zav) hsf
     rw[Nat.sub_zero] at hq
     have hjl:j<vs.size:=by
      have:=(List.getElem?_eq_some_iff.1 hq).1
      omega
     have hvj:vs[j]?=some vs[j]:=by simp[hjl]
     simp only[Option.bind_some,Nat.sub_zero,Array.getElem?_toList,hvj,Option.map_some] at hf
     have:(Instr.lookup t (.map (some b)) (.string s) true).run C.P w= .ok (.tuple #[vs[j].val, .bool true]) w:=by
      simp[Instr.lookup,run_underlying hu,MapKept.run_getObj_map hh,hc,hf,Result.andThen]
     rw[this,Result.andThen_ok,h1,h2]
     refine .pure p (.tup _ _ rfl fun i hi=>?_)
     rcases(by simp at hi;omega:i=0\/i=1) with rfl|rfl
     ·exact(hvs j _ q hvj hq).2.2
     ·exact .dat _ _ (.lit _ rfl)
 ·exact h.elim
theorem mapUpdS_ok (p:Pre C e G g hp w) (hT:TOk C.P T) {t:Nat} {m k v:AV} {xm xk xv:Value} (hm:VR w (UE e) e G m xm) (hk:VR w (UE e) e G k xk) (hv:VR w (UE e) e G v xv) (h:(opMapUpdS T t hp m k v).1):
  OpOk C e G g hp w (opMapUpdS T t hp m k v) (((Instr.mapUpdate t xm xk xv).run C.P w).andThen fun _ w=> .ok .skip w):=by
 unfold opMapUpdS at h ⊢
 split at h
 ·rename_i kt et id g' s hty
  obtain⟨rfl,_⟩:=hk.lit_inv
  cases hg:hp.get id with
  |none=>simp only[hg] at h;exact h.elim
  |some q=>
   obtain⟨g'',ob⟩:=q
   cases ob with
   |box _=>simp only[hg] at h;exact h.elim
   |own _ _ _=>simp only[hg] at h;exact h.elim
   |mp _=>simp only[hg] at h;exact h.elim
   |bd _ _ _=>simp only[hg] at h;exact h.elim
   |ms es=>
    simp only[hg] at h ⊢
    obtain⟨rfl,hkt,hno,h1,h2⟩:=h
    obtain⟨_,_,hin⟩:=hm.mpO_inv
    obtain⟨ee,he,hgg,_,hor⟩:=p.hr.live id _ _ hg
    obtain⟨hn0,b,c,vs,cl,hb,hh,hlen,hvs⟩:=hor
    obtain rfl:=hin ee he hgg hn0 b c hb
    obtain⟨d,hu,hd⟩:=(hT.fit hty (by simp)).under
    rw[hty] at hd;cases hd
    obtain⟨d2,hu2,hd2⟩:=(hT.fit hkt (by simp)).under
    rw[hkt] at hd2;cases hd2
    have hf:=MapKept.run_findKey (P:=C.P) (w:=w) hu2 (findNow_strs (s:=s) vs.toList es 0 (by simpa using hlen) fun j m' p' h1 h2=>(hvs j m' p' (by simpa using h1) h2).1)
    have hc:=MapKept.run_checkKey (P:=C.P) (w:=w) hu2 (k:= .string s) (by simp[MapKept.IsKey]) false 9999
    have hset:∀o,(setObj b o).run C.P w= .ok () {w with heap:=w.heap.setIfInBounds b o}:=fun o=>MapKept.run_setObj_map o hh
    have hsf:sfind s.data.toList es 0=none:=by
     cases hq:sfind s.data.toList es 0 with
     |none=>rfl
     |some j=>rw[(sfind_some (z:= .bad) hq).2.2] at hno;cases hno
    rw[hsf] at hf
    simp only[Option.bind_none] at hf
    have:(Instr.mapUpdate t (.map (some b)) (.string s) xv).run C.P w= .ok () {w with heap:=w.heap.setIfInBounds b (.map (vs.push {key:= .string s,val:=xv,born:=cl}) (cl+1))}:=by
     simp[Instr.mapUpdate,run_underlying hu,MapKept.run_getObj_map hh,hc,hf,hset,Result.andThen]
    rw[this,Result.andThen_ok]
    obtain⟨s1,s2⟩:=MapKept.heap_set (o':= .map (vs.push {key:= .string s,val:=xv,born:=cl}) (cl+1)) hh
    subst hgg
    have hbo:ObjB e b:=⟨id,ee,c,he,hb⟩
    have ext:Ext w e G {w with heap:=w.heap.setIfInBounds b (.map (vs.push {key:= .string s,val:=xv,born:=cl}) (cl+1))} e (gadd G g):=by
     refine Ext.mk' (by simp) (fun _ h=> .inl h) rfl (fun _ _ h=>h) (fun b' _ hu=>s2 b' ?_) fun _ ee' h _=>⟨ee',h,rfl,rfl, .inl ⟨rfl,rfl⟩⟩
     rintro rfl
     exact hu (.inl hbo)
    have:=wr_any (P:=True) (ob:= .ms (es++[(s,v)])) p he hb (w':={w with heap:=w.heap.setIfInBounds b (.map (vs.push {key:= .string s,val:=xv,born:=cl}) (cl+1))}) (by simp) s2 rfl rfl rfl
     ⟨hn0,b,c,_,_,hb,s1,by simp[hlen],fun i m' p' hm' hp'=>by
      rw[Array.getElem?_push] at hm'
      split at hm'
      ·next hi=>
       cases hm'
       subst hi
       rw[hlen,List.getElem?_append_right (Nat.le_refl _),Nat.sub_self] at hp'
       cases hp'
       exact⟨rfl,h1,hv.ext ext⟩
      ·have hi:i<es.length:=by
        have:=(Array.getElem?_eq_some_iff.1 hm').1
        omega
       rw[List.getElem?_append_left hi] at hp'
       obtain⟨q1,q2,q3⟩:=hvs i m' p' hm' hp'
       exact⟨q1,q2,q3.ext ext⟩⟩
    obtain⟨nx,w1,e1,r⟩:=this
    exact⟨nx,w1,e1,r⟩
 ·exact h.elim
theorem makeMapS_ok (p:Pre C e G g hp w) {did t:Nat}:OpOk C e G g hp w (True, .mpO did g,[(did,some (g, .ms []))]) (((Instr.makeMap t none).run C.P w).andThen fun v w=> .ok (.value v) w):=by
 have:(Instr.makeMap t none).run C.P w= .ok (.map (some w.heap.size)) (w.alloc (.map #[] 0)):=by
  rfl
 rw[this,Result.andThen_ok]
 refine mk_obj p (Grow.alloc w _) (ee:=⟨g,some (w.heap.size,0),0,0⟩) rfl (by rintro b c ⟨⟩;exact⟨Nat.le_refl _,by rw[size_new];omega⟩) ?_ ?_
 ·exact⟨rfl,w.heap.size,0,#[],0,rfl,heap_new w _,rfl,fun i m p h=>by simp at h⟩
 ·refine .mpO _ _ _ (.inr rfl) rfl fun ee he _ _ b c hb=>?_
  rw[eset_same] at he
  cases he
  cases hb
  rfl
theorem ifcmp_ok (p:Pre C e G g hp w) (hT:TOk C.P T) (op:BinOp) {t:Nat} {x y:Operand} {va:AV} {xa xb:Value} {r:R} (ha:VR w (UE e) e G va xa) (hy:isNilI y=true->xb= .nilIface)
  (hb:isNilI y=false->OpOk C e G g hp w r (((do eqGuard op t x y xa xb;let v<-binOp op t xa xb;Pure.pure (Next.value v)):Sem Next).run C.P w))
  (h:(bopI (isNilI y) op (tl T t) va r).1):
  OpOk C e G g hp w (bopI (isNilI y) op (tl T t) va r) (((do eqGuard op t x y xa xb;let v<-binOp op t xa xb;Pure.pure (Next.value v)):Sem Next).run C.P w):=by
 cases hn:isNilI y with
 |false=>rw[hn] at h;exact hb hn
 |true=>
  rw[hn] at h
  obtain rfl:=hy hn
  obtain⟨vc,rfl⟩:∃vc,y= .const vc:=by
   cases y with
   |const v=>exact⟨v,rfl⟩
   |_=>cases hn
  unfold bopI at h ⊢
  simp only at h ⊢
  have und:(tl T t).ty= .iface->∃m,C.P.underlying t=some (.interface m):=by
   intro hty
   obtain⟨d,hu,hd⟩:=(hT.fit hty (by simp)).under
   rw[hty] at hd
   obtain⟨m,rfl⟩:=hd
   exact⟨m,hu⟩
  have e1:∀(hty:(tl T t).ty= .iface) tt pp,(Op.equalIn Op.maxDepth t (.iface tt pp) .nilIface).run C.P w= .ok false w:=by
   intro hty tt pp
   obtain⟨m,hu⟩:=und hty
   rw[show Op.maxDepth=9999+1 from rfl,Op.equalIn,Sem.run_bind,run_underlying hu]
   rfl
  have e2:∀(hty:(tl T t).ty= .iface),(Op.equalIn Op.maxDepth t .nilIface .nilIface).run C.P w= .ok true w:=by
   intro hty
   obtain⟨m,hu⟩:=und hty
   rw[show Op.maxDepth=9999+1 from rfl,Op.equalIn,Sem.run_bind,run_underlying hu]
   rfl
  have g1:∀tt pp,(eqGuard op t x (.const vc) (.iface tt pp) .nilIface).run C.P w= .ok () w:=by
   intro tt pp
   cases op<;>simp[eqGuard]
  have g2:(eqGuard op t x (.const vc) .nilIface .nilIface).run C.P w= .ok () w:=by
   cases op<;>simp[eqGuard]
  split at h
  ·rename_i hty
   cases ha with
   |dat _ _ ha=>
    cases ha with
    |ifn tt pp=>
     have:(binOp .eql t (.iface tt pp) .nilIface).run C.P w= .ok (.bool false) w:=by simp[binOp,Op.equal,e1 hty]
     rw[Sem.run_bind,g1,Result.andThen_ok,Sem.run_bind,this]
     exact ok_bool p _ _
  ·rename_i hty
   cases ha with
   |dat _ _ ha=>
    cases ha with
    |ifn tt pp=>
     have:(binOp .neq t (.iface tt pp) .nilIface).run C.P w= .ok (.bool true) w:=by simp[binOp,Op.equal,e1 hty]
     rw[Sem.run_bind,g1,Result.andThen_ok,Sem.run_bind,this]
     exact ok_bool p _ _
  ·rename_i hty
   obtain⟨rfl,_⟩:=ha.lit_inv
   have:(binOp .eql t .nilIface .nilIface).run C.P w= .ok (.bool true) w:=by simp[binOp,Op.equal,e2 hty]
   rw[Sem.run_bind,g2,Result.andThen_ok,Sem.run_bind,this]
   exact ok_bool p _ _
  ·rename_i hty
   obtain⟨rfl,_⟩:=ha.lit_inv
   have:(binOp .neq t .nilIface .nilIface).run C.P w= .ok (.bool false) w:=by simp[binOp,Op.equal,e2 hty]
   rw[Sem.run_bind,g2,Result.andThen_ok,Sem.run_bind,this]
   exact ok_bool p _ _
  ·exact h.elim
end
open Go
section
variable {C:Cx} {e:Env} {G:Nat->Prop} {g:Nat} {hp:Hp} {w:World} {T:Tab}
theorem opSliceA_ok (p:Pre C e G g hp w) (hT:TOk C.P T) {t n el:Nat} (hty:(tl T t).ty= .array n el) {lo hi mx:Option AV} {xl xh xm:Option Value} {av:AV} {x:Value}
  (hx:VR w (UE e) e G av x) (hl:ORelV w e G lo xl) (hh:ORelV w e G hi xh) (hm:ORelV w e G mx xm) (h:(opSliceA n (tl T el) hp lo hi mx av).1):
  OpOk C e G g hp w (opSliceA n (tl T el) hp lo hi mx av) (((Instr.sliceAt t x xl xh xm).run C.P w).andThen fun v w=> .ok (.value v) w):=by
 unfold opSliceA at h ⊢
 split at h
 ·rename_i id g' m i off
  split at h
  ·rename_i g'' cs hg
   obtain⟨rfl,rfl,rfl,rfl,hs,hlen,hmx,hP⟩:=h
   obtain rfl:xl=none:=by cases xl<;>simp_all [ORelV]
   obtain rfl:xh=none:=by cases xh<;>simp_all [ORelV]
   obtain rfl:xm=none:=by cases xm<;>simp_all [ORelV]
   obtain⟨_,_,hin⟩:=hx.ptO_inv
   obtain⟨ee,he,hgg,_,hor⟩:=p.hr.live id _ _ hg
   obtain⟨hn,h1,b,c,vs,T',hb,hheap,hsz,hv⟩:=hor
   obtain⟨_,hin⟩:=hin ee he hgg
   obtain rfl:=hin hn b c hb
   obtain⟨d,hu,hd⟩:=(hT.fit hty (by simp)).under
   rw[hty] at hd;cases hd
   have hso:=run_sizeOf' (hT.fits (t:=el) (by omega)) w
   have hrun:(Instr.sliceAt t (.pointer (some ⟨b,0*ee.k+0,none⟩)) none none none).run C.P w= .ok (.slice (some ⟨b,0,none⟩) n n) w:=by
    by_cases hn0:n=0
    ·simp[Instr.sliceAt,run_underlying hu,Instr.sureAddr,Instr.sliceBounds,hso,hn0]
    ·have hn1:¬(0=n):=fun h=>hn0 h.symm
     simp[Instr.sliceAt,run_underlying hu,Instr.sureAddr,Instr.sliceBounds,hso,hn0,Addr.add_lit]
   rw[hrun,Result.andThen_ok]
   have x0:=(Ext.drops w e G [id]).trans (Ext.wide w (edrop e [id]) G g)
   refine⟨_,w,edrop e [id],rfl,(p.hr.drops [id]).wide,x0,(p.ln.drops [id]).wide g,p.fr, .inl ⟨_,rfl,?_⟩⟩
   have hub:UE (edrop e [id]) b:=UE.dropped p.hr he hb (by simp)
   have hcl:∀j (hj:j<cs.length),(cs[j].cells)=[cs[j]]:=by
    intro j hj
    have:=h1 j hj
    cases hq:cs[j] with
    |agg _=>rw[hq] at this;cases this
    |_=>rfl
   have hfc:∀j (hj:j<cs.length),(mapc (fz 0 hp) cs[j])=fz 0 hp cs[j]:=by
    intro j hj
    have:=h1 j hj
    cases hq:cs[j] with
    |agg _=>rw[hq] at this;cases this
    |_=>rfl
   have hPj:∀j (hj:j<cs.length),fzP 0 hp cs[j]:=fun j hj=>hP _ (List.getElem_mem hj) _ (by rw[hcl j hj];simp)
   have hone:∀j (hj:j<cs.length),(fz 0 hp cs[j]).one=true:=fun j hj=>fz_one (hPj j hj)
   have hcl2:∀j (hj:j<cs.length),(fz 0 hp cs[j]).cells=[fz 0 hp cs[j]]:=fun j hj=>(fz_cells 0 hp cs[j]).resolve_right (by rw[h1 j hj];simp)
   have hlm:(cs.map (mapc (fz 0 hp))).length=n:=by simpa using hlen
   have key:VD w (UE (edrop e [id])) (.sl (cs.map (mapc (fz 0 hp))) false) (.slice (some ⟨b,0,none⟩) (cs.map (mapc (fz 0 hp))).length n):=by
    refine .sl _ _ b 0 n 1 (fun j=>vs.getD j undef) hub (p.hr.lt _ _ _ _ he hb) (by omega) (by unfold maxLen;omega) (by simp) (by omega) ?_ ?_ ?_ ?_
    ·intro j hj
     simp only[List.length_map] at hj
     simp only[List.getElem_map,hfc j hj,hcl2 j hj,List.length_singleton]
    ·intro j hj
     rw[Nat.zero_add]
     exact cell_of_heap hheap (by omega)
    ·intro j hj j' hj'
     simp only[List.length_map] at hj
     simp only[List.getElem_map,hfc j hj,hcl2 j hj,List.length_singleton] at hj' ⊢
     obtain rfl:j'=0:=by omega
     simp only[List.getElem_cons_zero]
     exact hone j hj
    ·intro j hj j' hj'
     simp only[List.length_map] at hj
     simp only[List.getElem_map,hfc j hj,hcl2 j hj,List.length_singleton] at hj' ⊢
     obtain rfl:j'=0:=by omega
     simp only[List.getElem_cons_zero,Nat.mul_one,Nat.add_zero]
     exact fz_ok p.hr (Frz.drops p.hr [id]) 0 (hv j hj) (hPj j hj) (by intro i hi;simp[fzR] at hi)
   rw[hlm] at key
   exact .dat _ _ key
  ·exact h.elim
 ·exact h.elim
theorem strBytes_ok (p:Pre C e G g hp w) {did el src dst:Nat} (hs:C.P.underlying src=some .string) (hd:C.P.underlying dst=some (.slice el)) (he:C.P.underlying el=some (.int .u8)) (s:ByteArray)
  (hl:s.data.toList.length<=9223372036854775807) {P:Prop}:
  OpOk C e G g hp w (P, .slO did g 0 s.data.toList.length,[(did,some (g, .own el 1 (s.data.toList.map byteE)))]) (((convert src dst (.string s)).run C.P w).andThen fun v w=> .ok (.value v) w):=by
 have hsz:s.size=s.data.toList.length:=by rw[Array.length_toList];rfl
 have hge:=grownCap_ge w s.size 0 el
 have hmx:=grownCap_le_maxLen w s.size 0 el (by unfold maxLen;omega)
 have hcs:(Lib.bytesCells w el s).size=grownCap w s.size 0 el:=by
  simp only[Lib.bytesCells,Array.size_append,Array.size_map,Array.size_replicate]
  have:s.data.size=s.size:=rfl
  omega
 have hcl:Cl (Lib.bytesWorld w el s) w.heap.size (Lib.bytesCells w el s) el:=
  ⟨_,Lib.bytesWorld_at_new w el s,fun j hj h=>by simp only at h;omega⟩
 rw[Lib.run_convert_string_bytes w src dst el s hs hd he,Result.andThen_ok]
 refine mk_obj p (w':=Lib.bytesWorld w el s) ⟨?_,?_,?_,?_,fun b hb=>Lib.bytesWorld_at_old w el s b hb⟩ (ee:=⟨g,some (w.heap.size,grownCap w s.size 0 el),1,s.data.toList.length⟩) rfl ?_ ?_ ?_
 ·rfl
 ·rfl
 ·rfl
 ·rw[Lib.bytesWorld_size];omega
 ·rintro b c ⟨⟩
  exact⟨Nat.le_refl _,by rw[Lib.bytesWorld_size];omega⟩
 ·refine⟨rfl,by simp,by omega,?_,?_,hmx,by simp;omega,_,hcl,by rw[hcs];omega,?_⟩
  ·intro i hi;simp[byteE,AV.cells]
  ·intro i hi j hj;simp[byteE,AV.cells,AV.one]
  ·intro i hi j hj
   have hil:i<s.data.toList.length:=by simpa using hi
   have hj0:j=0:=by simp[byteE,AV.cells] at hj;omega
   subst hj0
   have e1:(s.data.toList.map byteE)[i].cells[0]=byteE s.data.toList[i]:=by simp[byteE,AV.cells]
   have e2:(Lib.bytesCells w el s).getD (i*1+0) undef= .int .u8 (s.data.toList[i]).toNat:=by
    have h1:i<s.data.size:=by simpa using hil
    rw[Array.getD_eq_getD_getElem?,show i*1+0=i by omega,Lib.bytesCells,Array.getElem?_append_left (by simpa using h1)]
    have h2:s.data[i]?=some s.data[i]:=by simp[h1]
    simp[h2]
   rw[e1,e2]
   exact .val _ _ (.dat _ _ (.lit _ rfl))
 ·refine .slO _ _ _ _ _ (.inr rfl) rfl fun ee he' _=>?_
  rw[eset_same] at he'
  cases he'
  refine⟨by simp,fun _=>⟨grownCap w s.size 0 el,?_,by simp,by omega⟩⟩
  show Value.slice _ _ _=Value.slice _ _ _
  congr 1
theorem allocB_ok (p:Pre C e G g hp w) (hT:TOk C.P T) {did t el:Nat} (h:(tl T t).size≠0) (hz:(tl T t).zs=[.ptr, .sl]) (ha:(tl T t).agg=true) {P:Prop}:
  OpOk C e G g hp w (P, .ptO did g 0 0 0,[(did,some (g, .bd t el []))]) (((Instr.alloc t true (.tuple #[])).run C.P w).andThen fun v w=> .ok (.value v) w):=by
 have hf:=hT.fits h
 rw[run_alloc' hf,Result.andThen_ok]
 have hzv:(tl T t).zval= .agg #[.pointer none, .slice none 0 0]:=by simp[TI.zval,ha,hz,ZC.val]
 rw[hzv]
 refine mk_obj p (Grow.alloc w _) (ee:=⟨g,some (w.heap.size,0),0,0⟩) rfl (by rintro b c ⟨⟩;exact⟨Nat.le_refl _,by rw[size_new];omega⟩) ?_ ?_
 ·exact⟨rfl,w.heap.size,0,_,_,rfl,heap_new w _, .inl rfl, .inl ⟨rfl,rfl⟩⟩
 ·refine .ptO _ _ _ _ _ _ (.inr rfl) rfl fun ee he _=>?_
  rw[eset_same] at he
  cases he
  refine⟨Nat.le_refl _,fun _ b c hb=>?_⟩
  cases hb
  rfl
end
open Go Go.Great
section
variable {C:Cx} {e:Env} {G:Nat->Prop} {g:Nat} {hp:Hp} {w:World} {T:Tab}
theorem bopShift_ok (p:Pre C e G g hp w) (op:BinOp) (t:TypeId) (k k':IntKind) (a b:Int) (x y:Operand) (h:(bopShift op k a b).1):
  OpOk C e G g hp w (bopShift op k a b) (((do eqGuard op t x y (.int k a) (.int k' b);let v<-binOp op t (.int k a) (.int k' b);Pure.pure (Next.value v)):Sem Next).run C.P w):=by
 cases op<;>simp only[bopShift,R.val,R.no] at h ⊢
 all_goals first|exact h.elim|skip
 all_goals
  have hb:¬b<0:=by omega
  simp only[eqGuard,binOp,Op.shift,hb,go_sem,Sem.run_bind,Sem.run_pure,Result.andThen_ok,if_false,Bool.not_false,if_true]
  exact ok_int p _ _ _
theorem ok_str (p:Pre C e G g hp w) (ob:Prop) (s:ByteArray):OpOk C e G g hp w (ob, .lit (.string s),[]) (.ok (.value (.string s)) w):=
 .pure p (.dat _ _ (.lit _ rfl))
theorem eq_str (a b:ByteArray):(a.toList==b.toList)=decide (a.data.toList=b.data.toList):=by
 rw[ByteArray.toList_eq,ByteArray.toList_eq,Bool.eq_iff_iff];simp
theorem bopStr_ok (p:Pre C e G g hp w) (op:BinOp) (t:TypeId) (a b:ByteArray) (x y:Operand) (h:(bopStr op a b).1):
  OpOk C e G g hp w (bopStr op a b) (((do eqGuard op t x y (.string a) (.string b);let v<-binOp op t (.string a) (.string b);Pure.pure (Next.value v)):Sem Next).run C.P w):=by
 have hg:(eqGuard op t x y (.string a) (.string b)).run C.P w= .ok () w:=by cases op<;>simp[eqGuard]
 rw[Sem.run_bind,hg,Result.andThen_ok,Sem.run_bind]
 cases op<;>simp only[bopStr,R.val,R.no] at h ⊢
 case add=>
  rw[binOp_string_add,run_string_add_sum _ a b h]
  exact ok_str p _ _
 case eql=>rw[binOp_string_eql,eq_str];exact ok_bool p _ _
 case neq=>
  rw[binOp_string_neq,eq_str]
  have:(!decide (a.data.toList=b.data.toList))=decide (a.data.toList≠b.data.toList):=by simp
  rw[this];exact ok_bool p _ _
 case lss=>rw[binOp_string_lss,ByteArray.toList_eq,ByteArray.toList_eq];exact ok_bool p _ _
 case leq=>rw[binOp_string_leq,eq_str,ByteArray.toList_eq,ByteArray.toList_eq];exact ok_bool p _ _
 case gtr=>rw[binOp_string_gtr,eq_str,ByteArray.toList_eq,ByteArray.toList_eq];exact ok_bool p _ _
 case geq=>rw[binOp_string_geq,ByteArray.toList_eq,ByteArray.toList_eq];exact ok_bool p _ _
 all_goals exact h.elim
theorem bop_ok (p:Pre C e G g hp w) (hT:TOk C.P T) (op:BinOp) {t:Nat} {x y:Operand} {va vb:AV} {xa xb:Value} (ha:VR w (UE e) e G va xa) (hb:VR w (UE e) e G vb xb) (h:(bop op (tl T t) va vb).1):
  OpOk C e G g hp w (bop op (tl T t) va vb) (((do eqGuard op t x y xa xb;let v<-binOp op t xa xb;Pure.pure (Next.value v)):Sem Next).run C.P w):=by
 unfold bop at h ⊢
 split at h
 ·obtain⟨rfl,_⟩:=ha.lit_inv
  obtain⟨rfl,_⟩:=hb.lit_inv
  split at h
  ·exact bopShift_ok p .shl t _ _ _ _ x y h
  ·exact bopShift_ok p .shr t _ _ _ _ x y h
  ·obtain⟨rfl,h⟩:=h
   exact bopInt_ok p _ t _ _ _ x y h
 ·obtain⟨rfl,_⟩:=ha.lit_inv
  obtain⟨rfl,_⟩:=hb.lit_inv
  exact bopStr_ok p op t _ _ x y h
 ·rename_i a b
  obtain⟨rfl,_⟩:=ha.lit_inv
  obtain⟨rfl,_⟩:=hb.lit_inv
  unfold bopBool at h ⊢
  split at h
  ·rename_i hty
   obtain⟨d,hu,hd⟩:=(hT.fit hty (by simp)).under
   rw[hty] at hd;cases hd
   simp only[go_sem,Sem.run_bind,Sem.run_pure,Result.andThen_ok,run_eql_bool _ t a b hu]
   exact ok_bool p _ _
  ·rename_i hty
   obtain⟨d,hu,hd⟩:=(hT.fit hty (by simp)).under
   rw[hty] at hd;cases hd
   simp only[go_sem,Sem.run_bind,Sem.run_pure,Result.andThen_ok,run_neq_bool _ t a b hu]
   exact ok_bool p _ _
  ·exact h.elim
 ·exact bopAgg_ok p hT op ha hb h
 ·exact h.elim
theorem andThen_value {P:Program} (s:Sem Value) (w:World):((do Pure.pure (Next.value (<-s))):Sem Next).run P w=(s.run P w).andThen fun v w=> .ok (.value v) w:=by
 rw[Sem.run_bind];rfl
theorem andThen_skip {P:Program} (s:Sem Unit) (w:World):((do s;Pure.pure Next.skip):Sem Next).run P w=(s.run P w).andThen fun _ w=> .ok .skip w:=by
 rw[Sem.run_bind];rfl
theorem evals_map {a:Act} {ev:Operand->AV} (hv:∀x,VR w (UE e) e G (ev x) (a.eval x)) (o:Option Operand):ORelV w e G (o.map ev) (o.map a.eval):=by
 cases o with
 |none=>trivial
 |some x=>exact hv x
theorem opV_ok (p:Pre C e G g hp w) (hC:COk C T) (o:Oper) {a:Act} {ev:Operand->AV} (hv:∀x,VR w (UE e) e G (ev x) (a.eval x)) (h:(opV T o ev hp g).1):
  OpOk C e G g hp w (opV T o ev hp g) ((execOp a.eval o).run C.P w):=by
 have hT:=hC.ty
 obtain⟨dst,op,type,pos,after,guard⟩:=o
 cases op with
 |move x=>exact .pure p (hv x)
 |assign x=>
  simp only[opV] at h ⊢
  split at h
  ·exact nil_ok p h
  ·exact .pure p (hv _)
 |pick c x y=>
  simp only[opV] at h ⊢
  split at h
  ·rename_i b hb
   have hc:=hv c
   rw[hb] at hc
   obtain⟨hc,_⟩:=hc.lit_inv
   have:(execOp a.eval ⟨dst, .pick c x y,type,pos,after,guard⟩).run C.P w= .ok (.value (if b then a.eval x else a.eval y)) w:=by
    simp[execOp,hc,asBool]
   rw[this]
   refine .pure p ?_
   cases b
   ·exact hv y
   ·exact hv x
  ·exact h.elim
 |binOp op t x y yt=>
  have e1:(execOp a.eval ⟨dst, .binOp op t x y yt,type,pos,after,guard⟩).run C.P w=
    ((do eqGuard op t x y (a.eval x) (a.eval y);let v<-binOp op t (a.eval x) (a.eval y);Pure.pure (Next.value v)):Sem Next).run C.P w:=by
   simp only[execOp,Sem.run_bind]
   cases (eqGuard op t x y (a.eval x) (a.eval y)).run C.P w<;>rfl
  rw[e1]
  refine ifcmp_ok p hT op (hv x) (fun hn=>?_) (fun hi=>?_) h
  ·unfold isNilI at hn
   split at hn
   ·rfl
   ·cases hn
  ·have h0:(bopB (isNil y) op (tl T t) (ev x) (ev y)).1:=by simp only[opV] at h;rw[hi] at h;exact h
   refine nilcmp_ok p hT op (hv x) (fun hn=>?_) (fun hn=>bop_ok p hT op (hv x) (hv y) (by rw[hn] at h0;exact h0)) h0
   unfold isNil at hn
   split at hn
   ·rfl
   ·cases hn
 |makeMap t r=>
  cases r with
  |some _=>exact h.elim
  |none=>
   have e1:(execOp a.eval ⟨dst, .makeMap t none,type,pos,after,guard⟩).run C.P w=((Instr.makeMap t none).run C.P w).andThen fun v w=> .ok (.value v) w:=andThen_value _ _
   rw[e1]
   simp only[opV]
   split
   ·exact makeMapS_ok p
   ·exact makeMap_ok p
 |lookup t m k ok=>
  cases ok with
  |true=>
   have e1:(execOp a.eval ⟨dst, .lookup t m k true,type,pos,after,guard⟩).run C.P w=((Instr.lookup t (a.eval m) (a.eval k) true).run C.P w).andThen fun v w=> .ok (.value v) w:=andThen_value _ _
   rw[e1]
   exact lookup2_ok p hT (hv m) (hv k) h
  |false=>
   have e1:(execOp a.eval ⟨dst, .lookup t m k false,type,pos,after,guard⟩).run C.P w=((Instr.lookup t (a.eval m) (a.eval k) false).run C.P w).andThen fun v w=> .ok (.value v) w:=andThen_value _ _
   rw[e1]
   exact lookup_ok p hT (hv m) (hv k) h
 |mapUpdate t m k v=>
  have e1:(execOp a.eval ⟨dst, .mapUpdate t m k v,type,pos,after,guard⟩).run C.P w=((Instr.mapUpdate t (a.eval m) (a.eval k) (a.eval v)).run C.P w).andThen fun _ w=> .ok .skip w:=andThen_skip _ _
  rw[e1]
  simp only[opV] at h ⊢
  split at h
  ·rename_i hs
   rw[if_pos hs]
   exact mapUpdS_ok p hT (hv m) (hv k) (hv v) h
  ·rename_i hs
   rw[if_neg hs]
   exact mapUpd_ok p hT (hv m) (hv k) (hv v) h
 |insert t m k v=>
  have e1:(execOp a.eval ⟨dst, .insert t m k v,type,pos,after,guard⟩).run C.P w=((Instr.mapUpdate t (a.eval m) (a.eval k) (a.eval v)).run C.P w).andThen fun _ w=> .ok .skip w:=andThen_skip _ _
  rw[e1]
  exact mapUpdS_ok p hT (hv m) (hv k) (hv v) h
 |unOp op t x=>
  have hx:=hv x
  cases op with
  |not=>
   simp only[opV] at h ⊢
   split at h
   ·rename_i b hb
    rw[hb] at hx
    obtain⟨hx,_⟩:=hx.lit_inv
    have e1:(execOp a.eval ⟨dst, .unOp .not t x,type,pos,after,guard⟩).run C.P w= .ok (.value (.bool (!b))) w:=by
     simp[execOp,hx,Op.unary]
    rw[e1];exact ok_bool p _ _
   ·exact h.elim
  |neg=>
   simp only[opV] at h ⊢
   split at h
   ·rename_i k n hb
    rw[hb] at hx
    obtain⟨hx,_⟩:=hx.lit_inv
    have e1:(execOp a.eval ⟨dst, .unOp .neg t x,type,pos,after,guard⟩).run C.P w= .ok (.value (.int k (k.wrap (0 - n)))) w:=by
     simp[execOp,hx,Op.unary,Op.intArith]
    rw[e1];exact arith_ok p k _ h
   ·exact h.elim
  |_=>exact h.elim
 |nilCheck x=>
  have hx:=hv x
  simp only[opV] at h ⊢
  split at h
  ·rename_i n hb
   rw[hb] at hx
   have he:=hx.gl_inv
   have e1:(execOp a.eval ⟨dst, .nilCheck x,type,pos,after,guard⟩).run C.P w= .ok (.value (a.eval x)) w:=by
    simp[execOp,he]
   rw[e1];exact .pure p hx
  ·rename_i cs hb
   rw[hb] at hx
   obtain⟨b,off,f,he,_⟩:=hx.ptI_inv.ptI_inv
   have e1:(execOp a.eval ⟨dst, .nilCheck x,type,pos,after,guard⟩).run C.P w= .ok (.value (a.eval x)) w:=by
    simp[execOp,he]
   rw[e1];exact .pure p hx
  ·rename_i id g' n i off hb
   rw[hb] at hx
   obtain⟨ee,b,c,_,_,_,_,he⟩:=ptO_live p.hr hx h
   have e1:(execOp a.eval ⟨dst, .nilCheck x,type,pos,after,guard⟩).run C.P w= .ok (.value (a.eval x)) w:=by
    simp[execOp,he]
   rw[e1];exact .pure p hx
  ·exact h.elim
 |extract x i=>
  have hx:=hv x
  simp only[opV] at h ⊢
  split at h
  ·rename_i vs hb
   rw[hb] at hx
   obtain⟨xs,he,hl',hvs⟩:=hx.tup_inv
   have hi:i<vs.length:=h
   have e1:(execOp a.eval ⟨dst, .extract x i,type,pos,after,guard⟩).run C.P w= .ok (.value (xs.getD i undef)) w:=by
    have:i<xs.size:=by omega
    simp[execOp,he,Instr.extract,this,Array.getD_eq_getD_getElem?]
   rw[e1]
   refine .pure p ?_
   rw[List.getD_eq_getElem?_getD,List.getElem?_eq_getElem hi]
   exact hvs i hi
  ·exact h.elim
 |load t x=>
  have e1:(execOp a.eval ⟨dst, .load t x,type,pos,after,guard⟩).run C.P w=((Instr.loadAt t (a.eval x)).run C.P w).andThen fun v w=> .ok (.value v) w:=andThen_value _ _
  rw[e1]
  simp only[opV] at h ⊢
  exact opLoad_ok p (fun hs=>hT.fits hs) (hC.glob p.ln (hv x)) h
 |store t x v=>
  have e1:(execOp a.eval ⟨dst, .store t x v,type,pos,after,guard⟩).run C.P w=((Instr.storeAt t (a.eval x) (a.eval v)).run C.P w).andThen fun _ w=> .ok .skip w:=andThen_skip _ _
  rw[e1]
  exact opStore_ok p hT (hv v) (hv x) h
 |indexAddr t x i=>
  have e1:(execOp a.eval ⟨dst, .indexAddr t x i,type,pos,after,guard⟩).run C.P w=((Instr.indexAt t (a.eval x) (a.eval i)).run C.P w).andThen fun v w=> .ok (.value v) w:=andThen_value _ _
  rw[e1]
  exact opIndexAddr_ok p hT (hC.glob p.ln (hv x)) (hv i) h
 |fieldAddr t x f=>
  have e1:(execOp a.eval ⟨dst, .fieldAddr t x f,type,pos,after,guard⟩).run C.P w=((Instr.fieldAt t (a.eval x) f).run C.P w).andThen fun v w=> .ok (.value v) w:=andThen_value _ _
  rw[e1]
  exact opFieldAddr_ok p hT (hC.glob p.ln (hv x)) h
 |field t x f=>
  have e1:(execOp a.eval ⟨dst, .field t x f,type,pos,after,guard⟩).run C.P w=((Instr.field t (a.eval x) f).run C.P w).andThen fun v w=> .ok (.value v) w:=andThen_value _ _
  rw[e1]
  exact opField_ok p hT (hv x) h
 |index t x i=>
  have e1:(execOp a.eval ⟨dst, .index t x i,type,pos,after,guard⟩).run C.P w=((Instr.index t (a.eval x) (a.eval i)).run C.P w).andThen fun v w=> .ok (.value v) w:=andThen_value _ _
  rw[e1]
  exact opIndex_ok p hT (hv x) (hv i) h
 |slice t x lo hi mx=>
  have e1:(execOp a.eval ⟨dst, .slice t x lo hi mx,type,pos,after,guard⟩).run C.P w=((Instr.sliceAt t (a.eval x) (lo.map a.eval) (hi.map a.eval) (mx.map a.eval)).run C.P w).andThen fun v w=> .ok (.value v) w:=andThen_value _ _
  rw[e1]
  exact opSlice_ok p hT (hv x) (evals_map hv lo) (evals_map hv hi) (evals_map hv mx) h fun n el hty h=>opSliceA_ok p hT hty (hv x) (evals_map hv lo) (evals_map hv hi) (evals_map hv mx) h
 |makeSlice t l c=>
  have e1:(execOp a.eval ⟨dst, .makeSlice t l c,type,pos,after,guard⟩).run C.P w=((Instr.makeSlice t (a.eval l) (a.eval c)).run C.P w).andThen fun v w=> .ok (.value v) w:=andThen_value _ _
  rw[e1]
  have hvl:=hv l
  have hvc:=hv c
  simp only[opV] at h ⊢
  split at h
  ·rename_i el kl l' kc c' hty hl' hc'
   rw[hl'] at hvl
   rw[hc'] at hvc
   obtain⟨hvl,_⟩:=hvl.lit_inv
   obtain⟨hvc,_⟩:=hvc.lit_inv
   rw[hvl,hvc]
   obtain⟨h0,h1,h2,h3,h4⟩:=h
   exact make_ok p hT hty h0 h1 h2 h3 h4
  ·exact h.elim
 |buildSlice t n ps=>
  have e1:(execOp a.eval ⟨dst, .buildSlice t n ps,type,pos,after,guard⟩).run C.P w=((Instr.buildSlice t n (ps.map fun q=>(q.1,a.eval q.2))).run C.P w).andThen fun v w=> .ok (.value v) w:=andThen_value _ _
  rw[e1]
  simp only[opV] at h ⊢
  split at h
  ·rename_i el hty
   obtain⟨h1,h2,h3,h4⟩:=h
   exact buildSlice_ok p hT hty (fun q _=>hv q.2) h1 h2 h3 h4
  ·exact h.elim
 |build t ps=>
  have e1:(execOp a.eval ⟨dst, .build t ps,type,pos,after,guard⟩).run C.P w=((Instr.build t (ps.map fun q=>(q.1,a.eval q.2))).run C.P w).andThen fun v w=> .ok (.value v) w:=andThen_value _ _
  rw[e1]
  simp only[opV] at h ⊢
  split at h
  ·rename_i fs hty
   exact build_ok p hT hty (fun q _=>hv q.2) h
  ·rename_i n el hty
   exact buildA_ok p hT hty (fun q _=>hv q.2) h.2 h.1
  ·exact h.elim
 |alloc t=>
  have e1:(execOp a.eval ⟨dst, .alloc t,type,pos,after,guard⟩).run C.P w=((Instr.alloc t true (.tuple #[])).run C.P w).andThen fun v w=> .ok (.value v) w:=andThen_value _ _
  rw[e1]
  simp only[opV] at h ⊢
  split at h
  ·exact allocB_ok p hT h.1 h.2.1 h.2.2
  ·exact alloc_ok p hT h
 |box t x=>
  have e1:(execOp a.eval ⟨dst, .box t x,type,pos,after,guard⟩).run C.P w=((Instr.box t (a.eval x)).run C.P w).andThen fun v w=> .ok (.value v) w:=andThen_value _ _
  rw[e1,run_box',Result.andThen_ok]
  exact box_ok p (hv x) h.2
 |convert s d x=>
  have e1:(execOp a.eval ⟨dst, .convert s d x,type,pos,after,guard⟩).run C.P w=((convert s d (a.eval x)).run C.P w).andThen fun v w=> .ok (.value v) w:=andThen_value _ _
  rw[e1]
  have hx:=hv x
  simp only[opV] at h ⊢
  split at h
  ·rename_i ks kd k n hs hd hb
   rw[hb] at hx
   obtain⟨hx,_⟩:=hx.lit_inv
   rw[hx]
   obtain⟨d1,hu1,hd1⟩:=(hT.fit hs (by simp)).under
   obtain⟨d2,hu2,hd2⟩:=(hT.fit hd (by simp)).under
   rw[hs] at hd1;cases hd1
   rw[hd] at hd2;cases hd2
   have:(convert s d (.int k n)).run C.P w= .ok (.int kd (kd.wrap n)) w:=by
    simp[Go.convert,run_underlying hu1,run_underlying hu2,Conv.intToInt]
   rw[this];exact ok_int p _ _ _
  ·rename_i el b hs hd hb
   split at h
   ·rename_i hu8
    rw[hb] at hx
    obtain⟨hx,_⟩:=hx.lit_inv
    rw[hx]
    obtain⟨d1,hu1,hd1⟩:=(hT.fit hs (by simp)).under
    obtain⟨d2,hu2,hd2⟩:=(hT.fit hd (by simp)).under
    obtain⟨d3,hu3,hd3⟩:=(hT.fit hu8 (by simp)).under
    rw[hs] at hd1;cases hd1
    rw[hd] at hd2;cases hd2
    rw[hu8] at hd3;cases hd3
    exact strBytes_ok p hu1 hu2 hu3 b h
   ·exact h.elim
  ·rename_i el hs hd
   split at h
   ·rename_i ys hu8 hsv
    split at h
    ·rename_i bs hbs
     obtain⟨d1,hu1,hd1⟩:=(hT.fit hs (by simp)).under
     obtain⟨d2,hu2,hd2⟩:=(hT.fit hd (by simp)).under
     obtain⟨d3,hu3,hd3⟩:=(hT.fit hu8 (by simp)).under
     rw[hs] at hd1;cases hd1
     rw[hd] at hd2;cases hd2
     rw[hu8] at hd3;cases hd3
     exact bytes_ok p hu1 hu3 hu2 hx hsv h hbs
    ·exact h.elim
   ·exact h.elim
  ·exact h.elim
 |call c=>
  obtain⟨callee,args,argTypes⟩:=c
  cases callee with
  |builtin b=>
   simp only[opV] at h ⊢
   split at h
   ·rename_i x t ha ht
    have ha':args=#[x]:=by rw[<-Array.toList_inj];exact ha
    have ht':argTypes=#[t]:=by rw[<-Array.toList_inj];exact ht
    subst ha';subst ht'
    have e1:(execOp a.eval ⟨dst, .call {callee:= .builtin .len,args:=#[x],argTypes:=#[t]},type,pos,after,guard⟩).run C.P w=
      ((Builtin.len_ #[t] type #[a.eval x]).run C.P w).andThen fun v w=> .ok (.value v) w:=by
     simp[execOp,resolve,invoke,builtin]
    rw[e1]
    exact opLen_ok p hT (hv x) h
   ·rename_i d x t t' ha ht
    have ha':args=#[d,x]:=by rw[<-Array.toList_inj];exact ha
    have ht':argTypes=#[t,t']:=by rw[<-Array.toList_inj];exact ht
    subst ha';subst ht'
    split at h
    ·rename_i el hty
     obtain⟨htt,h⟩:=h
     subst htt
     have e1:(execOp a.eval ⟨dst, .call {callee:= .builtin .append,args:=#[d,x],argTypes:=#[t',t']},type,pos,after,guard⟩).run C.P w=
       ((Builtin.append_ #[t',t'] type #[a.eval d,a.eval x]).run C.P w).andThen fun v w=> .ok (.value v) w:=by
      simp[execOp,resolve,invoke,builtin]
     rw[e1]
     exact opAppend_ok p hT hty (hv d) (hv x) h
    ·exact h.elim
   ·rename_i d x t t' ha ht
    have ha':args=#[d,x]:=by rw[<-Array.toList_inj];exact ha
    have ht':argTypes=#[t,t']:=by rw[<-Array.toList_inj];exact ht
    subst ha';subst ht'
    have e1:(execOp a.eval ⟨dst, .call {callee:= .builtin .copy,args:=#[d,x],argTypes:=#[t,t']},type,pos,after,guard⟩).run C.P w=
      ((Builtin.copy_ #[t,t'] type #[a.eval d,a.eval x]).run C.P w).andThen fun v w=> .ok (.value v) w:=by
     simp[execOp,resolve,invoke,builtin]
    rw[e1]
    exact opCopy_ok p hT (hv d) (hv x) h
   ·rename_i d t ha ht
    have ha':args=#[d]:=by rw[<-Array.toList_inj];exact ha
    have ht':argTypes=#[t]:=by rw[<-Array.toList_inj];exact ht
    subst ha';subst ht'
    have e1:(execOp a.eval ⟨dst, .call {callee:= .builtin .clear,args:=#[d],argTypes:=#[t]},type,pos,after,guard⟩).run C.P w=
      ((Builtin.clear_ #[t] type #[a.eval d]).run C.P w).andThen fun v w=> .ok (.value v) w:=by
     simp[execOp,resolve,invoke,builtin]
    rw[e1]
    exact opClear_ok p hT (hv d) h
   ·rename_i x y t t' ha ht
    have ha':args=#[x,y]:=by rw[<-Array.toList_inj];exact ha
    have ht':argTypes=#[t,t']:=by rw[<-Array.toList_inj];exact ht
    subst ha';subst ht'
    have hx:=hv x
    have hy:=hv y
    split at h
    ·rename_i k m k' n hb1 hb2
     rw[hb1] at hx
     rw[hb2] at hy
     obtain⟨hx,_⟩:=hx.lit_inv
     obtain⟨hy,_⟩:=hy.lit_inv
     have e1:(execOp a.eval ⟨dst, .call {callee:= .builtin .min,args:=#[x,y],argTypes:=#[t,t']},type,pos,after,guard⟩).run C.P w= .ok (.value (.int k (if n<m then n else m))) w:=by
      simp[execOp,resolve,invoke,builtin,hx,hy,run_min_int2]
     rw[e1];exact ok_int p _ _ _
    ·exact h.elim
   ·rename_i x y t t' ha ht
    have ha':args=#[x,y]:=by rw[<-Array.toList_inj];exact ha
    have ht':argTypes=#[t,t']:=by rw[<-Array.toList_inj];exact ht
    subst ha';subst ht'
    have hx:=hv x
    have hy:=hv y
    split at h
    ·rename_i k m k' n hb1 hb2
     rw[hb1] at hx
     rw[hb2] at hy
     obtain⟨hx,_⟩:=hx.lit_inv
     obtain⟨hy,_⟩:=hy.lit_inv
     have e1:(execOp a.eval ⟨dst, .call {callee:= .builtin .max,args:=#[x,y],argTypes:=#[t,t']},type,pos,after,guard⟩).run C.P w= .ok (.value (.int k (if m<n then n else m))) w:=by
      simp[execOp,resolve,invoke,builtin,hx,hy,run_max_int2]
     rw[e1];exact ok_int p _ _ _
    ·exact h.elim
   ·exact h.elim
  |_=>exact h.elim
 |makeFunc fn first caps=>
  simp only[opV] at h ⊢
  split at h
  ·rename_i f hf
   have hf':first=#[]:=by rw[<-Array.toList_inj];exact hf
   subst hf'
   have e1:(execOp a.eval ⟨dst, .makeFunc (.func f) #[] caps,type,pos,after,guard⟩).run C.P w= .ok (.value (.func (.func f) #[] (caps.map a.eval))) w:=by
    simp[execOp,Instr.makeFunc]
   rw[e1]
   refine .pure p (.fn f _ _ (by simp) fun i hi=>?_)
   have hi':i<caps.size:=by simpa using hi
   have e2:(caps.map a.eval).getD i undef=a.eval caps[i]:=by simp[Array.getD_eq_getD_getElem?,hi']
   rw[e2]
   simp only[List.getElem_map,Array.getElem_toList]
   exact hv _
  ·rename_i f x xs hf
   have hf':first=(x::xs).toArray:=by rw[<-Array.toList_inj];exact hf
   have hc':caps=#[]:=by rw[<-Array.toList_inj];exact h
   subst hf';subst hc'
   have e1:(execOp a.eval ⟨dst, .makeFunc (.func f) (x::xs).toArray #[],type,pos,after,guard⟩).run C.P w= .ok (.value (.func (.func f) ((x::xs).map a.eval).toArray #[])) w:=by
    simp[execOp,Instr.makeFunc]
   rw[e1]
   refine .pure p (.bfn f _ _ (by simp) fun i hi=>?_)
   have hi':i<(x::xs).length:=by simpa using hi
   have e2:((x::xs).map a.eval).toArray.getD i undef=a.eval (x::xs)[i]:=by
    rw[Array.getD_eq_getD_getElem?,List.getElem?_toArray,List.getElem?_map,List.getElem?_eq_getElem hi']
    rfl
   rw[e2]
   simp only[List.getElem_map]
   exact hv _
  ·exact h.elim
 |_=>exact h.elim
end
open Go Go.Great
abbrev Nm:=List (Nat×Nat×Nat×Nat)
def lk:Nm->Nat->Option (Nat×Nat×Nat)
 |[],_=>none
 |(i,gi,a,ga)::l,n=>if a=n then some (i,gi,ga) else lk l n
def bw:Nm->Nat->Option (Nat×Nat×Nat)
 |[],_=>none
 |(i,gi,a,ga)::l,n=>if i=n then some (gi,a,ga) else bw l n
def rnA (m:Bool) (τ:Nm) (hp:Hp):AV->AV
 | .slO a g off len=>match lk τ a with
  |some (i,gi,ga)=>if g=ga then .slO i gi off len else .bad
  |none=>fz 4 hp (.slO a g off len)
 | .ptO a g n j off=>match lk τ a with
  |some (i,gi,ga)=>if g=ga then .ptO i gi n j off else .bad
  |none=>fz 4 hp (.ptO a g n j off)
 |v=>if m then fz 4 hp v else v
def rnAP (m:Bool) (τ:Nm) (hp:Hp):AV->Prop
 | .slO a g off len=>match lk τ a with
  |some (_,_,ga)=>g=ga
  |none=>fzP 4 hp (.slO a g off len)
 | .ptO a g n j off=>match lk τ a with
  |some (_,_,ga)=>g=ga
  |none=>fzP 4 hp (.ptO a g n j off)
 |v=>if m then fzP 4 hp v else fzP 0 hp v
def rnAR (m:Bool) (τ:Nm) (hp:Hp):AV->List Nat
 | .slO a g off len=>match lk τ a with
  |some _=>[]
  |none=>fzR 4 hp (.slO a g off len)
 | .ptO a g n j off=>match lk τ a with
  |some _=>[]
  |none=>fzR 4 hp (.ptO a g n j off)
 |v=>if m then fzR 4 hp v else[]
def rnB (m:Bool) (τ:Nm) (hp:Hp):AV->AV
 | .fn f cs=> .fn f (cs.map (rnA m τ hp))
 |v=>rnA m τ hp v
def rnBP (m:Bool) (τ:Nm) (hp:Hp):AV->Prop
 | .fn _ cs=>∀c∈cs,rnAP m τ hp c
 |v=>rnAP m τ hp v
def rnBR (m:Bool) (τ:Nm) (hp:Hp):AV->List Nat
 | .fn _ cs=>cs.flatMap (rnAR m τ hp)
 |v=>rnAR m τ hp v
def rnK (m:Bool) (τ:Nm) (hp:Hp):AV->AV
 | .kid t k es=> .kid t k es
 |v=>rnB m τ hp v
def rnKP (m:Bool) (τ:Nm) (hp:Hp):AV->Prop
 | .kid _ _ _=>True
 |v=>rnBP m τ hp v
def rnKR (m:Bool) (τ:Nm) (hp:Hp):AV->List Nat
 | .kid _ _ _=>[]
 |v=>rnBR m τ hp v
def rnv (m:Bool) (τ:Nm) (hp:Hp) (v:AV):AV:=mapc (rnB m τ hp) v
def rnvP (m:Bool) (τ:Nm) (hp:Hp) (v:AV):Prop:=∀c∈v.cells,rnBP m τ hp c
def rnvR (m:Bool) (τ:Nm) (hp:Hp) (v:AV):List Nat:=v.cells.flatMap (rnBR m τ hp)
def rnt (m:Bool) (τ:Nm) (hp:Hp):AV->AV
 | .tup vs=> .tup (vs.map (rnv m τ hp))
 |v=>rnv m τ hp v
def rntP (m:Bool) (τ:Nm) (hp:Hp):AV->Prop
 | .tup vs=>∀v∈vs,rnvP m τ hp v
 |v=>rnvP m τ hp v
def rntR (m:Bool) (τ:Nm) (hp:Hp):AV->List Nat
 | .tup vs=>vs.flatMap (rnvR m τ hp)
 |v=>rnvR m τ hp v
def rnO (m:Bool) (τ:Nm) (hp:Hp):Ob->Ob
 | .own t k es=> .own t k (es.map (mapc (rnK m τ hp)))
 | .box cs=> .box (cs.map (rnB m τ hp))
 | .mp es=> .mp es
 | .ms es=> .ms es
 | .bd t e bs=> .bd t e bs
def rnOP (m:Bool) (τ:Nm) (hp:Hp):Ob->Prop
 | .own _ _ es=>∀e∈es,∀c∈e.cells,rnKP m τ hp c
 | .box cs=>∀c∈cs,rnBP m τ hp c
 | .mp _=>True
 | .ms _=>False
 | .bd _ _ _=>True
def rnOR (m:Bool) (τ:Nm) (hp:Hp):Ob->List Nat
 | .own _ _ es=>es.flatMap fun e=>e.cells.flatMap (rnKR m τ hp)
 | .box cs=>cs.flatMap (rnBR m τ hp)
 | .mp _=>[]
 | .ms _=>[]
 | .bd _ _ _=>[]
def rnH (m:Bool) (τ:Nm) (hp:Hp):Hp:=τ.map fun q=>(q.1,(hp.get q.2.2.1).map fun x=>(q.2.1,rnO m τ hp x.2))
def rnHP (m:Bool) (τ:Nm) (hp:Hp):Nm->Prop
 |[]=>True
 |(_,_,a,ga)::l=>(match hp.get a with|some (g,ob)=>g=ga/\rnOP m τ hp ob|none=>False)/\rnHP m τ hp l
def rnHR (m:Bool) (τ:Nm) (hp:Hp):Nm->List Nat
 |[]=>[]
 |(_,_,a,_)::l=>(match hp.get a with|some (_,ob)=>rnOR m τ hp ob|none=>[])++rnHR m τ hp l
theorem lk_mem:∀{τ:Nm} {a i gi ga:Nat},lk τ a=some (i,gi,ga)->(i,gi,a,ga)∈τ
 |[],_,_,_,_,h=>by cases h
 |(i',gi',a',ga')::l,a,i,gi,ga,h=>by
  simp only[lk] at h
  split at h
  ·rename_i ha;subst ha;cases h;exact List.mem_cons_self
  ·exact List.mem_cons_of_mem _ (lk_mem h)
theorem bw_mem:∀{τ:Nm} {a i gi ga:Nat},bw τ i=some (gi,a,ga)->(i,gi,a,ga)∈τ
 |[],_,_,_,_,h=>by cases h
 |(i',gi',a',ga')::l,a,i,gi,ga,h=>by
  simp only[bw] at h
  split at h
  ·rename_i ha;subst ha;cases h;exact List.mem_cons_self
  ·exact List.mem_cons_of_mem _ (bw_mem h)
structure NmOk (τ:Nm):Prop where
 n1:(τ.map (·.1)).Nodup
 n2:(τ.map (·.2.2.1)).Nodup
theorem NmOk.bw:∀{τ:Nm},(τ.map (·.1)).Nodup->∀{a i gi ga:Nat},(i,gi,a,ga)∈τ->Sym.bw τ i=some (gi,a,ga)
 |[],_,_,_,_,_,h=>by cases h
 |(i',gi',a',ga')::l,h,a,i,gi,ga,hm=>by
  simp only[List.map_cons,List.nodup_cons] at h
  simp only[Sym.bw]
  rcases List.mem_cons.1 hm with h1|h1
  ·cases h1;rw[if_pos rfl]
  ·rw[if_neg ?_]
   ·exact NmOk.bw h.2 h1
   ·rintro rfl;exact h.1 (List.mem_map.2 ⟨_,h1,rfl⟩)
theorem NmOk.lk:∀{τ:Nm},(τ.map (·.2.2.1)).Nodup->∀{a i gi ga:Nat},(i,gi,a,ga)∈τ->Sym.lk τ a=some (i,gi,ga)
 |[],_,_,_,_,_,h=>by cases h
 |(i',gi',a',ga')::l,h,a,i,gi,ga,hm=>by
  simp only[List.map_cons,List.nodup_cons] at h
  simp only[Sym.lk]
  rcases List.mem_cons.1 hm with h1|h1
  ·cases h1;rw[if_pos rfl]
  ·rw[if_neg ?_]
   ·exact NmOk.lk h.2 h1
   ·rintro rfl;exact h.1 (List.mem_map.2 ⟨_,h1,rfl⟩)
theorem get_rnH {m:Bool} {τ:Nm} {hp:Hp} {σ:Nm} (i:Nat):Hp.get (σ.map fun q=>(q.1,(hp.get q.2.2.1).map fun x=>(q.2.1,rnO m τ hp x.2))) i=
  match Sym.bw σ i with|some (gi,a,_)=>(hp.get a).map fun x=>(gi,rnO m τ hp x.2)|none=>none:=by
 induction σ with
 |nil=>rfl
 |cons q σ ih=>
  obtain⟨i',gi',a',ga'⟩:=q
  simp only[List.map_cons,Hp.get,Sym.bw]
  split
  ·rfl
  ·exact ih
theorem rnHP_all {m:Bool} {τ:Nm} {hp:Hp}:∀{σ:Nm},rnHP m τ hp σ->∀{i gi a ga:Nat},(i,gi,a,ga)∈σ->∃ob,hp.get a=some (ga,ob)/\rnOP m τ hp ob
 |[],_,_,_,_,_,h=>by cases h
 |(i',gi',a',ga')::l,h,i,gi,a,ga,hm=>by
  obtain⟨h1,h2⟩:=h
  rcases List.mem_cons.1 hm with h3|h3
  ·cases h3
   split at h1
   ·rename_i g ob hg;obtain⟨rfl,h1⟩:=h1;exact⟨ob,hg,h1⟩
   ·exact h1.elim
  ·exact rnHP_all h2 h3
theorem rnHR_mem {m:Bool} {τ:Nm} {hp:Hp}:∀{σ:Nm} {i gi a ga g:Nat} {ob:Ob} {d:Nat},(i,gi,a,ga)∈σ->hp.get a=some (g,ob)->d∈rnOR m τ hp ob->d∈rnHR m τ hp σ
 |[],_,_,_,_,_,_,_,h,_,_=>by cases h
 |(i',gi',a',ga')::l,i,gi,a,ga,g,ob,d,hm,hg,hd=>by
  rcases List.mem_cons.1 hm with h3|h3
  ·cases h3
   simp only[rnHR,hg]
   exact List.mem_append_left _ hd
  ·exact List.mem_append_right _ (rnHR_mem h3 hg hd)
def OwnBy (e:Env) (id b:Nat):Prop:=(∃ee c,e id=some ee/\ee.blk=some (b,c))\/∃B c' ee c,e.kid b=some (B,c')/\e id=some ee/\ee.blk=some (B,c)
theorem OwnBy.own {e:Env} {id b:Nat} (h:OwnBy e id b):OwnB e b:=by
 rcases h with ⟨ee,c,h1,h2⟩|⟨B,c',ee,c,h1,h2,h3⟩
 ·exact .inl ⟨id,ee,c,h1,h2⟩
 ·exact .inr ⟨B,c',h1,id,ee,c,h2,h3⟩
theorem OwnBy.uniq {w:World} {e:Env} {G:Nat->Prop} {hp:Hp} (hr:HRel w e G hp) {id id' b:Nat} (h:OwnBy e id b) (h':OwnBy e id' b):id=id':=by
 rcases h with ⟨ee,c,h1,h2⟩|⟨B,c1,ee,c,h1,h2,h3⟩<;>rcases h' with ⟨ee',c',h1',h2'⟩|⟨B',c1',ee',c',h1',h2',h3'⟩
 ·exact hr.inj _ _ _ _ _ _ _ h1 h1' h2 h2'
 ·have:=hr.ko b ⟨id,ee,c,h1,h2⟩;rw[h1'] at this;cases this
 ·have:=hr.ko b ⟨id',ee',c',h1',h2'⟩;rw[h1] at this;cases this
 ·rw[h1] at h1';cases h1'
  exact hr.inj _ _ _ _ _ _ _ h2 h2' h3 h3'
section
open Classical in
noncomputable def eN (τ:Nm) (e:Env) (z':Nat->Prop):Env:=
 ⟨fun i=>match Sym.bw τ i with|some (gi,a,_)=>(e a).map fun ee=>{ee with g:=gi}|none=>none,z',
  fun b=>match e.kid b with
  |some (B,c)=>if ∃q∈τ,∃ee cc,e q.2.2.1=some ee/\ee.blk=some (B,cc) then some (B,c) else none
  |none=>none⟩
end
theorem eN_some {τ:Nm} {e:Env} {z':Nat->Prop} {i:Nat} {ee':EE} (h:eN τ e z' i=some ee'):∃gi a ga ee,(i,gi,a,ga)∈τ/\e a=some ee/\ee'={ee with g:=gi}:=by
 simp only[eN] at h
 cases hb:Sym.bw τ i with
 |none=>rw[hb] at h;cases h
 |some q=>
  obtain⟨gi,a,ga⟩:=q
  rw[hb] at h
  cases he:e a with
  |none=>simp only[he] at h;cases h
  |some ee=>
   simp only[he,Option.map_some,Option.some.injEq] at h
   exact⟨gi,a,ga,ee,bw_mem hb,he,h.symm⟩
theorem eN_of {τ:Nm} (hn:NmOk τ) {e:Env} {z':Nat->Prop} {i gi a ga:Nat} {ee:EE} (h:(i,gi,a,ga)∈τ) (he:e a=some ee):eN τ e z' i=some {ee with g:=gi}:=by
 simp only[eN,NmOk.bw hn.n1 h,he,Option.map_some]
theorem eN_obj {τ:Nm} {e:Env} {z':Nat->Prop} {b:Nat} (h:ObjB (eN τ e z') b):∃q∈τ,∃ee c,e q.2.2.1=some ee/\ee.blk=some (b,c):=by
 obtain⟨i,ee',c,h1,h2⟩:=h
 obtain⟨gi,a,ga,ee,h3,h4,rfl⟩:=eN_some h1
 exact⟨_,h3,ee,c,h4,h2⟩
theorem eN_kid {τ:Nm} {e:Env} {z':Nat->Prop} {b B c:Nat} (h:(eN τ e z').kid b=some (B,c)):e.kid b=some (B,c)/\∃q∈τ,∃ee cc,e q.2.2.1=some ee/\ee.blk=some (B,cc):=by
 simp only[eN] at h
 split at h
 ·rename_i B' c' hk
  split at h
  ·rename_i hx;cases h;exact⟨hk,hx⟩
  ·cases h
 ·cases h
theorem eN_kid_of {τ:Nm} {e:Env} {z':Nat->Prop} {b B c:Nat} (h:e.kid b=some (B,c)) (hx:∃q∈τ,∃ee cc,e q.2.2.1=some ee/\ee.blk=some (B,cc)):(eN τ e z').kid b=some (B,c):=by
 simp only[eN,h,if_pos hx]
theorem eN_own {τ:Nm} {e:Env} {z':Nat->Prop} {b:Nat} (h:OwnB (eN τ e z') b):∃q∈τ,OwnBy e q.2.2.1 b:=by
 rcases h with h|⟨B,c,hk,ho⟩
 ·obtain⟨q,hq,ee,c,h1,h2⟩:=eN_obj h
  exact⟨q,hq, .inl ⟨ee,c,h1,h2⟩⟩
 ·obtain⟨h1,_⟩:=eN_kid hk
  obtain⟨q,hq,ee,cc,h3,h4⟩:=eN_obj ho
  exact⟨q,hq, .inr ⟨B,c,ee,cc,h1,h3,h4⟩⟩
theorem rnA_one {m:Bool} {τ:Nm} {hp:Hp} {c:AV} (h:rnAP m τ hp c):(rnA m τ hp c).one=true:=by
 cases c with
 |slO a g off len=>
  simp only[rnA,rnAP] at h ⊢
  cases hl:lk τ a with
  |none=>simp only[hl] at h ⊢;exact fz_one h
  |some q=>obtain⟨i,gi,ga⟩:=q;simp only[hl] at h ⊢;rw[if_pos h];rfl
 |ptO a g n j off=>
  simp only[rnA,rnAP] at h ⊢
  cases hl:lk τ a with
  |none=>simp only[hl] at h ⊢;exact fz_one h
  |some q=>obtain⟨i,gi,ga⟩:=q;simp only[hl] at h ⊢;rw[if_pos h];rfl
 |_=>
  cases m with
  |true=>exact fz_one (n:=4) h
  |false=>first|rfl|exact h.elim
theorem rnB_one {m:Bool} {τ:Nm} {hp:Hp} {c:AV} (h:rnBP m τ hp c):(rnB m τ hp c).one=true:=by
 cases c with
 |fn f cs=>rfl
 |_=>(simp only[rnB,rnBP] at h ⊢;exact rnA_one h)
theorem rnK_one {m:Bool} {τ:Nm} {hp:Hp} {c:AV} (h:rnKP m τ hp c):(rnK m τ hp c).one=true:=by
 cases c with
 |kid t k es=>rfl
 |_=>(simp only[rnK,rnKP] at h ⊢;exact rnB_one h)
theorem one_cells {c:AV} (h:c.one=true):c.cells=[c]:=by cases c<;>first|rfl|cases h
theorem rnK_cells {m:Bool} {τ:Nm} {hp:Hp} {el:AV} (hc:∀c∈el.cells,c.one=true) (hP:∀c∈el.cells,rnKP m τ hp c):(mapc (rnK m τ hp) el).cells=el.cells.map (rnK m τ hp):=by
 cases el with
 |agg cs=>rfl
 |bad=>have:=hc .bad (by simp[AV.cells]);cases this
 |tup cs=>have:=hc (.tup cs) (by simp[AV.cells]);cases this
 |_=>exact one_cells (rnK_one (hP _ List.mem_cons_self))
section
variable {C:Cx} {e:Env} {G G':Nat->Prop} {g:Nat} {hp:Hp} {w:World} {T:Tab} {m:Bool} {τ:Nm} {D:List Nat} {z':Nat->Prop}
structure RnOk (m:Bool) (e:Env) (hp:Hp) (G':Nat->Prop) (τ:Nm) (D:List Nat) (z':Nat->Prop):Prop where
 nm:NmOk τ
 hpP:rnHP m τ hp τ
 hpR:∀d∈rnHR m τ hp τ,d∈D
 dis:∀d∈D,lk τ d=none
 gen:∀q∈τ,G' q.2.1
 z1:∀b,e.z b->z' b
 z2:∀b,z' b->e.z b\/∃id,id∉D/\lk τ id=none/\OwnBy e id b
theorem RnOk.frz (h:RnOk m e hp G' τ D z') (hr:HRel w e G hp):Frz e (eN τ e z') (·∈D):=by
 have notin:∀{id b},id∈D->OwnBy e id b->UE (eN τ e z') b:=by
  intro id b hid ho
  refine⟨fun hz=>?_,fun ho'=>?_⟩
  ·rcases h.z2 b hz with hz|⟨id',h1,_,h3⟩
   ·exact hr.own_nz ho.own hz
   ·have:=OwnBy.uniq hr ho h3;subst this;exact h1 hid
  ·obtain⟨q,hq,h1⟩:=eN_own ho'
   have:=OwnBy.uniq hr ho h1
   subst this
   have h2:=h.dis _ hid
   rw[NmOk.lk h.nm.n2 (show(q.1,q.2.1,q.2.2.1,q.2.2.2)∈τ from hq)] at h2
   cases h2
 refine⟨fun b hb=>⟨fun hz=>?_,fun ho=>?_⟩,fun id ee b c hid he hb=>⟨notin hid (.inl ⟨ee,c,he,hb⟩),fun b' c' hk=>notin hid (.inr ⟨b,c',ee,c,hk,he,hb⟩)⟩⟩
 ·rcases h.z2 b hz with hz|⟨id',_,_,h3⟩
  ·exact hb.1 hz
  ·exact hb.2 h3.own
 ·obtain⟨q,_,h1⟩:=eN_own ho
  exact hb.2 h1.own
theorem RnOk.vrA (h:RnOk m e hp G' τ D z') (hr:HRel w e G hp) {v:AV} {x:Value} (hv:VR w (UE e) e G v x) (hP:rnAP m τ hp v) (hD:∀d∈rnAR m τ hp v,d∈D):VR w (UE (eN τ e z')) (eN τ e z') G' (rnA m τ hp v) x:=by
 have x1:=h.frz hr
 cases v with
 |slO a g' off len=>
  simp only[rnA,rnAP,rnAR] at hP hD ⊢
  cases hl:lk τ a with
  |none=>simp only[hl] at hP hD ⊢;exact .dat _ _ (fz_ok hr x1 4 hv hP hD)
  |some q=>
   obtain⟨i,gi,ga⟩:=q
   simp only[hl] at hP ⊢
   subst hP
   rw[if_pos rfl]
   have hm:=lk_mem hl
   obtain⟨h1,h2,h3⟩:=hv.slO_inv
   refine .slO _ _ _ _ _ (h.gen _ hm) h2 fun ee' he' hg'=>?_
   obtain⟨gi',a',ga',ee,h4,h5,rfl⟩:=eN_some he'
   have h6:=NmOk.bw h.nm.n1 hm
   rw[NmOk.bw h.nm.n1 h4] at h6
   cases h6
   obtain⟨ob,h7,_⟩:=rnHP_all h.hpP hm
   obtain⟨ee2,h8,h9,_⟩:=hr.live _ _ _ h7
   rw[h5] at h8;cases h8
   obtain⟨h10,h11⟩:=h3 ee h5 h9
   exact⟨h10,fun hn=>h11 hn⟩
 |ptO a g' n j off=>
  simp only[rnA,rnAP,rnAR] at hP hD ⊢
  cases hl:lk τ a with
  |none=>simp only[hl] at hP hD ⊢;exact .dat _ _ (fz_ok hr x1 4 hv hP hD)
  |some q=>
   obtain⟨i,gi,ga⟩:=q
   simp only[hl] at hP ⊢
   subst hP
   rw[if_pos rfl]
   have hm:=lk_mem hl
   obtain⟨h1,h2,h3⟩:=hv.ptO_inv
   refine .ptO _ _ _ _ _ _ (h.gen _ hm) h2 fun ee' he' hg'=>?_
   obtain⟨gi',a',ga',ee,h4,h5,rfl⟩:=eN_some he'
   have h6:=NmOk.bw h.nm.n1 hm
   rw[NmOk.bw h.nm.n1 h4] at h6
   cases h6
   obtain⟨ob,h7,_⟩:=rnHP_all h.hpP hm
   obtain⟨ee2,h8,h9,_⟩:=hr.live _ _ _ h7
   rw[h5] at h8;cases h8
   obtain⟨h10,h11⟩:=h3 ee h5 h9
   exact⟨h10,fun hn=>h11 hn⟩
 |_=>
  cases m with
  |true=>exact .dat _ _ (fz_ok hr x1 4 hv hP hD)
  |false=>
   have mono:∀{v:AV},VD w (UE e) v x->VD w (UE (eN τ e z')) v x:=fun h=>h.mono (Nat.le_refl _) (fun b _ hb=>x1.un b hb) (fun _ _ _=>rfl)
   cases hv with
   |dat _ _ hv=>exact .dat _ _ (mono hv)
   |_=>exact hP.elim
theorem fn_inv {f:FuncId} {cs:List AV} {x:Value} {U:Nat->Prop} (h:VR w U e G (.fn f cs) x):∃vs:Array Value,x= .func (.func f) #[] vs/\cs.length=vs.size/\∀i (h:i<cs.length),VR w U e G cs[i] (vs.getD i undef):=by
 cases h with
 |dat _ _ h=>cases h with|fn _ _ vs h1 h2=>exact⟨vs,rfl,h1,fun i hi=> .dat _ _ (h2 i hi)⟩
 |fn _ _ vs h1 h2=>exact⟨vs,rfl,h1,h2⟩
theorem RnOk.vrB (h:RnOk m e hp G' τ D z') (hr:HRel w e G hp) {v:AV} {x:Value} (hv:VR w (UE e) e G v x) (hP:rnBP m τ hp v) (hD:∀d∈rnBR m τ hp v,d∈D):VR w (UE (eN τ e z')) (eN τ e z') G' (rnB m τ hp v) x:=by
 cases v with
 |fn f cs=>
  obtain⟨vs,rfl,q1,q2⟩:=fn_inv hv
  refine .fn _ _ _ (by simpa using q1) fun i hi=>?_
  have hi':i<cs.length:=by simpa using hi
  simp only[List.getElem_map]
  exact h.vrA hr (q2 i hi') (hP _ (List.getElem_mem hi')) fun d hd=>hD d (List.mem_flatMap.2 ⟨_,List.getElem_mem hi',hd⟩)
 |_=>exact h.vrA hr hv hP hD
theorem RnOk.vrv (h:RnOk m e hp G' τ D z') (hr:HRel w e G hp) {v:AV} {x:Value} (hv:VR w (UE e) e G v x) (hP:rnvP m τ hp v) (hD:∀d∈rnvR m τ hp v,d∈D):VR w (UE (eN τ e z')) (eN τ e z') G' (rnv m τ hp v) x:=by
 cases v with
 |agg cs=>
  obtain⟨vs,rfl,hl,q1,q2⟩:=hv.agg_inv
  refine .agg _ _ (by simpa using hl) ?_ ?_
  ·intro i hi;simp only[List.getElem_map];exact rnB_one (hP _ (List.getElem_mem _))
  ·intro i hi
   have hi':i<cs.length:=by simpa using hi
   simp only[List.getElem_map]
   exact h.vrB hr (q2 i hi') (hP _ (List.getElem_mem hi')) fun d hd=>hD d (List.mem_flatMap.2 ⟨_,List.getElem_mem hi',hd⟩)
 |_=>exact h.vrB hr hv (hP _ List.mem_cons_self) fun d hd=>hD d (List.mem_flatMap.2 ⟨_,List.mem_cons_self,hd⟩)
theorem RnOk.vrt (h:RnOk m e hp G' τ D z') (hr:HRel w e G hp) {v:AV} {x:Value} (hv:VR w (UE e) e G v x) (hP:rntP m τ hp v) (hD:∀d∈rntR m τ hp v,d∈D):VR w (UE (eN τ e z')) (eN τ e z') G' (rnt m τ hp v) x:=by
 cases v with
 |tup cs=>
  obtain⟨vs,rfl,q1,q3⟩:=hv.tup_inv
  refine .tup _ _ (by simpa using q1) fun i hi=>?_
  have hi':i<cs.length:=by simpa using hi
  simp only[List.getElem_map]
  exact h.vrv hr (q3 i hi') (hP _ (List.getElem_mem hi')) fun d hd=>hD d (List.mem_flatMap.2 ⟨_,List.getElem_mem hi',hd⟩)
 |_=>exact h.vrv hr hv hP hD
theorem RnOk.rel (h:RnOk m e hp G' τ D z') (hr:HRel w e G hp):HRel w (eN τ e z') G' (rnH m τ hp):=by
 have hun:∀b,UE e b->UE (eN τ e z') b:=(h.frz hr).un
 have hnz:∀q∈τ,∀b,OwnBy e q.2.2.1 b->¬z' b:=by
  intro q hq b ho hz
  rcases h.z2 b hz with hz|⟨id',_,h2,h3⟩
  ·exact hr.own_nz ho.own hz
  ·have:=OwnBy.uniq hr ho h3
   subst this
   rw[NmOk.lk h.nm.n2 (show(q.1,q.2.1,q.2.2.1,q.2.2.2)∈τ from hq)] at h2
   cases h2
 constructor
 ·intro i hi
  unfold rnH at hi
  rw[get_rnH] at hi
  simp only[eN]
  cases hb:Sym.bw τ i with
  |none=>rfl
  |some q=>
   obtain⟨gi,a,ga⟩:=q
   obtain⟨ob,h1,_⟩:=rnHP_all h.hpP (bw_mem hb)
   simp only[hb,h1,Option.map_some] at hi
   cases hi
 ·intro i g' ob' hi
  unfold rnH at hi
  rw[get_rnH] at hi
  cases hb:Sym.bw τ i with
  |none=>simp only[hb] at hi;cases hi
  |some q=>
   obtain⟨gi,a,ga⟩:=q
   have hm:=bw_mem hb
   obtain⟨ob,h1,h2⟩:=rnHP_all h.hpP hm
   simp only[hb,h1,Option.map_some,Option.some.injEq,Prod.mk.injEq] at hi
   obtain⟨rfl,rfl⟩:=hi
   obtain⟨ee,he,hgg,_,hor⟩:=hr.live _ _ _ h1
   refine⟨_,eN_of h.nm hm he,rfl,h.gen _ hm,?_⟩
   have hDo:∀d∈rnOR m τ hp ob,d∈D:=fun d hd=>h.hpR d (rnHR_mem hm h1 hd)
   cases ob with
   |own t k es=>
    obtain⟨q1,q2,q3,q4,q5,q6⟩:=hor
    have hone:∀i (hi:i<es.length),∀c∈es[i].cells,c.one=true:=by
     intro i hi c hc
     obtain⟨j,hj,rfl⟩:=List.getElem_of_mem hc
     exact q5 i hi j hj
    have hP:∀i (hi:i<es.length),∀c∈es[i].cells,rnKP m τ hp c:=fun i hi c hc=>h2 _ (List.getElem_mem hi) c hc
    refine⟨q1,by simpa using q2,q3,?_,?_,?_⟩
    ·intro i hi
     have hi':i<es.length:=by simpa using hi
     simp only[List.getElem_map]
     rw[rnK_cells (hone i hi') (hP i hi'),List.length_map];exact q4 _ _
    ·intro i hi j hj
     have hi':i<es.length:=by simpa using hi
     simp only[List.getElem_map,rnK_cells (hone i hi') (hP i hi')] at hj ⊢
     exact rnK_one (hP i hi' _ (List.getElem_mem _))
    ·show(match ee.blk with|none=>_|some (b,bcap)=>_)
     cases hbl:ee.blk with
     |none=>rw[hbl] at q6;subst q6;rfl
     |some q=>
      obtain⟨b,bcap⟩:=q
      rw[hbl] at q6
      obtain⟨q7,q8,cs,q9,q10,q11⟩:=q6
      refine⟨q7,by simpa using q8,cs,q9,q10,fun i hi j hj=>?_⟩
      have hi':i<es.length:=by simpa using hi
      simp only[List.getElem_map,rnK_cells (hone i hi') (hP i hi')] at hj ⊢
      have hj':j<es[i].cells.length:=by simpa using hj
      have hvc:=q11 i hi' j hj'
      have hPc:=hP i hi' _ (List.getElem_mem hj')
      have hDc:∀d∈rnKR m τ hp es[i].cells[j],d∈D:=fun d hd=>hDo d (List.mem_flatMap.2 ⟨_,List.getElem_mem hi',List.mem_flatMap.2 ⟨_,List.getElem_mem hj',hd⟩⟩)
      generalize es[i].cells[j]=c at hvc hPc hDc
      generalize cs.getD (i*k+j) undef=x at hvc
      cases hvc with
      |val _ _ hvr=>
       cases c with
       |kid=>exact hvr.kid_no.elim
       |_=>exact .val _ _ (h.vrB hr hvr hPc hDc)
      |kid0 t' k' a h0=>exact .kid0 _ _ a h0
      |kid t' k' xs b' cap cs' k1 k2 k3 k4 k5 k6 k7 k8 k9=>
       exact .kid _ _ _ b' cap cs' (eN_kid_of k1 ⟨_,hm,ee,bcap,he,hbl⟩) k2 k3 k4 k5 k6 k7 k8 fun i hi j hj=>(k9 i hi j hj).mono (Nat.le_refl _) (fun b _ hb=>hun b hb) (fun _ _ _=>rfl)
   |box cs=>
    obtain⟨q1,q2,b,c,vs,t,q3,q4,q5,q6⟩:=hor
    refine⟨q1,?_,b,c,vs,t,q3,q4,by simpa using q5,fun j hj=>?_⟩
    ·intro j hj;simp only[List.getElem_map];exact rnB_one (h2 _ (List.getElem_mem _))
    ·have hj':j<cs.length:=by simpa using hj
     simp only[List.getElem_map]
     exact h.vrB hr (q6 j hj') (h2 _ (List.getElem_mem _)) fun d hd=>hDo d (List.mem_flatMap.2 ⟨_,List.getElem_mem hj',hd⟩)
   |mp es=>exact hor
   |ms es=>exact h2.elim
   |bd t e bs=>
    obtain⟨q1,b,c,p,v,q3,q4,q5,q6⟩:=hor
    exact⟨q1,b,c,p,v,q3,q4,q5,q6.ext fun g hg=>⟨rfl,eN_kid_of hg ⟨_,hm,ee,c,he,q3⟩⟩⟩
 ·intro i j ei ej b c c' hi hj hbi hbj
  obtain⟨gi,a,ga,ee,h1,h2,rfl⟩:=eN_some hi
  obtain⟨gj,a',ga',ee',h1',h2',rfl⟩:=eN_some hj
  have:=hr.inj a a' ee ee' b c c' h2 h2' hbi hbj
  subst this
  have h3:=NmOk.lk h.nm.n2 h1
  rw[NmOk.lk h.nm.n2 h1'] at h3
  cases h3;rfl
 ·intro i ei b c hi hb
  obtain⟨gi,a,ga,ee,h1,h2,rfl⟩:=eN_some hi
  exact hr.lt _ _ _ _ h2 hb
 ·intro i ei b c hi hb
  obtain⟨gi,a,ga,ee,h1,h2,rfl⟩:=eN_some hi
  exact hnz _ h1 b (.inl ⟨ee,c,h2,hb⟩)
 ·intro b B c hk
  obtain⟨h1,q,hq,ee,cc,h2,h3⟩:=eN_kid hk
  exact⟨(hr.kl _ _ _ h1).1,(hr.kl _ _ _ h1).2.1,hnz _ hq b (.inr ⟨B,c,ee,cc,h1,h2,h3⟩)⟩
 ·intro b ho
  obtain⟨q,hq,ee,c,h1,h2⟩:=eN_obj ho
  cases hk:(eN τ e z').kid b with
  |none=>rfl
  |some p=>
   have:=hr.ko b ⟨_,ee,c,h1,h2⟩
   rw[(eN_kid (B:=p.1) (c:=p.2) hk).1] at this;cases this
 ·intro b B c hk
  obtain⟨h1,q,hq,ee,cc,h2,h3⟩:=eN_kid hk
  cases hk':(eN τ e z').kid B with
  |none=>rfl
  |some p=>
   have:=hr.ko B ⟨_,ee,cc,h2,h3⟩
   rw[(eN_kid (B:=p.1) (c:=p.2) hk').1] at this;cases this
end
open Go Go.Great
structure FrameE (e:Env) (w w':World):Prop where
 os:w'.os=w.os
 tape:w'.tape=w.tape
 output:w'.output=w.output
 size:w.heap.size<=w'.heap.size
 same:∀b,b<w.heap.size->¬OwnB e b->w'.heap[b]?=w.heap[b]?
def Enters (P:Program) (f:FuncId):Prop:=∃fn,P.funcs[f]?=some fn/\(fn.name== "runtime.NumGoroutine")=false/\fn.body.isNone=false
def SatG (P:Program) (T:Tab) (f:FuncId) (hp:Hp) (as:List AV) (hp':Hp) (r:AV):Prop:=
 Enters P f/\∀(w:World) (e:Env) (vals:Array Value),HRel w e (Glt 1) hp->(∀b,e.z b->b<w.heap.size)->GOk T w (UE e)->as.length=vals.size->
  (∀i (h:i<as.length),VR w (UE e) e (Glt 1) as[i] (vals.getD i undef))->
  Calls P f vals w fun en w'=>∃v e',en= .returned v/\HRel w' e' (Glt 2) hp'/\VR w' (UE e') e' (Glt 2) r v/\Ext w e (Glt 1) w' e' (Glt 2)/\e'.z=e.z/\
   (∀b,OwnB e' b->w.heap.size<=b\/OwnB e b)/\FrameE e w w'
def isLit:AV->Prop
 | .lit _=>True
 |_=>False
def trA (keep:Bool) (L:List Nat):AV->Prop
 | .slO id _ _ _=>id∈L
 | .ptO id _ _ _ _=>id∈L
 | .lit _| .gl _| .ifn| .anyI _=>True
 | .sl es full=>keep=false\/(es=[]/\full=true)
 | .kid _ _ es=>keep=false\/∀e∈es,∀c∈e.cells,isLit c
 | .bad=>True
 | .fn _ cs=>keep=false/\∀c∈cs,match c with| .slO id _ _ _=>id∈L| .ptO id _ _ _ _=>id∈L| .lit _| .sl _ _| .ptI _| .gl _=>True|_=>False
 | .ptI _=>keep=false
 |_=>False
def trv (keep:Bool) (L:List Nat) (v:AV):Prop:=∀c∈v.cells,trA keep L c
def trt (keep:Bool) (L:List Nat):AV->Prop
 | .tup vs=>∀v∈vs,trv keep L v
 |v=>trv keep L v
def trO (keep:Bool) (L:List Nat):Ob->Prop
 | .own _ _ es=>∀e∈es,trv keep L e
 | .box cs=>∀c∈cs,trA keep L c
 | .mp _=>True
 | .ms _=>False
 | .bd _ _ _=>True
def trH (keep:Bool) (L:List Nat):Hp->Prop
 |[]=>True
 |(_,some (_,ob))::h=>trO keep L ob/\trH keep L h
 |(_,none)::h=>trH keep L h
theorem trH_get {keep:Bool} {L:List Nat}:∀{hp:Hp},trH keep L hp->∀{i g:Nat} {ob:Ob},hp.get i=some (g,ob)->trO keep L ob
 |[],_,_,_,_,h=>by cases h
 |(j,none)::hp,h,i,g,ob,hg=>by
  simp only[Hp.get] at hg
  split at hg
  ·cases hg
  ·exact trH_get (hp:=hp) h hg
 |(j,some (g',ob'))::hp,h,i,g,ob,hg=>by
  simp only[Hp.get] at hg
  split at hg
  ·cases hg;exact h.1
  ·exact trH_get (hp:=hp) h.2 hg
section
variable {C:Cx} {e:Env} {G G':Nat->Prop} {g:Nat} {hp:Hp} {w:World} {T:Tab}
theorem isLit_VD {w:World} {U U':Nat->Prop} {c:AV} {x:Value} (h:isLit c) (hv:VD w U c x):VD w U' c x:=by
 cases hv<;>first|exact .lit _ (by assumption)|exact h.elim
theorem tr_vrA {w:World} {e1 e2:Env} {G:Nat->Prop} {keep:Bool} {L:List Nat} (hU:keep=false->∀b,UE e1 b->UE e2 b) (hm:∀id∈L,e2 id=e1 id) {v:AV} {x:Value} (hv:VR w (UE e1) e1 G v x) (h:trA keep L v):
  VR w (UE e2) e2 G v x:=by
 have drop:∀{v:AV} {x:Value},keep=false->VD w (UE e1) v x->VD w (UE e2) v x:=fun hk hv=>hv.mono (Nat.le_refl _) (fun b _ hb=>hU hk b hb) (fun _ _ _=>rfl)
 cases v with
 |slO id g' off len=>
  obtain⟨h1,h2,h3⟩:=hv.slO_inv
  exact .slO _ _ _ _ _ h1 h2 fun ee he=>h3 ee ((hm id h).symm.trans he)
 |ptO id g' n i off=>
  obtain⟨h1,h2,h3⟩:=hv.ptO_inv
  exact .ptO _ _ _ _ _ _ h1 h2 fun ee he=>h3 ee ((hm id h).symm.trans he)
 |lit v=>obtain⟨rfl,h1⟩:=hv.lit_inv;exact .dat _ _ (.lit _ h1)
 |gl g'=>rw[hv.gl_inv];exact .dat _ _ (.gl _)
 |ifn=>cases hv with|dat _ _ hv=>cases hv;exact .dat _ _ (.ifn _ _)
 |anyI k=>cases hv with|dat _ _ hv=>cases hv;exact .dat _ _ (.anyI _ _)
 |sl es full=>
  rcases h with hk|⟨rfl,rfl⟩
  ·exact .dat _ _ (drop hk hv.sl_inv)
  ·obtain⟨a,cap,rfl,_,hc⟩:=hv.slice_cap
   rw[hc rfl]
   exact .dat _ _ (.nil _ _)
 |kid t k es=>exact hv.kid_no.elim
 |bad=>exact .dat _ _ (.bad _)
 |ptI cs=>exact .dat _ _ (drop h hv.ptI_inv)
 |fn f cs=>
  obtain⟨hk,h⟩:=h
  obtain⟨vs,rfl,q1,q2⟩:=fn_inv hv
  refine .fn _ _ _ q1 fun i hi=>?_
  have h1:=h _ (List.getElem_mem hi)
  have h2:=q2 i hi
  generalize cs[i]=c at h1 h2
  generalize vs.getD i undef=x at h2
  cases c with
  |slO id g' off len=>
   obtain⟨k1,k2,k3⟩:=h2.slO_inv
   exact .slO _ _ _ _ _ k1 k2 fun ee he=>k3 ee ((hm id h1).symm.trans he)
  |ptO id g' n i off=>
   obtain⟨k1,k2,k3⟩:=h2.ptO_inv
   exact .ptO _ _ _ _ _ _ k1 k2 fun ee he=>k3 ee ((hm id h1).symm.trans he)
  |lit v=>obtain⟨rfl,k1⟩:=h2.lit_inv;exact .dat _ _ (.lit _ k1)
  |gl g'=>rw[h2.gl_inv];exact .dat _ _ (.gl _)
  |sl es full=>exact .dat _ _ (drop hk h2.sl_inv)
  |ptI cs=>exact .dat _ _ (drop hk h2.ptI_inv)
  |_=>exact h1.elim
 |_=>exact h.elim
theorem tr_vrv {w:World} {e1 e2:Env} {G:Nat->Prop} {keep:Bool} {L:List Nat} (hU:keep=false->∀b,UE e1 b->UE e2 b) (hm:∀id∈L,e2 id=e1 id) {v:AV} {x:Value} (hv:VR w (UE e1) e1 G v x) (h:trv keep L v):
  VR w (UE e2) e2 G v x:=by
 cases v with
 |agg cs=>
  obtain⟨vs,rfl,hl,q1,q2⟩:=hv.agg_inv
  exact .agg _ _ hl q1 fun i hi=>tr_vrA hU hm (q2 i hi) (h _ (List.getElem_mem hi))
 |_=>exact tr_vrA hU hm hv (h _ List.mem_cons_self)
theorem tr_vrt {w:World} {e1 e2:Env} {G:Nat->Prop} {keep:Bool} {L:List Nat} (hU:keep=false->∀b,UE e1 b->UE e2 b) (hm:∀id∈L,e2 id=e1 id) {v:AV} {x:Value} (hv:VR w (UE e1) e1 G v x) (h:trt keep L v):
  VR w (UE e2) e2 G v x:=by
 cases v with
 |tup cs=>
  obtain⟨vs,rfl,q1,q3⟩:=hv.tup_inv
  exact .tup _ _ q1 fun i hi=>tr_vrv hU hm (q3 i hi) (h _ (List.getElem_mem hi))
 |_=>exact tr_vrv hU hm hv h
theorem tr_O {w:World} {e1 e2:Env} {G:Nat->Prop} {keep:Bool} {L:List Nat} (hU:keep=false->∀b,UE e1 b->UE e2 b) (hm:∀id∈L,e2 id=e1 id) {ob:Ob} {ee:EE} (ho:ORel w e1 G ob ee) (h:trO keep L ob)
  (hk:∀b c b' c',ee.blk=some (b,c)->e1.kid b'=some (b,c')->e2.kid b'=some (b,c')):ORel w e2 G ob ee:=by
 cases ob with
 |own t k es=>
  obtain⟨h1,h2,h3,h4,h5,h6⟩:=ho
  refine⟨h1,h2,h3,h4,h5,?_⟩
  cases hbl:ee.blk with
  |none=>rw[hbl] at h6;exact h6
  |some p=>
   obtain⟨b,bcap⟩:=p
   rw[hbl] at h6
   obtain⟨h7,h8,cs,h9,h10,h11⟩:=h6
   refine⟨h7,h8,cs,h9,h10,fun i hi j hj=>?_⟩
   have hvc:=h11 i hi j hj
   have ht:=h _ (List.getElem_mem hi) _ (List.getElem_mem hj)
   generalize es[i].cells[j]=c at hvc ht
   generalize cs.getD (i*k+j) undef=x at hvc
   cases hvc with
   |val _ _ hvr=>exact .val _ _ (tr_vrA hU hm hvr ht)
   |kid0 _ _ a h0=>exact .kid0 _ _ a h0
   |kid t' k' xs b' cap cs' k1 k2 k3 k4 k5 k6 k7 k8 k9=>
    refine .kid _ _ _ b' cap cs' (hk b bcap b' _ hbl k1) k2 k3 k4 k5 k6 k7 k8 fun a ha c hc=>?_
    rcases ht with ht|ht
    ·exact(k9 a ha c hc).mono (Nat.le_refl _) (fun b _ hb=>hU ht b hb) (fun _ _ _=>rfl)
    ·exact isLit_VD (ht _ (List.getElem_mem ha) _ (List.getElem_mem hc)) (k9 a ha c hc)
 |box cs=>
  obtain⟨h1,h2,b,c,vs,t,h3,h4,h5,h6⟩:=ho
  exact⟨h1,h2,b,c,vs,t,h3,h4,h5,fun j hj=>tr_vrA hU hm (h6 j hj) (h _ (List.getElem_mem hj))⟩
 |mp es=>exact ho
 |ms es=>exact h.elim
 |bd t e bs=>
  obtain⟨q1,b,c,p,v,q3,q4,q5,q6⟩:=ho
  exact⟨q1,b,c,p,v,q3,q4,q5,q6.ext fun g hg=>⟨rfl,hk b c g _ q3 hg⟩⟩
section
open Classical in
noncomputable def eJ (e e1:Env) (L:List Nat):Env:=
 ⟨fun id=>if id∈L then e1 id else e id,e.z,
  fun b=>match e1.kid b with
  |some q=>some q
  |none=>match e.kid b with
   |some (B,c)=>if ∃id,id∉L/\∃ee cc,e id=some ee/\ee.blk=some (B,cc) then some (B,c) else none
   |none=>none⟩
end
theorem join_ok (p:Pre C e G g hp w) {w':World} {e0 e1:Env} {hp1 hp2:Hp} {L D:List Nat} {keep:Bool} {τ:Nm} (hr1:HRel w' e1 (gadd G g) hp1) (he0:∀b,OwnB e0 b->∃id,lk τ id≠none/\OwnBy e id b)
  (hz1:∀b,e.z b->e1.z b) (hz2:∀id b,id∉D->lk τ id=none->OwnBy e id b->e1.z b) (hown:∀b,OwnB e1 b->w.heap.size<=b\/OwnB e0 b) (hkid:∀b B c,e1.kid b=some (B,c)->ObjB e1 B) (hfr:FrameE e0 w w')
  (hent:∀id ee',e1 id=some ee'->G ee'.g->∃ee,e id=some ee/\ee.g=ee'.g/\ee.k=ee'.k/\((ee.n=ee'.n/\ee.blk=ee'.blk)\/ee.n<ee'.n))
  (hLτ:∀id,lk τ id≠none->id∈L) (hL1:∀id,e1 id≠none->id∈L) (hLD:keep=false->∀id∈D,id∈L) (hget:∀id,hp2.get id=if id∈L then hp1.get id else hp.get id) (htr:trH keep L hp1):
  ∃e2,HRel w' e2 (gadd G g) hp2/\Ext w e G w' e2 (gadd G g)/\Lnt C w' e2 (gadd G g)/\Frm C w'/\(∀v x,trt keep L v->VR w' (UE e1) e1 (gadd G g) v x->VR w' (UE e2) e2 (gadd G g) v x):=by
 have eL:∀id,id∈L->eJ e e1 L id=e1 id:=fun id h=>by simp only[eJ,if_pos h]
 have eR:∀id,id∉L->eJ e e1 L id=e id:=fun id h=>by simp only[eJ,if_neg h]
 have kd1:∀b q,e1.kid b=some q->(eJ e e1 L).kid b=some q:=fun b q h=>by simp only[eJ,h]
 have kd2:∀b B c,(eJ e e1 L).kid b=some (B,c)->e1.kid b=some (B,c)\/(e.kid b=some (B,c)/\∃id,id∉L/\∃ee cc,e id=some ee/\ee.blk=some (B,cc)):=by
  intro b B c h
  simp only[eJ] at h
  split at h
  ·rename_i q hq;cases h;exact .inl hq
  ·split at h
   ·rename_i B' c' hk
    split at h
    ·rename_i hx;cases h;exact .inr ⟨hk,hx⟩
    ·cases h
   ·cases h
 have own1:∀b,b<w.heap.size->OwnB e1 b->∃id,id∈L/\OwnBy e id b:=by
  intro b hlt ho
  rcases hown b ho with h|h
  ·omega
  ·obtain⟨id,h1,h2⟩:=he0 b h
   exact⟨id,hLτ id h1,h2⟩
 have kd3:∀b B c,e.kid b=some (B,c)->(∃id,id∉L/\∃ee cc,e id=some ee/\ee.blk=some (B,cc))->(eJ e e1 L).kid b=some (B,c):=by
  rintro b B c hk ⟨id,hid,ee,cc,h1,h2⟩
  cases h3:e1.kid b with
  |some q=>
   obtain⟨id',h4,h5⟩:=own1 b (p.hr.kl _ _ _ hk).1 (.inr ⟨q.1,q.2,h3,hkid _ _ q.2 h3⟩)
   have:=OwnBy.uniq p.hr h5 (.inr ⟨B,c,ee,cc,hk,h1,h2⟩)
   subst this;exact absurd h4 hid
  |none=>
   simp only[eJ,h3,hk]
   rw[if_pos ⟨id,hid,ee,cc,h1,h2⟩]
 have objJ:∀b,ObjB (eJ e e1 L) b->(∃id∈L,∃ee c,e1 id=some ee/\ee.blk=some (b,c))\/(∃id,id∉L/\∃ee c,e id=some ee/\ee.blk=some (b,c)):=by
  rintro b ⟨id,ee,c,h1,h2⟩
  by_cases h:id∈L
  ·rw[eL id h] at h1;exact .inl ⟨id,h,ee,c,h1,h2⟩
  ·rw[eR id h] at h1;exact .inr ⟨id,h,ee,c,h1,h2⟩
 have ownJ:∀b,OwnB (eJ e e1 L) b->OwnB e1 b\/(∃id,id∉L/\OwnBy e id b):=by
  rintro b (ho|⟨B,c,hk,ho⟩)
  ·rcases objJ b ho with ⟨id,_,ee,c,h1,h2⟩|⟨id,h0,ee,c,h1,h2⟩
   ·exact .inl (.inl ⟨id,ee,c,h1,h2⟩)
   ·exact .inr ⟨id,h0, .inl ⟨ee,c,h1,h2⟩⟩
  ·rcases kd2 _ _ _ hk with h|⟨h,id,h0,ee,cc,h1,h2⟩
   ·exact .inl (.inr ⟨B,c,h,hkid _ _ _ h⟩)
   ·exact .inr ⟨id,h0, .inr ⟨B,c,ee,cc,h,h1,h2⟩⟩
 have ownJe:∀b,b<w.heap.size->OwnB (eJ e e1 L) b->OwnB e b:=by
  intro b hlt ho
  rcases ownJ b ho with h|⟨id,_,h⟩
  ·obtain⟨id,_,h⟩:=own1 b hlt h;exact h.own
  ·exact h.own
 have same:∀b,b<w.heap.size->¬OwnB e b->w'.heap[b]?=w.heap[b]?:=fun b hlt hn=>hfr.same b hlt fun ho=>by
  obtain⟨id,_,h⟩:=he0 b ho;exact hn h.own
 have sameR:∀id b,id∉L->OwnBy e id b->w'.heap[b]?=w.heap[b]?:=fun id b hid ho=>hfr.same b (p.hr.own_lt ho.own) fun ho'=>by
  obtain⟨id',h1,h⟩:=he0 b ho'
  have:=OwnBy.uniq p.hr ho h
  subst this;exact hid (hLτ _ h1)
 have ext:Ext w e G w' (eJ e e1 L) (gadd G g):=by
  refine Ext.mk' hfr.size (fun _ h=> .inl h) rfl ownJe same fun id ee' he' hG=>?_
  by_cases h:id∈L
  ·rw[eL id h] at he';exact hent id ee' he' hG
  ·rw[eR id h] at he';exact⟨ee',he',rfl,rfl, .inl ⟨rfl,rfl⟩⟩
 have hU:keep=false->∀b,UE e1 b->UE (eJ e e1 L) b:=by
  intro hk b hb
  refine⟨fun hz=>hb.1 (hz1 b hz),fun ho=>?_⟩
  rcases ownJ b ho with h|⟨id,h0,h⟩
  ·exact hb.2 h
  ·refine hb.1 (hz2 id b (fun hd=>h0 (hLD hk id hd)) ?_ h)
   cases hl:lk τ id with
   |none=>rfl
   |some q=>exact absurd (hLτ id (by rw[hl];simp)) h0
 have koJ:∀b,ObjB (eJ e e1 L) b->(eJ e e1 L).kid b=none:=by
  intro b ho
  cases hk:(eJ e e1 L).kid b with
  |none=>rfl
  |some q=>
   exfalso
   rcases kd2 b q.1 q.2 hk with h|⟨h,id',h0',ee',cc',h1',h2'⟩<;>rcases objJ b ho with ⟨id,hid,ee,c,h1,h2⟩|⟨id,h0,ee,c,h1,h2⟩
   ·have:=hr1.ko b ⟨id,ee,c,h1,h2⟩;rw[h] at this;cases this
   ·have hlt:=p.hr.lt _ _ _ _ h1 h2
    obtain⟨id2,h3,h4⟩:=own1 b hlt (.inr ⟨q.1,q.2,h,hkid _ _ q.2 h⟩)
    have:=OwnBy.uniq p.hr h4 (.inl ⟨ee,c,h1,h2⟩)
    subst this;exact h0 h3
   ·obtain⟨id2,h3,h4⟩:=own1 b (p.hr.kl _ _ _ h).1 (.inl ⟨id,ee,c,h1,h2⟩)
    have:=OwnBy.uniq p.hr h4 (.inr ⟨q.1,q.2,ee',cc',h,h1',h2'⟩)
    subst this;exact h0' h3
   ·have:=p.hr.ko b ⟨id,ee,c,h1,h2⟩;rw[h] at this;cases this
 have hm:∀id∈L,eJ e e1 L id=e1 id:=eL
 have ltn:∀id ee b c,e1 id=some ee->ee.blk=some (b,c)->∀id',id'∉L->∀ee' c',e id'=some ee'->ee'.blk=some (b,c')->False:=by
  intro id ee b c h1 h2 id' h0 ee' c' h1' h2'
  obtain⟨id2,h3,h4⟩:=own1 b (p.hr.lt _ _ _ _ h1' h2') (.inl ⟨id,ee,c,h1,h2⟩)
  have:=OwnBy.uniq p.hr h4 (.inl ⟨ee',c',h1',h2'⟩)
  subst this;exact h0 h3
 refine⟨eJ e e1 L,?_,ext,p.ln.step p.fr.size ext rfl ownJe,p.fr.step p.ln hfr.os hfr.tape hfr.output hfr.size same,fun v x ht hv=>tr_vrt hU hm hv ht⟩
 constructor
 ·intro id hid
  rw[hget] at hid
  by_cases h:id∈L
  ·rw[if_pos h] at hid;rw[eL id h];exact hr1.dead id hid
  ·rw[if_neg h] at hid;rw[eR id h];exact p.hr.dead id hid
 ·intro id g' ob hid
  rw[hget] at hid
  by_cases h:id∈L
  ·rw[if_pos h] at hid
   obtain⟨ee,h1,h2,h3,h4⟩:=hr1.live id g' ob hid
   exact⟨ee,(eL id h).trans h1,h2,h3,tr_O hU hm h4 (trH_get htr hid) fun b c b' c' hb hk=>kd1 _ _ hk⟩
  ·rw[if_neg h] at hid
   obtain⟨ee,h1,h2,h3,h4⟩:=p.hr.live id g' ob hid
   refine⟨ee,(eR id h).trans h1,h2, .inl h3,h4.ext ext fun b c hb=>⟨sameR id b h (.inl ⟨ee,c,h1,hb⟩),fun b' c' hk=>⟨sameR id b' h (.inr ⟨b,c',ee,c,hk,h1,hb⟩),kd3 _ _ _ hk ⟨id,h,ee,c,h1,hb⟩⟩⟩⟩
 ·intro i j ei ej b c c' hi hj hbi hbj
  by_cases h1:i∈L<;>by_cases h2:j∈L
  ·rw[eL i h1] at hi;rw[eL j h2] at hj;exact hr1.inj _ _ _ _ _ _ _ hi hj hbi hbj
  ·rw[eL i h1] at hi;rw[eR j h2] at hj;exact(ltn _ _ _ _ hi hbi _ h2 _ _ hj hbj).elim
  ·rw[eR i h1] at hi;rw[eL j h2] at hj;exact(ltn _ _ _ _ hj hbj _ h1 _ _ hi hbi).elim
  ·rw[eR i h1] at hi;rw[eR j h2] at hj;exact p.hr.inj _ _ _ _ _ _ _ hi hj hbi hbj
 ·intro i ei b c hi hb
  by_cases h1:i∈L
  ·rw[eL i h1] at hi;exact hr1.lt _ _ _ _ hi hb
  ·rw[eR i h1] at hi;exact Nat.lt_of_lt_of_le (p.hr.lt _ _ _ _ hi hb) hfr.size
 ·intro i ei b c hi hb
  by_cases h1:i∈L
  ·rw[eL i h1] at hi;exact fun hz=>hr1.nz _ _ _ _ hi hb (hz1 b hz)
  ·rw[eR i h1] at hi;exact p.hr.nz _ _ _ _ hi hb
 ·intro b B c hk
  rcases kd2 _ _ _ hk with h|⟨h,_⟩
  ·obtain⟨q1,q2,q3⟩:=hr1.kl _ _ _ h
   exact⟨q1,q2,fun hz=>q3 (hz1 b hz)⟩
  ·obtain⟨q1,q2,q3⟩:=p.hr.kl _ _ _ h
   exact⟨Nat.lt_of_lt_of_le q1 hfr.size,Nat.lt_of_lt_of_le q2 hfr.size,q3⟩
 ·exact koJ
 ·intro b B c hk
  rcases kd2 _ _ _ hk with h|⟨h,id,h0,ee,cc,h1,h2⟩
  ·obtain⟨id,ee,cc,h1,h2⟩:=hkid _ _ _ h
   exact koJ B ⟨id,ee,cc,(eL id (hL1 id (by rw[h1];simp))).trans h1,h2⟩
  ·exact koJ B ⟨id,ee,cc,(eR id h0).trans h1,h2⟩
end
open Go Go.Great
def touched (τ σ:Nm) (D:List Nat) (keep:Bool):List Nat:=τ.map (·.2.2.1)++(σ.map (·.1)++(if keep then[] else D))
structure CallOk (P:Program) (T:Tab) (f:FuncId) (g:Nat) (hp:Hp) (vs:List AV) (τ σ:Nm) (D:List Nat) (keep:Bool) (hp1:Hp) (rc:AV):Prop where
 nmτ:NmOk τ
 gτ:∀q∈τ,q.2.1=0
 hpP:rnHP true τ hp τ
 hpR:∀d∈rnHR true τ hp τ,d∈D
 vsP:∀v∈vs,rntP true τ hp v
 vsR:∀v∈vs,∀d∈rntR true τ hp v,d∈D
 dis:∀d∈D,lk τ d=none
 sat:SatG P T f (rnH true τ hp) (vs.map (rnt true τ hp)) hp1 rc
 nmσ:NmOk σ
 gσ:∀q∈σ,(q.2.2.2=0/\(q.2.2.1,0,q.1,q.2.1)∈τ)\/(q.2.2.2=1/\q.2.1=g)
 bP:rnHP false σ hp1 σ
 bR:∀d∈rnHR false σ hp1 σ,False
 rP:rntP false σ hp1 rc
 rR:∀d∈rntR false σ hp1 rc,False
 trh:trH keep (touched τ σ D keep) (rnH false σ hp1)
 trr:trt keep (touched τ σ D keep) (rnt false σ hp1 rc)
def backV (σ:Nm) (hp1:Hp) (rc:AV):AV:=rnt false σ hp1 rc
def backU (τ σ:Nm) (D:List Nat) (keep:Bool) (hp1:Hp):List Up:=rnH false σ hp1++drops ((touched τ σ D keep).filter fun i=>!(σ.map (·.1)).contains i)
theorem get_pre {l1 l2:Hp} {id:Nat}:(∃q∈l1,q.1=id)->Hp.get (l1++l2) id=Hp.get l1 id:=by
 induction l1 with
 |nil=>rintro⟨q,hq,_⟩;cases hq
 |cons p l1 ih=>
  obtain⟨j,x⟩:=p
  rintro⟨q,hq,rfl⟩
  simp only[List.cons_append,Hp.get]
  split
  ·rfl
  ·rename_i hne
   refine ih ?_
   rcases List.mem_cons.1 hq with rfl|hq
   ·exact absurd rfl hne
   ·exact⟨q,hq,rfl⟩
theorem get_post {l1 l2:Hp} {id:Nat}:(∀q∈l1,q.1≠id)->Hp.get (l1++l2) id=Hp.get l2 id/\Hp.get l1 id=none:=by
 induction l1 with
 |nil=>exact fun _=>⟨rfl,rfl⟩
 |cons p l1 ih=>
  obtain⟨j,x⟩:=p
  intro h
  have h1:=h (j,x) List.mem_cons_self
  simp only[List.cons_append,Hp.get,if_neg h1]
  exact ih fun q hq=>h q (List.mem_cons_of_mem _ hq)
section
variable {C:Cx} {e:Env} {G:Nat->Prop} {g:Nat} {hp:Hp} {w:World} {T:Tab}
theorem call_ok (p:Pre C e G g hp w) (hC:COk C T) {f:FuncId} {vs:List AV} {vals:Array Value} (hsz:vs.length=vals.size) (hvs:∀i (h:i<vs.length),VR w (UE e) e G vs[i] (vals.getD i undef))
  {τ σ:Nm} {D:List Nat} {keep:Bool} {hp1:Hp} {rc:AV} (h:CallOk C.P T f g hp vs τ σ D keep hp1 rc):
  Enters C.P f/\Calls C.P f vals w fun en w'=>∃v,en= .returned v/\OpOk C e G g hp w (True,backV σ hp1 rc,backU τ σ D keep hp1) (.ok (.value v) w'):=by
 let z':Nat->Prop:=fun b=>e.z b\/∃id,id∉D/\lk τ id=none/\OwnBy e id b
 have rk:RnOk true e hp (Glt 1) τ D z':=⟨h.nmτ,h.hpP,h.hpR,h.dis,fun q hq=>by rw[h.gτ q hq];exact Nat.zero_lt_one,fun b hb=> .inl hb,fun b hb=>hb⟩
 have hr0:=rk.rel p.hr
 have hfz:=rk.frz p.hr
 have e0z:(eN τ e z').z=z':=rfl
 refine⟨h.sat.1,(h.sat.2 w (eN τ e z') vals hr0 ?_ ?_ (by simpa using hsz) ?_).mono ?_⟩
 ·rintro b (hb|⟨id,_,_,ho⟩)
  ·rw[p.ln.zeq] at hb
   exact Nat.lt_of_lt_of_le (p.ln.zlt b hb) p.fr.size
  ·exact p.hr.own_lt ho.own
 ·exact(hC.gl.mono p.ln.ext.size p.ln.ext.un p.ln.ext.same).mono (Nat.le_refl _) (fun b _ hb=>hfz.un b hb) (fun _ _ _=>rfl)
 ·intro i hi
  have hi':i<vs.length:=by simpa using hi
  simp only[List.getElem_map]
  exact rk.vrt p.hr (hvs i hi') (h.vsP _ (List.getElem_mem hi')) (h.vsR _ (List.getElem_mem hi'))
 ·rintro en w' ⟨v,e1,rfl,hr1,hv1,hx1,hz1,ho1,hf1⟩
  refine⟨v,rfl,?_⟩
  have live:∀q∈τ,∃ee,e q.2.2.1=some ee/\ee.g=q.2.2.2/\G q.2.2.2:=by
   intro q hq
   obtain⟨ob,h1,_⟩:=rnHP_all h.hpP (show(q.1,q.2.1,q.2.2.1,q.2.2.2)∈τ from hq)
   obtain⟨ee,h2,h3,h4,_⟩:=p.hr.live _ _ _ h1
   exact⟨ee,h2,h3,h4⟩
  have rk1:RnOk false e1 hp1 (gadd G g) σ [] e1.z:=by
   refine⟨h.nmσ,h.bP,fun d hd=>(h.bR d hd).elim,fun d hd=>(by cases hd),fun q hq=>?_,fun b hb=>hb,fun b hb=> .inl hb⟩
   rcases h.gσ q hq with ⟨_,h2⟩|⟨_,h2⟩
   ·obtain⟨_,_,_,h3⟩:=live _ h2;exact .inl h3
   ·exact .inr h2
  have hr2:=rk1.rel hr1
  have hv2:=rk1.vrt hr1 hv1 h.rP fun d hd=>(h.rR d hd).elim
  have memL:∀id,id∈touched τ σ D keep↔(∃q∈τ,q.2.2.1=id)\/(∃q∈σ,q.1=id)\/(keep=false/\id∈D):=by
   intro id
   simp only[touched,List.mem_append,List.mem_map]
   cases keep<;>simp
  have lkmem:∀id,lk τ id≠none->∃q∈τ,q.2.2.1=id:=by
   intro id hn
   cases hl:lk τ id with
   |none=>exact absurd hl hn
   |some q=>exact⟨_,lk_mem (show lk τ id=some (q.1,q.2.1,q.2.2) from hl),rfl⟩
  obtain⟨e2,k1,k2,k3,k4,k5⟩:=join_ok p (w':=w') (e0:=eN τ e z') (e1:=eN σ e1 e1.z) (hp1:=rnH false σ hp1) (hp2:=backU τ σ D keep hp1++hp) (L:=touched τ σ D keep) (D:=D) (keep:=keep) (τ:=τ) hr2
   (fun b ho=>by
    obtain⟨q,hq,h1⟩:=eN_own ho
    exact⟨_,by rw[NmOk.lk h.nmτ.n2 (show(q.1,q.2.1,q.2.2.1,q.2.2.2)∈τ from hq)];simp,h1⟩)
   (fun b hb=>by show e1.z b;rw[hz1];exact .inl hb)
   (fun id b h1 h2 h3=>by show e1.z b;rw[hz1];exact .inr ⟨id,h1,h2,h3⟩)
   (fun b ho=>by
    obtain⟨q,hq,h1⟩:=eN_own ho
    exact ho1 b h1.own)
   (fun b B c hk=>by
    obtain⟨_,q,hq,ee,cc,h1,h2⟩:=eN_kid hk
    exact⟨q.1,_,cc,eN_of h.nmσ (show(q.1,q.2.1,q.2.2.1,q.2.2.2)∈σ from hq) h1,h2⟩)
   hf1
   (fun id ee' he' hG=>by
    obtain⟨g',i,gi,ee1,hm,h1,rfl⟩:=eN_some he'
    rcases h.gσ _ hm with ⟨h2,h3⟩|⟨h2,h3⟩
    ·simp only at h2 h3
     obtain⟨ob,h4,_⟩:=rnHP_all h.bP hm
     obtain⟨ee1',h5,h6,_⟩:=hr1.live _ _ _ h4
     rw[h1] at h5;cases h5
     rw[h2] at h6
     obtain⟨ee0,h7,h8,h9,h10⟩:=hx1.ent i ee1 h1 (by rw[h6];exact Nat.zero_lt_one)
     obtain⟨gi',a,ga,ee,h11,h12,rfl⟩:=eN_some h7
     have h13:=NmOk.bw h.nmτ.n1 h11
     rw[NmOk.bw h.nmτ.n1 h3] at h13
     cases h13
     obtain⟨ee',h14,h15,_⟩:=live _ h11
     simp only at h14 h15
     rw[h12] at h14;cases h14
     exact⟨ee,h12,h15,h9,h10⟩
    ·simp only at h3
     subst h3
     exact absurd hG p.ng)
   (fun id hn=>(memL id).2 (.inl (lkmem id hn)))
   (fun id hn=>by
    cases he:eN σ e1 e1.z id with
    |none=>exact absurd he hn
    |some ee=>
     obtain⟨g',i,gi,ee1,hm,_,_⟩:=eN_some he
     exact(memL id).2 (.inr (.inl ⟨_,hm,rfl⟩)))
   (fun hk id hd=>(memL id).2 (.inr (.inr ⟨hk,hd⟩)))
   (fun id=>by
    unfold backU
    rw[List.append_assoc]
    by_cases hs:∃q∈rnH false σ hp1,q.1=id
    ·rw[get_pre hs]
     obtain⟨q,hq,rfl⟩:=hs
     simp only[rnH,List.mem_map] at hq
     obtain⟨q',hq',rfl⟩:=hq
     rw[if_pos ((memL _).2 (.inr (.inl ⟨q',hq',rfl⟩)))]
    ·obtain⟨h1,h2⟩:=get_post (l1:=rnH false σ hp1) (l2:=drops ((touched τ σ D keep).filter fun i=>!(σ.map (·.1)).contains i)++hp) (id:=id) fun q hq heq=>hs ⟨q,hq,heq⟩
     rw[h1,h2]
     unfold drops
     rw[get_drops]
     have hns:¬∃q∈σ,q.1=id:=by
      rintro⟨q,hq,rfl⟩
      exact hs ⟨_,List.mem_map.2 ⟨q,hq,rfl⟩,rfl⟩
     have hc:(σ.map (·.1)).contains id=false:=by
      rw[Bool.eq_false_iff]
      intro hc
      simp only[List.contains_iff_mem,List.mem_map] at hc
      exact hns hc
     by_cases hL:id∈touched τ σ D keep
     ·rw[if_pos (List.mem_filter.2 ⟨hL,by simp only[hc,Bool.not_false]⟩),if_pos hL]
     ·rw[if_neg (fun h=>hL (List.mem_filter.1 h).1),if_neg hL])
   h.trh
  exact⟨_,w',e2,rfl,k1,k2,k3,k4, .inl ⟨v,rfl,k5 _ _ h.trr hv2⟩⟩
end
open Go Go.Great
def fen (rd:Option Nat):Fence:={Fence.wide with round:=rd}
theorem fen_calls {rd:Option Nat} {P:Program} {f:FuncId} {args:Array Value} {w:World} {R:Ending->World->Prop} (h:Calls P f args w R):CallsIn (fen rd) 0 P f args w R:=
 (callsIn_wide (n:=0)).2 h
theorem fen_enter {rd:Option Nat} {P:Program} {o:Oper} {a:Act} {next:Act->World->Prop} {Q:Exit->Act->World->Prop} {f:FuncId} {args:Array Value} {w:World}
  (h:Calls P f args w fun
   | .returned v,w''=>next (a.put o.dst v) w''
   | .panicked chain,w''=>Q (.panic chain) a w''
   | .outgrown,_=>LetsOut Q):o.uponIn (fen rd) 0 P a next Q (.ok (.enter f args) w):=by
 rw[Oper.uponIn_enter]
 exact⟨fun h=>(by cases h),fen_calls h⟩
def RelS (C:Cx) (s:St) (a:Act) (w:World):Prop:=Rel C (Glt s.ck) s.tm s.hp a w
def St.put (s:St) (dst:Option Nat) (v:AV) (ups:List Up):St:=
 ⟨match dst with|some d=>(d,v)::s.tm|none=>s.tm,ups++s.hp,s.ck+1⟩
def evs (s:St) (xs:Array Operand):List AV:=xs.toList.map s.ev
def CallK (P:Program) (T:Tab) (f:FuncId) (g:Nat) (hp:Hp) (vs:List AV) (K:AV->List Up->List Nat->Prop):Prop:=
 ∃τ σ D keep hp1 rc,CallOk P T f g hp vs τ σ D keep hp1 rc/\K (backV σ hp1 rc) (backU τ σ D keep hp1) (τ.map (·.2.2.1)++D)
@[congr] theorem CallK_congr {P:Program} {T:Tab} {f:FuncId} {g g':Nat} {hp hp':Hp} {vs vs':List AV} {K:AV->List Up->List Nat->Prop} (hg:g=g') (hh:hp=hp') (h':vs=vs'):CallK P T f g hp vs K=CallK P T f g' hp' vs' K:=by
 rw[hg,hh,h']
def GK (b want:Bool) (A B:Prop):Prop:=(b=want->A)/\(b≠want->B)
@[congr] theorem GK_congr {b b' want:Bool} {A B:Prop} (h:b=b'):GK b want A B=GK b' want A B:=by rw[h]
def GM (x:Option AV) (want:Bool) (A B:Prop):Prop:=
 match x with
 |some (.lit (.bool b))=>GK b want A B
 |some (.tup [])=>B
 |_=>False
@[congr] theorem GM_congr {x x':Option AV} {want:Bool} {A B:Prop} (h:x=x'):GM x want A B=GM x' want A B:=by rw[h]
def opK (P:Program) (T:Tab) (o:Oper) (s:St) (K:St->Prop):Prop:=
 match o.op with
 | .call {callee:= .value f,args,argTypes:=_}=>match fnArgs (s.ev f) (evs s args) with
  |some (fid,vs)=>CallK P T fid s.ck s.hp vs fun v ups _=>K (s.put o.dst v ups)
  |none=>False
 |_=>(opV T o s.ev s.hp s.ck).1/\K (s.put o.dst (opV T o s.ev s.hp s.ck).2.1 (opV T o s.ev s.hp s.ck).2.2)
def dstOf (ops:List Oper) (j:Nat):Option Nat:=(ops[j]?).bind (·.dst)
def awpOps (P:Program) (T:Tab) (all:List Oper):List Oper->St->(St->Prop)->Prop
 |[],s,K=>K s
 |o::rest,s,K=>
  match o.guard with
  |none=>opK P T o s fun s'=>awpOps P T all rest s' K
  |some (j,want)=>
   GM ((dstOf all j).map (tget s.tm)) want (opK P T o s fun s'=>awpOps P T all rest s' K) (awpOps P T all rest (s.put o.dst (.tup []) []) K)
theorem opV_defer {T:Tab} {o:Oper} {ev:Operand->AV} {hp:Hp} {g:Nat} (h:(opV T o ev hp g).1):∀c,o.op≠ .defer c:=by
 intro c hc
 obtain⟨dst,op,type,pos,after,guard⟩:=o
 simp only at hc
 subst hc
 exact h.elim
section
variable {C:Cx} {T:Tab}
theorem gadd_Glt (n:Nat):gadd (Glt n) n=Glt (n+1):=by
 funext g
 simp only[gadd,Glt,eq_iff_iff]
 omega
theorem ev_ok {e:Env} {G:Nat->Prop} {w:World} {s:St} {a:Act} (h:∀t,VR w (UE e) e G (tget s.tm t) (a.tmps.getD t undef)):∀x,VR w (UE e) e G (s.ev x) (a.eval x):=by
 intro x
 cases x with
 |tmp t=>exact h t
 |const v=>exact .dat _ _ (VD.ofV v)
 |func f=>exact .dat _ _ (.fn f [] #[] rfl (fun i hi=>by simp at hi))
 |global g=>exact .dat _ _ (.gl g)
theorem rel_put {s:St} {a:Act} {w w':World} (hrel:RelS C s a w) {e e':Env} (hv:∀t,VR w (UE e) e (Glt s.ck) (tget s.tm t) (a.tmps.getD t undef)) {ups:List Up} {v:AV} {xv:Value} {dst:Option Nat} (hdst:dst.getD 0<C.N)
  (h1:HRel w' e' (Glt (s.ck+1)) (ups++s.hp)) (h2:Ext w e (Glt s.ck) w' e' (Glt (s.ck+1))) (h3:Lnt C w' e' (Glt (s.ck+1))) (h4:Frm C w') (h5:VR w' (UE e') e' (Glt (s.ck+1)) v xv):
  RelS C (s.put dst v ups) (a.put dst xv) w':=by
 refine⟨?_,?_,h4,e',h1,h3,fun t=>?_⟩
 ·cases dst<;>exact hrel.defers
 ·cases dst with
  |none=>exact hrel.size
  |some d=>simp only[Act.put,Array.size_setIfInBounds];exact hrel.size
 ·cases dst with
  |none=>exact(hv t).ext h2
  |some d=>
   simp only[St.put,tget,Act.put]
   by_cases h:d=t
   ·subst h
    rw[if_pos rfl]
    have hd:d<a.tmps.size:=by rw[hrel.size];exact hdst
    rw[Array.getD_eq_getD_getElem?,Array.getElem?_setIfInBounds_self_of_lt hd];exact h5
   ·rw[if_neg h]
    have:(a.tmps.setIfInBounds d xv).getD t undef=a.tmps.getD t undef:=by
     rw[Array.getD_eq_getD_getElem?,Array.getD_eq_getD_getElem?,Array.getElem?_setIfInBounds_ne h]
    rw[this];exact(hv t).ext h2
theorem fnArgs_ok {e:Env} {G:Nat->Prop} {w:World} {f:AV} {xf:Value} {us vs:List AV} {xs:Array Value} {fid:FuncId} (hf:fnArgs f us=some (fid,vs)) (hfv:VR w (UE e) e G f xf) (hl:us.length=xs.size)
  (hus:∀i (h:i<us.length),VR w (UE e) e G us[i] (xs.getD i undef)):
  ∃fst cap:Array Value,xf= .func (.func fid) fst cap/\vs.length=(fst++xs++cap).size/\∀i (h:i<vs.length),VR w (UE e) e G vs[i] ((fst++xs++cap).getD i undef):=by
 have app:∀{as bs:List AV} {x y:Array Value},as.length=x.size->(∀i (h:i<as.length),VR w (UE e) e G as[i] (x.getD i undef))->(∀i (h:i<bs.length),VR w (UE e) e G bs[i] (y.getD i undef))->
   ∀i (h:i<(as++bs).length),VR w (UE e) e G (as++bs)[i] ((x++y).getD i undef):=by
  intro as bs x y hx h1 h2 i h
  by_cases hi:i<as.length
  ·have e2:(x++y).getD i undef=x.getD i undef:=by
    rw[Array.getD_eq_getD_getElem?,Array.getElem?_append_left (by omega),Array.getD_eq_getD_getElem?]
   rw[List.getElem_append_left hi,e2]
   exact h1 i hi
  ·have hi2:i - as.length<bs.length:=by simp at h;omega
   have e2:(x++y).getD i undef=y.getD (i - as.length) undef:=by
    rw[Array.getD_eq_getD_getElem?,Array.getElem?_append_right (by omega),Array.getD_eq_getD_getElem?,hx]
   rw[List.getElem_append_right (by omega),e2]
   exact h2 _ hi2
 cases f with
 |fn f caps=>
  cases hf
  have hfn:∃cs:Array Value,xf= .func (.func fid) #[] cs/\caps.length=cs.size/\∀i (h:i<caps.length),VR w (UE e) e G caps[i] (cs.getD i undef):=by
   cases hfv with
   |dat _ _ h=>cases h with|fn _ _ vs h1 h2=>exact⟨vs,rfl,h1,fun i hi=> .dat _ _ (h2 i hi)⟩
   |fn _ _ vs h1 h2=>exact⟨vs,rfl,h1,h2⟩
  obtain⟨cs,rfl,h1,h2⟩:=hfn
  refine⟨#[],cs,rfl,by simp[hl,h1],?_⟩
  rw[Array.empty_append]
  exact app hl hus h2
 |bfn f first=>
  cases hf
  cases hfv with
  |dat _ _ h=>cases h
  |bfn _ _ cs h1 h2=>
   refine⟨cs,#[],rfl,by simp[hl,h1],?_⟩
   rw[Array.append_empty]
   exact app h1 h2 hus
 |_=>cases hf
theorem opK_ok (hC:COk C T) {o:Oper} (hdst:o.dst.getD 0<C.N) {s:St} {a:Act} {w:World} (hrel:RelS C s a w) {K:St->Prop} (h:opK C.P T o s K) {Q:Exit->Act->World->Prop}
  {next:Act->World->Prop} (hn:∀s' a' w',RelS C s' a' w'->K s'->next a' w'):o.wpIn (fen C.rd) 0 C.P a w next Q:=by
 obtain⟨e,hr,hln,hv⟩:=hrel.body
 have p:Pre C e (Glt s.ck) s.ck s.hp w:=⟨hr,hln,hrel.frm,by simp[Glt]⟩
 have hev:=ev_ok (s:=s) hv
 have main:∀(P:Prop) (v:AV) (ups:List Up) (res:Result Next),OpOk C e (Glt s.ck) s.ck s.hp w (P,v,ups) res->K (s.put o.dst v ups)->
   (∃xv w',res= .ok (.value xv) w'/\next (a.put o.dst xv) w')\/(∃w',res= .ok .skip w'/\next (a.put o.dst undef) w'):=by
  rintro P v ups res ⟨nx,w',e',r1,r2,r3,r4,r5,r6⟩ hK
  rw[gadd_Glt] at r2 r3 r4 r6
  rcases r6 with ⟨xv,rfl,r6⟩|⟨rfl,rfl⟩
  ·exact .inl ⟨xv,w',r1,hn _ _ _ (rel_put hrel hv hdst r2 r3 r4 r5 r6) hK⟩
  ·exact .inr ⟨w',r1,hn _ _ _ (rel_put hrel hv hdst r2 r3 r4 r5 (.dat _ _ (.bad _))) hK⟩
 have plain:(opV T o s.ev s.hp s.ck).1/\K (s.put o.dst (opV T o s.ev s.hp s.ck).2.1 (opV T o s.ev s.hp s.ck).2.2)->o.wpIn (fen C.rd) 0 C.P a w next Q:=by
  rintro⟨h1,h2⟩
  have:=opV_ok p hC o hev h1
  refine⟨fun _ _=>trivial,?_⟩
  rw[Oper.semAt_eq _ _ _ (opV_defer h1)]
  rcases main _ _ _ _ this h2 with ⟨xv,w',hres,hnx⟩|⟨w',hres,hnx⟩
  ·rw[hres,Oper.uponIn_value];exact hnx
  ·rw[hres,Oper.uponIn_skip];exact hnx
 unfold opK at h
 split at h
 ·rename_i f args at_ hop
  split at h
  ·rename_i fid vs hf
   obtain⟨τ,σ,D,keep,hp1,rc,hc,hK⟩:=h
   obtain⟨fst,cap,hfe,hvl,hvv⟩:=fnArgs_ok (xs:=args.map a.eval) hf (hev f) (by simp[evs]) fun i hi=>by
    have hi':i<args.size:=by simpa[evs] using hi
    have e1:(evs s args)[i]=s.ev args[i]:=by simp[evs]
    have e2:(args.map a.eval).getD i undef=a.eval args[i]:=by rw[Array.getD_eq_getD_getElem?];simp[hi']
    rw[e1,e2];exact hev _
   obtain⟨⟨fn,hfn1,hfn2,hfn3⟩,hcalls⟩:=call_ok p hC (vs:=vs) (vals:=fst++args.map a.eval++cap) hvl hvv hc
   have hrun:(execOp a.eval o).run C.P w= .ok (.enter fid (fst++args.map a.eval++cap)) w:=by
    unfold execOp
    simp only[hop,resolve,hfe,Deferred.ofValue,invoke,callFunc,Sem.run_bind,Sem.run_pure,Result.andThen_ok,run_program,hfn1,hfn2,hfn3,Bool.false_eq_true,if_false,Array.empty_append]
   refine⟨fun _ _=>trivial,?_⟩
   rw[Oper.semAt_eq _ _ _ (by intro c hc;rw[hop] at hc;cases hc),hrun]
   refine fen_enter (hcalls.mono ?_)
   rintro en w' ⟨xv,rfl,hok⟩
   rcases main _ _ _ _ hok hK with ⟨xv',w'',hres,hnx⟩|⟨w'',hres,hnx⟩
   ·cases hres;exact hnx
   ·cases hres
  ·exact h.elim
 ·exact plain h
theorem RelS.skip {s:St} {a:Act} {w:World} (hrel:RelS C s a w) {dst:Option Nat} (hdst:dst.getD 0<C.N):RelS C (s.put dst (.tup []) []) (a.put dst undef) w:=by
 obtain⟨e,hr,hln,hv⟩:=hrel.body
 have x:=Ext.wide w e (Glt s.ck) s.ck
 rw[gadd_Glt] at x
 exact rel_put hrel hv hdst (by rw[<-gadd_Glt];exact hr.wide) x (by rw[<-gadd_Glt];exact hln.wide _) hrel.frm (.dat _ _ (.tup [] #[] rfl (fun i hi=>by simp at hi)))
theorem yielded_tup {a:Act} {d:Nat} {w:World} {U:Nat->Prop} {e:Env} {G:Nat->Prop} {all:List Oper} {j:Nat} (hdj:dstOf all j=some d) (hvd:VR w U e G (.tup []) (a.tmps.getD d undef)):yielded all.toArray a.tmps j=none:=by
 obtain⟨vs,hvd,_⟩:=hvd.tup_inv
 unfold yielded
 have e1:(all.toArray[j]?).bind (·.dst)=some d:=by simpa[dstOf] using hdj
 rw[e1]
 rw[Array.getD_eq_getD_getElem?] at hvd
 cases hx:a.tmps[d]? with
 |none=>simp[hx]
 |some v=>rw[hx] at hvd;simp at hvd;subst hvd;simp[hx]
theorem wanted_none {o:Oper} (h:o.guard=none) (y:Nat->Option Bool):Region.wanted o y=true:=by simp[Region.wanted,h]
theorem awpOps_ok (hC:COk C T) {all:List Oper} (Q:Exit->Act->World->Prop) {K:St->Prop} (hQ:∀s' a' w',RelS C s' a' w'->K s'->Q .normal a' w'):
  ∀(rest:List Oper),(∀o∈rest,o.dst.getD 0<C.N)->∀(s:St) (a:Act) (w:World),RelS C s a w->awpOps C.P T all rest s K->wpListIn (fen C.rd) 0 C.P all.toArray Q rest a w
 |[],_,s,a,w,hrel,h=>hQ s a w hrel h
 |o::rest,hd,s,a,w,hrel,h=>by
  have ih:=awpOps_ok hC (all:=all) Q hQ rest (fun o' ho=>hd o' (List.mem_cons_of_mem _ ho))
  have hdo:=hd o List.mem_cons_self
  unfold awpOps at h
  unfold wpListIn
  cases hg:o.guard with
  |none=>
   simp only[hg] at h
   rw[if_pos (wanted_none hg _)]
   exact opK_ok hC hdo hrel h fun s' a' w' h1 h2=>ih s' a' w' h1 h2
  |some q=>
   obtain⟨j,want⟩:=q
   simp only[hg] at h
   cases hdj:dstOf all j with
   |none=>simp only[hdj,Option.map_none,GM] at h
   |some d=>
    simp only[hdj,Option.map_some,GM] at h
    split at h
    ·rename_i b hb
     obtain⟨e,hr,hln,hv⟩:=hrel.body
     have hvd:=hv d
     simp only[Option.some.injEq] at hb
     rw[hb] at hvd
     obtain⟨hvd,_⟩:=hvd.lit_inv
     have hy:yielded all.toArray a.tmps j=some b:=by
      unfold yielded
      have e1:(all.toArray[j]?).bind (·.dst)=some d:=by simpa[dstOf] using hdj
      rw[e1]
      rw[Array.getD_eq_getD_getElem?] at hvd
      cases hx:a.tmps[d]? with
      |none=>rw[hx] at hvd;cases hvd
      |some v=>rw[hx] at hvd;simp at hvd;subst hvd;simp[hx]
     by_cases hbw:b=want
     ·rw[if_pos (by simp[Region.wanted,hg,hy,hbw])]
      exact opK_ok hC hdo hrel (h.1 hbw) fun s' a' w' h1 h2=>ih s' a' w' h1 h2
     ·rw[if_neg (by simp[Region.wanted,hg,hy,hbw])]
      exact⟨fun _ _=>trivial,ih _ _ _ (hrel.skip hdo) (h.2 hbw)⟩
    ·rename_i hb
     obtain⟨e,hr,hln,hv⟩:=hrel.body
     have hvd:=hv d
     simp only[Option.some.injEq] at hb
     rw[hb] at hvd
     rw[if_neg (by simp[Region.wanted,hg,yielded_tup hdj hvd])]
     exact⟨fun _ _=>trivial,ih _ _ _ (hrel.skip hdo) h⟩
    ·exact h.elim
def awp (C:Cx) (c:Code) (Q:Exit->St->Prop) (s:St):Prop:=
 ∀a w,RelS C s a w->c.wpIn (fen C.rd) 0 C.P (fun ex a' w'=>(∃s',RelS C s' a' w'/\Q ex s')\/(ex= .ret/\C.esc a' w')) a w
def QThen (next:St->Prop) (Q:Exit->St->Prop):Exit->St->Prop
 | .normal,s=>next s
 |e,s=>Q e s
def QBlock (id:Nat) (Q:Exit->St->Prop):Exit->St->Prop
 | .exit id',s=>if id'=id then Q .normal s else Q (.exit id') s
 |e,s=>Q e s
theorem awp_mono {c:Code} {Q Q':Exit->St->Prop} {s:St} (h:awp C c Q s) (hq:∀e s,Q e s->Q' e s):awp C c Q' s:=
 fun a w hr=>wpIn_mono (h a w hr) fun e a' w' h=>h.imp (fun⟨s',h1,h2⟩=>⟨s',h1,hq e s' h2⟩) id
theorem awp_seq {x y:Code} {Q:Exit->St->Prop} {s:St} (h:awp C x (QThen (awp C y Q) Q) s):awp C (.seq x y) Q s:=by
 intro a w hr
 refine wpIn_seq (wpIn_mono (h a w hr) ?_)
 rintro e a' w' (⟨s',h1,h2⟩|⟨rfl,h⟩)
 ·cases e<;>first|exact h2 a' w' h1|exact .inl ⟨s',h1,h2⟩
 ·exact .inr ⟨rfl,h⟩
theorem awp_skip {Q:Exit->St->Prop} {s:St} (h:Q .normal s):awp C .skip Q s:=fun _ _ hr=>wpIn_skip (.inl ⟨s,hr,h⟩)
theorem awp_ret {Q:Exit->St->Prop} {s:St} (h:Q .ret s):awp C .ret Q s:=fun _ _ hr=>wpIn_ret (.inl ⟨s,hr,h⟩)
theorem awp_exit {id:Nat} {Q:Exit->St->Prop} {s:St} (h:Q (.exit id) s):awp C (.exit id) Q s:=fun _ _ hr=>wpIn_exit (.inl ⟨s,hr,h⟩)
theorem awp_block {id:Nat} {c:Code} {Q:Exit->St->Prop} {s:St} (h:awp C c (QBlock id Q) s):awp C (.block id c) Q s:=by
 intro a w hr
 refine wpIn_block (wpIn_mono (h a w hr) ?_)
 rintro e a' w' (⟨s',h1,h2⟩|⟨rfl,h⟩)
 ·cases e with
  |exit id'=>
   simp only[Exit.inBlock,QBlock] at h2 ⊢
   by_cases hid:id'=id
   ·rw[if_pos hid] at h2 ⊢;exact .inl ⟨s',h1,h2⟩
   ·rw[if_neg hid] at h2 ⊢;exact .inl ⟨s',h1,h2⟩
  |_=>exact .inl ⟨s',h1,h2⟩
 ·exact .inr ⟨rfl,h⟩
theorem awp_cond {c:Operand} {x y:Code} {Q:Exit->St->Prop} {s:St} (b:Bool) (hc:s.ev c= .lit (.bool b)) (ht:b=true->awp C x Q s) (hf:b=false->awp C y Q s):awp C (.cond c x y) Q s:=by
 intro a w hr
 obtain⟨e,_,_,hv⟩:=hr.body
 have:=ev_ok (s:=s) hv c
 rw[hc] at this
 obtain⟨he,_⟩:=this.lit_inv
 refine wpIn_cond he ?_
 cases b
 ·exact hf rfl a w hr
 ·exact ht rfl a w hr
theorem awp_region {id:Nat} {l:List Oper} {Q:Exit->St->Prop} {s:St} (hC:COk C T) (hd:(l.all fun o=>decide (o.dst.getD 0<C.N))=true)
  (h:∀K:St->Prop,(∀s',Q .normal s'->K s')->awpOps C.P T l l s K):awp C (.region id l.toArray false) Q s:=by
 intro a w hr
 refine wpIn_region_lit ?_
 rw[List.all_eq_true] at hd
 exact awpOps_ok (K:=fun s'=>Q .normal s') hC _ (fun s' _ _ h1 h2=> .inl ⟨s',h1,h2⟩) l (fun o ho=>by simpa using hd o ho) s a w hr (h _ fun _ h=>h)
theorem least (p:Nat->Prop):∀n,p n->∃k,p k/\∀j,p j->k<=j:=by
 intro n
 induction n using Nat.strongRecOn with
 |_ n ih=>
  intro hn
  by_cases h:∃j,j<n/\p j
  ·obtain⟨j,hj,hp⟩:=h
   exact ih j hj hp
  ·refine⟨n,hn,fun j hj=>?_⟩
   by_cases hlt:j<n
   ·exact absurd ⟨j,hlt,hj⟩ h
   ·omega
theorem awp_loop {ι:Type} {c:Code} {Q:Exit->St->Prop} (inv:ι->St) (ok:ι->Prop) (m:ι->Nat) (i0:ι) (h0:ok i0)
  (round:∀i,ok i->awp C c (QThen (fun s'=>∃j,ok j/\m j<m i/\∀a w,RelS C s' a w->RelS C (inv j) a w) Q) (inv i)):awp C (.loop c) Q (inv i0):=by
 intro a w hr
 have hex:∃μ:Act->World->Nat,∀a w,(∃i,ok i/\RelS C (inv i) a w)->(∃i,ok i/\RelS C (inv i) a w/\m i=μ a w)/\∀i,ok i->RelS C (inv i) a w->μ a w<=m i:=by
  have h1:∀a w,∃n,(∃i,ok i/\RelS C (inv i) a w)->(∃i,ok i/\RelS C (inv i) a w/\m i=n)/\∀i,ok i->RelS C (inv i) a w->n<=m i:=by
   intro a w
   by_cases h:∃i,ok i/\RelS C (inv i) a w
   ·obtain⟨i,hi1,hi2⟩:=h
    obtain⟨k,⟨i',h1,h2,h3⟩,h4⟩:=least (fun n=>∃i,ok i/\RelS C (inv i) a w/\m i=n) (m i) ⟨i,hi1,hi2,rfl⟩
    exact⟨k,fun _=>⟨⟨i',h1,h2,h3⟩,fun i hi hr=>h4 _ ⟨i,hi,hr,rfl⟩⟩⟩
   ·exact⟨0,fun h'=>absurd h' h⟩
  exact⟨fun a w=>Classical.choose (h1 a w),fun a w=>Classical.choose_spec (h1 a w)⟩
 obtain⟨μ,hμ⟩:=hex
 refine wpIn_loop (fun a w=>∃i,ok i/\RelS C (inv i) a w) μ ⟨i0,h0,hr⟩ ?_
 intro a w hI
 obtain⟨⟨i,hi,hri,hm⟩,_⟩:=hμ a w hI
 refine wpIn_mono (round i hi a w hri) ?_
 rintro e a' w' (⟨s',h1,h2⟩|⟨rfl,h⟩)
 ·cases e with
  |normal=>
   obtain⟨j,hj,hlt,hs⟩:=h2
   have hI':∃i,ok i/\RelS C (inv i) a' w':=⟨j,hj,hs a' w' h1⟩
   refine⟨hI',?_⟩
   have:=(hμ a' w' hI').2 j hj (hs a' w' h1)
   omega
  |_=>exact .inl ⟨s',h1,h2⟩
 ·exact .inr ⟨rfl,h⟩
def fzk (hp:Hp):AV->AV
 | .kid t k es=> .kid t k es
 |v=>fz 3 hp v
def fzkP (hp:Hp):AV->Prop
 | .kid _ _ _=>True
 |v=>fzP 3 hp v
def fzkR (hp:Hp):AV->List Nat
 | .kid _ _ _=>[]
 |v=>fzR 3 hp v
inductive ObW (hp hp':Hp):Ob->Ob->Prop
 |same (ob:Ob):ObW hp hp' ob ob
 |own (t k:Nat) (es:List AV):(∀e∈es,∀c∈e.cells,fzkP hp c)->(∀i∈es.flatMap (fun e=>e.cells.flatMap (fzkR hp)),hp'.get i=none)->ObW hp hp' (.own t k es) (.own t k (es.map (mapc (fzk hp))))
 |box (cs cs':List AV):cs'.length=cs.length->(∀j (h:j<cs.length) (h':j<cs'.length),cs'[j]=cs[j]\/(fzP 4 hp cs[j]/\cs'[j]=fz 4 hp cs[j]/\∀i∈fzR 4 hp cs[j],hp'.get i=none))->ObW hp hp' (.box cs) (.box cs')
structure Weak (s s':St):Prop where
 ck:s.ck<=s'.ck
 hp:∀id,s'.hp.get id=none\/∃g ob ob',s.hp.get id=some (g,ob)/\s'.hp.get id=some (g,ob')/\ObW s.hp s'.hp ob ob'
 tm:∀t,tget s'.tm t= .bad\/tget s'.tm t=tget s.tm t\/
  (fztP s.hp (tget s.tm t)/\tget s'.tm t=fzt s.hp (tget s.tm t)/\∀i∈fztR s.hp (tget s.tm t),s'.hp.get i=none)
noncomputable def epick (e:Env) (hp:Hp):Env:=⟨fun i=>match hp.get i with|none=>none|some _=>e i,e.z,e.kid⟩
theorem epick_some {e:Env} {hp:Hp} {i:Nat} {ee:EE} (h:epick e hp i=some ee):e i=some ee/\hp.get i≠none:=by
 simp only[epick] at h
 cases hg:hp.get i with
 |none=>rw[hg] at h;cases h
 |some q=>rw[hg] at h;exact⟨h,by simp⟩
theorem epick_of {e:Env} {hp:Hp} {i:Nat} (h:hp.get i≠none):epick e hp i=e i:=by
 simp only[epick]
 cases hg:hp.get i with
 |none=>exact absurd hg h
 |some q=>rfl
theorem epick_obj {e:Env} {hp:Hp} {b:Nat} (h:ObjB (epick e hp) b):ObjB e b:=by
 obtain⟨id,ee,c,h1,h2⟩:=h;exact⟨id,ee,c,(epick_some h1).1,h2⟩
theorem epick_own {e:Env} {hp:Hp} {b:Nat} (h:OwnB (epick e hp) b):OwnB e b:=by
 rcases h with h|⟨B,c,h1,h2⟩
 ·exact .inl (epick_obj h)
 ·exact .inr ⟨B,c,h1,epick_obj h2⟩
theorem Ext.pick (w:World) (e:Env) (hp:Hp) {n m:Nat} (h:n<=m):Ext w e (Glt n) w (epick e hp) (Glt m):=
 Ext.mk' (Nat.le_refl _) (fun g (hg:g<n)=>(Nat.lt_of_lt_of_le hg h:g<m)) rfl (fun _ _ ho=>epick_own ho) (fun _ _ _=>rfl) fun _ ee' hi _=>⟨ee',(epick_some hi).1,rfl,rfl, .inl ⟨rfl,rfl⟩⟩
theorem Frz.pick {e:Env} {w:World} {hp:Hp} {G:Nat->Prop} (hr:HRel w e G hp) (hp':Hp):Frz e (epick e hp') (fun i=>hp'.get i=none):=by
 have key:∀id b,hp'.get id=none->OwnBy e id b->UE (epick e hp') b:=by
  intro id b hid ho
  refine⟨fun hz=>hr.own_nz ho.own hz,?_⟩
  rintro(⟨id',ee,c,h1,h2⟩|⟨B,c,hk,id',ee,c',h1,h2⟩)
  ·obtain⟨h3,h4⟩:=epick_some h1
   have:=OwnBy.uniq hr ho (.inl ⟨ee,c,h3,h2⟩)
   subst this;exact h4 hid
  ·obtain⟨h3,h4⟩:=epick_some h1
   have:=OwnBy.uniq hr ho (.inr ⟨B,c,ee,c',hk,h3,h2⟩)
   subst this;exact h4 hid
 exact⟨fun b hb=>⟨hb.1,fun ho=>hb.2 (epick_own ho)⟩,fun id ee b c hid he hb=>⟨key id b hid (.inl ⟨ee,c,he,hb⟩),fun b' c' hk=>key id b' hid (.inr ⟨b,c',ee,c,hk,he,hb⟩)⟩⟩
theorem mapfzk_cells {hp:Hp} {el:AV} (hc:∀c∈el.cells,c.one=true) (hP:∀c∈el.cells,fzkP hp c):(mapc (fzk hp) el).cells=el.cells.map (fzk hp):=by
 have h1:∀c,fzkP hp c->(fzk hp c).one=true:=by
  intro c h
  cases c with
  |kid=>rfl
  |_=>exact fz_one (n:=3) h
 cases el with
 |agg cs=>rfl
 |bad=>have:=hc .bad (by simp[AV.cells]);cases this
 |tup cs=>have:=hc (.tup cs) (by simp[AV.cells]);cases this
 |_=>exact one_cells (h1 _ (hP _ List.mem_cons_self))
theorem fzk_one {hp:Hp} {c:AV} (h:fzkP hp c):(fzk hp c).one=true:=by
 cases c with
 |kid=>rfl
 |_=>exact fz_one (n:=3) h
theorem ObW.rel {e:Env} {w:World} {hp hp':Hp} {n m:Nat} (hr:HRel w e (Glt n) hp) (hnm:n<=m) {ob ob':Ob} (h:ObW hp hp' ob ob') {ee:EE} (ho:ORel w e (Glt n) ob ee):ORel w (epick e hp') (Glt m) ob' ee:=by
 have x:=Ext.pick w e hp' hnm
 have fr:=Frz.pick hr hp'
 cases h with
 |same=>exact ho.ext x fun _ _ _=>⟨rfl,fun _ _ h=>⟨rfl,h⟩⟩
 |own t k es hP hD=>
  obtain⟨h1,h2,h3,h4,h5,h6⟩:=ho
  have hone:∀i (hi:i<es.length),∀c∈es[i].cells,c.one=true:=by
   intro i hi c hc
   obtain⟨j,hj,rfl⟩:=List.getElem_of_mem hc
   exact h5 i hi j hj
  have hPi:∀i (hi:i<es.length),∀c∈es[i].cells,fzkP hp c:=fun i hi c hc=>hP _ (List.getElem_mem hi) c hc
  refine⟨h1,by simpa using h2,h3,?_,?_,?_⟩
  ·intro i hi
   have hi':i<es.length:=by simpa using hi
   simp only[List.getElem_map]
   rw[mapfzk_cells (hone i hi') (hPi i hi'),List.length_map];exact h4 _ _
  ·intro i hi j hj
   have hi':i<es.length:=by simpa using hi
   simp only[List.getElem_map,mapfzk_cells (hone i hi') (hPi i hi')] at hj ⊢
   exact fzk_one (hPi i hi' _ (List.getElem_mem _))
  ·cases hbl:ee.blk with
   |none=>rw[hbl] at h6;subst h6;rfl
   |some q=>
    obtain⟨b,bcap⟩:=q
    rw[hbl] at h6
    obtain⟨q7,q8,cs,q9,q10,q11⟩:=h6
    refine⟨q7,by simpa using q8,cs,q9,q10,fun i hi j hj=>?_⟩
    have hi':i<es.length:=by simpa using hi
    simp only[List.getElem_map,mapfzk_cells (hone i hi') (hPi i hi')] at hj ⊢
    have hj':j<es[i].cells.length:=by simpa using hj
    have hvc:=q11 i hi' j hj'
    have hPc:=hPi i hi' _ (List.getElem_mem hj')
    have hDc:∀d∈fzkR hp es[i].cells[j],hp'.get d=none:=fun d hd=>hD d (List.mem_flatMap.2 ⟨_,List.getElem_mem hi',List.mem_flatMap.2 ⟨_,List.getElem_mem hj',hd⟩⟩)
    generalize es[i].cells[j]=c at hvc hPc hDc
    generalize cs.getD (i*k+j) undef=u at hvc
    cases hvc with
    |val _ _ hvr=>
     cases c with
     |kid=>exact hvr.kid_no.elim
     |_=>exact .val _ _ (.dat _ _ (fz_ok hr fr 3 hvr hPc hDc))
    |kid0 t' k' a h0=>exact .kid0 _ _ a h0
    |kid t' k' xs b' cap cs' k1 k2 k3 k4 k5 k6 k7 k8 k9=>
     exact .kid _ _ _ b' cap cs' k1 k2 k3 k4 k5 k6 k7 k8 fun i hi j hj=>(k9 i hi j hj).mono (Nat.le_refl _) (fun b _ hb=>fr.un b hb) (fun _ _ _=>rfl)
 |box cs cs' hl hcs=>
  obtain⟨q1,q2,b,c,vs,t,q3,q4,q5,q6⟩:=ho
  refine⟨q1,?_,b,c,vs,t,q3,q4,by omega,fun j hj=>?_⟩
  ·intro j hj
   rcases hcs j (by omega) hj with h|⟨h1,h2,_⟩
   ·rw[h];exact q2 _ _
   ·rw[h2];exact fz_one h1
  ·rcases hcs j (by omega) hj with h|⟨h1,h2,h3⟩
   ·rw[h];exact(q6 j (by omega)).ext x
   ·rw[h2];exact .dat _ _ (fz_ok hr fr 4 (q6 j (by omega)) h1 h3)
section
variable {C:Cx} {T:Tab}
theorem Weak.hrel {s s':St} (h:Weak s s') {w:World} {e:Env} (h1:HRel w e (Glt s.ck) s.hp):HRel w (epick e s'.hp) (Glt s'.ck) s'.hp:=by
 have hkeep:∀{id},s'.hp.get id≠none->∃g ob ob',s.hp.get id=some (g,ob)/\s'.hp.get id=some (g,ob')/\ObW s.hp s'.hp ob ob':=fun hn=>(h.hp _).resolve_left hn
 constructor
 ·intro id hid;simp only[epick,hid]
 ·intro id g ob' hid
  obtain⟨g',ob,ob2,q1,q2,q3⟩:=hkeep (id:=id) (by rw[hid];simp)
  rw[hid] at q2;cases q2
  obtain⟨ee,k1,k2,k3,k4⟩:=h1.live id _ ob q1
  exact⟨ee,by rw[epick_of (by rw[hid];simp)];exact k1,k2,Nat.lt_of_lt_of_le k3 h.ck,q3.rel h1 h.ck k4⟩
 ·intro i j ei ej b c c' hi hj
  exact h1.inj i j ei ej b c c' (epick_some hi).1 (epick_some hj).1
 ·intro i ei b c hi
  exact h1.lt i ei b c (epick_some hi).1
 ·intro i ei b c hi
  exact h1.nz i ei b c (epick_some hi).1
 ·exact h1.kl
 ·intro b ho;exact h1.ko b (epick_obj ho)
 ·exact h1.kk
theorem Lnt.pick {w:World} {e:Env} {n m:Nat} (h:Lnt C w e (Glt n)) (hp:Hp) (hnm:n<=m):Lnt C w (epick e hp) (Glt m):=
 ⟨h.zeq,h.zlt,h.ext.trans (Ext.pick w e hp hnm),fun b hb=>h.mine b (epick_own hb)⟩
theorem Weak.rel {s s':St} (h:Weak s s') {a:Act} {w:World} (hr:RelS C s a w):RelS C s' a w:=by
 obtain⟨e,h1,h2,h3⟩:=hr.body
 refine⟨hr.defers,hr.size,hr.frm,epick e s'.hp,h.hrel h1,h2.pick _ h.ck,fun t=>?_⟩
 rcases h.tm t with ht|ht|⟨ht1,ht2,ht3⟩
 ·rw[ht];exact .dat _ _ (.bad _)
 ·rw[ht];exact(h3 t).ext (Ext.pick w e _ h.ck)
 ·rw[ht2];exact .dat _ _ (fzt_ok h1 (Frz.pick h1 s'.hp) (h3 t) ht1 ht3)
theorem awp_weak {c:Code} {Q:Exit->St->Prop} {s s':St} (hw:Weak s s') (h:awp C c Q s'):awp C c Q s:=fun a w hr=>h a w (hw.rel hr)
end
end
open Go Go.Great
section
variable {C:Cx} {e:Env} {G:Nat->Prop} {hp:Hp} {w:World} {T:Tab}
def opLoadB (ti:TI) (hp:Hp):AV->Prop×AV
 | .ptI cs=>((ldCells ti cs).1,(ldCells ti cs).2.1)
 | .ptO id g n i off=>match hp.get id with
  |some (g', .box cs)=>(g'=g/\n=0/\i=0/\(ldCells ti (cs.drop off)).1,(ldCells ti (cs.drop off)).2.1)
  |_=>(False, .bad)
 |_=>(False, .bad)
def resV (T:Tab) (s:St):ResultVar->Prop×AV
 | .tmp t=>(True,tget s.tm t)
 | .cell t ty=>opLoadB (tl T ty) s.hp (tget s.tm t)
def retAV (T:Tab) (s:St):List ResultVar->Prop×AV
 |[x]=>resV T s x
 |xs=>(∀x∈xs,(resV T s x).1, .tup (xs.map fun x=>(resV T s x).2))
def resM (tmps:Array Value):ResultVar->Sem Value
 | .tmp t=>pure (tmps.getD t undef)
 | .cell ad t=>do loadVar t (<-asAddr (tmps.getD ad undef))
theorem results_eq (fn:Func) (tmps:Array Value):results fn tmps=(do let vs<-fn.results.mapM (resM tmps);pure (if h:vs.size=1 then vs[0] else .tuple vs)):=by
 unfold results
 congr 1
theorem resV_ok (hT:TOk C.P T) {s:St} {a:Act} (hr:HRel w e G s.hp) (hv:∀t,VR w (UE e) e G (tget s.tm t) (a.tmps.getD t undef)) (x:ResultVar) (h:(resV T s x).1):
  ∃xv,(resM a.tmps x).run C.P w= .ok xv w/\VR w (UE e) e G (resV T s x).2 xv:=by
 cases x with
 |tmp t=>exact⟨_,rfl,hv t⟩
 |cell ad t=>
  simp only[resV] at h ⊢
  have hx:=hv ad
  have key:∀{b off:Nat} {cs:List AV} {f:Nat->Value},a.tmps.getD ad undef= .pointer (some ⟨b,off,none⟩)->(∀j,j<cs.length->w.cell? ⟨b,off+j,none⟩=some (f j))->(∀i (h:i<cs.length),cs[i].one=true)->
    (∀i (h:i<cs.length),VR w (UE e) e G cs[i] (f i))->(ldCells (tl T t) cs).1->∃xv,(resM a.tmps (.cell ad t)).run C.P w= .ok xv w/\VR w (UE e) e G (ldCells (tl T t) cs).2.1 xv:=by
   intro b off cs f hp hc h1 hv h
   obtain⟨xv,h2,h3⟩:=ldCells_pure (C:=C) (hT.fits (t:=t) h.1) hc h1 hv h
   refine⟨xv,?_,h3⟩
   rw[<-h2]
   unfold Instr.loadAt
   simp only[resM,hp]
   rfl
  generalize hav:tget s.tm ad=av at h hx ⊢
  cases av with
  |ptI cs=>
   obtain⟨b,off,f,he,h1,h2,h3,h4,h5⟩:=hx.ptI_inv.ptI_inv
   exact key he h3 h4 (fun i hi=> .dat _ _ (h5 i hi)) h
  |ptO id g' n i off=>
   simp only[opLoadB] at h ⊢
   cases hg:s.hp.get id with
   |none=>simp only[hg] at h
   |some q=>
    obtain⟨g'',ob⟩:=q
    cases ob with
    |own t k es=>simp only[hg] at h
    |mp _=>simp only[hg] at h
    |ms _=>simp only[hg] at h
    |bd _ _ _=>simp only[hg] at h
    |box cs=>
     simp only[hg] at h ⊢
     obtain⟨rfl,rfl,rfl,h⟩:=h
     obtain⟨_,_,hi⟩:=hx.ptO_inv
     obtain⟨ee,he,hgg,_,hor⟩:=hr.live id _ _ hg
     obtain⟨hn,h1,b,c,vs,T',hb,hh,hs,hvs⟩:=hor
     obtain⟨_,hi⟩:=hi ee he hgg
     have hxp:=hi hn b c hb
     rw[Nat.zero_mul,Nat.zero_add] at hxp
     exact key hxp (cs:=cs.drop off) (f:=fun j=>vs.getD (off+j) undef) (fun j hj=>by rw[cell_of_heap hh (by simp at hj;omega)]) (one_getElem h1 off) (fun j hj=>by simp only[List.getElem_drop];exact hvs _ _) h
  |_=>exact h.elim
theorem run_mapM_list {P:Program} {α:Type} (g:α->Sem Value):∀(xs:List α) (f:α->Value),(∀x∈xs,(g x).run P w= .ok (f x) w)->(xs.mapM g).run P w= .ok (xs.map f) w
 |[],_,_=>by simp
 |x::xs,f,h=>by
  rw[List.mapM_cons,Sem.run_bind,h x List.mem_cons_self,Result.andThen_ok,Sem.run_bind,run_mapM_list g xs f fun y hy=>h y (List.mem_cons_of_mem _ hy),Result.andThen_ok]
  rfl
theorem retAV_ok (hT:TOk C.P T) {s:St} {a:Act} (hr:HRel w e G s.hp) (hv:∀t,VR w (UE e) e G (tget s.tm t) (a.tmps.getD t undef)) {fn:Func} (h:(retAV T s fn.results.toList).1):
  ∃xv,(results fn a.tmps).run C.P w= .ok xv w/\VR w (UE e) e G (retAV T s fn.results.toList).2 xv:=by
 have hall:∀x∈fn.results.toList,(resV T s x).1:=by
  unfold retAV at h
  split at h
  ·rename_i x hx
   intro y hy
   rw[hx] at hy
   simp at hy;subst hy;exact h
  ·exact h
 have hch:∃f:ResultVar->Value,∀x∈fn.results.toList,(resM a.tmps x).run C.P w= .ok (f x) w/\
   VR w (UE e) e G (resV T s x).2 (f x):=by
  have h1:∀x,∃v,x∈fn.results.toList->(resM a.tmps x).run C.P w= .ok v w/\VR w (UE e) e G (resV T s x).2 v:=by
   intro x
   by_cases hx:x∈fn.results.toList
   ·obtain⟨v,h2,h3⟩:=resV_ok hT hr hv x (hall x hx);exact⟨v,fun _=>⟨h2,h3⟩⟩
   ·exact⟨undef,fun h=>absurd h hx⟩
  exact⟨fun x=>Classical.choose (h1 x),fun x=>Classical.choose_spec (h1 x)⟩
 obtain⟨f,hf⟩:=hch
 have hrun:=run_mapM_list (P:=C.P) (w:=w) (resM a.tmps) fn.results.toList f fun x hx=>(hf x hx).1
 have hres:(results fn a.tmps).run C.P w= .ok (if h:(fn.results.toList.map f).toArray.size=1 then(fn.results.toList.map f).toArray[0] else .tuple (fn.results.toList.map f).toArray) w:=by
  rw[results_eq,Sem.run_bind,Array.mapM_eq_mapM_toList,Sem.run_map]
  rw[hrun]
  rfl
 refine⟨_,hres,?_⟩
 unfold retAV
 split
 ·rename_i x hx
  have hm:=hf x (by rw[hx];simp)
  simp only[hx,List.map_cons,List.map_nil,List.size_toArray,List.length_cons,List.length_nil]
  simpa using hm.2
 ·rename_i hne
  rw[dif_neg]
  ·refine .tup _ _ (by simp) fun i hi=>?_
   have hi':i<fn.results.toList.length:=by simpa using hi
   simp only[List.getElem_map]
   have:(fn.results.toList.map f).toArray.getD i undef=f fn.results.toList[i]:=by
    rw[Array.getD_eq_getD_getElem?,List.getElem?_toArray,List.getElem?_map,List.getElem?_eq_getElem hi'];rfl
   rw[this]
   exact(hf _ (List.getElem_mem hi')).2
  ·intro hsz
   have:fn.results.toList.length=1:=by simpa using hsz
   match hl:fn.results.toList,this with
   |[x],_=>exact hne x hl
def tm0 (as:List AV):List (Nat×AV):=(as.zipIdx 0).map fun p=>(p.2,p.1)
theorem tget_zip:∀(as:List AV) (k t:Nat),tget ((as.zipIdx k).map fun p=>(p.2,p.1)) (k+t)=as.getD t .bad
 |[],_,_=>rfl
 |a::as,k,t=>by
  simp only[List.zipIdx_cons,List.map_cons,tget]
  cases t with
  |zero=>simp
  |succ t=>
   rw[if_neg (by omega)]
   have:=tget_zip as (k+1) t
   rw[show k+1+t=k+(t+1) from by omega] at this
   rw[this];rfl
theorem tget_tm0 (as:List AV) (t:Nat):tget (tm0 as) t=as.getD t .bad:=by have:=tget_zip as 0 t;rwa[Nat.zero_add] at this
structure RetG (T:Tab) (rs:List ResultVar) (σ:Nm) (D:List Nat) (hp':Hp) (r:AV) (s:St):Prop where
 res:(retAV T s rs).1
 nm:NmOk σ
 gen:∀q∈σ,(q.2.1=0/\q.2.2.1=q.1/\q.2.2.2=0)\/q.2.1=1
 hpP:rnHP true σ s.hp σ
 hpR:∀d∈rnHR true σ s.hp σ,d∈D
 vP:rntP true σ s.hp (retAV T s rs).2
 vR:∀d∈rntR true σ s.hp (retAV T s rs).2,d∈D
 dis:∀d∈D,lk σ d=none
 val:rnt true σ s.hp (retAV T s rs).2=r
 hp:rnH true σ s.hp=hp'
def QRet (T:Tab) (rs:List ResultVar) (hp':Hp) (r:AV):Exit->St->Prop
 | .ret,s| .normal,s=>∃σ D,RetG T rs σ D hp' r s
 |_,_=>False
def Ends (P:Program) (w:World) (e:Env) (hp':Hp) (r:AV) (v:Value) (w':World):Prop:=
 ∃e',HRel w' e' (Glt 2) hp'/\VR w' (UE e') e' (Glt 2) r v/\Ext w e (Glt 1) w' e' (Glt 2)/\e'.z=e.z/\(∀b,OwnB e' b->w.heap.size<=b\/OwnB e b)/\FrameE e w w'
def markOf (D:Nat):Deferred:={target:= .collected D,args:=#[]}
def EscG (P:Program) (fn:Func) (w:World) (e:Env) (hp':Hp) (r:AV) (a':Act) (w':World):Prop:=
 ∃D,a'.defers=[markOf D]/\w'.heap[D]?=some (.deferred (some []))/\∃v,(results fn a'.tmps).run P (w'.putObj D (.deferred none))= .ok v (w'.putObj D (.deferred none))/\Ends P w e hp' r v (w'.putObj D (.deferred none))
abbrev cxG (P:Program) (fn:Func) (w:World) (e:Env) (X:Act->World->Prop):Cx:=⟨P,fn.ntmps,w,e,none,[],X⟩
theorem Ends_of {P:Program} {C:Cx} (hP:C.P=P) {fn:Func} {T:Tab} (hT:TOk P T) {w:World} {e:Env} (hw:C.w0=w) (he:C.e0=e) {hp':Hp} {r:AV} {s:St} {a':Act} {w':World} (hr:RelS C s a' w')
  (hq:∃σ D,RetG T fn.results.toList σ D hp' r s):∃v,(results fn a'.tmps).run P w'= .ok v w'/\Ends P w e hp' r v w':=by
 subst hP hw he
 obtain⟨σ,D,hret⟩:=hq
 obtain⟨e1,hr1,hln,hv⟩:=hr.body
 obtain⟨xv,hrun,hxv⟩:=retAV_ok (C:=C) (s:=s) hT hr1 hv hret.res
 have rk:RnOk true e1 s.hp (Glt 2) σ D e1.z:=⟨hret.nm,hret.hpP,hret.hpR,hret.dis,fun q hq=>by
  rcases hret.gen q hq with ⟨h,_⟩|h
  ·rw[h];exact(by decide:(0:Nat)<2)
  ·rw[h];exact(by decide:(1:Nat)<2),fun _ h=>h,fun _ h=> .inl h⟩
 have hr2:=rk.rel hr1
 have hv2:=rk.vrt hr1 hxv hret.vP hret.vR
 have fz:=rk.frz hr1
 have own1:∀b,OwnB (eN σ e1 e1.z) b->OwnB e1 b:=fun b ho=>by
  obtain⟨q,_,h⟩:=eN_own ho;exact h.own
 rw[hret.hp] at hr2
 rw[hret.val] at hv2
 refine⟨xv,hrun,eN σ e1 e1.z,hr2,hv2,?_,hln.zeq,fun b ho=>hln.mine b (own1 b ho),⟨hr.frm.os,hr.frm.tape,hr.frm.output,hr.frm.size,hr.frm.same⟩⟩
 refine⟨hln.ext.size,fun g (hg:g<1)=>(by show g<2;omega),fun b hb hu=>fz.un b (hln.ext.un b hb hu),hln.ext.same,fun id ee' he' hg=>?_⟩
 obtain⟨gi,a,ga,ee,hm,h6,rfl⟩:=eN_some he'
 rcases hret.gen _ hm with ⟨h7,h8,h9⟩|h7
 ·simp only at h7 h8 h9
  subst h7 h8 h9
  obtain⟨ob,h10,_⟩:=rnHP_all hret.hpP hm
  obtain⟨ee2,h11,h12,_⟩:=hr1.live _ _ _ h10
  rw[h6] at h11;cases h11
  obtain⟨ee0,k1,k2,k3,k4⟩:=hln.ext.ent a ee h6 (by rw[h12];exact Nat.zero_lt_one)
  exact⟨ee0,k1,k2.trans h12,k3,k4⟩
 ·simp only at h7
  subst h7
  exact absurd hg (by simp[Glt])
theorem SatG_of_awp {P:Program} {f:FuncId} {fn:Func} {c:Code} {hp hp':Hp} {as:List AV} {r:AV} (hT:TOk P T) (hf:P.funcs[f]?=some fn) (hb:fn.body=some c)
  (hname:(fn.name== "runtime.NumGoroutine")=false) (hN:as.length<=fn.ntmps)
  (h:∀(w:World) (e:Env) (X:Act->World->Prop),(∀a' w',EscG P fn w e hp' r a' w'->X a' w')->COk ⟨P,fn.ntmps,w,e,none,[],X⟩ T->awp ⟨P,fn.ntmps,w,e,none,[],X⟩ c (QRet T fn.results.toList hp' r) ⟨tm0 as,hp,1⟩):SatG P T f hp as hp' r:=by
 refine⟨⟨fn,hf,hname,by rw[hb];rfl⟩,fun w e vals h1 h2 h3 h4 h5=>?_⟩
 have hC:COk (cxG P fn w e (EscG P fn w e hp' r)) T:=⟨hT,h3⟩
 have hrel:RelS (cxG P fn w e (EscG P fn w e hp' r)) ⟨tm0 as,hp,1⟩ {tmps:=vals++Array.replicate (fn.ntmps - vals.size) undef,defers:=[]} w:=by
  refine⟨rfl,by simp;omega,⟨rfl,rfl,rfl,Nat.le_refl _,fun _ _ _=>rfl⟩,e,h1,⟨rfl,h2,Ext.refl _ _ _,fun _ h=> .inr h⟩,fun t=>?_⟩
  simp only[tget_tm0]
  by_cases ht:t<as.length
  ·have e1:as.getD t .bad=as[t]:=by rw[List.getD_eq_getElem?_getD,List.getElem?_eq_getElem ht];rfl
   have e2:(vals++Array.replicate (fn.ntmps - vals.size) undef).getD t undef=vals.getD t undef:=by
    rw[Array.getD_eq_getD_getElem?,Array.getElem?_append_left (by omega),Array.getD_eq_getD_getElem?]
   rw[e1,e2];exact h5 t ht
  ·have e1:as.getD t .bad= .bad:=by rw[List.getD_eq_getElem?_getD,List.getElem?_eq_none (by omega)];rfl
   rw[e1];exact .dat _ _ (.bad _)
 refine(callsIn_wide (n:=0)).1 (callsIn_of_wp_marks (F:=Fence.wide) hf hb trivial (wpIn_mono (h w e _ (fun _ _ h=>h) hC _ w hrel) ?_))
 have fin:∀a' w',((∃s',RelS (cxG P fn w e (EscG P fn w e hp' r)) s' a' w'/\∃σ D,RetG T fn.results.toList σ D hp' r s')\/EscG P fn w e hp' r a' w')->LeavesInM Fence.wide 0 P fn a'.tmps (fun en w'=>∃v e',en= .returned v/\HRel w' e' (Glt 2) hp'/\VR w' (UE e') e' (Glt 2) r v/\Ext w e (Glt 1) w' e' (Glt 2)/\e'.z=e.z/\
   (∀b,OwnB e' b->w.heap.size<=b\/OwnB e b)/\FrameE e w w') a'.defers .returning w':=by
  rintro a' w' (⟨s,hr,hq⟩|⟨D,hd,hD,v,hrun,e',k1,k2,k3,k4,k5,k6⟩)
  ·have hd:a'.defers=[]:=hr.defers
   obtain⟨v,hrun,e',k1,k2,k3,k4,k5,k6⟩:=Ends_of (C:=cxG P fn w e (EscG P fn w e hp' r)) rfl hT rfl rfl hr hq
   rw[hd]
   exact⟨v,hrun,v,e',rfl,k1,k2,k3,k4,k5,k6⟩
  ·rw[hd]
   exact⟨by simp, .inl ⟨D,_,rfl,run_takeDeferred hD,v,hrun,v,e',rfl,k1,k2,k3,k4,k5,k6⟩⟩
 rintro ex a' w' (⟨s,hr,hq⟩|⟨rfl,h⟩)
 ·cases ex with
  |ret=>exact fin a' w' (.inl ⟨s,hr,hq⟩)
  |normal=>exact fin a' w' (.inl ⟨s,hr,hq⟩)
  |_=>exact hq.elim
 ·exact fin a' w' (.inr h)
end
open Go Go.Great
def tyB:Ty->TypeDesc->Bool
 | .int k, .int k'=>decide (k=k')
 | .bool, .bool=>true
 | .str, .string=>true
 | .slice e, .slice e'=>e==e'
 | .array n e, .array n' e'=>n==n'&&e==e'
 | .struct fs, .struct a=>a.toList.map (fun f=>(f.offset,f.type))==fs
 | .ptr e, .pointer e'=>e==e'
 | .map k e, .map k' e'=>k==k'&&e==e'
 | .other,_=>true
 | .iface, .interface _=>true
 | .bld _,_=>true
 |_,_=>false
def zB:ZC->Value->Bool
 | .int k, .int k' n=>decide (k=k')&&decide (n=0)
 | .bool, .bool b=>!b
 | .str, .string s=>s.data.toList.isEmpty
 | .sl, .slice none 0 0=>true
 | .ptr, .pointer none=>true
 | .map, .map none=>true
 | .fn, .nilFunc=>true
 | .iface, .nilIface=>true
 |_,_=>false
def zsB:List ZC->List Value->Bool
 |[],[]=>true
 |z::zs,v::vs=>zB z v&&zsB zs vs
 |_,_=>false
def zeqB:ZC->TypeDesc->Bool
 | .int _, .int _=>true
 | .bool, .bool=>true
 | .str, .string=>true
 |_,_=>false
def eqsB (P:Program):Nat->Nat->List Field->List ZC->Bool
 |_,_,[],[]=>true
 |0,_,_,_=>false
 | m + 1, o, f :: fs, zs => f.name != "_" && f.offset == o && match P.underlying f.type with
  |some (.struct _)=>match P.info? f.type with
   |some i=>!P.stoodInHeld f.type&&i.size<=zs.length&&eqsB P m 0 (P.fieldsOf f.type).toList (zs.take i.size)&&eqsB P m (o+i.size) fs (zs.drop i.size)
   |none=>false
  |some d=>match zs with
   |z::zs=>zeqB z d&&eqsB P m (o+1) fs zs
   |[]=>false
  |none=>false
 |_,_,_,_=>false
def eqB (P:Program) (t:Nat) (zs:List ZC):Bool:=
 (match P.underlying t with|some (.struct _)=>true|_=>false)&&!P.stoodInHeld t&&!P.eqGuardType P.depth t&&eqsB P 40 0 (P.fieldsOf t).toList zs
theorem eqF_mono {P:Program} {n o:Nat} {fs:List Field} {zs:List ZC} (h:EqF P n o fs zs):EqF P (n+1) o fs zs:=by
 induction h with
 |nil n o=>exact .nil _ _
 |one n o f fs z zs d f1 f2 f3 f4 _ ih=>exact .one _ _ _ _ _ _ d f1 f2 f3 f4 ih
 |sub n o f fs z1 z2 i f1 f2 f3 f4 f5 f6 _ _ ih1 ih2=>exact .sub _ _ _ _ _ _ i f1 f2 f3 f4 f5 f6 ih1 ih2
theorem eqF_le {P:Program} {n n' o:Nat} {fs:List Field} {zs:List ZC} (h:EqF P n o fs zs) (hn:n<=n'):EqF P n' o fs zs:=by
 induction n' with
 |zero=>
  obtain rfl:n=0:=(by omega)
  exact h
 |succ m ih=>
  by_cases hm:n=m+1
  ·subst hm;exact h
  ·exact eqF_mono (ih (by omega))
theorem fieldsOf_eq {P:Program} {t:Nat} {a:Array Field} (h:P.underlying t=some (.struct a)):P.fieldsOf t=a:=by
 unfold Program.fieldsOf
 rw[h]
theorem eqsB_ok {P:Program}:∀{m o:Nat} {fs:List Field} {zs:List ZC},eqsB P m o fs zs=true->∃n,n<=m/\EqF P n o fs zs
 |_,_,[],[],_=>⟨0,Nat.zero_le _, .nil _ _⟩
 |m+1,o,f::fs,zs,h=>by
  simp only[eqsB,Bool.and_eq_true,bne_iff_ne,ne_eq,beq_iff_eq] at h
  obtain⟨⟨h1,h2⟩,h3⟩:=h
  split at h3
  ·rename_i a hu
   split at h3
   ·rename_i i hi
    simp only[Bool.and_eq_true,Bool.not_eq_true',decide_eq_true_eq] at h3
    obtain⟨⟨⟨q1,q2⟩,q3⟩,q4⟩:=h3
    obtain⟨n1,l1,k1⟩:=eqsB_ok q3
    obtain⟨n2,l2,k2⟩:=eqsB_ok q4
    have hf:=fieldsOf_eq hu
    have e1:=EqF.sub (max n1 n2) o f fs (zs.take i.size) (zs.drop i.size) i h1 h2 (by rw[hf];exact hu) q1 hi (by simp;omega) (eqF_le k1 (by omega)) (by
     rw[List.length_take,Nat.min_eq_left q2]
     exact eqF_le k2 (by omega))
    rw[List.take_append_drop] at e1
    exact⟨_,by omega,e1⟩
   ·cases h3
  ·rename_i d hns hu
   split at h3
   ·rename_i z zs'
    simp only[Bool.and_eq_true] at h3
    obtain⟨q1,q2⟩:=h3
    obtain⟨n2,l2,k2⟩:=eqsB_ok q2
    refine⟨n2,by omega, .one _ _ _ _ _ _ d h1 h2 hu ?_ k2⟩
    unfold zeqB at q1
    split at q1<;>first|exact⟨_,rfl⟩|rfl|cases q1
   ·cases h3
  ·cases h3
 |0,_,_::_,_,h=>by simp[eqsB] at h
 |0,_,[],_::_,h=>by simp[eqsB] at h
 |_+1,_,[],_::_,h=>by simp[eqsB] at h
theorem eqB_ok {P:Program} {t:Nat} {zs:List ZC} (h:eqB P t zs=true):EqFlat P t zs:=by
 simp only[eqB,Bool.and_eq_true,Bool.not_eq_true'] at h
 obtain⟨⟨⟨h1,h2⟩,h3⟩,h4⟩:=h
 obtain⟨n,l1,k1⟩:=eqsB_ok h4
 refine⟨?_,h2,h3,eqF_le k1 (by omega)⟩
 unfold Program.fieldsOf
 cases hu:P.underlying t with
 |none=>simp[hu] at h1
 |some d=>cases d<;>simp_all
def tiB (P:Program) (t:Nat) (ti:TI):Bool:=
 match P.info? t,P.underlying t with
 |some i,some d=>
  i.size==ti.size&&i.bytes==ti.bytes&&tyB ti.ty d&&(ti.agg==(match d with| .struct _| .array _ _=>true|_=>false))&&ti.zs.length==ti.size&&(ti.agg||ti.size==1)&&(!ti.eq||eqB P t ti.zs)&&
  (match d with| .struct a=>a.all fun f=>(P.info? f.type).isSome|_=>true)&&
  (match i.zero with
   |some (.agg cs)=>ti.agg&&zsB ti.zs cs.toList
   |some v=>!ti.agg&&zsB ti.zs [v]
   |none=>false)
 |_,_=>false
theorem tyB_fits {ty:Ty} {d:TypeDesc} (h:tyB ty d=true):ty.fits d:=by
 cases ty<;>cases d<;>simp[tyB,Ty.fits] at h ⊢<;>first|exact h|(simp_all;done)|skip
theorem zB_val {z:ZC} {v:Value} (h:zB z v=true):v=z.val:=by
 unfold zB at h
 split at h<;>simp_all [ZC.val]
 rename_i s
 cases s with
 |mk d=>cases d with|mk l=>simp at h;subst h;rfl
theorem zsB_vals:∀{zs:List ZC} {vs:List Value},zsB zs vs=true->vs=zs.map ZC.val
 |[],[],_=>rfl
 |z::zs,v::vs,h=>by
  simp only[zsB,Bool.and_eq_true] at h
  rw[zB_val h.1,zsB_vals h.2];rfl
 |[],_::_,h=>by cases h
 |_::_,[],h=>by cases h
theorem tiB_fit {P:Program} {t:Nat} {ti:TI} (h:tiB P t ti=true):TFit P t ti:=by
 unfold tiB at h
 split at h
 ·rename_i i d hi hd
  simp only[Bool.and_eq_true,beq_iff_eq,Bool.or_eq_true] at h
  obtain⟨⟨⟨⟨⟨⟨⟨⟨h1,h2⟩,h3⟩,h4⟩,h5⟩,h6⟩,h9⟩,h7⟩,h8⟩:=h
  refine⟨⟨i,hi,h1,h2,?_⟩,⟨d,hd,tyB_fits h3,?_⟩,h5,?_,?_,?_⟩
  ·split at h8
   ·rename_i cs hz
    simp only[Bool.and_eq_true] at h8
    rw[hz]
    unfold TI.zval
    rw[if_pos h8.1,<-zsB_vals h8.2]
   ·rename_i v hne hz
    simp only[Bool.and_eq_true,Bool.not_eq_true'] at h8
    rw[hz]
    unfold TI.zval
    rw[if_neg (by simp[h8.1])]
    have:=zsB_vals h8.2
    match hzs:ti.zs with
    |[z]=>rw[hzs] at this;simp at this;rw[this]
    |[]=>rw[hzs] at this;simp at this
    |_::_::_=>rw[hzs] at this;simp at this
   ·cases h8
  ·exact h4.trans (by cases d<;>rfl)
  ·intro a ha f hf
   rw[hd] at ha
   cases ha
   rw[Array.all_eq_true_iff_forall_mem] at h7
   exact h7 f hf
  ·intro hag
   rcases h6 with h6|h6
   ·rw[hag] at h6;cases h6
   ·exact h6
  ·intro he
   rcases h9 with h9|h9
   ·rw[he] at h9;cases h9
   ·exact eqB_ok h9
 ·cases h
theorem TOk_of {P:Program} {T:Tab} (h:(T.ty.all fun p=>tiB P p.1 p.2)=true):TOk P T:=by
 intro t
 have key:∀T:List (Nat×TI),(T.all fun p=>tiB P p.1 p.2)=true->tlu T t= .none\/TFit P t (tlu T t):=by
  intro T
  induction T with
  |nil=>exact fun _=> .inl rfl
  |cons p T ih=>
   intro h
   simp only[List.all_cons,Bool.and_eq_true] at h
   obtain⟨i,x⟩:=p
   simp only[tlu]
   by_cases hi:i=t
   ·subst hi;rw[if_pos rfl];exact .inr (tiB_fit h.1)
   ·rw[if_neg hi];exact ih h.2
 exact key T.ty h
open Go Go.Great
def ids0:AV->List Nat
 | .slO id _ _ _=>[id]
 | .ptO id _ _ _ _=>[id]
 | .mpO id _=>[id]
 |_=>[]
def ids1:AV->List Nat
 | .fn _ cs=>cs.flatMap ids0
 | .bfn _ cs=>cs.flatMap ids0
 |v=>ids0 v
def ids2:AV->List Nat
 | .agg cs=>cs.flatMap ids1
 |v=>ids1 v
def ids3:AV->List Nat
 | .tup cs=>cs.flatMap ids2
 |v=>ids2 v
theorem attR_ids {c:AV} {i:Nat} (h:i∈attR c):i∈ids1 c:=by
 cases c<;>simp[attR] at h
 subst h;simp[ids1,ids0]
theorem attR_ids3 {v:AV} {i:Nat} (h:i∈v.cells.flatMap attR):i∈ids3 v:=by
 cases v with
 |agg cs=>
  simp only[AV.cells,List.mem_flatMap] at h
  obtain⟨c,hc,h⟩:=h
  simp only[ids3,ids2,List.mem_flatMap]
  exact⟨c,hc,attR_ids h⟩
 |slO id g off len=>simpa[AV.cells,attR,ids3,ids2,ids1,ids0] using h
 |_=>simp[AV.cells,attR] at h
def srcR (hp:Hp) (v:AV):List Nat:=match srcE hp v with|some ys=>esR ys|none=>[]
def accOps:Op->List Operand
 | .move _=>[]
 | .extract _ _=>[]
 |op=>op.operands.toList
theorem accOps_sub {op:Op} {x:Operand} (h:x∈accOps op):x∈op.operands:=by
 cases op<;>first|exact Array.mem_toList_iff.1 h|cases h
def accV (o:Oper) (ev:Operand->AV) (hp:Hp):List Nat:=
 ((accOps o.op).flatMap fun x=>ids3 (ev x))++
  match o.op with
  | .call {callee:= .builtin .append,args,argTypes:=_}=>match args.toList with
   |[_,x]=>srcR hp (ev x)
   |_=>[]
  |_=>[]
theorem mapatt_agree {hp hp':Hp} {v:AV} (h:∀i∈v.cells.flatMap attR,hp'.get i=hp.get i):mapc (att hp') v=mapc (att hp) v/\((∀c∈v.cells,attP hp' c)↔∀c∈v.cells,attP hp c):=by
 have h1:∀c∈v.cells,att hp' c=att hp c/\(attP hp' c↔attP hp c):=fun c hc=>att_agree fun i hi=>h i (List.mem_flatMap.2 ⟨c,hc,hi⟩)
 refine⟨?_,⟨fun h2 c hc=>(h1 c hc).2.1 (h2 c hc),fun h2 c hc=>(h1 c hc).2.2 (h2 c hc)⟩⟩
 cases v with
 |agg cs=>
  have h2:∀c∈cs,att hp' c=att hp c:=fun c hc=>(h1 c hc).1
  simp only[mapc];rw[List.map_congr_left h2]
 |_=>exact(h1 _ List.mem_cons_self).1
theorem srcE_agree {hp hp':Hp} {v:AV} (h:∀i∈ids3 v,hp'.get i=hp.get i):srcE hp' v=srcE hp v/\srcP hp' v=srcP hp v:=by
 cases v with
 |slO id g off len=>simp only[srcE,srcP,h id (by simp[ids3,ids2,ids1,ids0]),and_self]
 |_=>exact⟨rfl,rfl⟩
section
variable {T:Tab} {t:Nat} {hp hp':Hp} {v:AV} (h2:∀i∈ids3 v,hp'.get i=hp.get i)
include h2
theorem opLookup_congr {u:AV}:opLookup T t hp' v u=opLookup T t hp v u:=by
 unfold opLookup
 generalize (tl T t).ty=ty
 cases v with
 |mpO id g=>
  have h6:=h2 id (by simp[ids3,ids2,ids1,ids0])
  cases ty<;>first|rfl|(cases u<;>first|rfl|(rename_i u;cases u<;>first|rfl|(rename_i kk _;cases kk<;>first|rfl|simp only[h6])))
 |_=>cases ty<;>rfl
theorem opLookup2_congr {u:AV}:opLookup2 T t hp' v u=opLookup2 T t hp v u:=by
 unfold opLookup2
 generalize (tl T t).ty=ty
 cases v with
 |mpO id g=>
  have h6:=h2 id (by simp[ids3,ids2,ids1,ids0])
  cases ty<;>first|rfl|(cases u<;>first|rfl|(rename_i u;cases u<;>first|rfl|simp only[h6]))
 |_=>cases ty<;>rfl
theorem opMapUpd_congr {u y:AV}:opMapUpd T t hp' v u y=opMapUpd T t hp v u y:=by
 unfold opMapUpd
 generalize (tl T t).ty=ty
 cases v with
 |mpO id g=>
  have h6:=h2 id (by simp[ids3,ids2,ids1,ids0])
  cases ty<;>first|rfl|(cases u<;>first|rfl|(rename_i u;cases u<;>first|rfl|(rename_i kk _;cases kk<;>first|rfl|(cases y<;>first|rfl|(rename_i y;cases y<;>first|rfl|(rename_i kk _;cases kk<;>first|rfl|simp only[h6]))))))
 |_=>cases ty<;>rfl
theorem opMapUpdS_congr {u y:AV}:opMapUpdS T t hp' v u y=opMapUpdS T t hp v u y:=by
 unfold opMapUpdS
 generalize (tl T t).ty=ty
 cases v with
 |mpO id g=>
  have h6:=h2 id (by simp[ids3,ids2,ids1,ids0])
  cases ty<;>first|rfl|(cases u<;>first|rfl|(rename_i u;cases u<;>first|rfl|simp only[h6]))
 |_=>cases ty<;>rfl
end
theorem opV_congr {T:Tab} (o:Oper) {ev ev':Operand->AV} {hp hp':Hp} (g:Nat) (he:∀x∈o.op.operands,ev' x=ev x)
  (hh0:∀i∈accV o ev hp,hp'.get i=hp.get i):opV T o ev' hp' g=opV T o ev hp g:=by
 obtain⟨dst,op,type,pos,after,guard⟩:=o
 by_cases hm:∃x,op= .move x
 ·obtain⟨x,rfl⟩:=hm
  simp only[opV,he x (by simp[Op.operands])]
 by_cases hm2:∃x i,op= .extract x i
 ·obtain⟨x,i,rfl⟩:=hm2
  simp only[opV,he x (by simp[Op.operands])]
 have hao:accOps op=op.operands.toList:=by cases op<;>first|rfl|exact absurd ⟨_,rfl⟩ hm|exact absurd ⟨_,_,rfl⟩ hm2
 have hh:∀x∈op.operands,∀i∈ids3 (ev x),hp'.get i=hp.get i:=fun x hx i hi=>hh0 i (List.mem_append_left _ (List.mem_flatMap.2 ⟨x,by show x∈accOps op;rw[hao];simpa using hx,hi⟩))
 cases op with
 |move x=>simp only[opV,he x (by simp[Op.operands])]
 |assign x=>
  have:=he x (by simp[Op.operands])
  simp only[opV,this]
 |pick c a b=>simp only[opV,he c (by simp[Op.operands]),he a (by simp[Op.operands]),he b (by simp[Op.operands])]
 |binOp op t x y yt=>simp only[opV,he x (by simp[Op.operands]),he y (by simp[Op.operands])]
 |unOp op t x=>
  have:=he x (by simp[Op.operands])
  cases op<;>simp only[opV,this]
 |nilCheck x=>
  have h1:=he x (by simp[Op.operands])
  have h2:=hh x (by simp[Op.operands])
  simp only[opV,h1]
  generalize ev x=v at h2
  cases v with
  |ptO id g n i off=>simp only[Hp.has,h2 id (by simp[ids3,ids2,ids1,ids0])]
  |_=>rfl
 |extract x i=>simp only[opV,he x (by simp[Op.operands])]
 |load t x=>
  have h1:=he x (by simp[Op.operands])
  have h2:=hh x (by simp[Op.operands])
  simp only[opV,h1]
  generalize ev x=v at h2
  cases v with
  |ptO id g n i off=>simp only[glob,opLoad,h2 id (by simp[ids3,ids2,ids1,ids0])]
  |gl n=>simp only[glob];cases glu T.gl n<;>rfl
  |_=>rfl
 |store t x y=>
  have h1:=he x (by simp[Op.operands])
  have h2:=hh x (by simp[Op.operands])
  have h3:=he y (by simp[Op.operands])
  have h4:=hh y (by simp[Op.operands])
  simp only[opV,h1,h3]
  generalize ev x=v at h2
  generalize ev y=u at h4
  cases v with
  |ptO id g n i off=>
   have hs:=mapatt_agree (hp:=hp) (hp':=hp') (v:=u) fun i hi=>h4 i (attR_ids3 hi)
   simp only[opStore,h2 id (by simp[ids3,ids2,ids1,ids0]),hs.1,hs.2]
  |_=>rfl
 |indexAddr t x i=>
  have h1:=he x (by simp[Op.operands])
  have h2:=hh x (by simp[Op.operands])
  have h3:=he i (by simp[Op.operands])
  simp only[opV,h1,h3]
  generalize ev x=v at h2
  generalize ev i=u
  cases v with
  |ptO id g n i off=>cases u<;>first|rfl|(rename_i u;cases u<;>first|rfl|simp only[glob,opIndexAddr,Hp.has,h2 id (by simp[ids3,ids2,ids1,ids0])])
  |slO id g off len=>cases u<;>first|rfl|(rename_i u;cases u<;>first|rfl|simp only[glob,opIndexAddr,h2 id (by simp[ids3,ids2,ids1,ids0])])
  |gl n=>simp only[glob];cases glu T.gl n<;>(cases u<;>first|rfl|(rename_i u;cases u<;>rfl))
  |_=>cases u<;>first|rfl|(rename_i u;cases u<;>rfl)
 |fieldAddr t x f=>
  have h1:=he x (by simp[Op.operands])
  have h2:=hh x (by simp[Op.operands])
  simp only[opV,h1]
  generalize ev x=v at h2
  cases v with
  |ptO id g n i off=>simp only[glob,opFieldAddr,Hp.has,h2 id (by simp[ids3,ids2,ids1,ids0])]
  |gl n=>simp only[glob];cases glu T.gl n<;>rfl
  |_=>rfl
 |field t x f=>simp only[opV,he x (by simp[Op.operands])]
 |index t x i=>simp only[opV,he x (by simp[Op.operands]),he i (by simp[Op.operands])]
 |slice t x lo hi mx=>
  have h1:=he x (by simp[Op.operands])
  have h2:=hh x (by simp[Op.operands])
  have e1:lo.map ev'=lo.map ev:=by cases lo<;>simp_all [Op.operands]
  have e2:hi.map ev'=hi.map ev:=by cases hi<;>simp_all [Op.operands]
  have e3:mx.map ev'=mx.map ev:=by cases mx<;>simp_all [Op.operands]
  simp only[opV,h1,e1,e2,e3]
  generalize ev x=v at h2
  cases v with
  |slO id g off len=>simp only[opSlice,opSliceS,opSliceA,h2 id (by simp[ids3,ids2,ids1,ids0])]
  |ptO id g n i off=>
   have hf:fz 0 hp'=fz 0 hp:=funext fun c=>by cases c<;>rfl
   have hP:fzP 0 hp'=fzP 0 hp:=funext fun c=>by cases c<;>rfl
   simp only[opSlice,opSliceS,opSliceA,h2 id (by simp[ids3,ids2,ids1,ids0]),hf,hP]
  |_=>rfl
 |makeSlice t l c=>simp only[opV,he l (by simp[Op.operands]),he c (by simp[Op.operands])]
 |buildSlice t n ps=>
  have hm:ps.toList.map (fun p=>ev' p.2)=ps.toList.map fun p=>ev p.2:=List.map_congr_left fun p hp=>he p.2 (by simp[Op.operands];exact⟨p.1,by simpa using hp⟩)
  simp only[opV,hm]
 |build t ps=>
  have he':∀p∈ps.toList,ev' p.2=ev p.2:=fun p hp=>he p.2 (by simp[Op.operands];exact⟨p.1,by simpa using hp⟩)
  simp only[opV]
  split
  ·rename_i fs hty
   have e1:(∀p∈ps.toList,p.1<fs.length/\(tl T (fs.getD p.1 (0,0)).2).size≠0/\(ev' p.2).cells.length=(tl T (fs.getD p.1 (0,0)).2).size/\(fs.getD p.1 (0,0)).1+(tl T (fs.getD p.1 (0,0)).2).size<=(tl T t).size/\(∀c∈(ev' p.2).cells,c.one=true))=
     (∀p∈ps.toList,p.1<fs.length/\(tl T (fs.getD p.1 (0,0)).2).size≠0/\(ev p.2).cells.length=(tl T (fs.getD p.1 (0,0)).2).size/\(fs.getD p.1 (0,0)).1+(tl T (fs.getD p.1 (0,0)).2).size<=(tl T t).size/\(∀c∈(ev p.2).cells,c.one=true)):=
    propext ⟨fun h p hp=>by have:=h p hp;rw[he' p hp] at this;exact this,fun h p hp=>by rw[he' p hp];exact h p hp⟩
   have e2:∀(l:List (Nat×Operand)) (z:List AV),(∀p∈l,ev' p.2=ev p.2)->l.foldl (fun cs p=>splice cs (fs.getD p.1 (0,0)).1 (ev' p.2).cells) z=l.foldl (fun cs p=>splice cs (fs.getD p.1 (0,0)).1 (ev p.2).cells) z:=by
    intro l
    induction l with
    |nil=>intro z _;rfl
    |cons p l ih=>
     intro z h
     simp only[List.foldl_cons,h p List.mem_cons_self]
     exact ih _ fun q hq=>h q (List.mem_cons_of_mem _ hq)
   rw[e1,e2 _ _ he']
  ·rename_i n el hty
   have e1:(∀p∈ps.toList,p.1<n/\(tl T el).size≠0/\(ev' p.2).cells.length=(tl T el).size/\p.1*(tl T el).size+(tl T el).size<=(tl T t).size/\(∀c∈(ev' p.2).cells,c.one=true))=
     (∀p∈ps.toList,p.1<n/\(tl T el).size≠0/\(ev p.2).cells.length=(tl T el).size/\p.1*(tl T el).size+(tl T el).size<=(tl T t).size/\(∀c∈(ev p.2).cells,c.one=true)):=
    propext ⟨fun h p hp=>by have:=h p hp;rw[he' p hp] at this;exact this,fun h p hp=>by rw[he' p hp];exact h p hp⟩
   have e2:∀(l:List (Nat×Operand)) (z:List AV),(∀p∈l,ev' p.2=ev p.2)->l.foldl (fun cs p=>splice cs (p.1*(tl T el).size) (ev' p.2).cells) z=l.foldl (fun cs p=>splice cs (p.1*(tl T el).size) (ev p.2).cells) z:=by
    intro l
    induction l with
    |nil=>intro z _;rfl
    |cons p l ih=>
     intro z h
     simp only[List.foldl_cons,h p List.mem_cons_self]
     exact ih _ fun q hq=>h q (List.mem_cons_of_mem _ hq)
   rw[e1,e2 _ _ he']
  ·rfl
 |alloc t=>rfl
 |box t x=>simp only[opV,he x (by simp[Op.operands])]
 |convert a b x=>
  have h1:=he x (by simp[Op.operands])
  have h2:=srcE_agree (hp:=hp) (hp':=hp') (hh x (by simp[Op.operands]))
  simp only[opV,h1]
  generalize ev x=v at h2
  split
  ·rfl
  ·rfl
  ·simp only[h2.1,h2.2]
  ·rfl
 |makeFunc fn first caps=>
  have:caps.toList.map ev'=caps.toList.map ev:=List.map_congr_left fun x hx=>he x (by simp[Op.operands];exact .inr (by simpa using hx))
  have h2:∀x∈first.toList,ev' x=ev x:=fun x hx=>he x (by simp[Op.operands];exact .inl (by simpa using hx))
  simp only[opV,this]
  generalize first.toList=l at h2
  cases fn with
  |func f=>cases l with
   |nil=>rfl
   |cons x xs=>simp only[List.map_congr_left h2]
  |_=>rfl
 |call c=>
  obtain⟨callee,args,argTypes⟩:=c
  cases callee with
  |builtin b=>
   simp only[opV]
   split
   ·rename_i x t ha ht
    have hx:x∈args:=by rw[<-Array.mem_toList_iff,ha];simp
    have h1:=he x (by simpa[Op.operands,Call.operands] using hx)
    have h2:=hh x (by simpa[Op.operands,Call.operands] using hx)
    rw[h1]
    generalize ev x=v at h2
    cases v with
    |slO id g off len=>simp only[opLen,h2 id (by simp[ids3,ids2,ids1,ids0])]
    |_=>rfl
   ·rename_i d x t t' ha ht
    have hd:d∈args:=by rw[<-Array.mem_toList_iff,ha];simp
    have hx:x∈args:=by rw[<-Array.mem_toList_iff,ha];simp
    have h1:=he x (by simpa[Op.operands,Call.operands] using hx)
    have h2:=srcE_agree (hp:=hp) (hp':=hp') (hh x (by simpa[Op.operands,Call.operands] using hx))
    have h3:=he d (by simpa[Op.operands,Call.operands] using hd)
    have h4:=hh d (by simpa[Op.operands,Call.operands] using hd)
    have h5:∀i∈srcR hp (ev x),hp'.get i=hp.get i:=fun i hi=>hh0 i (List.mem_append_right _ (by simp only[ha];exact hi))
    rw[h1,h3]
    have:opAppend T t (100+dst.getD 0) g hp' (ev d) (ev x)=opAppend T t (100+dst.getD 0) g hp (ev d) (ev x):=by
     unfold opAppend
     rw[h2.1,h2.2]
     unfold srcR at h5
     cases hsrc:srcE hp (ev x) with
     |none=>rfl
     |some ys=>
      rw[hsrc] at h5
      have hya:∀y∈ys,mapc (att hp') y=mapc (att hp) y/\((∀c∈y.cells,attP hp' c)↔∀c∈y.cells,attP hp c):=fun y hy=>mapatt_agree fun i hi=>h5 i (List.mem_flatMap.2 ⟨y,hy,hi⟩)
      have e1:ys.map (mapc (att hp'))=ys.map (mapc (att hp)):=List.map_congr_left fun y hy=>(hya y hy).1
      have e2:(∀y∈ys,∀c∈y.cells,attP hp' c)=(∀y∈ys,∀c∈y.cells,attP hp c):=propext ⟨fun h y hy=>(hya y hy).2.1 (h y hy),fun h y hy=>(hya y hy).2.2 (h y hy)⟩
      simp only[e1,e2]
      generalize ev d=u at h4
      cases u with
      |slO id g off len=>simp only[h4 id (by simp[ids3,ids2,ids1,ids0])]
      |sl es full=>cases full<;>rfl
      |_=>rfl
    rw[this]
   ·rename_i d x t t' ha ht
    have hd:d∈args:=by rw[<-Array.mem_toList_iff,ha];simp
    have hx:x∈args:=by rw[<-Array.mem_toList_iff,ha];simp
    have h1:=he x (by simpa[Op.operands,Call.operands] using hx)
    have h2:=srcE_agree (hp:=hp) (hp':=hp') (hh x (by simpa[Op.operands,Call.operands] using hx))
    have h3:=he d (by simpa[Op.operands,Call.operands] using hd)
    have h4:=hh d (by simpa[Op.operands,Call.operands] using hd)
    rw[h1,h3]
    unfold opCopy
    rw[h2.1,h2.2]
    have hf:∀c,fzP 0 hp' c=fzP 0 hp c:=by intro c;cases c<;>rfl
    simp only[hf]
    generalize ev d=u at h4
    generalize srcE hp (ev x)=ox
    generalize (tl T t).ty=ty
    cases u with
    |slO id g off len=>
     have h6:=h4 id (by simp[ids3,ids2,ids1,ids0])
     cases ty<;>first|rfl|(cases ox<;>first|rfl|simp only[h6])
    |_=>cases ty<;>rfl
   ·rename_i d t ha ht
    have hd:d∈args:=by rw[<-Array.mem_toList_iff,ha];simp
    have h3:=he d (by simpa[Op.operands,Call.operands] using hd)
    have h4:=hh d (by simpa[Op.operands,Call.operands] using hd)
    rw[h3]
    unfold opClear
    generalize ev d=u at h4
    generalize (tl T t).ty=ty
    cases u with
    |slO id g off len=>
     have h6:=h4 id (by simp[ids3,ids2,ids1,ids0])
     cases ty<;>first|rfl|simp only[h6]
    |_=>cases ty<;>rfl
   ·rename_i x y t t' ha ht
    have hx:x∈args:=by rw[<-Array.mem_toList_iff,ha];simp
    have hy:y∈args:=by rw[<-Array.mem_toList_iff,ha];simp
    rw[he x (by simpa[Op.operands,Call.operands] using hx),he y (by simpa[Op.operands,Call.operands] using hy)]
   ·rename_i x y t t' ha ht
    have hx:x∈args:=by rw[<-Array.mem_toList_iff,ha];simp
    have hy:y∈args:=by rw[<-Array.mem_toList_iff,ha];simp
    rw[he x (by simpa[Op.operands,Call.operands] using hx),he y (by simpa[Op.operands,Call.operands] using hy)]
   ·rfl
  |_=>rfl
 |makeMap t r=>cases r<;>rfl
 |lookup t m k ok=>
  have h1:=he m (by simp[Op.operands])
  have h2:=hh m (by simp[Op.operands])
  have h3:=he k (by simp[Op.operands])
  cases ok with
  |true=>
   simp only[opV,h1,h3]
   exact opLookup2_congr h2
  |false=>
   simp only[opV,h1,h3]
   exact opLookup_congr h2
 |mapUpdate t m k x=>
  have h1:=he m (by simp[Op.operands])
  have h2:=hh m (by simp[Op.operands])
  have h3:=he k (by simp[Op.operands])
  have h4:=he x (by simp[Op.operands])
  simp only[opV,h1,h3,h4]
  rw[opMapUpd_congr h2,opMapUpdS_congr h2]
 |insert t m k x=>
  have h1:=he m (by simp[Op.operands])
  have h2:=hh m (by simp[Op.operands])
  have h3:=he k (by simp[Op.operands])
  have h4:=he x (by simp[Op.operands])
  simp only[opV,h1,h3,h4]
  exact opMapUpdS_congr h2
 |_=>rfl
theorem fz_agree {hp hp':Hp}:∀(n:Nat) {v:AV},(∀i∈fzR n hp v,hp'.get i=hp.get i)->fz n hp' v=fz n hp v/\(fzP n hp' v↔fzP n hp v)/\fzR n hp' v=fzR n hp v
 |0,v,_=>by cases v<;>exact⟨rfl,Iff.rfl,rfl⟩
 |n+1,v,h=>by
  cases v with
  |slO id g off len=>
   have h1:=h id (by simp[fzR])
   simp only[fz,fzP,fzR,h1]
   cases hg:hp.get id with
   |none=>exact⟨rfl,Iff.rfl,rfl⟩
   |some q=>
    obtain⟨g',ob⟩:=q
    cases ob with
    |box cs=>exact⟨rfl,Iff.rfl,rfl⟩
    |mp _=>exact⟨rfl,Iff.rfl,rfl⟩
    |ms _=>exact⟨rfl,Iff.rfl,rfl⟩
    |bd _ _ _=>exact⟨rfl,Iff.rfl,rfl⟩
    |own t k es=>
     simp only[fzR,hg] at h
     have h2:∀e∈es,∀c∈e.cells,fz n hp' c=fz n hp c/\(fzP n hp' c↔fzP n hp c)/\fzR n hp' c=fzR n hp c:=fun e he c hc=>fz_agree n fun i hi=>h i (List.mem_cons_of_mem _ (List.mem_flatMap.2 ⟨e,he,List.mem_flatMap.2 ⟨c,hc,hi⟩⟩))
     refine⟨?_,⟨fun⟨a,b,c⟩=>⟨a,b,fun e he y hy=>(h2 e he y hy).2.1.1 (c e he y hy)⟩,fun⟨a,b,c⟩=>⟨a,b,fun e he y hy=>(h2 e he y hy).2.1.2 (c e he y hy)⟩⟩,?_⟩
     ·simp only
      congr 1
      refine List.map_congr_left fun e he=>?_
      have he':=List.mem_of_mem_drop he
      cases e with
      |agg cs=>
       have h3:∀c∈cs,fz n hp' c=fz n hp c:=fun c hc=>(h2 _ he' c hc).1
       simp only[mapc];rw[List.map_congr_left h3]
      |_=>exact(h2 _ he' _ List.mem_cons_self).1
     ·simp only
      congr 1
      have:∀(l:List AV),(∀e∈l,e∈es)->l.flatMap (fun e=>e.cells.flatMap (fzR n hp'))=l.flatMap fun e=>e.cells.flatMap (fzR n hp):=by
       intro l
       induction l with
       |nil=>intro _;rfl
       |cons e l ih=>
        intro hl
        simp only[List.flatMap_cons]
        rw[ih fun x hx=>hl x (List.mem_cons_of_mem _ hx)]
        congr 1
        have h3:=h2 e (hl e List.mem_cons_self)
        generalize e.cells=cs at h3
        clear hl ih
        induction cs with
        |nil=>rfl
        |cons c cs ih=>simp only[List.flatMap_cons,(h3 c List.mem_cons_self).2.2,ih fun x hx=>h3 x (List.mem_cons_of_mem _ hx)]
      exact this es fun _ h=>h
  |ptO id g m i off=>
   have h1:=h id (by simp[fzR])
   simp only[fz,fzP,fzR,h1]
   have fm:∀{cs:List AV},(∀c∈cs,fz n hp' c=fz n hp c/\(fzP n hp' c↔fzP n hp c)/\fzR n hp' c=fzR n hp c)->cs.flatMap (fzR n hp')=cs.flatMap (fzR n hp):=by
    intro cs h3
    induction cs with
    |nil=>rfl
    |cons c cs ih=>simp only[List.flatMap_cons,(h3 c List.mem_cons_self).2.2,ih fun x hx=>h3 x (List.mem_cons_of_mem _ hx)]
   cases hg:hp.get id with
   |none=>exact⟨rfl,Iff.rfl,rfl⟩
   |some q=>
    obtain⟨g',ob⟩:=q
    cases ob with
    |mp _=>exact⟨rfl,Iff.rfl,rfl⟩
    |ms _=>exact⟨rfl,Iff.rfl,rfl⟩
    |bd _ _ _=>exact⟨rfl,Iff.rfl,rfl⟩
    |box cs=>
     simp only[fzR,hg] at h
     have h2:∀c∈cs,fz n hp' c=fz n hp c/\(fzP n hp' c↔fzP n hp c)/\fzR n hp' c=fzR n hp c:=fun c hc=>fz_agree n fun i hi=>h i (List.mem_cons_of_mem _ (List.mem_flatMap.2 ⟨c,hc,hi⟩))
     refine⟨?_,⟨fun⟨a,b,c,d⟩=>⟨a,b,c,fun y hy=>(h2 y hy).2.1.1 (d y hy)⟩,fun⟨a,b,c,d⟩=>⟨a,b,c,fun y hy=>(h2 y hy).2.1.2 (d y hy)⟩⟩,?_⟩
     ·simp only
      rw[List.map_congr_left fun c hc=>(h2 c (List.mem_of_mem_drop hc)).1]
     ·simp only;rw[fm h2]
    |own t k es=>
     simp only[fzR,hg] at h
     have h2:∀c∈(es.getD i .bad).cells,fz n hp' c=fz n hp c/\(fzP n hp' c↔fzP n hp c)/\fzR n hp' c=fzR n hp c:=fun c hc=>fz_agree n fun j hj=>h j (List.mem_cons_of_mem _ (List.mem_flatMap.2 ⟨c,hc,hj⟩))
     refine⟨?_,⟨fun⟨a,b,c,d⟩=>⟨a,b,c,fun y hy=>(h2 y hy).2.1.1 (d y hy)⟩,fun⟨a,b,c,d⟩=>⟨a,b,c,fun y hy=>(h2 y hy).2.1.2 (d y hy)⟩⟩,?_⟩
     ·simp only
      rw[List.map_congr_left fun c hc=>(h2 c (List.mem_of_mem_drop hc)).1]
     ·simp only;rw[fm h2]
  |fn f cs=>
   simp only[fzR] at h
   have h2:∀c∈cs,fz n hp' c=fz n hp c/\(fzP n hp' c↔fzP n hp c)/\fzR n hp' c=fzR n hp c:=fun c hc=>fz_agree n fun i hi=>h i (List.mem_flatMap.2 ⟨c,hc,hi⟩)
   refine⟨?_,⟨fun d y hy=>(h2 y hy).2.1.1 (d y hy),fun d y hy=>(h2 y hy).2.1.2 (d y hy)⟩,?_⟩
   ·simp only[fz];rw[List.map_congr_left fun c hc=>(h2 c hc).1]
   ·simp only[fzR]
    induction cs with
    |nil=>rfl
    |cons c cs ih=>
     simp only[List.flatMap_cons,(h2 c List.mem_cons_self).2.2]
     rw[ih (fun i hi=>h i (by simp only[List.flatMap_cons,List.mem_append];exact .inr hi)) fun x hx=>h2 x (List.mem_cons_of_mem _ hx)]
  |_=>exact⟨rfl,Iff.rfl,rfl⟩
section
variable {hp hp':Hp} {τ:Nm} {D:List Nat}
structure Seen (hp hp':Hp) (τ:Nm) (D:List Nat):Prop where
 t:∀q∈τ,hp'.get q.2.2.1=hp.get q.2.2.1
 d:∀i∈D,hp'.get i=hp.get i
theorem Seen.A (h:Seen hp hp' τ D) {v:AV} (hR:∀d∈rnAR true τ hp v,d∈D):rnA true τ hp' v=rnA true τ hp v/\(rnAP true τ hp' v↔rnAP true τ hp v)/\rnAR true τ hp' v=rnAR true τ hp v:=by
 have key:∀{v:AV},(∀d∈fzR 4 hp v,d∈D)->fz 4 hp' v=fz 4 hp v/\(fzP 4 hp' v↔fzP 4 hp v)/\fzR 4 hp' v=fzR 4 hp v:=fun h1=>fz_agree 4 fun i hi=>h.d i (h1 i hi)
 cases v with
 |slO a g off len=>
  simp only[rnA,rnAP,rnAR] at hR ⊢
  cases hl:lk τ a with
  |none=>simp only[hl] at hR;exact key hR
  |some q=>exact⟨rfl,Iff.rfl,rfl⟩
 |ptO a g n j off=>
  simp only[rnA,rnAP,rnAR] at hR ⊢
  cases hl:lk τ a with
  |none=>simp only[hl] at hR;exact key hR
  |some q=>exact⟨rfl,Iff.rfl,rfl⟩
 |_=>exact key hR
theorem fm_congr {α β:Type} {f g:α->List β}:∀{l:List α},(∀x∈l,f x=g x)->l.flatMap f=l.flatMap g
 |[],_=>rfl
 |x::l,h=>by
  simp only[List.flatMap_cons,h x List.mem_cons_self,fm_congr (l:=l) fun y hy=>h y (List.mem_cons_of_mem _ hy)]
theorem Seen.B (h:Seen hp hp' τ D) {v:AV} (hR:∀d∈rnBR true τ hp v,d∈D):rnB true τ hp' v=rnB true τ hp v/\(rnBP true τ hp' v↔rnBP true τ hp v)/\rnBR true τ hp' v=rnBR true τ hp v:=by
 cases v with
 |fn f cs=>
  have h2:∀c∈cs,_:=fun c hc=>h.A (v:=c) fun d hd=>hR d (List.mem_flatMap.2 ⟨c,hc,hd⟩)
  refine⟨?_,⟨fun d y hy=>(h2 y hy).2.1.1 (d y hy),fun d y hy=>(h2 y hy).2.1.2 (d y hy)⟩,fm_congr fun c hc=>(h2 c hc).2.2⟩
  simp only[rnB];rw[List.map_congr_left fun c hc=>(h2 c hc).1]
 |_=>(simp only[rnB,rnBP,rnBR] at hR ⊢;exact h.A hR)
theorem Seen.K (h:Seen hp hp' τ D) {v:AV} (hR:∀d∈rnKR true τ hp v,d∈D):rnK true τ hp' v=rnK true τ hp v/\(rnKP true τ hp' v↔rnKP true τ hp v)/\rnKR true τ hp' v=rnKR true τ hp v:=by
 cases v with
 |kid=>exact⟨rfl,Iff.rfl,rfl⟩
 |_=>(simp only[rnK,rnKP,rnKR] at hR ⊢;exact h.B hR)
theorem Seen.v (h:Seen hp hp' τ D) {v:AV} (hR:∀d∈rnvR true τ hp v,d∈D):rnv true τ hp' v=rnv true τ hp v/\(rnvP true τ hp' v↔rnvP true τ hp v)/\rnvR true τ hp' v=rnvR true τ hp v:=by
 have h2:∀c∈v.cells,_:=fun c hc=>h.B (v:=c) fun d hd=>hR d (List.mem_flatMap.2 ⟨c,hc,hd⟩)
 refine⟨?_,⟨fun d y hy=>(h2 y hy).2.1.1 (d y hy),fun d y hy=>(h2 y hy).2.1.2 (d y hy)⟩,fm_congr fun c hc=>(h2 c hc).2.2⟩
 cases v with
 |agg cs=>
  have h3:∀c∈cs,rnB true τ hp' c=rnB true τ hp c:=fun c hc=>(h2 c hc).1
  simp only[rnv,mapc];rw[List.map_congr_left h3]
 |_=>exact(h2 _ List.mem_cons_self).1
theorem Seen.tt (h:Seen hp hp' τ D) {v:AV} (hR:∀d∈rntR true τ hp v,d∈D):rnt true τ hp' v=rnt true τ hp v/\(rntP true τ hp' v↔rntP true τ hp v)/\rntR true τ hp' v=rntR true τ hp v:=by
 cases v with
 |tup vs=>
  have h2:∀c∈vs,_:=fun c hc=>h.v (v:=c) fun d hd=>hR d (List.mem_flatMap.2 ⟨c,hc,hd⟩)
  refine⟨?_,⟨fun d y hy=>(h2 y hy).2.1.1 (d y hy),fun d y hy=>(h2 y hy).2.1.2 (d y hy)⟩,fm_congr fun c hc=>(h2 c hc).2.2⟩
  simp only[rnt];rw[List.map_congr_left fun c hc=>(h2 c hc).1]
 |_=>(simp only[rnt,rntP,rntR] at hR ⊢;exact h.v hR)
theorem Seen.O (h:Seen hp hp' τ D) {ob:Ob} (hR:∀d∈rnOR true τ hp ob,d∈D):rnO true τ hp' ob=rnO true τ hp ob/\(rnOP true τ hp' ob↔rnOP true τ hp ob)/\rnOR true τ hp' ob=rnOR true τ hp ob:=by
 cases ob with
 |own t k es=>
  have h2:∀e∈es,∀c∈e.cells,_:=fun e he c hc=>h.K (v:=c) fun d hd=>hR d (List.mem_flatMap.2 ⟨e,he,List.mem_flatMap.2 ⟨c,hc,hd⟩⟩)
  refine⟨?_,⟨fun d e he y hy=>(h2 e he y hy).2.1.1 (d e he y hy),fun d e he y hy=>(h2 e he y hy).2.1.2 (d e he y hy)⟩,fm_congr fun e he=>fm_congr fun c hc=>(h2 e he c hc).2.2⟩
  simp only[rnO]
  congr 1
  refine List.map_congr_left fun e he=>?_
  cases e with
  |agg cs=>
   have h3:∀c∈cs,rnK true τ hp' c=rnK true τ hp c:=fun c hc=>(h2 _ he c hc).1
   simp only[mapc];rw[List.map_congr_left h3]
  |_=>exact(h2 _ he _ List.mem_cons_self).1
 |box cs=>
  have h2:∀c∈cs,_:=fun c hc=>h.B (v:=c) fun d hd=>hR d (List.mem_flatMap.2 ⟨c,hc,hd⟩)
  refine⟨?_,⟨fun d y hy=>(h2 y hy).2.1.1 (d y hy),fun d y hy=>(h2 y hy).2.1.2 (d y hy)⟩,fm_congr fun c hc=>(h2 c hc).2.2⟩
  simp only[rnO];rw[List.map_congr_left fun c hc=>(h2 c hc).1]
 |mp es=>exact⟨rfl,Iff.rfl,rfl⟩
 |ms es=>exact⟨rfl,Iff.rfl,rfl⟩
 |bd t e bs=>exact⟨rfl,Iff.rfl,rfl⟩
theorem CallOk.congr {P:Program} {T:Tab} {f:FuncId} {g:Nat} {vs:List AV} {σ:Nm} {keep:Bool} {hp1:Hp} {rc:AV} (h:CallOk P T f g hp vs τ σ D keep hp1 rc) (hh:∀i∈τ.map (·.2.2.1)++D,hp'.get i=hp.get i):
  CallOk P T f g hp' vs τ σ D keep hp1 rc:=by
 have s:Seen hp hp' τ D:=⟨fun q hq=>hh _ (List.mem_append_left _ (List.mem_map.2 ⟨q,hq,rfl⟩)),fun i hi=>hh i (List.mem_append_right _ hi)⟩
 have e1:∀(l:Nm),(∀q∈l,q∈τ)->rnHP true τ hp l->(∀d∈rnHR true τ hp l,d∈D)->rnHP true τ hp' l/\(∀d∈rnHR true τ hp' l,d∈D)/\
   l.map (fun q=>(q.1,(hp'.get q.2.2.1).map fun x=>(q.2.1,rnO true τ hp' x.2)))=l.map (fun q=>(q.1,(hp.get q.2.2.1).map fun x=>(q.2.1,rnO true τ hp x.2))):=by
  intro l
  induction l with
  |nil=>intro _ _ _;exact⟨trivial,fun d hd=>(by simp[rnHR] at hd),rfl⟩
  |cons q l ih=>
   obtain⟨i,gi,a,ga⟩:=q
   intro hl h1 h2
   obtain⟨h3,h4⟩:=h1
   obtain⟨k1,k2,k3⟩:=ih (fun q hq=>hl q (List.mem_cons_of_mem _ hq)) h4 fun d hd=>h2 d (List.mem_append_right _ hd)
   have hg:=s.t _ (hl _ List.mem_cons_self)
   simp only at hg
   simp only[rnHP,rnHR,List.map_cons,hg,k3]
   cases hga:hp.get a with
   |none=>simp only[hga] at h3
   |some x=>
    obtain⟨g',ob⟩:=x
    simp only[hga] at h3 ⊢
    simp only[rnHR,hga] at h2
    obtain⟨o1,o2,o3⟩:=s.O (ob:=ob) fun d hd=>h2 d (List.mem_append_left _ hd)
    refine⟨⟨⟨h3.1,o2.2 h3.2⟩,k1⟩,fun d hd=>?_,?_⟩
    ·rw[o3] at hd
     rcases List.mem_append.1 hd with hd|hd
     ·exact h2 d (List.mem_append_left _ hd)
     ·exact k2 d hd
    ·simp only[Option.map_some,o1]
 obtain⟨k1,k2,k3⟩:=e1 τ (fun _ h=>h) h.hpP h.hpR
 have e2:∀v∈vs,_:=fun v hv=>s.tt (v:=v) (h.vsR v hv)
 refine⟨h.nmτ,h.gτ,k1,k2,fun v hv=>(e2 v hv).2.1.2 (h.vsP v hv),fun v hv d hd=>h.vsR v hv d (by rw[<-(e2 v hv).2.2];exact hd),h.dis,?_,h.nmσ,h.gσ,h.bP,h.bR,h.rP,h.rR,h.trh,h.trr⟩
 have e3:rnH true τ hp'=rnH true τ hp:=k3
 rw[e3,List.map_congr_left fun v hv=>(e2 v hv).1]
 exact h.sat
end
open Go Go.Great
theorem Rel.congr {C:Cx} {G G':Nat->Prop} {tm tm':List (Nat×AV)} {hp hp':Hp} {a:Act} {w:World} (h:Rel C G tm hp a w) (hg:∀g,G g↔G' g)
  (ht:∀t,tget tm' t=tget tm t) (hh:∀i,hp'.get i=hp.get i):Rel C G' tm' hp' a w:=by
 have:G=G':=funext fun g=>propext (hg g)
 subst this
 obtain⟨h1,h2,h3,e,h4,h5,h6⟩:=h
 exact⟨h1,h2,h3,e,h4.congr (fun _=>Iff.rfl) hh,h5,fun t=>by rw[ht t];exact h6 t⟩
def opSem (P:Program) (T:Tab) (o:Oper) (ev:Operand->AV) (hp:Hp) (g:Nat) (v:AV) (ups:List Up) (acc:List Nat):Prop:=
 match o.op with
 | .call {callee:= .value f,args,argTypes:=_}=>match fnArgs (ev f) (args.toList.map ev) with
  |some (fid,vs)=>∃τ σ D keep hp1 rc,CallOk P T fid g hp vs τ σ D keep hp1 rc/\v=backV σ hp1 rc/\ups=backU τ σ D keep hp1/\acc=τ.map (·.2.2.1)++D
  |none=>False
 |_=>(opV T o ev hp g).1/\v=(opV T o ev hp g).2.1/\ups=(opV T o ev hp g).2.2/\acc=accV o ev hp
def opKD (P:Program) (T:Tab) (o:Oper) (s:St) (K:AV->List Up->List Nat->Prop):Prop:=
 match o.op with
 | .call {callee:= .value f,args,argTypes:=_}=>match fnArgs (s.ev f) (args.toList.map s.ev) with
  |some (fid,vs)=>CallK P T fid s.ck s.hp vs K
  |none=>False
 |_=>(opV T o s.ev s.hp s.ck).1/\K (opV T o s.ev s.hp s.ck).2.1 (opV T o s.ev s.hp s.ck).2.2 (accV o s.ev s.hp)
theorem opKD_ok {P:Program} {T:Tab} {o:Oper} {s:St} {K:AV->List Up->List Nat->Prop} (h:opKD P T o s K):
  ∃v ups acc,opSem P T o s.ev s.hp s.ck v ups acc/\K v ups acc:=by
 unfold opKD at h
 split at h
 ·rename_i f args at_ hop
  split at h
  ·rename_i fid vs hf
   obtain⟨τ,σ,D,keep,hp1,rc,h1,h2⟩:=h
   refine⟨_,_,_,?_,h2⟩
   unfold opSem
   simp only[hop,hf]
   exact⟨τ,σ,D,keep,hp1,rc,h1,rfl,rfl,rfl⟩
  ·exact h.elim
 ·rename_i hop
  refine⟨_,_,_,?_,h.2⟩
  unfold opSem
  split
  ·rename_i f args at_ hop'
   exact absurd hop' (hop _ _ _)
  ·exact⟨h.1,rfl,rfl,rfl⟩
theorem opSem_congr {P:Program} {T:Tab} {o:Oper} {ev ev':Operand->AV} {hp hp':Hp} {g:Nat} {v:AV} {ups:List Up} {acc:List Nat} (h:opSem P T o ev hp g v ups acc)
  (he:∀x∈o.op.operands,ev' x=ev x) (hh:∀i∈acc,hp'.get i=hp.get i):opSem P T o ev' hp' g v ups acc:=by
 unfold opSem at h ⊢
 split at h
 ·rename_i f args at_ hop
  simp only[hop,Op.operands,Call.operands] at he
  have e1:ev' f=ev f:=he f (by simp)
  have e2:args.toList.map ev'=args.toList.map ev:=List.map_congr_left fun x hx=>he x (by simp only[Array.mem_append,Array.mem_toList_iff] at*;simp[Array.mem_toList_iff] at hx ⊢;exact .inr hx)
  split at h
  ·rename_i fid vs hf
   simp only[e1,hf,e2]
   obtain⟨τ,σ,D,keep,hp1,rc,h1,h2,h3,h4⟩:=h
   subst h4
   exact⟨τ,σ,D,keep,hp1,rc,h1.congr hh,h2,h3,rfl⟩
  ·exact h.elim
 ·obtain⟨h1,h2,h3,h4⟩:=h
  have:=opV_congr (T:=T) o (hp:=hp) (hp':=hp') g he fun i hi=>hh i (by rw[h4];exact hi)
  rw[this]
  refine⟨h1,h2,h3,?_⟩
  rw[h4]
  unfold accV
  congr 1
  ·exact fm_congr fun x hx=>by rw[he x (accOps_sub hx)]
  ·obtain⟨dst,op,type,pos,after,guard⟩:=o
   cases op with
   |call c=>
    obtain⟨callee,args,argTypes⟩:=c
    cases callee with
    |builtin b=>
     cases b with
     |append=>
      simp only
      split
      ·rename_i d x ha
       have hx:x∈args:=by rw[<-Array.mem_toList_iff,ha];simp
       have e1:=he x (by simpa[Op.operands,Call.operands] using hx)
       have e2:=srcE_agree (hp:=hp) (hp':=hp') (v:=ev x) fun i hi=>hh i (by
        rw[h4];exact List.mem_append_left _ (List.mem_flatMap.2 ⟨x,by simpa[accOps,Op.operands,Call.operands] using hx,hi⟩))
       rw[e1]
       unfold srcR
       rw[e2.1]
      ·rfl
     |_=>rfl
    |_=>rfl
   |_=>rfl
open Go Go.Great
structure En where
 d:Option Nat
 v:AV
 ups:List Up
 acc:List Nat
def sS (s:St) (e:Nat->En) (S:Nat->Bool):Nat->St
 |0=>s
 |n+1=>if S n then(sS s e S n).put (e n).d (e n).v (e n).ups else⟨(sS s e S n).tm,(sS s e S n).hp,(sS s e S n).ck+1⟩
section
variable {s:St} {e:Nat->En} {S S':Nat->Bool}
theorem sS_yes {n:Nat} (h:S n=true):sS s e S (n+1)=(sS s e S n).put (e n).d (e n).v (e n).ups:=by rw[sS,if_pos h]
theorem sS_no {n:Nat} (h:¬S n=true):sS s e S (n+1)=⟨(sS s e S n).tm,(sS s e S n).hp,(sS s e S n).ck+1⟩:=by rw[sS,if_neg h]
theorem sS_ck:∀n,(sS s e S n).ck=s.ck+n
 |0=>rfl
 |n+1=>by
  unfold sS
  split
  ·simp only[St.put,sS_ck n];omega
  ·simp only[sS_ck n];omega
theorem tget_put (s:St) (d:Option Nat) (v:AV) (ups:List Up) (t:Nat):tget (s.put d v ups).tm t=if d=some t then v else tget s.tm t:=by
 cases d with
 |none=>simp[St.put]
 |some d=>simp only[St.put,tget,Option.some.injEq]
def hget:List Up->Nat->Option (Option (Nat×Ob))
 |[],_=>none
 |(i,x)::h,n=>if i=n then some x else hget h n
theorem get_append (ups:List Up) (hp:Hp) (i:Nat):Hp.get (ups++hp) i=(hget ups i).getD (hp.get i):=by
 induction ups with
 |nil=>rfl
 |cons p ups ih=>
  obtain⟨j,x⟩:=p
  simp only[List.cons_append,Hp.get,hget]
  split
  ·rfl
  ·exact ih
theorem hget_none {ups:List Up} {i:Nat} (h:i∉ups.map (·.1)):hget ups i=none:=by
 induction ups with
 |nil=>rfl
 |cons p ups ih=>
  obtain⟨j,x⟩:=p
  simp only[List.map_cons,List.mem_cons,not_or] at h
  simp only[hget,if_neg (Ne.symm h.1),ih h.2]
theorem get_put (s:St) (d:Option Nat) (v:AV) (ups:List Up) (i:Nat):(s.put d v ups).hp.get i=(hget ups i).getD (s.hp.get i):=get_append ups s.hp i
theorem sS_tm {t:Nat}:∀n,(∀j,j<n->(e j).d=some t->S j=S' j)->tget (sS s e S n).tm t=tget (sS s e S' n).tm t
 |0,_=>rfl
 |n+1,h=>by
  have ih:=sS_tm n fun j hj=>h j (by omega)
  have hn:=h n (by omega)
  unfold sS
  by_cases hd:(e n).d=some t
  ·rw[hn hd]
   split
   ·rw[tget_put,tget_put,if_pos hd,if_pos hd]
   ·exact ih
  ·split<;>split<;>simp only[tget_put,if_neg hd]<;>exact ih
theorem sS_hp {i:Nat}:∀n,(∀j,j<n->i∈(e j).ups.map (·.1)->S j=S' j)->(sS s e S n).hp.get i=(sS s e S' n).hp.get i
 |0,_=>rfl
 |n+1,h=>by
  have ih:=sS_hp n fun j hj=>h j (by omega)
  have hn:=h n (by omega)
  unfold sS
  by_cases hd:i∈(e n).ups.map (·.1)
  ·rw[hn hd]
   split
   ·rw[get_put,get_put,ih]
   ·exact ih
  ·split<;>split<;>simp only[get_put,hget_none hd,Option.getD_none]<;>exact ih
theorem sS_lt {k:Nat}:∀n,k<=n->(sS s e (fun j=>decide (j<k)) n).tm=(sS s e (fun _=>true) k).tm/\(sS s e (fun j=>decide (j<k)) n).hp=(sS s e (fun _=>true) k).hp:=by
 intro n hk
 have base:∀m,m<=k->sS s e (fun j=>decide (j<k)) m=sS s e (fun _=>true) m:=by
  intro m
  induction m with
  |zero=>intro _;rfl
  |succ m ih=>
   intro hm
   unfold sS
   rw[ih (by omega)]
   simp[show m<k by omega]
 induction n with
 |zero=>
  have:k=0:=by omega
  subst this;exact⟨rfl,rfl⟩
 |succ n ih=>
  by_cases h:k=n+1
  ·subst h;rw[base _ (Nat.le_refl _)];exact⟨rfl,rfl⟩
  ·have hn:¬n<k:=by omega
   have:=ih (by omega)
   rw[sS_no (by simpa using hn)]
   exact this
theorem sS_ins {i:Nat} (hi:S i=false):∀n,i<n->
  ((∀t,(∀k,i<k->k<n->S k=true->(e i).d=some t->(e k).d≠some t)->
   tget (sS s e (fun j=>S j||decide (j=i)) n).tm t=if(e i).d=some t then(e i).v else tget (sS s e S n).tm t)/\
   (∀id,(∀k,i<k->k<n->S k=true->id∈(e i).ups.map (·.1)->id∉(e k).ups.map (·.1))->
   (sS s e (fun j=>S j||decide (j=i)) n).hp.get id=(hget (e i).ups id).getD ((sS s e S n).hp.get id)))
 |0,h=>by omega
 |n+1,h=>by
  by_cases hni:n=i
  ·subst hni
   have e1:∀t,tget (sS s e (fun j=>S j||decide (j=n)) n).tm t=tget (sS s e S n).tm t:=fun t=>sS_tm n fun j hj _=>by simp[show j≠n by omega]
   have e2:∀t,(sS s e (fun j=>S j||decide (j=n)) n).hp.get t=(sS s e S n).hp.get t:=fun t=>sS_hp n fun j hj _=>by simp[show j≠n by omega]
   unfold sS
   simp only[hi,decide_true,Bool.or_true,if_true,Bool.false_eq_true,if_false]
   exact⟨fun t _=>by rw[tget_put,e1],fun id _=>by rw[get_put,e2]⟩
  ·obtain⟨ih1,ih2⟩:=sS_ins (i:=i) hi n (by omega)
   unfold sS
   simp only[hni,decide_false,Bool.or_false]
   cases hS:S n with
   |false=>
    simp only[Bool.false_eq_true,if_false]
    exact⟨fun t ht=>ih1 t fun k h1 h2=>ht k h1 (by omega),fun id ht=>ih2 id fun k h1 h2=>ht k h1 (by omega)⟩
   |true=>
    simp only[if_true]
    refine⟨fun t ht=>?_,fun id ht=>?_⟩
    ·rw[tget_put,tget_put,ih1 t fun k h1 h2=>ht k h1 (by omega)]
     have:=ht n (by omega) (by omega) hS
     by_cases h1:(e i).d=some t
     ·rw[if_neg (this h1),if_pos h1,if_pos h1]
     ·simp only[if_neg h1]
    ·rw[get_put,get_put,ih2 id fun k h1 h2=>ht k h1 (by omega)]
     have:=ht n (by omega) (by omega) hS
     by_cases h1:id∈(e i).ups.map (·.1)
     ·rw[hget_none (this h1)];rfl
     ·rw[hget_none h1];rfl
end
def EnOk (P:Program) (T:Tab) (all:List Oper) (o:Oper) (s:St) (en:En):Prop:=
 en.d=o.dst/\match o.guard with
  |none=>opSem P T o s.ev s.hp s.ck en.v en.ups en.acc
  |some (j,want)=>∃d,dstOf all j=some d/\((∃b,tget s.tm d= .lit (.bool b)/\((b=want/\opSem P T o s.ev s.hp s.ck en.v en.ups en.acc)\/(b≠want/\en.v= .tup []/\en.ups=[])))\/(tget s.tm d= .tup []/\en.v= .tup []/\en.ups=[]))
abbrev Rec:=List Nat×List Nat
def awpD (P:Program) (T:Tab) (all:List Oper):List Oper->St->(St->List Rec->Prop)->Prop
 |[],s,K=>K s []
 |o::rest,s,K=>
  match o.guard with
  |none=>opKD P T o s fun v ups acc=>awpD P T all rest (s.put o.dst v ups) fun s' rs=>K s' ((ups.map (·.1),acc)::rs)
  |some (j,want)=>
   GM ((dstOf all j).map (tget s.tm)) want (opKD P T o s fun v ups acc=>awpD P T all rest (s.put o.dst v ups) fun s' rs=>K s' ((ups.map (·.1),acc)::rs))
     (awpD P T all rest (s.put o.dst (.tup []) []) fun s' rs=>K s' (([],[])::rs))
def recs (e:Nat->En) (n:Nat):List Rec:=(List.range n).map fun k=>((e k).ups.map (·.1),(e k).acc)
theorem sS_cons (s:St) (en:En) (e:Nat->En):∀k,sS s (fun|0=>en|k+1=>e k) (fun _=>true) (k+1)=sS (s.put en.d en.v en.ups) e (fun _=>true) k
 |0=>rfl
 |k+1=>by
  rw[sS_yes (n:=k+1) rfl,sS_cons s en e k]
  exact(sS_yes (n:=k) (S:=fun _=>true) rfl).symm
theorem awpD_ok {P:Program} {T:Tab} {all:List Oper}:∀(rest:List Oper) (s:St) (K:St->List Rec->Prop),awpD P T all rest s K->
  ∃e:Nat->En,(∀k (h:k<rest.length),EnOk P T all rest[k] (sS s e (fun _=>true) k) (e k))/\K (sS s e (fun _=>true) rest.length) (recs e rest.length)
 |[],s,K,h=>⟨fun _=>⟨none, .bad,[],[]⟩,fun k h=>by simp at h,h⟩
 |o::rest,s,K,h=>by
  have key:∃en:En,EnOk P T all o s en/\awpD P T all rest (s.put en.d en.v en.ups) fun s' rs=>K s' ((en.ups.map (·.1),en.acc)::rs):=by
   unfold awpD at h
   cases hg:o.guard with
   |none=>
    simp only[hg] at h
    obtain⟨v,ups,acc,h1,h2⟩:=opKD_ok h
    exact⟨⟨o.dst,v,ups,acc⟩,⟨rfl,by simp only[hg];exact h1⟩,h2⟩
   |some q=>
    obtain⟨j,want⟩:=q
    simp only[hg] at h
    cases hdj:dstOf all j with
    |none=>simp only[hdj,Option.map_none,GM] at h
    |some d=>
     simp only[hdj,Option.map_some,GM] at h
     split at h
     ·rename_i b hb
      simp only[Option.some.injEq] at hb
      by_cases hbw:b=want
      ·obtain⟨v,ups,acc,h1,h2⟩:=opKD_ok (h.1 hbw)
       exact⟨⟨o.dst,v,ups,acc⟩,⟨rfl,by simp only[hg];exact⟨d,hdj, .inl ⟨b,hb, .inl ⟨hbw,h1⟩⟩⟩⟩,h2⟩
      ·exact⟨⟨o.dst, .tup [],[],[]⟩,⟨rfl,by rw[hg];exact⟨d,hdj, .inl ⟨b,hb, .inr ⟨hbw,rfl,rfl⟩⟩⟩⟩,h.2 hbw⟩
     ·rename_i hb
      simp only[Option.some.injEq] at hb
      exact⟨⟨o.dst, .tup [],[],[]⟩,⟨rfl,by rw[hg];exact⟨d,hdj, .inr ⟨hb,rfl,rfl⟩⟩⟩,h⟩
     ·exact h.elim
  obtain⟨en,h1,h2⟩:=key
  obtain⟨e,h3,h4⟩:=awpD_ok rest _ _ h2
  refine⟨(fun|0=>en|k+1=>e k),fun k hk=>?_,?_⟩
  ·cases k with
   |zero=>exact h1
   |succ k=>rw[sS_cons];exact h3 k (by simpa using hk)
  ·simp only[List.length_cons]
   rw[sS_cons]
   have:recs (fun|0=>en|k+1=>e k) (rest.length+1)=(en.ups.map (·.1),en.acc)::recs e rest.length:=by
    simp only[recs,List.range_succ_eq_map,List.map_cons,List.map_map]
    rfl
   rw[this];exact h4
def masks:List Oper->List Nat->List Nat
 |[],acc=>acc
 |o::rest,acc=>masks rest (acc++[(o.after.toList.filter (Region.binds .any)).foldl (fun m e=>m ||| ((1 <<< e.on) ||| acc.getD e.on 0)) 0])
def rds (all:List Oper) (o:Oper):List Nat:=
 (o.op.operands.toList.filterMap fun| .tmp t=>some t|_=>none)++(match o.guard with|some (j,_)=>(dstOf all j).toList|none=>[])
def inO (d:Option Nat) (l:List Nat):Bool:=match d with|some d=>l.contains d|none=>false
def slotOk (l:List Oper):Bool:=
 let ms:=masks l []
 (List.range l.length).all (fun j=>match l[j]? with
  |none=>true
  |some y=>y.after.toList.all (fun e=>!Region.binds .any e||decide (e.on<j))&&
   (List.range j).all (fun i=>(ms.getD j 0).testBit i||match l[i]? with
    |none=>true
    | some x => !inO x.dst (rds l y) && !inO y.dst (rds l x) && (match x.dst with | some d => y.dst != some d | none => true)))
def disj (a b:List Nat):Bool:=a.all fun x=>!b.contains x
def conf (ms:List Nat) (rs:List Rec):Bool:=
 rs.all (fun r=>r.1.isEmpty)||
 (List.range rs.length).all (fun j=>(List.range j).all fun i=>(ms.getD j 0).testBit i||
  (disj (rs.getD i ([],[])).1 ((rs.getD j ([],[])).1++(rs.getD j ([],[])).2)&&disj (rs.getD j ([],[])).1 (rs.getD i ([],[])).2))
open Go Go.Great
def Clo (l:List Oper) (S:Nat->Bool) (i:Nat):Prop:=∀o,l[i]?=some o->∀e∈o.after,Region.binds .any e=true->S e.on=true
def MOk (l:List Oper) (acc:List Nat):Prop:=
 ∀j,j<acc.length->∀i,(acc.getD j 0).testBit i=true->∀S:Nat->Bool,(∀k,S k=true->Clo l S k)->Clo l S j->S i=true
theorem foldl_bit {acc:List Nat} {i:Nat}:∀(es:List Edge) (m:Nat),(es.foldl (fun m e=>m ||| ((1 <<< e.on) ||| acc.getD e.on 0)) m).testBit i=true->
  m.testBit i=true\/∃e∈es,e.on=i\/(acc.getD e.on 0).testBit i=true
 |[],m,h=> .inl h
 |e::es,m,h=>by
  rcases foldl_bit es _ h with h|⟨e',h1,h2⟩
  ·rw[Nat.testBit_or,Nat.testBit_or,Nat.one_shiftLeft,Nat.testBit_two_pow] at h
   simp only[Bool.or_eq_true,decide_eq_true_eq] at h
   rcases h with h|h
   ·exact .inl h
   ·exact .inr ⟨e,List.mem_cons_self,h⟩
  ·exact .inr ⟨e',List.mem_cons_of_mem _ h1,h2⟩
theorem masks_ok {l:List Oper}:∀(rest pre:List Oper) (acc:List Nat),l=pre++rest->acc.length=pre.length->MOk l acc->
  MOk l (masks rest acc)/\(masks rest acc).length=l.length
 |[],pre,acc,h,hl,hm=>⟨hm,by simp[masks,h,hl]⟩
 |o::rest,pre,acc,h,hl,hm=>by
  unfold masks
  refine masks_ok rest (pre++[o]) _ (by simp[h]) (by simp[hl]) ?_
  intro j hj i hi S hS hC
  by_cases hlt:j<acc.length
  ·refine hm j hlt i ?_ S hS hC
   rw[List.getD_eq_getElem?_getD,List.getElem?_append_left hlt,<-List.getD_eq_getElem?_getD] at hi
   exact hi
  ·have hje:j=pre.length:=by simp at hj;omega
   subst hje
   rw[List.getD_eq_getElem?_getD,List.getElem?_append_right (by omega)] at hi
   simp only[hl,Nat.sub_self,List.getElem?_cons_zero,Option.getD_some] at hi
   have ho:l[pre.length]?=some o:=by simp[h]
   rcases foldl_bit _ _ hi with h0|⟨e,h1,h2⟩
   ·simp at h0
   ·rw[List.mem_filter] at h1
    have hb:=hC o ho e (by simpa using h1.1) h1.2
    rcases h2 with rfl|h2
    ·exact hb
    ·by_cases hlt':e.on<acc.length
     ·exact hm e.on hlt' i h2 S hS (hS _ hb)
     ·rw[List.getD_eq_getElem?_getD,List.getElem?_eq_none (by omega)] at h2
      simp at h2
section
variable {C:Cx} {T:Tab}
theorem rel_putG {G:Nat->Prop} {g:Nat} {s:St} {a:Act} {w w':World} (hrel:Rel C G s.tm s.hp a w) {e e':Env} (hv:∀t,VR w (UE e) e G (tget s.tm t) (a.tmps.getD t undef)) {ups:List Up} {v:AV} {xv:Value} {dst:Option Nat} (hdst:dst.getD 0<C.N)
  (h1:HRel w' e' (gadd G g) (ups++s.hp)) (h2:Ext w e G w' e' (gadd G g)) (h3:Lnt C w' e' (gadd G g)) (h4:Frm C w') (h5:VR w' (UE e') e' (gadd G g) v xv):
  Rel C (gadd G g) (s.put dst v ups).tm (s.put dst v ups).hp (a.put dst xv) w':=by
 refine⟨?_,?_,h4,e',h1,h3,fun t=>?_⟩
 ·cases dst<;>exact hrel.defers
 ·cases dst with
  |none=>exact hrel.size
  |some d=>simp only[Act.put,Array.size_setIfInBounds];exact hrel.size
 ·cases dst with
  |none=>exact(hv t).ext h2
  |some d=>
   simp only[St.put,tget,Act.put]
   by_cases h:d=t
   ·subst h
    rw[if_pos rfl]
    have hd:d<a.tmps.size:=by rw[hrel.size];exact hdst
    rw[Array.getD_eq_getD_getElem?,Array.getElem?_setIfInBounds_self_of_lt hd];exact h5
   ·rw[if_neg h]
    have:(a.tmps.setIfInBounds d xv).getD t undef=a.tmps.getD t undef:=by
     rw[Array.getD_eq_getD_getElem?,Array.getD_eq_getD_getElem?,Array.getElem?_setIfInBounds_ne h]
    rw[this];exact(hv t).ext h2
theorem opSem_ok (hC:COk C T) {o:Oper} (hdst:o.dst.getD 0<C.N) {G:Nat->Prop} {g:Nat} (hg:¬G g) {s:St} {a:Act} {w:World} (hrel:Rel C G s.tm s.hp a w)
  {v:AV} {ups:List Up} {acc:List Nat} (h:opSem C.P T o s.ev s.hp g v ups acc) {Q:Exit->Act->World->Prop}
  {next:Act->World->Prop} (hn:∀a' w',Rel C (gadd G g) (s.put o.dst v ups).tm (s.put o.dst v ups).hp a' w'->next a' w'):o.wpIn (fen C.rd) 0 C.P a w next Q:=by
 obtain⟨e,hr,hln,hv⟩:=hrel.body
 have p:Pre C e G g s.hp w:=⟨hr,hln,hrel.frm,hg⟩
 have hev:∀x,VR w (UE e) e G (s.ev x) (a.eval x):=ev_ok (s:=s) hv
 have main:∀(P:Prop) (res:Result Next),OpOk C e G g s.hp w (P,v,ups) res->
   (∃xv w',res= .ok (.value xv) w'/\next (a.put o.dst xv) w')\/(∃w',res= .ok .skip w'/\next (a.put o.dst undef) w'):=by
  rintro P res ⟨nx,w',e',r1,r2,r3,r4,r5,r6⟩
  rcases r6 with ⟨xv,rfl,r6⟩|⟨rfl,hvb⟩
  ·exact .inl ⟨xv,w',r1,hn _ _ (rel_putG hrel hv hdst r2 r3 r4 r5 r6)⟩
  ·refine .inr ⟨w',r1,hn _ _ (rel_putG hrel hv hdst r2 r3 r4 r5 ?_)⟩
   simp only at hvb
   rw[hvb];exact .dat _ _ (.bad _)
 unfold opSem at h
 split at h
 ·rename_i f args at_ hop
  split at h
  ·rename_i fid vs hf
   obtain⟨τ,σ,D,keep,hp1,rc,hc,rfl,rfl,_⟩:=h
   obtain⟨fst,cap,hfe,hvl,hvv⟩:=fnArgs_ok (xs:=args.map a.eval) hf (hev f) (by simp) fun i hi=>by
    have hi':i<args.size:=by simpa using hi
    have e1:(args.toList.map s.ev)[i]=s.ev args[i]:=by simp
    have e2:(args.map a.eval).getD i undef=a.eval args[i]:=by rw[Array.getD_eq_getD_getElem?];simp[hi']
    rw[e1,e2];exact hev _
   obtain⟨⟨fn,hfn1,hfn2,hfn3⟩,hcalls⟩:=call_ok p hC (vs:=vs) (vals:=fst++args.map a.eval++cap) hvl hvv hc
   have hrun:(execOp a.eval o).run C.P w= .ok (.enter fid (fst++args.map a.eval++cap)) w:=by
    unfold execOp
    simp only[hop,resolve,hfe,Deferred.ofValue,invoke,callFunc,Sem.run_bind,Sem.run_pure,Result.andThen_ok,run_program,hfn1,hfn2,hfn3,Bool.false_eq_true,if_false,Array.empty_append]
   refine⟨fun _ _=>trivial,?_⟩
   rw[Oper.semAt_eq _ _ _ (by intro c hc;rw[hop] at hc;cases hc),hrun]
   refine fen_enter (hcalls.mono ?_)
   rintro en w' ⟨xv,rfl,hok⟩
   rcases main _ _ hok with ⟨xv',w'',hres,hnx⟩|⟨w'',hres,hnx⟩
   ·cases hres;exact hnx
   ·cases hres
  ·exact h.elim
 ·obtain⟨h1,rfl,rfl,_⟩:=h
  have:=opV_ok p hC o hev h1
  refine⟨fun _ _=>trivial,?_⟩
  rw[Oper.semAt_eq _ _ _ (opV_defer h1)]
  rcases main _ _ this with ⟨xv,w',hres,hnx⟩|⟨w',hres,hnx⟩
  ·rw[hres,Oper.uponIn_value];exact hnx
  ·rw[hres,Oper.uponIn_skip];exact hnx
theorem rel_skipG {G:Nat->Prop} (g:Nat) {s:St} {a:Act} {w:World} (hrel:Rel C G s.tm s.hp a w) {dst:Option Nat} (hdst:dst.getD 0<C.N):
  Rel C (gadd G g) (s.put dst (.tup []) []).tm (s.put dst (.tup []) []).hp (a.put dst undef) w:=by
 obtain⟨e,hr,hln,hv⟩:=hrel.body
 have x:=Ext.wide w e G g
 exact rel_putG hrel hv hdst hr.wide x (hln.wide g) hrel.frm (.dat _ _ (.tup [] #[] rfl (fun i hi=>by simp at hi)))
theorem inO_iff {d:Option Nat} {l:List Nat} {t:Nat} (h:inO d l=false) (hd:d=some t):t∉l:=by
 subst hd
 simpa[inO] using h
theorem slotOk_back {l:List Oper} (h:slotOk l=true) {j:Nat} {o:Oper} (ho:l[j]?=some o):∀e∈o.after,Region.binds .any e=true->e.on<j:=by
 intro e he hb
 unfold slotOk at h
 rw[List.all_eq_true] at h
 have hj:j<l.length:=(List.getElem?_eq_some_iff.1 ho).1
 have:=h j (by simpa using hj)
 simp only[ho,Bool.and_eq_true,List.all_eq_true] at this
 have:=this.1 e (by simpa using he)
 simpa[hb] using this
theorem slotOk_pair {l:List Oper} (h:slotOk l=true) {i j:Nat} (hij:i<j) {x y:Oper} (hx:l[i]?=some x) (hy:l[j]?=some y):
  ((masks l []).getD j 0).testBit i=true\/(∀t,x.dst=some t->t∉rds l y/\y.dst≠some t)/\(∀t,y.dst=some t->t∉rds l x):=by
 unfold slotOk at h
 rw[List.all_eq_true] at h
 have hj:j<l.length:=(List.getElem?_eq_some_iff.1 hy).1
 have:=h j (by simpa using hj)
 simp only[hy,Bool.and_eq_true,List.all_eq_true] at this
 have:=this.2 i (by simpa using hij)
 simp only[Bool.or_eq_true,hx,Bool.and_eq_true,Bool.not_eq_true'] at this
 rcases this with h1|⟨⟨h1,h2⟩,h3⟩
 ·exact .inl h1
 ·refine .inr ⟨fun t ht=>⟨inO_iff h1 ht,?_⟩,fun t ht=>inO_iff h2 ht⟩
  rw[ht] at h3
  simpa using h3
theorem disj_spec {a b:List Nat} (h:disj a b=true) {i:Nat} (ha:i∈a):i∉b:=by
 unfold disj at h
 rw[List.all_eq_true] at h
 simpa using h i ha
def GS (s:St) (n:Nat) (S:Nat->Bool):Nat->Prop:=fun g=>g<s.ck\/∃j,j<n/\S j=true/\g=s.ck+j
theorem step_any (hC:COk C T) {l:List Oper} (hd:∀o∈l,o.dst.getD 0<C.N) (hs:slotOk l=true) {s:St} {e:Nat->En}
  (he:∀k (h:k<l.length),EnOk C.P T l l[k] (sS s e (fun _=>true) k) (e k)) (hc:conf (masks l []) (recs e l.length)=true)
  {S:Nat->Bool} (hS:∀k,S k=true->Clo l S k) {i:Nat} (hi:i<l.length) (hSi:S i=false) (hCi:Clo l S i) {a:Act} {w:World}
  (hrel:Rel C (GS s l.length S) (sS s e S l.length).tm (sS s e S l.length).hp a w) {Q:Exit->Act->World->Prop} {K:Act->World->Prop}
  (hK:∀a' w',Rel C (GS s l.length fun j=>S j||decide (j=i)) (sS s e (fun j=>S j||decide (j=i)) l.length).tm (sS s e (fun j=>S j||decide (j=i)) l.length).hp a' w'->K a' w'):
  wpOpIn (fen C.rd) 0 C.P l.toArray Q i K a w:=by
 obtain⟨hm,hml⟩:=masks_ok (l:=l) l [] [] (by simp) rfl (by intro j hj;simp at hj)
 have hio:l[i]?=some l[i]:=List.getElem?_eq_getElem hi
 obtain⟨hed,hen⟩:=he i hi
 have slot:∀t,(t∈rds l l[i]\/l[i].dst=some t)->∀j,j<l.length->(e j).d=some t->S j=decide (j<i):=by
  intro t ht j hj hjt
  have hjd:l[j].dst=some t:=(he j hj).1.symm.trans hjt
  have hjo:l[j]?=some l[j]:=List.getElem?_eq_getElem hj
  by_cases hji:j=i
  ·subst hji;simpa using hSi
  ·by_cases hlt:j<i
   ·simp only[hlt,decide_true]
    rcases slotOk_pair hs hlt hjo hio with h|⟨h1,h2⟩
    ·exact hm i (by omega) j h S hS hCi
    ·obtain⟨h3,h4⟩:=h1 t hjd
     rcases ht with ht|ht
     ·exact absurd ht h3
     ·exact absurd ht h4
   ·have hij:i<j:=by omega
    simp only[hlt,decide_false]
    rcases slotOk_pair hs hij hio hjo with h|⟨h1,h2⟩
    ·cases hSj:S j with
     |false=>rfl
     |true=>have:=hm j (by omega) i h S hS (hS j hSj);rw[hSi] at this;cases this
    ·rcases ht with ht|ht
     ·exact absurd ht (h2 t hjd)
     ·exact absurd hjd (h1 t ht).2
 have heap:∀id,(id∈(e i).acc\/id∈(e i).ups.map (·.1))->∀j,j<l.length->id∈(e j).ups.map (·.1)->S j=decide (j<i):=by
  intro id hid j hj hjt
  by_cases hji:j=i
  ·subst hji;simpa using hSi
  ·unfold conf at hc
   rw[Bool.or_eq_true] at hc
   have hr:∀k,k<l.length->(recs e l.length).getD k ([],[])=((e k).ups.map (·.1),(e k).acc):=by
    intro k hk
    simp[recs,hk]
   rcases hc with hc|hc
   ·rw[List.all_eq_true] at hc
    have:=hc ((e j).ups.map (·.1),(e j).acc) (by simp only[recs,List.mem_map,List.mem_range];exact⟨j,hj,rfl⟩)
    simp only[List.isEmpty_iff] at this
    rw[this] at hjt;cases hjt
   ·rw[List.all_eq_true] at hc
    have hrl:(recs e l.length).length=l.length:=by simp[recs]
    rw[hrl] at hc
    by_cases hlt:j<i
    ·simp only[hlt,decide_true]
     have:=hc i (by simpa using hi)
     rw[List.all_eq_true] at this
     have:=this j (by simpa using hlt)
     rw[hr i hi,hr j hj] at this
     simp only[Bool.or_eq_true,Bool.and_eq_true] at this
     rcases this with h|⟨h1,h2⟩
     ·exact hm i (by omega) j h S hS hCi
     ·have:=disj_spec h1 hjt
      rw[List.mem_append] at this
      exact absurd (hid.symm) this
    ·have hij:i<j:=by omega
     simp only[hlt,decide_false]
     have:=hc j (by simpa using hj)
     rw[List.all_eq_true] at this
     have:=this i (by simpa using hij)
     rw[hr i hi,hr j hj] at this
     simp only[Bool.or_eq_true,Bool.and_eq_true] at this
     rcases this with h|⟨h1,h2⟩
     ·cases hSj:S j with
      |false=>rfl
      |true=>have:=hm j (by omega) i h S hS (hS j hSj);rw[hSi] at this;cases this
     ·rcases hid with hid|hid
      ·exact absurd hid (disj_spec h2 hjt)
      ·exact absurd (List.mem_append_left _ hjt) (disj_spec h1 hid)
 have tmeq:∀t∈rds l l[i],tget (sS s e S l.length).tm t=tget (sS s e (fun _=>true) i).tm t:=by
  intro t ht
  rw[sS_tm (S':=fun j=>decide (j<i)) l.length fun j hj hjt=>slot t (.inl ht) j hj hjt,(sS_lt l.length (Nat.le_of_lt hi)).1]
 have hpeq:∀id,(id∈(e i).acc\/id∈(e i).ups.map (·.1))->(sS s e S l.length).hp.get id=(sS s e (fun _=>true) i).hp.get id:=by
  intro id hid
  rw[sS_hp (S':=fun j=>decide (j<i)) l.length fun j hj hjt=>heap id hid j hj hjt,(sS_lt l.length (Nat.le_of_lt hi)).2]
 have evq:∀x∈l[i].op.operands,(sS s e S l.length).ev x=(sS s e (fun _=>true) i).ev x:=by
  intro x hx
  cases x with
  |tmp t=>exact tmeq t (List.mem_append_left _ (List.mem_filterMap.2 ⟨.tmp t,by simpa using hx,rfl⟩))
  |_=>rfl
 have hgck:¬GS s l.length S (s.ck+i):=by
  rintro(h|⟨j,_,h1,h2⟩)
  ·omega
  ·have:j=i:=by omega
   subst this;rw[hSi] at h1;cases h1
 obtain⟨ins1,ins2⟩:=sS_ins (s:=s) (e:=e) hSi l.length hi
 have fin:∀a' w',Rel C (gadd (GS s l.length S) (s.ck+i)) ((sS s e S l.length).put l[i].dst (e i).v (e i).ups).tm ((sS s e S l.length).put l[i].dst (e i).v (e i).ups).hp a' w'->K a' w':=by
  intro a' w' h
  refine hK a' w' (h.congr ?_ ?_ ?_)
  ·intro g
   constructor
   ·rintro((h|⟨j,h1,h2,h3⟩)|h)
    ·exact .inl h
    ·exact .inr ⟨j,h1,by simp[h2],h3⟩
    ·exact .inr ⟨i,hi,by simp,h⟩
   ·rintro(h|⟨j,h1,h2,h3⟩)
    ·exact .inl (.inl h)
    ·simp only[Bool.or_eq_true,decide_eq_true_eq] at h2
     rcases h2 with h2|rfl
     ·exact .inl (.inr ⟨j,h1,h2,h3⟩)
     ·exact .inr h3
  ·intro t
   rw[tget_put,<-hed]
   refine ins1 t fun k h1 h2 h3 h4 h5=>?_
   have:=slot t (.inr (hed.symm.trans h4)) k h2 h5
   rw[h3] at this
   simp at this;omega
  ·intro id
   rw[get_put]
   refine ins2 id fun k h1 h2 h3 h4 h5=>?_
   have:=heap id (.inr h4) k h2 h5
   rw[h3] at this
   simp at this;omega
 have sem:opSem C.P T l[i] (sS s e (fun _=>true) i).ev (sS s e (fun _=>true) i).hp (sS s e (fun _=>true) i).ck (e i).v (e i).ups (e i).acc->l[i].wpIn (fen C.rd) 0 C.P a w K Q:=by
  intro h
  rw[sS_ck] at h
  have h':=opSem_congr h (ev':=(sS s e S l.length).ev) (hp':=(sS s e S l.length).hp) evq (fun id hid=>hpeq id (.inl hid))
  exact opSem_ok hC (hd _ (List.getElem_mem hi)) hgck hrel h' fin
 unfold wpOpIn
 have hio':l.toArray[i]?=some l[i]:=by simp
 rw[hio']
 simp only
 cases hg:l[i].guard with
 |none=>
  simp only[hg] at hen
  rw[if_pos (wanted_none hg _)]
  exact sem hen
 |some q=>
  obtain⟨j,want⟩:=q
  simp only[hg] at hen
  obtain⟨d,hdj,hen⟩:=hen
  rcases hen with ⟨b,hb,hen⟩|⟨hb,hv,hu⟩
  ·have hy:yielded l.toArray a.tmps j=some b:=by
    obtain⟨e',hr,hln,hv⟩:=hrel.body
    have hvd:=hv d
    rw[tmeq d (List.mem_append_right _ (by simp[hg,hdj])),hb] at hvd
    obtain⟨hvd,_⟩:=hvd.lit_inv
    unfold yielded
    have e1:(l.toArray[j]?).bind (·.dst)=some d:=by simpa[dstOf] using hdj
    rw[e1]
    rw[Array.getD_eq_getD_getElem?] at hvd
    cases hx:a.tmps[d]? with
    |none=>rw[hx] at hvd;cases hvd
    |some v=>rw[hx] at hvd;simp at hvd;subst hvd;simp[hx]
   rcases hen with ⟨hbw,hen⟩|⟨hbw,hv,hu⟩
   ·rw[if_pos (by simp[Region.wanted,hg,hy,hbw])]
    exact sem hen
   ·rw[if_neg (by simp[Region.wanted,hg,hy,hbw])]
    rw[hv,hu] at fin
    exact⟨fun _ _=>trivial,fin _ _ (rel_skipG _ hrel (hd _ (List.getElem_mem hi)))⟩
  ·have hy:yielded l.toArray a.tmps j=none:=by
    obtain⟨e',hr,hln,hv⟩:=hrel.body
    have hvd:=hv d
    rw[tmeq d (List.mem_append_right _ (by simp[hg,hdj])),hb] at hvd
    exact yielded_tup hdj hvd
   rw[if_neg (by simp[Region.wanted,hg,hy])]
   rw[hv,hu] at fin
   exact⟨fun _ _=>trivial,fin _ _ (rel_skipG _ hrel (hd _ (List.getElem_mem hi)))⟩
end
open Go Go.Great
section
variable {C:Cx} {T:Tab}
def todo (n:Nat) (S:Nat->Bool):Nat:=(List.range n).countP fun j=>!S j
theorem todo_ins {n i:Nat} {S S':Nat->Bool} (hi:i<n) (hS:S i=false) (hS':S' i=true) (hh:∀j,j≠i->S' j=S j):todo n S'+1=todo n S:=by
 induction n with
 |zero=>omega
 |succ n ih=>
  unfold todo at*
  rw[List.range_succ,List.countP_append,List.countP_append]
  by_cases h:i=n
  ·subst h
   have:(List.range i).countP (fun j=>!S' j)=(List.range i).countP fun j=>!S j:=by
    refine List.countP_congr fun j hj=>?_
    rw[hh j (by simp at hj;omega)]
   rw[this]
   simp[hS,hS']
  ·have:=ih (by omega)
   simp only[List.countP_cons,List.countP_nil,hh n (Ne.symm h)]
   omega
theorem awpAny_ok (hC:COk C T) {l:List Oper} (hd:∀o∈l,o.dst.getD 0<C.N) (hs:slotOk l=true) {s:St} {e:Nat->En}
  (he:∀k (h:k<l.length),EnOk C.P T l l[k] (sS s e (fun _=>true) k) (e k)) (hc:conf (masks l []) (recs e l.length)=true)
  {Q:Exit->Act->World->Prop} (hQ:∀a w,RelS C (sS s e (fun _=>true) l.length) a w->Q .normal a w):
  ∀(fuel:Nat) (listed:Array Bool) (a:Act) (w:World),listed.size=l.length->(∀k,listed.getD k false=true->Clo l (fun j=>listed.getD j false) k)->
   todo l.length (fun j=>listed.getD j false)<=fuel->
   Rel C (GS s l.length fun j=>listed.getD j false) (sS s e (fun j=>listed.getD j false) l.length).tm (sS s e (fun j=>listed.getD j false) l.length).hp a w->
   wpAnyIn (fen C.rd) 0 C.P .any l.toArray Q fuel listed a w:=by
 have fin:∀(listed:Array Bool) (a:Act) (w:World),listed.size=l.length->Region.ready .any l.toArray listed=[]->
   Rel C (GS s l.length fun j=>listed.getD j false) (sS s e (fun j=>listed.getD j false) l.length).tm (sS s e (fun j=>listed.getD j false) l.length).hp a w->Q .normal a w:=by
  intro listed a w hsz hr hrel
  have all:∀j,j<l.length->listed.getD j false=true:=by
   intro j
   induction j using Nat.strongRecOn with
   |_ j ih=>
    intro hj
    cases hjl:listed.getD j false with
    |true=>rfl
    |false=>
     have:j∈Region.ready .any l.toArray listed:=by
      rw[mem_ready]
      have hjs:j<listed.size:=by omega
      refine⟨?_,l[j],by simp,fun ed hed hb=>?_⟩
      ·simp[hjs] at hjl ⊢;exact hjl
      ·have:=slotOk_back hs (List.getElem?_eq_getElem hj) ed hed hb
       exact ih _ this (by omega)
     rw[hr] at this;cases this
  refine hQ a w (hrel.congr ?_ ?_ ?_)
  ·intro g
   rw[sS_ck]
   simp only[GS,Glt]
   constructor
   ·rintro(h|⟨j,h1,_,h3⟩)<;>omega
   ·intro h
    by_cases h':g<s.ck
    ·exact .inl h'
    ·exact .inr ⟨g - s.ck,by omega,all _ (by omega),by omega⟩
  ·intro t;exact sS_tm _ fun j hj _=>(all j hj).symm
  ·intro id;exact sS_hp _ fun j hj _=>(all j hj).symm
 intro fuel
 induction fuel with
 |zero=>
  intro listed a w hsz hcl ht hrel
  have hr:Region.ready .any l.toArray listed=[]:=by
   apply List.eq_nil_iff_forall_not_mem.2
   intro j hj
   obtain⟨h1,o,h2,_⟩:=mem_ready.1 hj
   have hjl:j<l.length:=by simpa using(Array.getElem?_eq_some_iff.1 h2).1
   have h0:todo l.length (fun j=>listed.getD j false)=0:=by omega
   unfold todo at h0
   rw[List.countP_eq_zero] at h0
   have:=h0 j (by simpa using hjl)
   have hjs:j<listed.size:=by omega
   simp[hjs] at this h1
   rw[this] at h1;cases h1
  exact⟨hr,fin listed a w hsz hr hrel⟩
 |succ fuel ih=>
  intro listed a w hsz hcl ht hrel
  refine⟨fun hr=>fin listed a w hsz hr hrel,fun i hi=>?_⟩
  obtain⟨h1,o,h2,h3⟩:=mem_ready.1 hi
  have hil:i<l.length:=by simpa using(Array.getElem?_eq_some_iff.1 h2).1
  have his:i<listed.size:=by omega
  have hSi:listed.getD i false=false:=by simp[his] at h1 ⊢;exact h1
  have hCi:Clo l (fun j=>listed.getD j false) i:=by
   intro o' ho' ed hed hb
   have:o'=o:=by
    rw[List.getElem?_toArray,ho'] at h2;exact(Option.some.inj h2)
   subst this
   exact h3 ed hed hb
  have hset:(fun j=>(listed.setIfInBounds i true).getD j false)=fun j=>listed.getD j false||decide (j=i):=by
   funext j
   by_cases hji:j=i
   ·subst hji;simp[his]
   ·rw[getD_set_ne false (Ne.symm hji)];simp[hji]
  refine step_any hC hd hs he hc hcl hil hSi hCi hrel fun a' w' hrel'=>?_
  refine ih _ a' w' (by simpa using hsz) ?_ ?_ ?_
  ·rw[hset]
   intro k hk o' ho' ed hed hb
   by_cases hki:k=i
   ·subst hki
    simp only[hCi o' ho' ed hed hb,Bool.true_or]
   ·have hk':listed.getD k false=true:=by rw[getD_set_ne false (Ne.symm hki)] at hk;exact hk
    simp only[hcl k hk' o' ho' ed hed hb,Bool.true_or]
  ·have:=todo_ins (n:=l.length) (S:=fun j=>listed.getD j false) (S':=fun j=>(listed.setIfInBounds i true).getD j false) hil hSi (by simp[his]) (fun j hj=>getD_set_ne false (Ne.symm hj))
   omega
  ·rw[hset];exact hrel'
theorem awp_region_draw {id:Nat} {l:List Oper} {Q:Exit->St->Prop} {s:St} (hC:COk C T) (hm:C.P.follows .mixedOrders=true)
  (hs:slotOk l=true) (hd:(l.all fun o=>decide (o.dst.getD 0<C.N))=true)
  (h:∀K:St->Prop,(∀s',Q .normal s'->K s')->awpD C.P T l l s (fun s' rs=>conf (masks l []) rs=true/\K s')):awp C (.region id l.toArray true) Q s:=by
 intro a w hr
 refine wpIn_region_any hm ?_
 rw[List.all_eq_true] at hd
 obtain⟨e,he,hc,hK⟩:=awpD_ok _ _ _ (h (fun s'=>Q .normal s') fun _ h=>h)
 refine awpAny_ok hC (fun o ho=>by simpa using hd o ho) hs he hc (fun a' w' hr'=> .inl ⟨_,hr',hK⟩) _ _ a _ (by simp) ?_ ?_ ?_
 ·intro k hk
  by_cases hkl:k<l.length<;>simp[hkl] at hk
 ·unfold todo
  exact Nat.le_trans (List.countP_le_length) (by simp)
 ·have h0:(fun j=>(Array.replicate l.toArray.size false).getD j false)=fun _=>false:=by
   funext j
   by_cases hj:j<l.length<;>simp[hj]
  rw[h0]
  have:∀n,(sS s e (fun _=>false) n).tm=s.tm/\(sS s e (fun _=>false) n).hp=s.hp:=by
   intro n
   induction n with
   |zero=>exact⟨rfl,rfl⟩
   |succ n ih=>rw[sS_no (by simp)];exact ih
  rw[(this _).1,(this _).2]
  have hr1:Rel C (Glt s.ck) s.tm s.hp a {w with drawn:=w.drawn+1}:=by
   have hr:Rel C (Glt s.ck) s.tm s.hp a w:=hr
   obtain⟨h1,h2,h3,e',h4,h5,h6⟩:=hr
   have x:Ext w e' (Glt s.ck) {w with drawn:=w.drawn+1} e' (Glt s.ck):=⟨Nat.le_refl _,fun _ h=>h,fun _ _ h=>h,fun _ _ _=>rfl,fun _ ee' h _=>⟨ee',h,rfl,rfl, .inl ⟨rfl,rfl⟩⟩⟩
   refine⟨h1,h2,⟨h3.os,h3.tape,h3.output,h3.size,h3.same⟩,e',?_,⟨h5.zeq,h5.zlt,h5.ext.trans x,h5.mine⟩,fun t=>(h6 t).ext x⟩
   exact⟨h4.dead,fun id g ob hi=>by
    obtain⟨ee,k1,k2,k3,k4⟩:=h4.live id g ob hi
    exact⟨ee,k1,k2,k3,k4.ext x fun _ _ _=>⟨rfl,fun _ _ h=>⟨rfl,h⟩⟩⟩,h4.inj,h4.lt,h4.nz,h4.kl,h4.ko,h4.kk⟩
  refine hr1.congr ?_ (fun _=>rfl) (fun _=>rfl)
  intro g
  simp[GS,Glt]
end
open Go Go.Great
abbrev I (x:Int):AV:= .lit (.int .i64 x)
abbrev B (x:Bool):AV:= .lit (.bool x)
abbrev S (x:ByteArray):AV:= .lit (.string x)
def ints (l:List Int):List AV:=l.map I
abbrev IS (l:List Int):AV:= .sl (ints l) false
def rows (l:List (List Int)):List AV:=l.map IS
abbrev RS (l:List (List Int)):AV:= .sl (rows l) false
def krows (t:Nat) (l:List (List Int)):List AV:=l.map fun r=> .kid t 1 (ints r)
def PC:AV->Prop
 | .lit _| .gl _=>True
 | .sl _ full=>full=false
 |_=>False
def PE (es:List AV):Prop:=∀e∈es,∀c∈e.cells,PC c
theorem PC.fz {c:AV} (h:PC c) (n:Nat) (hp:Hp):fz n hp c=c/\fzP n hp c/\fzR n hp c=[]:=by
 cases c with
 |lit v=>cases n<;>exact⟨rfl,trivial,rfl⟩
 |gl g=>cases n<;>exact⟨rfl,trivial,rfl⟩
 |sl es full=>cases h;cases n<;>exact⟨rfl,trivial,rfl⟩
 |_=>exact h.elim
theorem PC.att {c:AV} (h:PC c) (hp:Hp):att hp c=c/\attP hp c/\attR c=[]:=by cases c<;>first|exact⟨rfl,trivial,rfl⟩|exact h.elim
theorem PC.rnK {c:AV} (h:PC c) (m:Bool) (τ:Nm) (hp:Hp):rnK m τ hp c=c/\rnKP m τ hp c/\rnKR m τ hp c=[]:=by
 cases c with
 |lit v=>cases m<;>exact⟨rfl,trivial,rfl⟩
 |gl g=>cases m<;>exact⟨rfl,trivial,rfl⟩
 |sl es full=>cases h;cases m<;>exact⟨rfl,trivial,rfl⟩
 |_=>exact h.elim
theorem mapc_id {f:AV->AV} {e:AV} (h:∀c∈e.cells,f c=c):mapc f e=e:=by
 cases e with
 |agg cs=>
  have h2:∀c∈cs,f c=c:=h
  simp only[mapc];rw[List.map_congr_left h2,List.map_id']
 |_=>exact h _ List.mem_cons_self
theorem map_id_of {α:Type} {f:α->α} {l:List α} (h:∀x∈l,f x=x):l.map f=l:=by rw[List.map_congr_left h,List.map_id']
theorem fm_nil {α β:Type} {f:α->List β} {l:List α} (h:∀x∈l,f x=[]):l.flatMap f=[]:=by
 rw[List.flatMap_eq_nil_iff];exact h
section
variable {es:List AV} (h:PE es)
include h
theorem PE.fz (n:Nat) (hp:Hp):es.map (mapc (fz n hp))=es:=map_id_of fun e he=>mapc_id fun c hc=>((h e he c hc).fz n hp).1
theorem PE.fzP (n:Nat) (hp:Hp):∀e∈es,∀c∈e.cells,fzP n hp c:=fun e he c hc=>((h e he c hc).fz n hp).2.1
theorem PE.fzR (n:Nat) (hp:Hp):(es.flatMap fun e=>e.cells.flatMap (fzR n hp))=[]:=fm_nil fun e he=>fm_nil fun c hc=>((h e he c hc).fz n hp).2.2
theorem PE.att (hp:Hp):es.map (mapc (att hp))=es:=map_id_of fun e he=>mapc_id fun c hc=>((h e he c hc).att hp).1
theorem PE.attP (hp:Hp):∀e∈es,∀c∈e.cells,attP hp c:=fun e he c hc=>((h e he c hc).att hp).2.1
theorem PE.esR:esR es=[]:=fm_nil fun e he=>fm_nil fun c hc=>((h e he c hc).att []).2.2
theorem PE.rnK (m:Bool) (τ:Nm) (hp:Hp):es.map (mapc (rnK m τ hp))=es:=map_id_of fun e he=>mapc_id fun c hc=>((h e he c hc).rnK m τ hp).1
theorem PE.rnKP (m:Bool) (τ:Nm) (hp:Hp):∀e∈es,∀c∈e.cells,rnKP m τ hp c:=fun e he c hc=>((h e he c hc).rnK m τ hp).2.1
theorem PE.rnKR (m:Bool) (τ:Nm) (hp:Hp):(es.flatMap fun e=>e.cells.flatMap (rnKR m τ hp))=[]:=fm_nil fun e he=>fm_nil fun c hc=>((h e he c hc).rnK m τ hp).2.2
theorem PE.fzk (hp:Hp):es.map (mapc (fzk hp))=es:=map_id_of fun e he=>mapc_id fun c hc=>by
 have:=h e he c hc
 cases c<;>first|exact(this.fz 3 hp).1|exact this.elim
theorem PE.drop (n:Nat):PE (es.drop n):=fun e he=>h e (List.mem_of_mem_drop he)
theorem PE.take (n:Nat):PE (es.take n):=fun e he=>h e (List.mem_of_mem_take he)
theorem PE.append {fs:List AV} (h':PE fs):PE (es++fs):=fun e he=>by
 rcases List.mem_append.1 he with he|he
 ·exact h e he
 ·exact h' e he
theorem PE.tr (L:List Nat):∀e∈es,trv false L e:=fun e he c hc=>by
 have:=h e he c hc
 cases c<;>first|trivial|exact this.elim|exact .inl rfl
end
theorem PE_nil:PE []:=fun e he=>by cases he
theorem PE_cons {e:AV} {es:List AV}:PE (e::es)↔(∀c∈e.cells,PC c)/\PE es:=by simp[PE]
theorem PE_append {es fs:List AV}:PE (es++fs)↔PE es/\PE fs:=by
 constructor
 ·intro h;exact⟨fun e he=>h e (List.mem_append_left _ he),fun e he=>h e (List.mem_append_right _ he)⟩
 ·intro h;exact h.1.append h.2
theorem PE_ints (l:List Int):PE (ints l):=by
 intro e he c hc
 simp only[ints,List.mem_map] at he
 obtain⟨x,_,rfl⟩:=he
 simp only[AV.cells,List.mem_singleton] at hc
 subst hc;trivial
theorem PE_rows (l:List (List Int)):PE (rows l):=by
 intro e he c hc
 simp only[rows,List.mem_map] at he
 obtain⟨x,_,rfl⟩:=he
 simp only[AV.cells,List.mem_singleton] at hc
 subst hc;rfl
theorem ints_length (l:List Int):(ints l).length=l.length:=by simp[ints]
theorem rows_length (l:List (List Int)):(rows l).length=l.length:=by simp[rows]
theorem ints_getD {l:List Int} {n:Nat} (h:n<l.length):(ints l).getD n .bad=I (l.getD n 0):=by
 simp[ints,h]
theorem ints_cells {l:List Int}:∀y∈ints l,y.cells.length=1:=by
 intro y hy
 simp only[ints,List.mem_map] at hy
 obtain⟨x,_,rfl⟩:=hy
 rfl
theorem rows_cells {l:List (List Int)}:∀y∈rows l,y.cells.length=1:=by
 intro y hy
 simp only[rows,List.mem_map] at hy
 obtain⟨x,_,rfl⟩:=hy
 rfl
section
variable {C:Cx} {T:Tab}
@[congr] theorem awpOps_congr {P:Program} {T:Tab} {all rest:List Oper} {s s':St} {K:St->Prop} (h:s=s'):awpOps P T all rest s K=awpOps P T all rest s' K:=by rw[h]
@[congr] theorem awpD_congr {P:Program} {T:Tab} {all rest:List Oper} {s s':St} {K:St->List Rec->Prop} (h:s=s'):awpD P T all rest s K=awpD P T all rest s' K:=by rw[h]
@[congr] theorem opK_congr {P:Program} {T:Tab} {o:Oper} {s s':St} {K:St->Prop} (h:s=s'):opK P T o s K=opK P T o s' K:=by rw[h]
@[congr] theorem opKD_congr {P:Program} {T:Tab} {o:Oper} {s s':St} {K:AV->List Up->List Nat->Prop} (h:s=s'):opKD P T o s K=opKD P T o s' K:=by rw[h]
@[congr] theorem opV_same {T:Tab} {o:Oper} {ev:Operand->AV} {hp:Hp} {g:Nat}:opV T o ev hp g=opV T o ev hp g:=rfl
@[congr] theorem conf_same {ms:List Nat} {rs:List Rec}:conf ms rs=conf ms rs:=rfl
inductive WOk (s:St) (hp':Hp):List (Nat×AV)->Prop
 |nil:WOk s hp' []
 |cons {t:Nat} {v:AV} {l:List (Nat×AV)}:tget s.tm t=v->WOk s hp' l->WOk s hp' ((t,v)::l)
 |snap {t:Nat} {v:AV} {l:List (Nat×AV)}:fztP s.hp (tget s.tm t)->fzt s.hp (tget s.tm t)=v->(∀i∈fztR s.hp (tget s.tm t),hp'.get i=none)->WOk s hp' l->WOk s hp' ((t,v)::l)
inductive HOk (s:St) (hp':Hp):Hp->Prop
 |nil:HOk s hp' []
 |cons {i g:Nat} {ob:Ob} {l:Hp}:s.hp.get i=some (g,ob)->HOk s hp' l->HOk s hp' ((i,some (g,ob))::l)
 |less {i g:Nat} {ob ob':Ob} {l:Hp}:s.hp.get i=some (g,ob)->ObW s.hp hp' ob ob'->HOk s hp' l->HOk s hp' ((i,some (g,ob'))::l)
 |gone {i:Nat} {l:Hp}:HOk s hp' l->HOk s hp' ((i,none)::l)
 |opt {i:Nat} {o:Option (Nat×Ob)} {l:Hp}:s.hp.get i=o->HOk s hp' l->HOk s hp' ((i,o)::l)
theorem HOk.get {s:St} {hp' l:Hp} (h:HOk s hp' l):∀id,l.get id=none\/∃g ob ob',s.hp.get id=some (g,ob)/\l.get id=some (g,ob')/\ObW s.hp hp' ob ob':=by
 induction h with
 |nil=>exact fun _=> .inl rfl
 |@cons i g ob l h _ ih=>
  intro id
  simp only[Hp.get]
  by_cases hi:i=id
  ·subst hi;rw[if_pos rfl];exact .inr ⟨g,ob,ob,h,rfl, .same ob⟩
  ·rw[if_neg hi];exact ih id
 |@less i g ob ob' l h h2 _ ih=>
  intro id
  simp only[Hp.get]
  by_cases hi:i=id
  ·subst hi;rw[if_pos rfl];exact .inr ⟨g,ob,ob',h,rfl,h2⟩
  ·rw[if_neg hi];exact ih id
 |@gone i l _ ih=>
  intro id
  simp only[Hp.get]
  by_cases hi:i=id
  ·subst hi;rw[if_pos rfl];exact .inl rfl
  ·rw[if_neg hi];exact ih id
 |@opt i o l h _ ih=>
  intro id
  simp only[Hp.get]
  by_cases hi:i=id
  ·subst hi
   rw[if_pos rfl]
   cases o with
   |none=>exact .inl rfl
   |some q=>exact .inr ⟨q.1,q.2,q.2,h,rfl, .same _⟩
  ·rw[if_neg hi];exact ih id
theorem WOk.get {s:St} {hp':Hp} {l:List (Nat×AV)} (h:WOk s hp' l):∀t,tget l t= .bad\/tget l t=tget s.tm t\/
  (fztP s.hp (tget s.tm t)/\tget l t=fzt s.hp (tget s.tm t)/\∀i∈fztR s.hp (tget s.tm t),hp'.get i=none):=by
 induction h with
 |nil=>exact fun _=> .inl rfl
 |@cons i x l h _ ih=>
  intro id
  simp only[tget]
  by_cases hi:i=id
  ·subst hi;rw[if_pos rfl];exact .inr (.inl h.symm)
  ·rw[if_neg hi];exact ih id
 |@snap i x l h1 h2 h3 _ ih=>
  intro id
  simp only[tget]
  by_cases hi:i=id
  ·subst hi;rw[if_pos rfl];exact .inr (.inr ⟨h1,h2.symm,h3⟩)
  ·rw[if_neg hi];exact ih id
theorem Weak.of {s s':St} (hc:s.ck<=s'.ck) (hh:HOk s s'.hp s'.hp) (ht:WOk s s'.hp s'.tm):Weak s s':=⟨hc,hh.get,ht.get⟩
theorem awp_loopW {ι:Type} {c:Code} {Q:Exit->St->Prop} {s:St} (inv:ι->St) (ok:ι->Prop) (m:ι->Nat) (i0:ι) (h0:ok i0) (hw:Weak s (inv i0))
  (round:∀i,ok i->awp C c (QThen (fun s'=>∃j,ok j/\m j<m i/\Weak s' (inv j)) Q) (inv i)):awp C (.loop c) Q s:=by
 refine awp_weak hw (awp_loop inv ok m i0 h0 fun i hi=>awp_mono (round i hi) ?_)
 intro e s' h
 cases e with
 |normal=>obtain⟨j,h1,h2,h3⟩:=h;exact⟨j,h1,h2,fun a w hr=>h3.rel hr⟩
 |_=>exact h
theorem condP {c:Operand} {x y:Code} {Q:Exit->St->Prop} {s:St} (p:Prop) [Decidable p] (hc:s.ev c= .lit (.bool (decide p))) (ht:p->awp C x Q s) (hf:¬p->awp C y Q s):
  awp C (.cond c x y) Q s:=
 awp_cond (decide p) hc (fun h=>ht (by simpa using h)) fun h=>hf (by simpa using h)
end
end Go.Sym
