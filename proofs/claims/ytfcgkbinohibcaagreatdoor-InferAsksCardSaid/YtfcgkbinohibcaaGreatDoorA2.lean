/- Lemmas towards inferAsks_card: no conditions of their own. -/
import Derived.Test.YtfcgkbinohibcaaGreatDoorA1
import Derived.MapKept
import Derived.Lib.ConvBytes
import Derived.TacticsIn
import Derived.RangeFuncLeaves
import Derived.RangeFuncRecord
import Derived.OrdersIn
set_option linter.all false
namespace Go.Sym
open Go
section
variable {C:Cx} {e:An} {G:Nat->Prop} {g:Nat} {hp:Hp} {w:World} {T:AE}
theorem VR.mpO_inv {U:Nat->Prop} {id g:Nat} {x:Value} (h:VR w U e G (.mpO id g) x):G g/\x.oneCell'=true/\
  ∀ee,e id=some ee->ee.g=g->ee.n=0->∀b c,ee.blk=some (b,c)->x= .map (some b):=by
 cases h with
 |dat _ _ h=>cases h
 |mpO _ _ _ h1 h2 h3=>exact⟨h1,h2,h3⟩
def ig (p:Int×Int):Value×Value:=(.int .i64 p.1, .int .i64 p.2)
theorem WA {n:Int}:∀(es:List MapEntry) (l:List (Int×Int)) (i:Nat),es.map (fun m=>(m.key,m.val))=l.map ig->
  Instr.findNow (.int .i64) (.int .i64 n) es i=some ((Hc n l i).map fun q=>(q.1, .int .i64 q.2))
 |[],[],_,_=>rfl|[],_::_,_,h=>vz3|_::_,[],_,h=>vz3|m::es,p::l,i,h=>by
  simp only[List.map_cons,List.cons.injEq] at h;obtain⟨h1,h2⟩:=h;have hk:m.key= .int .i64 p.1:=congrArg Prod.fst h1;have hv:m.val= .int .i64 p.2:=congrArg Prod.snd h1;have ih:=WA (n:=n) es l (i+1) h2;simp only[Instr.findNow,hk,Instr.sameNow,if_true,Hc];by_cases hn:n=p.1
  .subst hn;simp[hv]
  rw[iN hn];have:(n==p.1)=false:=xx5;rw[this];exact ih
theorem iA {n:Int}:∀{l:List (Int×Int)} {i j:Nat} {v:Int},Hc n l i=some (j,v)->i<=j/\j<i+l.length/\l[j - i]?=some (n,v)
 |[],_,_,_,h=>vx0|p::l,i,j,v,h=>by
  rw[Hc] at h;split at h
  .next hn=>
   cases h
   subst hn;refine⟨lR _,sM,sM⟩
  obtain⟨h1,h2,h3⟩:=iA h;refine⟨oM,vv2,?_⟩;have:j - i=(j - (i+1))+1:=oM;rw[this,List.getElem?_cons_succ];exact h3
theorem y7 (p:Bt C e G g hp w) (hT:B4 C.P T) {t:Nat} {m k:AV} {xm xk:Value} (hm:VR w (UE e) e G m xm) (hk:VR w (UE e) e G k xk) (h:(ML T t hp m k).1):
  Bb C e G g hp w (ML T t hp m k) (((Instr.lookup t xm xk false).run C.P w).andThen fun v w=> .ok (.value v) w):=by
 unfold ML at h ⊢;split at h
 .rename_i kt et id g' n Bf;obtain⟨rfl,_⟩:=hk.lit_inv;cases hg:hp.get id with
  |none=>simp only[hg] at h;exact h.elim|some q=>
   obtain⟨g'',ob⟩:=q;cases ob with
   |box _=>simp only[hg] at h;exact h.elim|own _ _ _=>simp only[hg] at h;exact h.elim|ms _=>simp only[hg] at h;exact h.elim|bd _ _ _=>simp only[hg] at h;exact h.elim|mp es=>
    simp only[hg,R.val] at h ⊢;obtain⟨rfl,Eg,Be,hz⟩:=h;obtain⟨_,_,A2⟩:=hm.mpO_inv;obtain⟨ee,he,Bo,_,A8⟩:=p.hr.live id _ _ hg;obtain⟨C2,b,c,vs,cl,hb,hh,EL⟩:=A8;obtain rfl:=A2 ee he Bo C2 b c hb;obtain⟨d,hu,hd⟩:=(hT.fit Bf sM).under;rw[Bf] at hd;cases hd;obtain⟨d2,G5,EU⟩:=(hT.fit Eg sM).under;rw[Eg] at EU;cases EU;have UO:=Vb (hT.fits Be) w;rw[hz] at UO;have hf:=MapKept.run_findKey (P:=C.P) (w:=w) G5 (WA (n:=n) vs.toList es 0 EL);have hc:=MapKept.run_checkKey (P:=C.P) (w:=w) G5 (k:= .int .i64 n) vk0 vs.isEmpty 9999;have:(Instr.lookup t (.map (some b)) (.int .i64 n) false).run C.P w= .ok (.int .i64 (HM es n)) w:=by
     unfold HM;cases Lt:Hc n es 0 with
     |none=>rw[Lt] at hf;simp only[Option.map_none] at hf;simp[Instr.lookup,run_underlying hu,MapKept.run_getObj_map hh,hc,hf,UO,Result.andThen]|some q=>rw[Lt] at hf;simp only[Option.map_some] at hf;simp[Instr.lookup,run_underlying hu,MapKept.run_getObj_map hh,hc,hf,Result.andThen]
    rw[this,Result.andThen_ok];exact GB p _ _ _
 exact h.elim
theorem kS (p:Bt C e G g hp w) {id:Nat} {ee:EE} {b c:Nat} (he:e id=some ee) (hb:ee.blk=some (b,c)) {w':World} (Be:w'.heap.size=w.heap.size)
  (JU:∀b',b'≠b->w'.heap[b']?=w.heap[b']?) (h1:w'.os=w.os) (h2:w'.tape=w.tape) (h3:w'.output=w.output) {ob:Ob}
  (ho:Gh w' e (gadd G g) ob ee) {P:Prop} (hd:w.drawn<=w'.drawn:=by exact lR _):Bb C e G g hp w (P, .bad,[(id,some (ee.g,ob))]) (.ok .skip w'):=by
 have Dl:BN e b:=⟨id,ee,c,he,hb⟩;have ext:AB w e G w' e (gadd G g):=by refine AB.mk' oM (fun _ h=> .inl h) rfl (fun _ _ h=>h) (fun b' _ hu=>JU b' ?_) fun _ Au h _=>⟨Au,h,rfl,rfl, .inl ⟨rfl,rfl⟩⟩;rintro rfl;exact hu (.inl Dl)
 have key:AU w' e (gadd G g) ((id,some (ee.g,ob))::hp):=by
  refine p.hr.step (fun j=>j=id) ext rfl (fun j hj=>⟨rfl,Hp.get_cons_other _ _ hj⟩) (fun j ej b1 c1 hj Ca BG=>⟨JU b1 ?_,fun b2 c2 Ch=>⟨JU b2 ?_,Ch⟩⟩)
   (fun j hj hn=>by subst hj;rw[Hp.get_cons_same] at hn;cases hn) (fun j gj obj hj hg=>by subst hj;rw[Hp.get_cons_same] at hg;cases hg;exact⟨ee,he,rfl, .inl (p.hr.gen _ _ he),ho⟩)
   (fun j ej b1 c1 hj Ca BG=>?_) (fun b1 B c1 Bi=>by rw[Be];exact p.hr.kl b1 B c1 Bi) p.hr.ko p.hr.kk
  .rintro rfl;exact hj (p.hr.inj j id ej ee b1 c1 c Ca he BG hb)
  .rintro rfl;have:=p.hr.ko b2 Dl;rw[Ch] at this;cases this
  subst hj;rw[he] at Ca;cases Ca;rw[hb] at BG;cases BG;exact⟨by rw[Be];exact p.hr.lt _ _ _ _ he hb,p.hr.nz _ _ _ _ he hb,fun j' Mb c' Ah Gr=>p.hr.inj _ _ _ _ _ _ _ Ah he Gr hb⟩
 refine⟨.skip,w',e,rfl,key,ext,p.ln.step p.fr.size ext rfl (fun _ _ h=>h),p.fr.step p.ln h1 h2 h3 oM (fun b' _ hu=>JU b' ?_) hd, .inr ⟨rfl,rfl⟩⟩;rintro rfl;exact hu (.inl Dl)
theorem zo (p:Bt C e G g hp w) (hT:B4 C.P T) {t:Nat} {m k v:AV} {xm xk xv:Value} (hm:VR w (UE e) e G m xm) (hk:VR w (UE e) e G k xk) (hv:VR w (UE e) e G v xv) (h:(LM T t hp m k v).1):
  Bb C e G g hp w (LM T t hp m k v) (((Instr.mapUpdate t xm xk xv).run C.P w).andThen fun _ w=> .ok .skip w):=by
 unfold LM at h ⊢;split at h
 .rename_i kt et id g' n x Bf;obtain⟨rfl,_⟩:=hk.lit_inv;obtain⟨rfl,_⟩:=hv.lit_inv;cases hg:hp.get id with
  |none=>simp only[hg] at h;exact h.elim|some q=>
   obtain⟨g'',ob⟩:=q;cases ob with
   |box _=>simp only[hg] at h;exact h.elim|own _ _ _=>simp only[hg] at h;exact h.elim|ms _=>simp only[hg] at h;exact h.elim|bd _ _ _=>simp only[hg] at h;exact h.elim|mp es=>
    simp only[hg] at h ⊢;obtain⟨rfl,Eg⟩:=h;obtain⟨_,_,A2⟩:=hm.mpO_inv;obtain⟨ee,he,Bo,_,A8⟩:=p.hr.live id _ _ hg;obtain⟨C2,b,c,vs,cl,hb,hh,EL⟩:=A8;obtain rfl:=A2 ee he Bo C2 b c hb;obtain⟨d,hu,hd⟩:=(hT.fit Bf sM).under;rw[Bf] at hd;cases hd;obtain⟨d2,G5,EU⟩:=(hT.fit Eg sM).under;rw[Eg] at EU;cases EU;have hf:=MapKept.run_findKey (P:=C.P) (w:=w) G5 (WA (n:=n) vs.toList es 0 EL);have hc:=MapKept.run_checkKey (P:=C.P) (w:=w) G5 (k:= .int .i64 n) vk0 false 9999;have hlen:vs.toList.length=es.length:=by have:=congrArg List.length EL;simpa using this
    have DH:∀o,(setObj b o).run C.P w= .ok () {w with heap:=w.heap.setIfInBounds b o}:=fun o=>MapKept.run_setObj_map o hh;have fin:∀(LU:Array MapEntry) (Re:Nat),LU.toList.map (fun m=>(m.key,m.val))=(KT es n x).map ig->
      Bb C e G g hp w (True, .bad,[(id,some (ee.g, .mp (KT es n x)))]) (.ok .skip {w with heap:=w.heap.setIfInBounds b (.map LU Re)}):=by
     intro LU Re h';obtain⟨s1,s2⟩:=MapKept.heap_set (o':= .map LU Re) hh;exact kS (ob:= .mp (KT es n x)) p he hb (w':={w with heap:=w.heap.setIfInBounds b (.map LU Re)}) sM s2 rfl rfl rfl ⟨C2,b,c,LU,Re,hb,s1,h'⟩
    subst Bo;unfold KT at fin ⊢;cases Lt:Hc n es 0 with
    |none=>
     rw[Lt] at hf;simp only[Lt] at fin ⊢;have:(Instr.mapUpdate t (.map (some b)) (.int .i64 n) (.int .i64 x)).run C.P w= .ok () {w with heap:=w.heap.setIfInBounds b (.map (vs.push {key:= .int .i64 n,val:= .int .i64 x,born:=cl}) (cl+1))}:=by simp only[Option.map_none] at hf;simp[Instr.mapUpdate,run_underlying hu,MapKept.run_getObj_map hh,hc,hf,DH,Result.andThen]
     rw[this,Result.andThen_ok];have:=fin (vs.push {key:= .int .i64 n,val:= .int .i64 x,born:=cl}) (cl+1) (by simp only[Array.toList_push,List.map_append,EL];rfl);obtain⟨nx,w1,e1,r⟩:=this;exact⟨nx,w1,e1,r⟩
    |some q=>
     obtain⟨j,y⟩:=q;rw[Lt] at hf;simp only[Lt] at fin ⊢;obtain⟨_,hj,fy⟩:=iA Lt;simp only[Nat.zero_add,Nat.sub_zero] at hj fy;have Co:j<vs.size:=by rw[<-Array.length_toList];omega
     have hold:((vs[j]?).map (·.key)).getD (.int .i64 n)= .int .i64 n:=by
      have e1:=congrArg (fun l=>l[j]?) EL;simp only[List.getElem?_map,fy,Option.map_some] at e1;rw[Array.getElem?_toList] at e1;cases hx:vs[j]? with
      |none=>rfl|some m=>rw[hx] at e1;simp only[Option.map_some,Option.some.injEq,Prod.mk.injEq] at e1;exact e1.1
     have R9:=MapKept.run_keyThatStays (P:=C.P) (w:=w) (d:= .int .i64) (k:= .int .i64 n) vk0;have:(Instr.mapUpdate t (.map (some b)) (.int .i64 n) (.int .i64 x)).run C.P w= .ok () {w with heap:=w.heap.setIfInBounds b (.map (vs.modify j fun e=>{e with key:= .int .i64 n,val:= .int .i64 x}) cl)}:=by simp only[Option.map_some] at hf;simp[Instr.mapUpdate,run_underlying hu,MapKept.run_getObj_map hh,hc,hf,hold,R9,DH,Result.andThen]
     rw[this,Result.andThen_ok];have:=fin (vs.modify j fun e=>{e with key:= .int .i64 n,val:= .int .i64 x}) cl (by
      refine List.ext_getElem? fun i=>?_;have e1:=congrArg (fun l=>l[i]?) EL;simp only[List.getElem?_map,Array.getElem?_toList] at e1 ⊢;rw[Array.getElem?_modify,List.getElem?_set];by_cases Da:j=i
      ·subst Da;simp only[if_true,hj];have:vs[j]?=some vs[j]:=by simp[Co]
       rw[this];rfl
      simp only[Da,if_false];exact e1)
     obtain⟨nx,w1,e1,r⟩:=this;exact⟨nx,w1,e1,r⟩
 exact h.elim
theorem zj (p:Bt C e G g hp w) {did t:Nat}:Bb C e G g hp w (True, .mpO did g,[(did,some (g, .mp []))]) (((Instr.makeMap t none).run C.P w).andThen fun v w=> .ok (.value v) w):=by
 have:(Instr.makeMap t none).run C.P w= .ok (.map (some w.heap.size)) (w.alloc (.map #[] 0)):=by rfl
 rw[this,Result.andThen_ok];refine MH p (CX.alloc w _) (ee:=⟨g,some (w.heap.size,0),0,0⟩) rfl vy1 ?_ ?_
 ·exact⟨rfl,w.heap.size,0,#[],0,rfl,Hz w _,rfl⟩
 refine .mpO _ _ _ (.inr rfl) rfl fun ee he _ _ b c hb=>?_;rw[Hq] at he;cases he
 cases hb
 rfl
theorem zS (p:Bt C e G g hp w) (hT:B4 C.P T) (op:BinOp) {t:Nat} {x y:Operand} {va vb:AV} {xa xb:Value} (ha:VR w (UE e) e G va xa) (hy:IL y=true->xb= .slice none 0 0)
  (hb:IL y=false->Bb C e G g hp w (N8 op (tl T t) va vb) (((do eqGuard op t x y xa xb;let v<-binOp op t xa xb;Pure.pure (Next.value v)):Sem Next).run C.P w))
  (h:(La (IL y) op (tl T t) va vb).1):
  Bb C e G g hp w (La (IL y) op (tl T t) va vb) (((do eqGuard op t x y xa xb;let v<-binOp op t xa xb;Pure.pure (Next.value v)):Sem Next).run C.P w):=by
 cases hn:IL y with
 |false=>rw[hn] at h;exact hb hn|true=>
  rw[hn] at h;obtain rfl:=hy hn;unfold La at h ⊢;simp only at h ⊢;have key:∀{es:List AV} {full:Bool} {el:Nat},(tl T t).ty= .slice el->va= .sl es full->0<es.length->(eqGuard op t x y xa (.slice none 0 0)).run C.P w= .ok () w/\(Op.equalIn Op.maxDepth t xa (.slice none 0 0)).run C.P w= .ok false w:=by
   rintro es full el Bf rfl hl;obtain⟨d,hu,hd⟩:=(hT.fit Bf sM).under;rw[Bf] at hd;cases hd;rcases ha.sl_inv.sl_inv with ⟨rfl,_⟩|⟨b,off,cap,k',f,rfl,_⟩
   .simp at hl
   refine⟨by cases op<;>simp[eqGuard],?_⟩;rw[show Op.maxDepth=9999+1 from rfl,Op.equalIn,Sem.run_bind,run_underlying hu];rfl
  split at h
  .rename_i Bf;obtain⟨k1,k2⟩:=key Bf rfl h;have:(binOp .eql t xa (.slice none 0 0)).run C.P w= .ok (.bool false) w:=by
    rcases ha.sl_inv.sl_inv with ⟨rfl,_⟩|⟨b,off,cap,k',f,rfl,_⟩
    .simp[R.val] at h
    simp[binOp,Op.equal,k2]
   rw[Sem.run_bind,k1,Result.andThen_ok,Sem.run_bind,this];exact EP p _ _
  .rename_i Bf;obtain⟨k1,k2⟩:=key Bf rfl h;have:(binOp .neq t xa (.slice none 0 0)).run C.P w= .ok (.bool true) w:=by
    rcases ha.sl_inv.sl_inv with ⟨rfl,_⟩|⟨b,off,cap,k',f,rfl,_⟩
    .simp[R.val] at h
    simp[binOp,Op.equal,k2]
   rw[Sem.run_bind,k1,Result.andThen_ok,Sem.run_bind,this];exact EP p _ _
  exact h.elim
end
open Go
section
variable {C:Cx} {e:An} {G:Nat->Prop} {g:Nat} {hp:Hp} {w:World} {T:AE}
theorem o6 {a b:ByteArray} (h:a.data.toList=b.data.toList):a=b:=by
 cases a;cases b
 simp only at h;rw[Array.toList_inj] at h;simp[h]
def K1 (k:List UInt8):List (ByteArray×AV)->Nat->Option Nat
 |[],_=>none|p::l,i=>if p.1.data.toList=k then some i else K1 k l (i+1)
theorem Vf {k:List UInt8} {z:AV}:∀{l:List (ByteArray×AV)} {i j:Nat},K1 k l i=some j->i<=j/\(∃p,l[j - i]?=some p/\LN k z l=p.2)/\Jm k l=true
 |[],_,_,h=>vx0|p::l,i,j,h=>by
  rw[K1] at h;split at h
  .next hp=>
   cases h
   refine⟨lR _,⟨p,sM,by rw[LN,iP hp]⟩,by simp[Jm,hp]⟩
  next hp=>
  obtain⟨h1,⟨q,h2,h3⟩,h4⟩:=Vf (z:=z) h;have e1:j - i=(j - (i+1))+1:=oM;refine⟨oM,⟨q,by rw[e1,List.getElem?_cons_succ];exact h2,by rw[LN,iN hp];exact h3⟩,by simp[Jm,h4]⟩
theorem jS {k:List UInt8} {z:AV}:∀{l:List (ByteArray×AV)} {i:Nat},K1 k l i=none->LN k z l=z/\Jm k l=false
 |[],_,_=>⟨rfl,rfl⟩|p::l,i,h=>by
  rw[K1] at h;split at h
  .cases h
  next hp=>
  obtain⟨h1,h2⟩:=jS (z:=z) h;exact⟨by rw[LN,iN hp];exact h1,by simp[Jm,hp,h2]⟩
theorem WB {s:ByteArray}:∀(vs:List MapEntry) (l:List (ByteArray×AV)) (i:Nat),vs.length=l.length->(∀(j:Nat) (m:MapEntry) (p:ByteArray×AV),vs[j]?=some m->l[j]?=some p->m.key= .string p.1)->
  Instr.findNow .string (.string s) vs i=some ((K1 s.data.toList l i).bind fun j=>(vs[j - i]?).map fun m=>(j,m.val))
 |[],[],_,_,_=>rfl|[],_::_,_,h,_=>vz3|_::_,[],_,h,_=>vz3|m::vs,p::l,i,h,hk=>by
  have Ck:m.key= .string p.1:=hk 0 m p rfl rfl;have ih:=WB (s:=s) vs l (i+1) vy0 fun j m' p' h1 h2=>hk (j+1) m' p' vy9 vz7;simp only[Instr.findNow,Ck,Instr.sameNow,K1];by_cases hs:p.1.data.toList=s.data.toList
  .have hb:(s==p.1)=true:=(MapKept.bytes_beq _ _).2 (o6 hs).symm;rw[hb,iP hs];simp
  have hb:(s==p.1)=false:=by
   cases hq:(s==p.1) with
   |false=>rfl|true=>exact absurd (by rw[(MapKept.bytes_beq _ _).1 hq]) hs
  rw[hb,iN hs];simp only[ih];cases hf:K1 s.data.toList l (i+1) with
  |none=>rfl|some j=>obtain⟨h1,_⟩:=Vf (z:= .bad) hf;have e1:j - i=(j - (i+1))+1:=oM;simp only[Option.bind_some,e1,List.getElem?_cons_succ]
theorem y6 (p:Bt C e G g hp w) (hT:B4 C.P T) {t:Nat} {m k:AV} {xm xk:Value} (hm:VR w (UE e) e G m xm) (hk:VR w (UE e) e G k xk) (h:(MM T t hp m k).1):
  Bb C e G g hp w (MM T t hp m k) (((Instr.lookup t xm xk true).run C.P w).andThen fun v w=> .ok (.value v) w):=by
 unfold MM at h ⊢;split at h
 .rename_i kt et id g' s Bf;obtain⟨rfl,_⟩:=hk.lit_inv;cases hg:hp.get id with
  |none=>simp only[hg] at h;exact h.elim|some q=>
   obtain⟨g'',ob⟩:=q;cases ob with
   |box _=>simp only[hg] at h;exact h.elim|own _ _ _=>simp only[hg] at h;exact h.elim|mp _=>simp only[hg] at h;exact h.elim|bd _ _ _=>simp only[hg] at h;exact h.elim|ms es=>
    simp only[hg,R.val] at h ⊢;obtain⟨rfl,Eg,Be,Fl⟩:=h;obtain⟨_,_,A2⟩:=hm.mpO_inv;obtain⟨ee,he,Bo,_,A8⟩:=p.hr.live id _ _ hg;obtain⟨C2,b,c,vs,cl,hb,hh,hlen,EL⟩:=A8;obtain rfl:=A2 ee he Bo C2 b c hb;obtain⟨d,hu,hd⟩:=(hT.fit Bf sM).under;rw[Bf] at hd;cases hd;obtain⟨d2,G5,EU⟩:=(hT.fit Eg sM).under;rw[Eg] at EU;cases EU;have UO:=Vb (hT.fits Be) w;have D2:=(N1 (w:=w) (hT.fits Be) (UE e)).1;have hf:=MapKept.run_findKey (P:=C.P) (w:=w) G5 (WB (s:=s) vs.toList es 0 (by simpa using hlen) fun j m' p' h1 h2=>(EL j m' p' vy9 h2).1);have hc:=MapKept.run_checkKey (P:=C.P) (w:=w) G5 (k:= .string s) vk0 vs.isEmpty 9999;cases Qs:K1 s.data.toList es 0 with
    |none=>
     rw[Qs] at hf;simp only[Option.bind_none] at hf;obtain⟨h1,h2⟩:=jS (z:=(tl T et).zav) Qs;have:(Instr.lookup t (.map (some b)) (.string s) true).run C.P w= .ok (.tuple #[(tl T et).zval, .bool false]) w:=by simp[Instr.lookup,run_underlying hu,MapKept.run_getObj_map hh,hc,hf,UO,Result.andThen]
     rw[this,Result.andThen_ok,h1,h2];refine .pure p (.tup _ _ rfl fun i hi=>?_);rcases(by simp at hi;omega:i=0\/i=1) with rfl|rfl
     ·exact .dat _ _ D2
     exact .dat _ _ (.lit _ rfl)
    |some j=>
     rw[Qs] at hf;obtain⟨_,⟨q,hq,h1⟩,h2⟩:=Vf (z:=(tl T et).zav) Qs;rw[Nat.sub_zero] at hq;have Co:j<vs.size:=by have:=(List.getElem?_eq_some_iff.1 hq).1;omega
     have gy:vs[j]?=some vs[j]:=by simp[Co]
     simp only[Option.bind_some,Nat.sub_zero,Array.getElem?_toList,gy,Option.map_some] at hf;have:(Instr.lookup t (.map (some b)) (.string s) true).run C.P w= .ok (.tuple #[vs[j].val, .bool true]) w:=by simp[Instr.lookup,run_underlying hu,MapKept.run_getObj_map hh,hc,hf,Result.andThen]
     rw[this,Result.andThen_ok,h1,h2];refine .pure p (.tup _ _ rfl fun i hi=>?_);rcases(by simp at hi;omega:i=0\/i=1) with rfl|rfl
     ·exact(EL j _ q gy hq).2.2
     exact .dat _ _ (.lit _ rfl)
 exact h.elim
theorem iu (p:Bt C e G g hp w) (hT:B4 C.P T) {t:Nat} {m k v:AV} {xm xk xv:Value} (hm:VR w (UE e) e G m xm) (hk:VR w (UE e) e G k xk) (hv:VR w (UE e) e G v xv) (h:(KY T t hp m k v).1):
  Bb C e G g hp w (KY T t hp m k v) (((Instr.mapUpdate t xm xk xv).run C.P w).andThen fun _ w=> .ok .skip w):=by
 unfold KY at h ⊢;split at h
 .rename_i kt et id g' s Bf;obtain⟨rfl,_⟩:=hk.lit_inv;cases hg:hp.get id with
  |none=>simp only[hg] at h;exact h.elim|some q=>
   obtain⟨g'',ob⟩:=q;cases ob with
   |box _=>simp only[hg] at h;exact h.elim|own _ _ _=>simp only[hg] at h;exact h.elim|mp _=>simp only[hg] at h;exact h.elim|bd _ _ _=>simp only[hg] at h;exact h.elim|ms es=>
    simp only[hg] at h ⊢;obtain⟨rfl,Eg,CP,h1,h2⟩:=h;obtain⟨_,_,A2⟩:=hm.mpO_inv;obtain⟨ee,he,Bo,_,A8⟩:=p.hr.live id _ _ hg;obtain⟨C2,b,c,vs,cl,hb,hh,hlen,EL⟩:=A8;obtain rfl:=A2 ee he Bo C2 b c hb;obtain⟨d,hu,hd⟩:=(hT.fit Bf sM).under;rw[Bf] at hd;cases hd;obtain⟨d2,G5,EU⟩:=(hT.fit Eg sM).under;rw[Eg] at EU;cases EU;have hf:=MapKept.run_findKey (P:=C.P) (w:=w) G5 (WB (s:=s) vs.toList es 0 (by simpa using hlen) fun j m' p' h1 h2=>(EL j m' p' vy9 h2).1);have hc:=MapKept.run_checkKey (P:=C.P) (w:=w) G5 (k:= .string s) vk0 false 9999;have DH:∀o,(setObj b o).run C.P w= .ok () {w with heap:=w.heap.setIfInBounds b o}:=fun o=>MapKept.run_setObj_map o hh;have Qs:K1 s.data.toList es 0=none:=by
     cases hq:K1 s.data.toList es 0 with
     |none=>rfl|some j=>rw[(Vf (z:= .bad) hq).2.2] at CP;cases CP
    rw[Qs] at hf;simp only[Option.bind_none] at hf;have:(Instr.mapUpdate t (.map (some b)) (.string s) xv).run C.P w= .ok () {w with heap:=w.heap.setIfInBounds b (.map (vs.push {key:= .string s,val:=xv,born:=cl}) (cl+1))}:=by simp[Instr.mapUpdate,run_underlying hu,MapKept.run_getObj_map hh,hc,hf,DH,Result.andThen]
    rw[this,Result.andThen_ok];obtain⟨s1,s2⟩:=MapKept.heap_set (o':= .map (vs.push {key:= .string s,val:=xv,born:=cl}) (cl+1)) hh;subst Bo;have Dl:BN e b:=⟨id,ee,c,he,hb⟩;have ext:AB w e G {w with heap:=w.heap.setIfInBounds b (.map (vs.push {key:= .string s,val:=xv,born:=cl}) (cl+1))} e (gadd G g):=by refine AB.mk' sM (fun _ h=> .inl h) rfl (fun _ _ h=>h) (fun b' _ hu=>s2 b' ?_) fun _ Au h _=>⟨Au,h,rfl,rfl, .inl ⟨rfl,rfl⟩⟩;rintro rfl;exact hu (.inl Dl)
    have:=kS (P:=True) (ob:= .ms (es++[(s,v)])) p he hb (w':={w with heap:=w.heap.setIfInBounds b (.map (vs.push {key:= .string s,val:=xv,born:=cl}) (cl+1))}) sM s2 rfl rfl rfl
     ⟨C2,b,c,_,_,hb,s1,by simp[hlen],fun i m' p' ND hp'=>by
      rw[Array.getElem?_push] at ND;split at ND
      ·next hi=>
       cases ND
       subst hi;rw[hlen,List.getElem?_append_right (lR _),Nat.sub_self] at hp';cases hp'
       exact⟨rfl,h1,hv.ext ext⟩
      have hi:i<es.length:=by have:=(Array.getElem?_eq_some_iff.1 ND).1;omega
      rw[List.getElem?_append_left hi] at hp';obtain⟨q1,q2,q3⟩:=EL i m' p' ND hp';exact⟨q1,q2,q3.ext ext⟩⟩
    obtain⟨nx,w1,e1,r⟩:=this;exact⟨nx,w1,e1,r⟩
 exact h.elim
theorem zi (p:Bt C e G g hp w) {did t:Nat}:Bb C e G g hp w (True, .mpO did g,[(did,some (g, .ms []))]) (((Instr.makeMap t none).run C.P w).andThen fun v w=> .ok (.value v) w):=by
 have:(Instr.makeMap t none).run C.P w= .ok (.map (some w.heap.size)) (w.alloc (.map #[] 0)):=by rfl
 rw[this,Result.andThen_ok];refine MH p (CX.alloc w _) (ee:=⟨g,some (w.heap.size,0),0,0⟩) rfl vy1 ?_ ?_
 ·exact⟨rfl,w.heap.size,0,#[],0,rfl,Hz w _,rfl,fun i m p h=>vz3⟩
 refine .mpO _ _ _ (.inr rfl) rfl fun ee he _ _ b c hb=>?_;rw[Hq] at he;cases he
 cases hb
 rfl
theorem xJ (p:Bt C e G g hp w) (hT:B4 C.P T) (op:BinOp) {t:Nat} {x y:Operand} {va:AV} {xa xb:Value} {r:R} (ha:VR w (UE e) e G va xa) (hy:Jh y=true->xb= .nilIface)
  (hb:Jh y=false->Bb C e G g hp w r (((do eqGuard op t x y xa xb;let v<-binOp op t xa xb;Pure.pure (Next.value v)):Sem Next).run C.P w))
  (h:(N9 (Jh y) op (tl T t) va r).1):
  Bb C e G g hp w (N9 (Jh y) op (tl T t) va r) (((do eqGuard op t x y xa xb;let v<-binOp op t xa xb;Pure.pure (Next.value v)):Sem Next).run C.P w):=by
 cases hn:Jh y with
 |false=>rw[hn] at h;exact hb hn|true=>
  rw[hn] at h;obtain rfl:=hy hn;obtain⟨vc,rfl⟩:∃vc,y= .const vc:=by
   cases y with
   |const v=>exact⟨v,rfl⟩|_=>cases hn
  unfold N9 at h ⊢;simp only at h ⊢;have und:(tl T t).ty= .iface->∃m,C.P.underlying t=some (.interface m):=by intro Bf;obtain⟨d,hu,hd⟩:=(hT.fit Bf sM).under;rw[Bf] at hd;obtain⟨m,rfl⟩:=hd;exact⟨m,hu⟩
  have e1:∀(Bf:(tl T t).ty= .iface) tt pp,(Op.equalIn Op.maxDepth t (.iface tt pp) .nilIface).run C.P w= .ok false w:=by intro Bf tt pp;obtain⟨m,hu⟩:=und Bf;rw[show Op.maxDepth=9999+1 from rfl,Op.equalIn,Sem.run_bind,run_underlying hu];rfl
  have e2:∀(Bf:(tl T t).ty= .iface),(Op.equalIn Op.maxDepth t .nilIface .nilIface).run C.P w= .ok true w:=by intro Bf;obtain⟨m,hu⟩:=und Bf;rw[show Op.maxDepth=9999+1 from rfl,Op.equalIn,Sem.run_bind,run_underlying hu];rfl
  have g1:∀tt pp,(eqGuard op t x (.const vc) (.iface tt pp) .nilIface).run C.P w= .ok () w:=by intro tt pp;cases op<;>simp[eqGuard]
  have g2:(eqGuard op t x (.const vc) .nilIface .nilIface).run C.P w= .ok () w:=by cases op<;>simp[eqGuard]
  split at h
  .rename_i Bf;cases ha with
   |dat _ _ ha=>
    cases ha with
    |ifn tt pp=>
     have:(binOp .eql t (.iface tt pp) .nilIface).run C.P w= .ok (.bool false) w:=by simp[binOp,Op.equal,e1 Bf]
     rw[Sem.run_bind,g1,Result.andThen_ok,Sem.run_bind,this];exact EP p _ _
  .rename_i Bf;cases ha with
   |dat _ _ ha=>
    cases ha with
    |ifn tt pp=>
     have:(binOp .neq t (.iface tt pp) .nilIface).run C.P w= .ok (.bool true) w:=by simp[binOp,Op.equal,e1 Bf]
     rw[Sem.run_bind,g1,Result.andThen_ok,Sem.run_bind,this];exact EP p _ _
  .rename_i Bf;obtain⟨rfl,_⟩:=ha.lit_inv;have:(binOp .eql t .nilIface .nilIface).run C.P w= .ok (.bool true) w:=by simp[binOp,Op.equal,e2 Bf]
   rw[Sem.run_bind,g2,Result.andThen_ok,Sem.run_bind,this];exact EP p _ _
  .rename_i Bf;obtain⟨rfl,_⟩:=ha.lit_inv;have:(binOp .neq t .nilIface .nilIface).run C.P w= .ok (.bool false) w:=by simp[binOp,Op.equal,e2 Bf]
   rw[Sem.run_bind,g2,Result.andThen_ok,Sem.run_bind,this];exact EP p _ _
  exact h.elim
end
open Go
section
variable {C:Cx} {e:An} {G:Nat->Prop} {g:Nat} {hp:Hp} {w:World} {T:AE}
theorem QaW (p:Bt C e G g hp w) (hT:B4 C.P T) {t n el:Nat} (Bf:(tl T t).ty= .array n el) {lo hi mx:Option AV} {xl xh xm:Option Value} {av:AV} {x:Value}
  (hx:VR w (UE e) e G av x) (hl:Cc w e G lo xl) (hh:Cc w e G hi xh) (hm:Cc w e G mx xm) (h:(MN n (tl T el) hp lo hi mx av).1):
  Bb C e G g hp w (MN n (tl T el) hp lo hi mx av) (((Instr.sliceAt t x xl xh xm).run C.P w).andThen fun v w=> .ok (.value v) w):=by
 unfold MN at h ⊢;split at h
 .rename_i id g' m i off;split at h
  .rename_i g'' cs hg;obtain⟨rfl,rfl,rfl,rfl,hs,hlen,OO,hP⟩:=h;obtain rfl:xl=none:=vy4;obtain rfl:xh=none:=vz2;obtain rfl:xm=none:=vx5;obtain⟨_,_,A2⟩:=hx.ptO_inv;obtain⟨ee,he,Bo,_,A8⟩:=p.hr.live id _ _ hg;obtain⟨hn,h1,b,c,vs,T',hb,uY,Be,hv⟩:=A8;obtain⟨_,A2⟩:=A2 ee he Bo;obtain rfl:=A2 hn b c hb;obtain⟨d,hu,hd⟩:=(hT.fit Bf sM).under;rw[Bf] at hd;cases hd;have gk:=Fy (hT.fits (t:=el) oM) w;have AL:(Instr.sliceAt t (.pointer (some ⟨b,0*ee.k+0,none⟩)) none none none).run C.P w= .ok (.slice (some ⟨b,0,none⟩) n n) w:=by
    by_cases C2:n=0
    .simp[Instr.sliceAt,run_underlying hu,Instr.sureAddr,Instr.sliceBounds,gk,C2]
    have EY:¬(0=n):=fun h=>C2 h.symm;simp[Instr.sliceAt,run_underlying hu,Instr.sureAddr,Instr.sliceBounds,gk,C2,Addr.add_lit]
   rw[AL,Result.andThen_ok];have x0:=(AB.drops w e G [id]).trans (AB.wide w (edrop e [id]) G g);refine⟨_,w,edrop e [id],rfl,(p.hr.drops [id]).wide,x0,(p.ln.drops [id]).wide g,p.fr, .inl ⟨_,rfl,?_⟩⟩;have wW:UE (edrop e [id]) b:=UE.dropped p.hr he hb sM;have Cy:∀j (hj:j<cs.length),(cs[j].cells)=[cs[j]]:=by
    intro j hj;have:=h1 j hj;cases hq:cs[j] with
    |agg _=>rw[hq] at this;cases this
    |_=>rfl
   have Xx:∀j (hj:j<cs.length),(AH (fz 0 hp) cs[j])=fz 0 hp cs[j]:=by
    intro j hj;have:=h1 j hj;cases hq:cs[j] with
    |agg _=>rw[hq] at this;cases this
    |_=>rfl
   have eF:∀j (hj:j<cs.length),fzP 0 hp cs[j]:=fun j hj=>hP _ (gM hj) _ (by rw[Cy j hj];simp);have Cq:∀j (hj:j<cs.length),(fz 0 hp cs[j]).one=true:=fun j hj=>It (eF j hj);have Nr:∀j (hj:j<cs.length),(fz 0 hp cs[j]).cells=[fz 0 hp cs[j]]:=fun j hj=>(WJ 0 hp cs[j]).resolve_right (by rw[h1 j hj];simp);have OK:(cs.map (AH (fz 0 hp))).length=n:=by simpa using hlen
   have key:VD w (UE (edrop e [id])) (.sl (cs.map (AH (fz 0 hp))) false) (.slice (some ⟨b,0,none⟩) (cs.map (AH (fz 0 hp))).length n):=by
    refine .sl _ _ b 0 n 1 (fun j=>vs.getD j undef) wW (p.hr.lt _ _ _ _ he hb) oM vk1 sM oM ?_ ?_ ?_ ?_
    .intro j hj;simp only[List.length_map] at hj;simp only[List.getElem_map,Xx j hj,Nr j hj,List.length_singleton]
    .intro j hj;rw[Nat.zero_add];exact cell_of_heap uY oM
    .intro j hj j' Ah;simp only[List.length_map] at hj;simp only[List.getElem_map,Xx j hj,Nr j hj,List.length_singleton] at Ah ⊢;obtain rfl:j'=0:=oM;simp only[List.getElem_cons_zero];exact Cq j hj
    intro j hj j' Ah;simp only[List.length_map] at hj;simp only[List.getElem_map,Xx j hj,Nr j hj,List.length_singleton] at Ah ⊢;obtain rfl:j'=0:=oM;simp only[List.getElem_cons_zero,Nat.mul_one,Nat.add_zero];exact H2 p.hr (Jt.drops p.hr [id]) 0 (hv j hj) (eF j hj) (by intro i hi;simp[fzR] at hi)
   rw[OK] at key;exact .dat _ _ key
  exact h.elim
 exact h.elim
theorem Qfe (p:Bt C e G g hp w) {did el src dst:Nat} (hs:C.P.underlying src=some .string) (hd:C.P.underlying dst=some (.slice el)) (he:C.P.underlying el=some (.int .u8)) (s:ByteArray)
  (hl:s.data.toList.length<=9223372036854775807) (h5:el=5) {P:Prop}:
  Bb C e G g hp w (P, .l did g 0 s.data.toList.length,[(did,some (g, .own el 1 (s.data.toList.map Dr)))]) (((convert src dst (.string s)).run C.P w).andThen fun v w=> .ok (.value v) w):=by
 have Be:s.size=s.data.toList.length:=by rw[Array.length_toList];rfl
 have Nz:=grownCap_ge w s.size 0 el;have OO:=grownCap_le_maxLen w s.size 0 el vk1;have Dt:(Lib.bytesCells w el s).size=grownCap w s.size 0 el:=by simp only[Lib.bytesCells,Array.size_append,Array.size_map,Array.size_replicate];have:s.data.size=s.size:=rfl;omega
 have Cy:Cl (Lib.bytesWorld w el s) w.heap.size (Lib.bytesCells w el s) el:=
  ⟨_,Lib.bytesWorld_at_new w el s,fun j hj h=>by simp only at h;omega, .inr h5⟩
 rw[Lib.run_convert_string_bytes w src dst el s hs hd he,Result.andThen_ok];refine MH p (w':=Lib.bytesWorld w el s) ⟨?_,?_,?_,?_,fun b hb=>Lib.bytesWorld_at_old w el s b hb,Nat.le_succ _⟩ (ee:=⟨g,some (w.heap.size,grownCap w s.size 0 el),1,s.data.toList.length⟩) rfl ?_ ?_ ?_
 .rfl
 .rfl
 .rfl
 .rw[Lib.bytesWorld_size];omega
 .rintro b c ⟨⟩;exact⟨lR _,by rw[Lib.bytesWorld_size];omega⟩
 .refine⟨rfl,sM,oM,?_,?_,OO,vv2,_,Cy,by rw[Dt];omega,?_⟩
  .intro i hi;simp[Dr,AV.cells]
  .intro i hi j hj;simp[Dr,AV.cells,AV.one]
  intro i hi j hj;have DQ:i<s.data.toList.length:=vv5;have JN:j=0:=by simp[Dr,AV.cells] at hj;omega
  subst JN;have e1:(s.data.toList.map Dr)[i].cells[0]=Dr s.data.toList[i]:=by simp[Dr,AV.cells]
  have e2:(Lib.bytesCells w el s).getD (i*1+0) undef= .int .u8 (s.data.toList[i]).toNat:=by
   have h1:i<s.data.size:=by simpa using DQ
   rw[gA,show i*1+0=i by omega,Lib.bytesCells,Array.getElem?_append_left vy9];have h2:s.data[i]?=some s.data[i]:=by simp[h1]
   simp[h2]
  rw[e1,e2];exact .val _ _ (.dat _ _ (.lit _ rfl))
 refine .l _ _ _ _ _ (.inr rfl) rfl fun ee AP _=>?_;rw[Hq] at AP;cases AP
 refine⟨sM,fun _=>⟨grownCap w s.size 0 el,?_,sM,oM⟩⟩;show Value.slice _ _ _=Value.slice _ _ _;congr 1
theorem np (p:Bt C e G g hp w) (hT:B4 C.P T) {did t el:Nat} (h:(tl T t).size≠0) (hz:(tl T t).zs=[.ptr, .sl]) (ha:(tl T t).agg=true) {P:Prop}:
  Bb C e G g hp w (P, .p did g 0 0 0,[(did,some (g, .bd t el []))]) (((Instr.alloc t true (.tuple #[])).run C.P w).andThen fun v w=> .ok (.value v) w):=by
 have hf:=hT.fits h;rw[jB hf,Result.andThen_ok];have xG:(tl T t).zval= .agg #[.pointer none, .slice none 0 0]:=by simp[TI.zval,ha,hz,ZC.val]
 rw[xG];refine MH p (CX.alloc w _) (ee:=⟨g,some (w.heap.size,0),0,0⟩) rfl vy1 ?_ ?_
 ·exact⟨rfl,w.heap.size,0,_,_,rfl,Hz w _, .inl rfl, .inl ⟨rfl,rfl⟩⟩
 refine .p _ _ _ _ _ _ (.inr rfl) rfl fun ee he _=>?_;rw[Hq] at he;cases he
 refine⟨lR _,fun _ b c hb=>?_⟩;cases hb
 rfl
end
open Go Go.Great
section
variable {C:Cx} {e:An} {G:Nat->Prop} {g:Nat} {hp:Hp} {w:World} {T:AE}
theorem bm (p:Bt C e G g hp w) (op:BinOp) (t:TypeId) (k k':IntKind) (a b:Int) (x y:Operand) (h:(PQ op k a b).1):
  Bb C e G g hp w (PQ op k a b) (((do eqGuard op t x y (.int k a) (.int k' b);let v<-binOp op t (.int k a) (.int k' b);Pure.pure (Next.value v)):Sem Next).run C.P w):=by
 cases op<;>simp only[PQ,R.val,R.no] at h ⊢
 all_goals first|exact h.elim|skip
 all_goals
  have hb:¬b<0:=oM;simp only[eqGuard,binOp,Op.shift,hb,go_sem,Sem.run_bind,Sem.run_pure,Result.andThen_ok,if_false,Bool.not_false,if_true];exact GB p _ _ _
theorem Qay (p:Bt C e G g hp w) (ob:Prop) (s:ByteArray):Bb C e G g hp w (ob, .lit (.string s),[]) (.ok (.value (.string s)) w):=
 .pure p (.dat _ _ (.lit _ rfl))
theorem TP (a b:ByteArray):(a.toList==b.toList)=decide (a.data.toList=b.data.toList):=by rw[ByteArray.toList_eq,ByteArray.toList_eq,Bool.eq_iff_iff];simp
theorem oV (p:Bt C e G g hp w) (op:BinOp) (t:TypeId) (a b:ByteArray) (x y:Operand) (h:(Rc op a b).1):
  Bb C e G g hp w (Rc op a b) (((do eqGuard op t x y (.string a) (.string b);let v<-binOp op t (.string a) (.string b);Pure.pure (Next.value v)):Sem Next).run C.P w):=by
 have hg:(eqGuard op t x y (.string a) (.string b)).run C.P w= .ok () w:=by cases op<;>simp[eqGuard]
 rw[Sem.run_bind,hg,Result.andThen_ok,Sem.run_bind];cases op<;>simp only[Rc,R.val,R.no] at h ⊢
 case add=>
  rw[binOp_string_add,run_string_add_sum _ a b h];exact Qay p _ _
 case eql=>rw[binOp_string_eql,TP];exact EP p _ _
 case neq=>
  rw[binOp_string_neq,TP];have:(!decide (a.data.toList=b.data.toList))=decide (a.data.toList≠b.data.toList):=sM;rw[this];exact EP p _ _
 case lss=>rw[binOp_string_lss,ByteArray.toList_eq,ByteArray.toList_eq];exact EP p _ _
 case leq=>rw[binOp_string_leq,TP,ByteArray.toList_eq,ByteArray.toList_eq];exact EP p _ _
 case gtr=>rw[binOp_string_gtr,TP,ByteArray.toList_eq,ByteArray.toList_eq];exact EP p _ _
 case geq=>rw[binOp_string_geq,ByteArray.toList_eq,ByteArray.toList_eq];exact EP p _ _
 all_goals exact h.elim
theorem oW (p:Bt C e G g hp w) (hT:B4 C.P T) (op:BinOp) {t:Nat} {x y:Operand} {va vb:AV} {xa xb:Value} (ha:VR w (UE e) e G va xa) (hb:VR w (UE e) e G vb xb) (h:(N8 op (tl T t) va vb).1):
  Bb C e G g hp w (N8 op (tl T t) va vb) (((do eqGuard op t x y xa xb;let v<-binOp op t xa xb;Pure.pure (Next.value v)):Sem Next).run C.P w):=by
 unfold N8 at h ⊢;split at h
 .obtain⟨rfl,_⟩:=ha.lit_inv;obtain⟨rfl,_⟩:=hb.lit_inv;split at h
  .exact bm p .shl t _ _ _ _ x y h
  .exact bm p .shr t _ _ _ _ x y h
  obtain⟨rfl,h⟩:=h;exact oU p _ t _ _ _ x y h
 .obtain⟨rfl,_⟩:=ha.lit_inv;obtain⟨rfl,_⟩:=hb.lit_inv;exact oV p op t _ _ x y h
 .rename_i a b;obtain⟨rfl,_⟩:=ha.lit_inv;obtain⟨rfl,_⟩:=hb.lit_inv;unfold Wg at h ⊢;split at h
  .rename_i Bf;obtain⟨d,hu,hd⟩:=(hT.fit Bf sM).under;rw[Bf] at hd;cases hd;simp only[go_sem,Sem.run_bind,Sem.run_pure,Result.andThen_ok,run_eql_bool _ t a b hu];exact EP p _ _
  .rename_i Bf;obtain⟨d,hu,hd⟩:=(hT.fit Bf sM).under;rw[Bf] at hd;cases hd;simp only[go_sem,Sem.run_bind,Sem.run_pure,Result.andThen_ok,run_neq_bool _ t a b hu];exact EP p _ _
  exact h.elim
 .exact oP p hT op ha hb h
 exact h.elim
theorem GL {P:Program} (s:Sem Value) (w:World):((do Pure.pure (Next.value (<-s))):Sem Next).run P w=(s.run P w).andThen fun v w=> .ok (.value v) w:=by rw[Sem.run_bind];rfl
theorem VY {P:Program} (s:Sem Unit) (w:World):((do s;Pure.pure Next.skip):Sem Next).run P w=(s.run P w).andThen fun _ w=> .ok .skip w:=by rw[Sem.run_bind];rfl
theorem PZ {a:Act} {ev:Operand->AV} (hv:∀x,VR w (UE e) e G (ev x) (a.eval x)) (o:Option Operand):Cc w e G (o.map ev) (o.map a.eval):=by
 cases o with
 |none=>trivial|some x=>exact hv x
theorem i7 (p:Bt C e G g hp w) (hC:Cn C T) (o:Oper) {a:Act} {ev:Operand->AV} (hv:∀x,VR w (UE e) e G (ev x) (a.eval x)) (h:(Bu T o ev hp g).1):
  Bb C e G g hp w (Bu T o ev hp g) ((execOp a.eval o).run C.P w):=by
 have hT:=hC.ty;obtain⟨dst,op,type,pos,after,guard⟩:=o;cases op with
 |move x=>exact .pure p (hv x)|assign x=>
  simp only[Bu] at h ⊢;split at h
  .exact zR p h
  exact .pure p (hv _)
 |pick c x y=>
  simp only[Bu] at h ⊢;split at h
  .rename_i b hb;have hc:=hv c;rw[hb] at hc;obtain⟨hc,_⟩:=hc.lit_inv;have:(execOp a.eval ⟨dst, .pick c x y,type,pos,after,guard⟩).run C.P w= .ok (.value (if b then a.eval x else a.eval y)) w:=by simp[execOp,hc,asBool]
   rw[this];refine .pure p ?_;cases b
   .exact hv y
   exact hv x
  exact h.elim
 |binOp op t x y yt=>
  have e1:(execOp a.eval ⟨dst, .binOp op t x y yt,type,pos,after,guard⟩).run C.P w=
    ((do eqGuard op t x y (a.eval x) (a.eval y);let v<-binOp op t (a.eval x) (a.eval y);Pure.pure (Next.value v)):Sem Next).run C.P w:=by
   simp only[execOp,Sem.run_bind];cases (eqGuard op t x y (a.eval x) (a.eval y)).run C.P w<;>rfl
  rw[e1];refine xJ p hT op (hv x) (fun hn=>?_) (fun hi=>?_) h
  .unfold Jh at hn;split at hn
   .rfl
   cases hn
  have h0:(La (IL y) op (tl T t) (ev x) (ev y)).1:=by simp only[Bu] at h;rw[hi] at h;exact h
  refine zS p hT op (hv x) (fun hn=>?_) (fun hn=>oW p hT op (hv x) (hv y) (by rw[hn] at h0;exact h0)) h0;unfold IL at hn;split at hn
  .rfl
  cases hn
 |makeMap t r=>
  cases r with
  |some _=>exact h.elim|none=>
   have e1:(execOp a.eval ⟨dst, .makeMap t none,type,pos,after,guard⟩).run C.P w=((Instr.makeMap t none).run C.P w).andThen fun v w=> .ok (.value v) w:=GL _ _;rw[e1];simp only[Bu];split
   .exact zi p
   exact zj p
 |lookup t m k ok=>
  cases ok with
  |true=>have e1:(execOp a.eval ⟨dst, .lookup t m k true,type,pos,after,guard⟩).run C.P w=((Instr.lookup t (a.eval m) (a.eval k) true).run C.P w).andThen fun v w=> .ok (.value v) w:=GL _ _;rw[e1];exact y6 p hT (hv m) (hv k) h|false=>have e1:(execOp a.eval ⟨dst, .lookup t m k false,type,pos,after,guard⟩).run C.P w=((Instr.lookup t (a.eval m) (a.eval k) false).run C.P w).andThen fun v w=> .ok (.value v) w:=GL _ _;rw[e1];exact y7 p hT (hv m) (hv k) h
 |mapUpdate t m k v=>
  have e1:(execOp a.eval ⟨dst, .mapUpdate t m k v,type,pos,after,guard⟩).run C.P w=((Instr.mapUpdate t (a.eval m) (a.eval k) (a.eval v)).run C.P w).andThen fun _ w=> .ok .skip w:=VY _ _;rw[e1];simp only[Bu] at h ⊢;split at h
  .rename_i hs;rw[iP hs];exact iu p hT (hv m) (hv k) (hv v) h
  rename_i hs;rw[iN hs];exact zo p hT (hv m) (hv k) (hv v) h
 |insert t m k v=>have e1:(execOp a.eval ⟨dst, .insert t m k v,type,pos,after,guard⟩).run C.P w=((Instr.mapUpdate t (a.eval m) (a.eval k) (a.eval v)).run C.P w).andThen fun _ w=> .ok .skip w:=VY _ _;rw[e1];exact iu p hT (hv m) (hv k) (hv v) h|unOp op t x=>
  have hx:=hv x;cases op with
  |not=>
   simp only[Bu] at h ⊢;split at h
   .rename_i b hb;rw[hb] at hx;obtain⟨hx,_⟩:=hx.lit_inv;have e1:(execOp a.eval ⟨dst, .unOp .not t x,type,pos,after,guard⟩).run C.P w= .ok (.value (.bool (!b))) w:=by simp[execOp,hx,Op.unary]
    rw[e1];exact EP p _ _
   exact h.elim
  |neg=>
   simp only[Bu] at h ⊢;split at h
   .rename_i k n hb;rw[hb] at hx;obtain⟨hx,_⟩:=hx.lit_inv;have e1:(execOp a.eval ⟨dst, .unOp .neg t x,type,pos,after,guard⟩).run C.P w= .ok (.value (.int k (k.wrap (0 - n)))) w:=by simp[execOp,hx,Op.unary,Op.intArith]
    rw[e1];exact Ts p k _ h
   exact h.elim
  |_=>exact h.elim
 |nilCheck x=>
  have hx:=hv x;simp only[Bu] at h ⊢;split at h
  .rename_i n hb;rw[hb] at hx;have he:=hx.gl_inv;have e1:(execOp a.eval ⟨dst, .nilCheck x,type,pos,after,guard⟩).run C.P w= .ok (.value (a.eval x)) w:=by simp[execOp,he]
   rw[e1];exact .pure p hx
  .rename_i cs hb;rw[hb] at hx;obtain⟨b,off,f,he,_⟩:=hx.ptI_inv.ptI_inv;have e1:(execOp a.eval ⟨dst, .nilCheck x,type,pos,after,guard⟩).run C.P w= .ok (.value (a.eval x)) w:=by simp[execOp,he]
   rw[e1];exact .pure p hx
  .rename_i id g' n i off hb;rw[hb] at hx;obtain⟨ee,b,c,_,_,_,_,he⟩:=Zi p.hr hx h;have e1:(execOp a.eval ⟨dst, .nilCheck x,type,pos,after,guard⟩).run C.P w= .ok (.value (a.eval x)) w:=by simp[execOp,he]
   rw[e1];exact .pure p hx
  exact h.elim
 |extract x i=>
  have hx:=hv x;simp only[Bu] at h ⊢;split at h
  .rename_i vs hb;rw[hb] at hx;obtain⟨xs,he,JP,EL⟩:=hx.tup_inv;have hi:i<vs.length:=h;have e1:(execOp a.eval ⟨dst, .extract x i,type,pos,after,guard⟩).run C.P w= .ok (.value (xs.getD i undef)) w:=by have:i<xs.size:=oM;simp[execOp,he,Instr.extract,this,gA]
   rw[e1];refine .pure p ?_;rw[gE,gG hi];exact EL i hi
  exact h.elim
 |load t x=>have e1:(execOp a.eval ⟨dst, .load t x,type,pos,after,guard⟩).run C.P w=((Instr.loadAt t (a.eval x)).run C.P w).andThen fun v w=> .ok (.value v) w:=GL _ _;rw[e1];simp only[Bu] at h ⊢;exact QaQ p (fun hs=>hT.fits hs) (hC.glob p.ln (hv x)) h|store t x v=>have e1:(execOp a.eval ⟨dst, .store t x v,type,pos,after,guard⟩).run C.P w=((Instr.storeAt t (a.eval x) (a.eval v)).run C.P w).andThen fun _ w=> .ok .skip w:=VY _ _;rw[e1];exact Qa0 p hT (hv v) (hv x) h|indexAddr t x i=>have e1:(execOp a.eval ⟨dst, .indexAddr t x i,type,pos,after,guard⟩).run C.P w=((Instr.indexAt t (a.eval x) (a.eval i)).run C.P w).andThen fun v w=> .ok (.value v) w:=GL _ _;rw[e1];exact QaN p hT (hC.glob p.ln (hv x)) (hv i) h|fieldAddr t x f=>have e1:(execOp a.eval ⟨dst, .fieldAddr t x f,type,pos,after,guard⟩).run C.P w=((Instr.fieldAt t (a.eval x) f).run C.P w).andThen fun v w=> .ok (.value v) w:=GL _ _;rw[e1];exact QaL p hT (hC.glob p.ln (hv x)) h|field t x f=>have e1:(execOp a.eval ⟨dst, .field t x f,type,pos,after,guard⟩).run C.P w=((Instr.field t (a.eval x) f).run C.P w).andThen fun v w=> .ok (.value v) w:=GL _ _;rw[e1];exact QaM p hT (hv x) h|index t x i=>have e1:(execOp a.eval ⟨dst, .index t x i,type,pos,after,guard⟩).run C.P w=((Instr.index t (a.eval x) (a.eval i)).run C.P w).andThen fun v w=> .ok (.value v) w:=GL _ _;rw[e1];exact QaO p hT (hv x) (hv i) h|slice t x lo hi mx=>have e1:(execOp a.eval ⟨dst, .slice t x lo hi mx,type,pos,after,guard⟩).run C.P w=((Instr.sliceAt t (a.eval x) (lo.map a.eval) (hi.map a.eval) (mx.map a.eval)).run C.P w).andThen fun v w=> .ok (.value v) w:=GL _ _;rw[e1];exact QaZ p hT (hv x) (PZ hv lo) (PZ hv hi) (PZ hv mx) h fun n el Bf h=>QaW p hT Bf (hv x) (PZ hv lo) (PZ hv hi) (PZ hv mx) h|makeSlice t l c=>
  have e1:(execOp a.eval ⟨dst, .makeSlice t l c,type,pos,after,guard⟩).run C.P w=((Instr.makeSlice t (a.eval l) (a.eval c)).run C.P w).andThen fun v w=> .ok (.value v) w:=GL _ _;rw[e1];have Mx:=hv l;have CI:=hv c;simp only[Bu] at h ⊢;split at h
  .rename_i el kl l' kc c' Bf JP Hu;rw[JP] at Mx;rw[Hu] at CI;obtain⟨Mx,_⟩:=Mx.lit_inv;obtain⟨CI,_⟩:=CI.lit_inv;rw[Mx,CI];obtain⟨h0,h1,h2,h3,h4⟩:=h;exact zm p hT Bf h0 h1 h2 h3 h4
  exact h.elim
 |buildSlice t n ps=>
  have e1:(execOp a.eval ⟨dst, .buildSlice t n ps,type,pos,after,guard⟩).run C.P w=((Instr.buildSlice t n (ps.map fun q=>(q.1,a.eval q.2))).run C.P w).andThen fun v w=> .ok (.value v) w:=GL _ _;rw[e1];simp only[Bu] at h ⊢;split at h
  .rename_i el Bf;obtain⟨h1,h2,h3,h4⟩:=h;exact oZ p hT Bf (fun q _=>hv q.2) h1 h2 h3 h4
  exact h.elim
 |build t ps=>
  have e1:(execOp a.eval ⟨dst, .build t ps,type,pos,after,guard⟩).run C.P w=((Instr.build t (ps.map fun q=>(q.1,a.eval q.2))).run C.P w).andThen fun v w=> .ok (.value v) w:=GL _ _;rw[e1];simp only[Bu] at h ⊢;split at h
  .rename_i fs Bf;exact o4 p hT Bf (fun q _=>hv q.2) h
  .rename_i n el Bf;exact oY p hT Bf (fun q _=>hv q.2) h.2 h.1
  exact h.elim
 |alloc t=>
  have e1:(execOp a.eval ⟨dst, .alloc t,type,pos,after,guard⟩).run C.P w=((Instr.alloc t true (.tuple #[])).run C.P w).andThen fun v w=> .ok (.value v) w:=GL _ _
  rw[e1];simp only[Bu] at h ⊢;split at h
  ·exact np p hT h.1 h.2.1 h.2.2
  exact nq p hT h
 |box t x=>have e1:(execOp a.eval ⟨dst, .box t x,type,pos,after,guard⟩).run C.P w=((Instr.box t (a.eval x)).run C.P w).andThen fun v w=> .ok (.value v) w:=GL _ _;rw[e1,QeA,Result.andThen_ok];exact bo p (hv x) h.2|convert s d x=>
  have e1:(execOp a.eval ⟨dst, .convert s d x,type,pos,after,guard⟩).run C.P w=((convert s d (a.eval x)).run C.P w).andThen fun v w=> .ok (.value v) w:=GL _ _;rw[e1];have hx:=hv x;simp only[Bu] at h ⊢;split at h
  ·rename_i ks kd k n hs hd hb;rw[hb] at hx;obtain⟨hx,_⟩:=hx.lit_inv;rw[hx];obtain⟨d1,O1,Hw⟩:=(hT.fit hs sM).under;obtain⟨d2,G5,EU⟩:=(hT.fit hd sM).under;rw[hs] at Hw;cases Hw;rw[hd] at EU;cases EU;have:(convert s d (.int k n)).run C.P w= .ok (.int kd (kd.wrap n)) w:=by simp[Go.convert,run_underlying O1,run_underlying G5,Conv.intToInt]
   rw[this];exact GB p _ _ _
  ·rename_i el b hs hd hb;split at h
   ·rename_i SB;rw[hb] at hx;obtain⟨hx,_⟩:=hx.lit_inv;rw[hx];obtain⟨d1,O1,Hw⟩:=(hT.fit hs sM).under;obtain⟨d2,G5,EU⟩:=(hT.fit hd sM).under;obtain⟨d3,Yt,Ow⟩:=(hT.fit SB sM).under;rw[hs] at Hw;cases Hw;rw[hd] at EU;cases EU;rw[SB] at Ow;cases Ow;exact Qfe p O1 G5 Yt b h.1 h.2
   exact h.elim
  ·rename_i el hs hd;split at h
   ·rename_i ys SB Yn;split at h
    ·rename_i bs H3;obtain⟨d1,O1,Hw⟩:=(hT.fit hs sM).under;obtain⟨d2,G5,EU⟩:=(hT.fit hd sM).under;obtain⟨d3,Yt,Ow⟩:=(hT.fit SB sM).under;rw[hs] at Hw;cases Hw;rw[hd] at EU;cases EU;rw[SB] at Ow;cases Ow;exact o7 p O1 Yt G5 hx Yn h H3
    exact h.elim
   exact h.elim
  exact h.elim
 |call c=>
  obtain⟨callee,args,argTypes⟩:=c;cases callee with
  |builtin b=>
   simp only[Bu] at h ⊢;split at h
   ·rename_i x t ha ht;have BV:args=#[x]:=vy7
    have KN:argTypes=#[t]:=vy8
    subst BV;subst KN;have e1:(execOp a.eval ⟨dst, .call {callee:= .builtin .len,args:=#[x],argTypes:=#[t]},type,pos,after,guard⟩).run C.P w=
      ((Builtin.len_ #[t] type #[a.eval x]).run C.P w).andThen fun v w=> .ok (.value v) w:=by
     simp[execOp,resolve,invoke,builtin]
    rw[e1];exact QaP p hT (hv x) h
   ·rename_i d x t t' ha ht;have BV:args=#[d,x]:=vy7
    have KN:argTypes=#[t,t']:=vy8
    subst BV;subst KN;split at h
    ·rename_i el Bf;obtain⟨UK,h⟩:=h;subst UK;have e1:(execOp a.eval ⟨dst, .call {callee:= .builtin .append,args:=#[d,x],argTypes:=#[t',t']},type,pos,after,guard⟩).run C.P w=
       ((Builtin.append_ #[t',t'] type #[a.eval d,a.eval x]).run C.P w).andThen fun v w=> .ok (.value v) w:=by
      simp[execOp,resolve,invoke,builtin]
     rw[e1];exact QaI p hT Bf (hv d) (hv x) h
    exact h.elim
   ·rename_i d x t t' ha ht;have BV:args=#[d,x]:=vy7
    have KN:argTypes=#[t,t']:=vy8
    subst BV;subst KN;have e1:(execOp a.eval ⟨dst, .call {callee:= .builtin .copy,args:=#[d,x],argTypes:=#[t,t']},type,pos,after,guard⟩).run C.P w=
      ((Builtin.copy_ #[t,t'] type #[a.eval d,a.eval x]).run C.P w).andThen fun v w=> .ok (.value v) w:=by
     simp[execOp,resolve,invoke,builtin]
    rw[e1];exact QaK p hT (hv d) (hv x) h
   ·rename_i d t ha ht;have BV:args=#[d]:=vy7
    have KN:argTypes=#[t]:=vy8
    subst BV;subst KN;have e1:(execOp a.eval ⟨dst, .call {callee:= .builtin .clear,args:=#[d],argTypes:=#[t]},type,pos,after,guard⟩).run C.P w=
      ((Builtin.clear_ #[t] type #[a.eval d]).run C.P w).andThen fun v w=> .ok (.value v) w:=by
     simp[execOp,resolve,invoke,builtin]
    rw[e1];exact QaJ p hT (hv d) h
   ·rename_i x y t t' ha ht;have BV:args=#[x,y]:=vy7
    have KN:argTypes=#[t,t']:=vy8
    subst BV;subst KN;have hx:=hv x;have hy:=hv y;split at h
    ·rename_i k m k' n BP BX;rw[BP] at hx;rw[BX] at hy;obtain⟨hx,_⟩:=hx.lit_inv;obtain⟨hy,_⟩:=hy.lit_inv;have e1:(execOp a.eval ⟨dst, .call {callee:= .builtin .min,args:=#[x,y],argTypes:=#[t,t']},type,pos,after,guard⟩).run C.P w= .ok (.value (.int k (if n<m then n else m))) w:=by simp[execOp,resolve,invoke,builtin,hx,hy,run_min_int2]
     rw[e1];exact GB p _ _ _
    exact h.elim
   ·rename_i x y t t' ha ht;have BV:args=#[x,y]:=vy7
    have KN:argTypes=#[t,t']:=vy8
    subst BV;subst KN;have hx:=hv x;have hy:=hv y;split at h
    ·rename_i k m k' n BP BX;rw[BP] at hx;rw[BX] at hy;obtain⟨hx,_⟩:=hx.lit_inv;obtain⟨hy,_⟩:=hy.lit_inv;have e1:(execOp a.eval ⟨dst, .call {callee:= .builtin .max,args:=#[x,y],argTypes:=#[t,t']},type,pos,after,guard⟩).run C.P w= .ok (.value (.int k (if m<n then n else m))) w:=by simp[execOp,resolve,invoke,builtin,hx,hy,run_max_int2]
     rw[e1];exact GB p _ _ _
    exact h.elim
   exact h.elim
  |_=>exact h.elim
 |makeFunc fn first caps=>
  simp only[Bu] at h ⊢;split at h
  ·rename_i f hf;have I6:first=#[]:=by rw[<-Array.toList_inj];exact hf
   subst I6;have e1:(execOp a.eval ⟨dst, .makeFunc (.func f) #[] caps,type,pos,after,guard⟩).run C.P w= .ok (.value (.func (.func f) #[] (caps.map a.eval))) w:=by simp[execOp,Instr.makeFunc]
   rw[e1];refine .pure p (.fn f _ _ sM fun i hi=>?_);have Ar:i<caps.size:=vv5;have e2:(caps.map a.eval).getD i undef=a.eval caps[i]:=by simp[gA,Ar]
   rw[e2];simp only[List.getElem_map,Array.getElem_toList];exact hv _
  ·rename_i f x xs hf;have I6:first=(x::xs).toArray:=by rw[<-Array.toList_inj];exact hf
   have Hu:caps=#[]:=by rw[<-Array.toList_inj];exact h
   subst I6;subst Hu;have e1:(execOp a.eval ⟨dst, .makeFunc (.func f) (x::xs).toArray #[],type,pos,after,guard⟩).run C.P w= .ok (.value (.func (.func f) ((x::xs).map a.eval).toArray #[])) w:=by simp[execOp,Instr.makeFunc]
   rw[e1];refine .pure p (.bfn f _ _ sM fun i hi=>?_);have Ar:i<(x::xs).length:=vv5;have e2:((x::xs).map a.eval).toArray.getD i undef=a.eval (x::xs)[i]:=by rw[gA,List.getElem?_toArray,List.getElem?_map,gG Ar];rfl
   rw[e2];simp only[List.getElem_map];exact hv _
  exact h.elim
 |_=>exact h.elim
end
open Go Go.Great
abbrev Nm:=List (Nat×Nat×Nat×Nat)
def lk:Nm->Nat->Option (Nat×Nat×Nat)
 |[],_=>none|(i,gi,a,ga)::l,n=>if a=n then some (i,gi,ga) else lk l n
def bw:Nm->Nat->Option (Nat×Nat×Nat)
 |[],_=>none|(i,gi,a,ga)::l,n=>if i=n then some (gi,a,ga) else bw l n
def Cd (m:Bool) (τ:Nm) (hp:Hp):AV->AV
 | .l a g off len=>match lk τ a with
  |some (i,gi,ga)=>if g=ga then .l i gi off len else .bad|none=>fz 4 hp (.l a g off len)
 | .p a g n j off=>match lk τ a with
  |some (i,gi,ga)=>if g=ga then .p i gi n j off else .bad|none=>fz 4 hp (.p a g n j off)
 | .mpO a g=>match lk τ a with
  |some (i,gi,ga)=>if g=ga then .mpO i gi else .bad|none=>fz 4 hp (.mpO a g)
 |v=>if m then fz 4 hp v else v
def Ce (m:Bool) (τ:Nm) (hp:Hp):AV->Prop
 | .l a g off len=>match lk τ a with
  |some (_,_,ga)=>g=ga|none=>fzP 4 hp (.l a g off len)
 | .p a g n j off=>match lk τ a with
  |some (_,_,ga)=>g=ga|none=>fzP 4 hp (.p a g n j off)
 | .mpO a g=>match lk τ a with
  |some (_,_,ga)=>g=ga|none=>fzP 4 hp (.mpO a g)
 |v=>if m then fzP 4 hp v else fzP 0 hp v
def Cr (m:Bool) (τ:Nm) (hp:Hp):AV->List Nat
 | .l a g off len=>match lk τ a with
  |some _=>[]|none=>fzR 4 hp (.l a g off len)
 | .p a g n j off=>match lk τ a with
  |some _=>[]|none=>fzR 4 hp (.p a g n j off)
 | .mpO a g=>match lk τ a with
  |some _=>[]|none=>fzR 4 hp (.mpO a g)
 |v=>if m then fzR 4 hp v else[]
def BL (m:Bool) (τ:Nm) (hp:Hp):AV->AV
 | .fn f cs=> .fn f (cs.map (Cd m τ hp))|v=>Cd m τ hp v
def B9 (m:Bool) (τ:Nm) (hp:Hp):AV->Prop
 | .fn _ cs=>∀c∈cs,Ce m τ hp c|v=>Ce m τ hp v
def BT (m:Bool) (τ:Nm) (hp:Hp):AV->List Nat
 | .fn _ cs=>cs.flatMap (Cr m τ hp)|v=>Cr m τ hp v
def rnK (m:Bool) (τ:Nm) (hp:Hp):AV->AV
 | .kid t k es=> .kid t k es|v=>BL m τ hp v
def rnKP (m:Bool) (τ:Nm) (hp:Hp):AV->Prop
 | .kid _ _ _=>True|v=>B9 m τ hp v
def rnKR (m:Bool) (τ:Nm) (hp:Hp):AV->List Nat
 | .kid _ _ _=>[]|v=>BT m τ hp v
def Pn (m:Bool) (τ:Nm) (hp:Hp) (v:AV):AV:=AH (BL m τ hp) v
def QP (m:Bool) (τ:Nm) (hp:Hp) (v:AV):Prop:=∀c∈v.cells,B9 m τ hp c
def Po (m:Bool) (τ:Nm) (hp:Hp) (v:AV):List Nat:=v.cells.flatMap (BT m τ hp)
def Bw (m:Bool) (τ:Nm) (hp:Hp):AV->AV
 | .tup vs=> .tup (vs.map (Pn m τ hp))|v=>Pn m τ hp v
def B7 (m:Bool) (τ:Nm) (hp:Hp):AV->Prop
 | .tup vs=>∀v∈vs,QP m τ hp v|v=>QP m τ hp v
def Bl (m:Bool) (τ:Nm) (hp:Hp):AV->List Nat
 | .tup vs=>vs.flatMap (Po m τ hp)|v=>Po m τ hp v
def BZ (m:Bool) (τ:Nm) (hp:Hp):Ob->Ob
 | .own t k es=> .own t k (es.map (AH (rnK m τ hp)))| .box cs=> .box (cs.map (BL m τ hp))| .mp es=> .mp es| .ms es=> .ms es| .bd t e bs=> .bd t e bs
def LX (es:List (ByteArray×AV)):Prop:=∀p∈es,match p.2 with| .lit _=>True|_=>False
theorem LX.vr {es:List (ByteArray×AV)} (h:LX es) {i:Nat} {p:ByteArray×AV} (hp:es[i]?=some p) {w w':World} {U U':Nat->Prop} {e e':An} {G G':Nat->Prop} {x:Value} (hv:VR w U e G p.2 x):VR w' U' e' G' p.2 x:=by
 have h1:=h p (List.mem_of_getElem? hp);generalize p.2=c at h1 hv;cases c with
 |lit v=>obtain⟨h3,h4⟩:=hv.lit_inv;rw[h3];exact .dat _ _ (.lit _ h4)
 |_=>exact h1.elim
def BR (m:Bool) (τ:Nm) (hp:Hp):Ob->Prop
 | .own _ _ es=>∀e∈es,∀c∈e.cells,rnKP m τ hp c| .box cs=>∀c∈cs,B9 m τ hp c| .mp _=>True| .ms es=>LX es| .bd _ _ _=>True
def BM (m:Bool) (τ:Nm) (hp:Hp):Ob->List Nat
 | .own _ _ es=>es.flatMap fun e=>e.cells.flatMap (rnKR m τ hp)| .box cs=>cs.flatMap (BT m τ hp)| .mp _=>[]| .ms _=>[]| .bd _ _ _=>[]
def A7 (m:Bool) (τ:Nm) (hp:Hp):Hp:=τ.map fun q=>(q.1,(hp.get q.2.2.1).map fun x=>(q.2.1,BZ m τ hp x.2))
def A9 (m:Bool) (τ:Nm) (hp:Hp):Nm->Prop
 |[]=>True|(_,_,a,ga)::l=>(match hp.get a with|some (g,ob)=>g=ga/\BR m τ hp ob|none=>False)/\A9 m τ hp l
def AT (m:Bool) (τ:Nm) (hp:Hp):Nm->List Nat
 |[]=>[]|(_,_,a,_)::l=>(match hp.get a with|some (_,ob)=>BM m τ hp ob|none=>[])++AT m τ hp l
theorem SO:∀{τ:Nm} {a i gi ga:Nat},lk τ a=some (i,gi,ga)->(i,gi,a,ga)∈τ
 |[],_,_,_,_,h=>vx0|(i',Lj,a',Li)::l,a,i,gi,ga,h=>by
  simp only[lk] at h;split at h
  .rename_i ha;subst ha;cases h;exact mS
  exact mC _ (SO h)
theorem TD:∀{τ:Nm} {a i gi ga:Nat},bw τ i=some (gi,a,ga)->(i,gi,a,ga)∈τ
 |[],_,_,_,_,h=>vx0|(i',Lj,a',Li)::l,a,i,gi,ga,h=>by
  simp only[bw] at h;split at h
  .rename_i ha;subst ha;cases h;exact mS
  exact mC _ (TD h)
structure CR (τ:Nm):Prop where
 n1:(τ.map (·.1)).Nodup
 n2:(τ.map (·.2.2.1)).Nodup
theorem CR.bw:∀{τ:Nm},(τ.map (·.1)).Nodup->∀{a i gi ga:Nat},(i,gi,a,ga)∈τ->Sym.bw τ i=some (gi,a,ga)
 |[],_,_,_,_,_,h=>vx0|(i',Lj,a',Li)::l,h,a,i,gi,ga,hm=>by
  simp only[List.map_cons,List.nodup_cons] at h;simp only[Sym.bw];rcases List.mem_cons.1 hm with h1|h1
  .cases h1;rw[iP rfl]
  rw[iN ?_]
  .exact CR.bw h.2 h1
  rintro rfl;exact h.1 (List.mem_map.2 ⟨_,h1,rfl⟩)
theorem CR.lk:∀{τ:Nm},(τ.map (·.2.2.1)).Nodup->∀{a i gi ga:Nat},(i,gi,a,ga)∈τ->Sym.lk τ a=some (i,gi,ga)
 |[],_,_,_,_,_,h=>vx0|(i',Lj,a',Li)::l,h,a,i,gi,ga,hm=>by
  simp only[List.map_cons,List.nodup_cons] at h;simp only[Sym.lk];rcases List.mem_cons.1 hm with h1|h1
  .cases h1;rw[iP rfl]
  rw[iN ?_]
  .exact CR.lk h.2 h1
  rintro rfl;exact h.1 (List.mem_map.2 ⟨_,h1,rfl⟩)
theorem dX {m:Bool} {τ:Nm} {hp:Hp} {σ:Nm} (i:Nat):Hp.get (σ.map fun q=>(q.1,(hp.get q.2.2.1).map fun x=>(q.2.1,BZ m τ hp x.2))) i=
  match Sym.bw σ i with|some (gi,a,_)=>(hp.get a).map fun x=>(gi,BZ m τ hp x.2)|none=>none:=by
 induction σ with
 |nil=>rfl|cons q σ ih=>
  obtain⟨i',Lj,a',Li⟩:=q;simp only[List.map_cons,Hp.get,Sym.bw];split
  .rfl
  exact ih
theorem Hg {m:Bool} {τ:Nm} {hp:Hp}:∀{σ:Nm},A9 m τ hp σ->∀{i gi a ga:Nat},(i,gi,a,ga)∈σ->∃ob,hp.get a=some (ga,ob)/\BR m τ hp ob
 |[],_,_,_,_,_,h=>vx0|(i',Lj,a',Li)::l,h,i,gi,a,ga,hm=>by
  obtain⟨h1,h2⟩:=h;rcases List.mem_cons.1 hm with h3|h3
  .cases h3
   split at h1
   .rename_i g ob hg;obtain⟨rfl,h1⟩:=h1;exact⟨ob,hg,h1⟩
   exact h1.elim
  exact Hg h2 h3
theorem ju {m:Bool} {τ:Nm} {hp:Hp}:∀{σ:Nm} {i gi a ga g:Nat} {ob:Ob} {d:Nat},(i,gi,a,ga)∈σ->hp.get a=some (g,ob)->d∈BM m τ hp ob->d∈AT m τ hp σ
 |[],_,_,_,_,_,_,_,h,_,_=>vx0|(i',Lj,a',Li)::l,i,gi,a,ga,g,ob,d,hm,hg,hd=>by
  rcases List.mem_cons.1 hm with h3|h3
  .cases h3
   simp only[AT,hg];exact List.mem_append_left _ hd
  exact List.mem_append_right _ (ju h3 hg hd)
def D7 (e:An) (id b:Nat):Prop:=(∃ee c,e id=some ee/\ee.blk=some (b,c))\/∃B c' ee c,e.kid b=some (B,c')/\e id=some ee/\ee.blk=some (B,c)
theorem D7.own {e:An} {id b:Nat} (h:D7 e id b):AQ e b:=by
 rcases h with ⟨ee,c,h1,h2⟩|⟨B,c',ee,c,h1,h2,h3⟩
 .exact .inl ⟨id,ee,c,h1,h2⟩
 exact .inr ⟨B,c',h1,id,ee,c,h2,h3⟩
theorem D7.uniq {w:World} {e:An} {G:Nat->Prop} {hp:Hp} (hr:AU w e G hp) {id Br b:Nat} (h:D7 e id b) (h':D7 e Br b):id=Br:=by
 rcases h with ⟨ee,c,h1,h2⟩|⟨B,c1,ee,c,h1,h2,h3⟩<;>rcases h' with ⟨Au,c',ET,GR⟩|⟨B',c1',Au,c',ET,GR,sW⟩
 .exact hr.inj _ _ _ _ _ _ _ h1 ET h2 GR
 .have:=hr.ko b ⟨id,ee,c,h1,h2⟩;rw[ET] at this;cases this
 .have:=hr.ko b ⟨Br,Au,c',ET,GR⟩;rw[h1] at this;cases this
 rw[h1] at ET;cases ET;exact hr.inj _ _ _ _ _ _ _ h2 GR h3 sW
section
open Classical in
noncomputable def eN (τ:Nm) (e:An) (z':Nat->Prop):An:=
 ⟨fun i=>match Sym.bw τ i with|some (gi,a,_)=>(e a).map fun ee=>{ee with g:=gi}|none=>none,z',
  fun b=>match e.kid b with
  |some (B,c)=>if ∃q∈τ,∃ee cc,e q.2.2.1=some ee/\ee.blk=some (B,cc) then some (B,c) else none
  |none=>none⟩
end
theorem Gm {τ:Nm} {e:An} {z':Nat->Prop} {i:Nat} {Au:EE} (h:eN τ e z' i=some Au):∃gi a ga ee,(i,gi,a,ga)∈τ/\e a=some ee/\Au={ee with g:=gi}:=by
 simp only[eN] at h;cases hb:Sym.bw τ i with
 |none=>rw[hb] at h;cases h
 |some q=>
  obtain⟨gi,a,ga⟩:=q;rw[hb] at h;cases he:e a with
  |none=>simp only[he] at h;cases h
  |some ee=>simp only[he,Option.map_some,Option.some.injEq] at h;exact⟨gi,a,ga,ee,TD hb,he,h.symm⟩
theorem cA {τ:Nm} (hn:CR τ) {e:An} {z':Nat->Prop} {i gi a ga:Nat} {ee:EE} (h:(i,gi,a,ga)∈τ) (he:e a=some ee):eN τ e z' i=some {ee with g:=gi}:=by simp only[eN,CR.bw hn.n1 h,he,Option.map_some]
theorem Ws {τ:Nm} {e:An} {z':Nat->Prop} {b:Nat} (h:BN (eN τ e z') b):∃q∈τ,∃ee c,e q.2.2.1=some ee/\ee.blk=some (b,c):=by obtain⟨i,Au,c,h1,h2⟩:=h;obtain⟨gi,a,ga,ee,h3,h4,rfl⟩:=Gm h1;exact⟨_,h3,ee,c,h4,h2⟩
theorem PY {τ:Nm} {e:An} {z':Nat->Prop} {b B c:Nat} (h:(eN τ e z').kid b=some (B,c)):e.kid b=some (B,c)/\∃q∈τ,∃ee cc,e q.2.2.1=some ee/\ee.blk=some (B,cc):=by
 simp only[eN] at h;split at h
 .rename_i B' c' hk;split at h
  .rename_i hx;cases h;exact⟨hk,hx⟩
  cases h
 cases h
theorem cy {τ:Nm} {e:An} {z':Nat->Prop} {b B c:Nat} (h:e.kid b=some (B,c)) (hx:∃q∈τ,∃ee cc,e q.2.2.1=some ee/\ee.blk=some (B,cc)):(eN τ e z').kid b=some (B,c):=by simp only[eN,h,iP hx]
theorem Km {τ:Nm} {e:An} {z':Nat->Prop} {b:Nat} (h:AQ (eN τ e z') b):∃q∈τ,D7 e q.2.2.1 b:=by
 rcases h with h|⟨B,c,hk,ho⟩
 .obtain⟨q,hq,ee,c,h1,h2⟩:=Ws h;exact⟨q,hq, .inl ⟨ee,c,h1,h2⟩⟩
 obtain⟨h1,_⟩:=PY hk;obtain⟨q,hq,ee,cc,h3,h4⟩:=Ws ho;exact⟨q,hq, .inr ⟨B,c,ee,cc,h1,h3,h4⟩⟩
theorem QcT {m:Bool} {τ:Nm} {hp:Hp} {c:AV} (h:Ce m τ hp c):(Cd m τ hp c).one=true:=by
 cases c with
 |l a g off len=>
  simp only[Cd,Ce] at h ⊢;cases hl:lk τ a with
  |none=>simp only[hl] at h ⊢;exact It h|some q=>obtain⟨i,gi,ga⟩:=q;simp only[hl] at h ⊢;rw[iP h];rfl
 |p a g n j off=>
  simp only[Cd,Ce] at h ⊢;cases hl:lk τ a with
  |none=>simp only[hl] at h ⊢;exact It h|some q=>obtain⟨i,gi,ga⟩:=q;simp only[hl] at h ⊢;rw[iP h];rfl
 |mpO a g=>
  simp only[Cd,Ce] at h ⊢;cases hl:lk τ a with
  |none=>simp only[hl] at h ⊢;exact It h|some q=>obtain⟨i,gi,ga⟩:=q;simp only[hl] at h ⊢;rw[iP h];rfl
 |_=>
  cases m with
  |true=>exact It (n:=4) h|false=>first|rfl|exact h.elim
theorem Zm {m:Bool} {τ:Nm} {hp:Hp} {c:AV} (h:B9 m τ hp c):(BL m τ hp c).one=true:=by
 cases c with
 |fn f cs=>rfl|_=>(simp only[BL,B9] at h ⊢;exact QcT h)
theorem jv {m:Bool} {τ:Nm} {hp:Hp} {c:AV} (h:rnKP m τ hp c):(rnK m τ hp c).one=true:=by
 cases c with
 |kid t k es=>rfl|_=>(simp only[rnK,rnKP] at h ⊢;exact Zm h)
theorem iV {c:AV} (h:c.one=true):c.cells=[c]:=by cases c<;>first|rfl|cases h
theorem Zn {m:Bool} {τ:Nm} {hp:Hp} {el:AV} (hc:∀c∈el.cells,c.one=true) (hP:∀c∈el.cells,rnKP m τ hp c):(AH (rnK m τ hp) el).cells=el.cells.map (rnK m τ hp):=by
 cases el with
 |agg cs=>rfl|bad=>have:=hc .bad vz6;cases this
 |tup cs=>have:=hc (.tup cs) vz6;cases this
 |_=>exact iV (jv (hP _ mS))
section
variable {C:Cx} {e:An} {G G':Nat->Prop} {g:Nat} {hp:Hp} {w:World} {T:AE} {m:Bool} {τ:Nm} {D:List Nat} {z':Nat->Prop}
structure Ff (m:Bool) (e:An) (hp:Hp) (G':Nat->Prop) (τ:Nm) (D:List Nat) (z':Nat->Prop):Prop where
 nm:CR τ
 hpP:A9 m τ hp τ
 hpR:∀d∈AT m τ hp τ,d∈D
 dis:∀d∈D,lk τ d=none
 gen:∀q∈τ,G' q.2.1
 z1:∀b,e.z b->z' b
 z2:∀b,z' b->e.z b\/∃id,id∉D/\lk τ id=none/\D7 e id b
theorem Ff.frz (h:Ff m e hp G' τ D z') (hr:AU w e G hp):Jt e (eN τ e z') (·∈D):=by
 have notin:∀{id b},id∈D->D7 e id b->UE (eN τ e z') b:=by
  intro id b hid ho;refine⟨fun hz=>?_,fun HF=>?_⟩
  .rcases h.z2 b hz with hz|⟨Br,h1,_,h3⟩
   .exact hr.own_nz ho.own hz
   have:=D7.uniq hr ho h3;subst this;exact h1 hid
  obtain⟨q,hq,h1⟩:=Km HF;have:=D7.uniq hr ho h1;subst this;have h2:=h.dis _ hid;rw[CR.lk h.nm.n2 (show(q.1,q.2.1,q.2.2.1,q.2.2.2)∈τ from hq)] at h2;cases h2
 refine⟨fun b hb=>⟨fun hz=>?_,fun ho=>?_⟩,fun id ee b c hid he hb=>⟨notin hid (.inl ⟨ee,c,he,hb⟩),fun b' c' hk=>notin hid (.inr ⟨b,c',ee,c,hk,he,hb⟩)⟩⟩
 .rcases h.z2 b hz with hz|⟨Br,_,_,h3⟩
  .exact hb.1 hz
  exact hb.2 h3.own
 obtain⟨q,_,h1⟩:=Km ho;exact hb.2 h1.own
theorem Ff.vrA (h:Ff m e hp G' τ D z') (hr:AU w e G hp) {v:AV} {x:Value} (hv:VR w (UE e) e G v x) (hP:Ce m τ hp v) (hD:∀d∈Cr m τ hp v,d∈D):VR w (UE (eN τ e z')) (eN τ e z') G' (Cd m τ hp v) x:=by
 have x1:=h.frz hr;cases v with
 |l a g' off len=>
  simp only[Cd,Ce,Cr] at hP hD ⊢;cases hl:lk τ a with
  |none=>simp only[hl] at hP hD ⊢;exact .dat _ _ (H2 hr x1 4 hv hP hD)|some q=>
   obtain⟨i,gi,ga⟩:=q;simp only[hl] at hP ⊢;subst hP;rw[iP rfl];have hm:=SO hl;obtain⟨h1,h2,h3⟩:=hv.slO_inv;refine .l _ _ _ _ _ (h.gen _ hm) h2 fun Au AP HB=>?_;obtain⟨Lj,a',Li,ee,h4,h5,rfl⟩:=Gm AP;have h6:=CR.bw h.nm.n1 hm;rw[CR.bw h.nm.n1 h4] at h6;cases h6
   obtain⟨ob,h7,_⟩:=Hg h.hpP hm;obtain⟨ee2,h8,h9,_⟩:=hr.live _ _ _ h7;rw[h5] at h8;cases h8;obtain⟨C8,C9⟩:=h3 ee h5 h9;exact⟨C8,fun hn=>C9 hn⟩
 |p a g' n j off=>
  simp only[Cd,Ce,Cr] at hP hD ⊢;cases hl:lk τ a with
  |none=>simp only[hl] at hP hD ⊢;exact .dat _ _ (H2 hr x1 4 hv hP hD)|some q=>
   obtain⟨i,gi,ga⟩:=q;simp only[hl] at hP ⊢;subst hP;rw[iP rfl];have hm:=SO hl;obtain⟨h1,h2,h3⟩:=hv.ptO_inv;refine .p _ _ _ _ _ _ (h.gen _ hm) h2 fun Au AP HB=>?_;obtain⟨Lj,a',Li,ee,h4,h5,rfl⟩:=Gm AP;have h6:=CR.bw h.nm.n1 hm;rw[CR.bw h.nm.n1 h4] at h6;cases h6
   obtain⟨ob,h7,_⟩:=Hg h.hpP hm;obtain⟨ee2,h8,h9,_⟩:=hr.live _ _ _ h7;rw[h5] at h8;cases h8;obtain⟨C8,C9⟩:=h3 ee h5 h9;exact⟨C8,fun hn=>C9 hn⟩
 |mpO a g'=>
  simp only[Cd,Ce,Cr] at hP hD ⊢;cases hl:lk τ a with
  |none=>simp only[hl] at hP hD ⊢;exact .dat _ _ (H2 hr x1 4 hv hP hD)|some q=>
   obtain⟨i,gi,ga⟩:=q;simp only[hl] at hP ⊢;subst hP;rw[iP rfl];have hm:=SO hl;obtain⟨h1,h2,h3⟩:=hv.mpO_inv;refine .mpO _ _ _ (h.gen _ hm) h2 fun Au AP HB=>?_;obtain⟨Lj,a',Li,ee,h4,h5,rfl⟩:=Gm AP;have h6:=CR.bw h.nm.n1 hm;rw[CR.bw h.nm.n1 h4] at h6;cases h6
   obtain⟨ob,h7,_⟩:=Hg h.hpP hm;obtain⟨ee2,h8,h9,_⟩:=hr.live _ _ _ h7;rw[h5] at h8;cases h8;exact h3 ee h5 h9
 |_=>
  cases m with
  |true=>exact .dat _ _ (H2 hr x1 4 hv hP hD)|false=>
   have mono:∀{v:AV},VD w (UE e) v x->VD w (UE (eN τ e z')) v x:=fun h=>h.mono (lR _) (fun b _ hb=>x1.un b hb) (fun _ _ _=>rfl);cases hv with
   |dat _ _ hv=>exact .dat _ _ (mono hv)|_=>exact hP.elim
theorem Rq {f:FuncId} {cs:List AV} {x:Value} {U:Nat->Prop} (h:VR w U e G (.fn f cs) x):∃vs:Array Value,x= .func (.func f) #[] vs/\cs.length=vs.size/\∀i (h:i<cs.length),VR w U e G cs[i] (vs.getD i undef):=by
 cases h with
 |dat _ _ h=>cases h with|fn _ _ vs h1 h2=>exact⟨vs,rfl,h1,fun i hi=> .dat _ _ (h2 i hi)⟩
 |fn _ _ vs h1 h2=>exact⟨vs,rfl,h1,h2⟩
theorem Ff.vrB (h:Ff m e hp G' τ D z') (hr:AU w e G hp) {v:AV} {x:Value} (hv:VR w (UE e) e G v x) (hP:B9 m τ hp v) (hD:∀d∈BT m τ hp v,d∈D):VR w (UE (eN τ e z')) (eN τ e z') G' (BL m τ hp v) x:=by
 cases v with
 |fn f cs=>obtain⟨vs,rfl,q1,q2⟩:=Rq hv;refine .fn _ _ _ xx3 fun i hi=>?_;have Ar:i<cs.length:=vv5;simp only[List.getElem_map];exact h.vrA hr (q2 i Ar) (hP _ (gM Ar)) fun d hd=>hD d (List.mem_flatMap.2 ⟨_,gM Ar,hd⟩)
 |_=>exact h.vrA hr hv hP hD
theorem Ff.vrv (h:Ff m e hp G' τ D z') (hr:AU w e G hp) {v:AV} {x:Value} (hv:VR w (UE e) e G v x) (hP:QP m τ hp v) (hD:∀d∈Po m τ hp v,d∈D):VR w (UE (eN τ e z')) (eN τ e z') G' (Pn m τ hp v) x:=by
 cases v with
 |agg cs=>
  obtain⟨vs,rfl,hl,q1,q2⟩:=hv.agg_inv;refine .agg _ _ xx2 ?_ ?_
  .intro i hi;simp only[List.getElem_map];exact Zm (hP _ (gM _))
  intro i hi;have Ar:i<cs.length:=vv5;simp only[List.getElem_map];exact h.vrB hr (q2 i Ar) (hP _ (gM Ar)) fun d hd=>hD d (List.mem_flatMap.2 ⟨_,gM Ar,hd⟩)
 |_=>exact h.vrB hr hv (hP _ mS) fun d hd=>hD d (List.mem_flatMap.2 ⟨_,mS,hd⟩)
theorem Ff.vrt (h:Ff m e hp G' τ D z') (hr:AU w e G hp) {v:AV} {x:Value} (hv:VR w (UE e) e G v x) (hP:B7 m τ hp v) (hD:∀d∈Bl m τ hp v,d∈D):VR w (UE (eN τ e z')) (eN τ e z') G' (Bw m τ hp v) x:=by
 cases v with
 |tup cs=>obtain⟨vs,rfl,q1,q3⟩:=hv.tup_inv;refine .tup _ _ xx3 fun i hi=>?_;have Ar:i<cs.length:=vv5;simp only[List.getElem_map];exact h.vrv hr (q3 i Ar) (hP _ (gM Ar)) fun d hd=>hD d (List.mem_flatMap.2 ⟨_,gM Ar,hd⟩)
 |_=>exact h.vrv hr hv hP hD
theorem Ff.rel (h:Ff m e hp G' τ D z') (hr:AU w e G hp):AU w (eN τ e z') G' (A7 m τ hp):=by
 have J0:∀b,UE e b->UE (eN τ e z') b:=(h.frz hr).un;have IH:∀q∈τ,∀b,D7 e q.2.2.1 b->¬z' b:=by
  intro q hq b ho hz;rcases h.z2 b hz with hz|⟨Br,_,h2,h3⟩
  .exact hr.own_nz ho.own hz
  have:=D7.uniq hr ho h3;subst this;rw[CR.lk h.nm.n2 (show(q.1,q.2.1,q.2.2.1,q.2.2.2)∈τ from hq)] at h2;cases h2
 constructor
 .intro i hi;unfold A7 at hi;rw[dX] at hi;simp only[eN];cases hb:Sym.bw τ i with
  |none=>rfl|some q=>obtain⟨gi,a,ga⟩:=q;obtain⟨ob,h1,_⟩:=Hg h.hpP (TD hb);simp only[hb,h1,Option.map_some] at hi;cases hi
 .intro i g' Gc hi;unfold A7 at hi;rw[dX] at hi;cases hb:Sym.bw τ i with
  |none=>simp only[hb] at hi;cases hi
  |some q=>
   obtain⟨gi,a,ga⟩:=q;have hm:=TD hb;obtain⟨ob,h1,h2⟩:=Hg h.hpP hm;simp only[hb,h1,Option.map_some,Option.some.injEq,Prod.mk.injEq] at hi;obtain⟨rfl,rfl⟩:=hi;obtain⟨ee,he,Bo,_,A8⟩:=hr.live _ _ _ h1;refine⟨_,cA h.nm hm he,rfl,h.gen _ hm,?_⟩;have ey:∀d∈BM m τ hp ob,d∈D:=fun d hd=>h.hpR d (ju hm h1 hd);cases ob with
   |own t k es=>
    obtain⟨q1,q2,q3,q4,q5,q6⟩:=A8;have Cq:∀i (hi:i<es.length),∀c∈es[i].cells,c.one=true:=by intro i hi c hc;obtain⟨j,hj,rfl⟩:=List.getElem_of_mem hc;exact q5 i hi j hj
    have hP:∀i (hi:i<es.length),∀c∈es[i].cells,rnKP m τ hp c:=fun i hi c hc=>h2 _ (gM hi) c hc;refine⟨q1,by simpa using q2,q3,?_,?_,?_⟩
    .intro i hi;have Ar:i<es.length:=vv5;simp only[List.getElem_map];rw[Zn (Cq i Ar) (hP i Ar),List.length_map];exact q4 _ _
    .intro i hi j hj;have Ar:i<es.length:=vv5;simp only[List.getElem_map,Zn (Cq i Ar) (hP i Ar)] at hj ⊢;exact jv (hP i Ar _ (gM _))
    show(match ee.blk with|none=>_|some (b,bcap)=>_);cases Al:ee.blk with
    |none=>rw[Al] at q6;subst q6;rfl|some q=>
     obtain⟨b,bcap⟩:=q;rw[Al] at q6;obtain⟨q7,q8,cs,q9,q10,q11⟩:=q6;refine⟨q7,by simpa using q8,cs,q9,q10,fun i hi j hj=>?_⟩;have Ar:i<es.length:=vv5;simp only[List.getElem_map,Zn (Cq i Ar) (hP i Ar)] at hj ⊢;have Ah:j<es[i].cells.length:=vx2;have CI:=q11 i Ar j Ah;have Kz:=hP i Ar _ (gM Ah);have Kw:∀d∈rnKR m τ hp es[i].cells[j],d∈D:=fun d hd=>ey d (List.mem_flatMap.2 ⟨_,gM Ar,List.mem_flatMap.2 ⟨_,gM Ah,hd⟩⟩);generalize es[i].cells[j]=c at CI Kz Kw;generalize cs.getD (i*k+j) undef=x at CI;cases CI with
     |val _ _ FO=>
      cases c with
      |kid=>exact FO.kid_no.elim|_=>exact .val _ _ (h.vrB hr FO Kz Kw)
     |kid0 t' k' a h0=>exact .kid0 _ _ a h0|kid t' k' xs b' cap AO k1 k2 k3 k4 k5 k6 k7 k8 k9=>exact .kid _ _ _ b' cap AO (cy k1 ⟨_,hm,ee,bcap,he,Al⟩) k2 k3 k4 k5 k6 k7 k8 fun i hi j hj=>(k9 i hi j hj).mono (lR _) (fun b _ hb=>J0 b hb) (fun _ _ _=>rfl)
   |box cs=>
    obtain⟨q1,q2,b,c,vs,t,q3,q4,q5,q6⟩:=A8;refine⟨q1,?_,b,c,vs,t,q3,q4,by simpa using q5,fun j hj=>?_⟩
    .intro j hj;simp only[List.getElem_map];exact Zm (h2 _ (gM _))
    have Ah:j<cs.length:=vx2;simp only[List.getElem_map];exact h.vrB hr (q6 j Ah) (h2 _ (gM _)) fun d hd=>ey d (List.mem_flatMap.2 ⟨_,gM Ah,hd⟩)
   |mp es=>exact A8|ms es=>obtain⟨q1,b,c,vs,cl,q3,q4,q5,q6⟩:=A8;exact⟨q1,b,c,vs,cl,q3,q4,q5,fun i m p hm hp=>⟨(q6 i m p hm hp).1,(q6 i m p hm hp).2.1,LX.vr h2 hp (q6 i m p hm hp).2.2⟩⟩
   |bd t e bs=>obtain⟨q1,b,c,p,v,q3,q4,q5,q6⟩:=A8;exact⟨q1,b,c,p,v,q3,q4,q5,q6.ext fun g hg=>⟨rfl,cy hg ⟨_,hm,ee,c,he,q3⟩⟩⟩
 .intro i j ei ej b c c' hi hj Ht BG;obtain⟨gi,a,ga,ee,h1,h2,rfl⟩:=Gm hi;obtain⟨gj,a',Li,Au,ET,GR,rfl⟩:=Gm hj;have:=hr.inj a a' ee Au b c c' h2 GR Ht BG;subst this;have h3:=CR.lk h.nm.n2 h1;rw[CR.lk h.nm.n2 ET] at h3;cases h3;rfl
 .intro i ei b c hi hb;obtain⟨gi,a,ga,ee,h1,h2,rfl⟩:=Gm hi;exact hr.lt _ _ _ _ h2 hb
 .intro i ei b c hi hb;obtain⟨gi,a,ga,ee,h1,h2,rfl⟩:=Gm hi;exact IH _ h1 b (.inl ⟨ee,c,h2,hb⟩)
 .intro b B c hk;obtain⟨h1,q,hq,ee,cc,h2,h3⟩:=PY hk;exact⟨(hr.kl _ _ _ h1).1,(hr.kl _ _ _ h1).2.1,IH _ hq b (.inr ⟨B,c,ee,cc,h1,h2,h3⟩)⟩
 .intro b ho;obtain⟨q,hq,ee,c,h1,h2⟩:=Ws ho;cases hk:(eN τ e z').kid b with
  |none=>rfl|some p=>have:=hr.ko b ⟨_,ee,c,h1,h2⟩;rw[(PY (B:=p.1) (c:=p.2) hk).1] at this;cases this
 intro b B c hk;obtain⟨h1,q,hq,ee,cc,h2,h3⟩:=PY hk;cases CV:(eN τ e z').kid B with
 |none=>rfl|some p=>have:=hr.ko B ⟨_,ee,cc,h2,h3⟩;rw[(PY (B:=p.1) (c:=p.2) CV).1] at this;cases this
end
open Go Go.Great
structure PD (e:An) (w w':World):Prop where
 os:w'.os=w.os
 tape:w'.tape=w.tape
 output:w'.output=w.output
 size:w.heap.size<=w'.heap.size
 same:∀b,b<w.heap.size->¬AQ e b->w'.heap[b]?=w.heap[b]?
 drawn:w.drawn<=w'.drawn
def Enters (P:Program) (f:FuncId):Prop:=∃fn,P.funcs[f]?=some fn/\(fn.name== "runtime.NumGoroutine")=false/\fn.body.isNone=false
def Ag (P:Program) (T:AE) (f:FuncId) (hp:Hp) (az:List AV) (hp':Hp) (r:AV):Prop:=
 Enters P f/\∀(w:World) (e:An) (vals:Array Value),AU w e (Az 1) hp->(∀b,e.z b->b<w.heap.size)->Gg T w (UE e)->az.length=vals.size->
  (∀i (h:i<az.length),VR w (UE e) e (Az 1) az[i] (vals.getD i undef))->
  Calls P f vals w fun en w'=>∃v e',en= .returned v/\AU w' e' (Az 2) hp'/\VR w' (UE e') e' (Az 2) r v/\AB w e (Az 1) w' e' (Az 2)/\e'.z=e.z/\
   (∀b,AQ e' b->w.heap.size<=b\/AQ e b)/\PD e w w'
def SJ:AV->Prop
 | .lit _=>True|_=>False
def Cu (keep:Bool) (L:List Nat):AV->Prop
 | .l id _ _ _=>id∈L| .p id _ _ _ _=>id∈L| .mpO id _=>id∈L| .lit _| .gl _| .ifn| .anyI _=>True| .sl es full=>keep=false\/(es=[]/\full=true)| .kid _ _ es=>keep=false\/∀e∈es,∀c∈e.cells,SJ c| .bad=>True| .fn _ cs=>keep=false/\∀c∈cs,match c with| .l id _ _ _=>id∈L| .p id _ _ _ _=>id∈L| .lit _| .sl _ _| .P _| .gl _=>True|_=>False
 | .P _=>keep=false|_=>False
def S8 (keep:Bool) (L:List Nat) (v:AV):Prop:=∀c∈v.cells,Cu keep L c
def FA (keep:Bool) (L:List Nat):AV->Prop
 | .tup vs=>∀v∈vs,S8 keep L v|v=>S8 keep L v
def Px (keep:Bool) (L:List Nat):Ob->Prop
 | .own _ _ es=>∀e∈es,S8 keep L e| .box cs=>∀c∈cs,Cu keep L c| .mp _=>True| .ms es=>LX es| .bd _ _ _=>True
def LR (keep:Bool) (L:List Nat):Hp->Prop
 |[]=>True|(_,some (_,ob))::h=>Px keep L ob/\LR keep L h|(_,none)::h=>LR keep L h
theorem ZS {keep:Bool} {L:List Nat}:∀{hp:Hp},LR keep L hp->∀{i g:Nat} {ob:Ob},hp.get i=some (g,ob)->Px keep L ob
 |[],_,_,_,_,h=>vx0|(j,none)::hp,h,i,g,ob,hg=>by
  simp only[Hp.get] at hg;split at hg
  .cases hg
  exact ZS (hp:=hp) h hg
 |(j,some (g',Gc))::hp,h,i,g,ob,hg=>by
  simp only[Hp.get] at hg;split at hg
  .cases hg;exact h.1
  exact ZS (hp:=hp) h.2 hg
section
variable {C:Cx} {e:An} {G G':Nat->Prop} {g:Nat} {hp:Hp} {w:World} {T:AE}
theorem xX {w:World} {U U':Nat->Prop} {c:AV} {x:Value} (h:SJ c) (hv:VD w U c x):VD w U' c x:=by cases hv<;>first|exact .lit _ (by assumption)|exact h.elim
theorem Vt {w:World} {e1 e2:An} {G:Nat->Prop} {keep:Bool} {L:List Nat} (hU:keep=false->∀b,UE e1 b->UE e2 b) (hm:∀id∈L,e2 id=e1 id) {v:AV} {x:Value} (hv:VR w (UE e1) e1 G v x) (h:Cu keep L v):
  VR w (UE e2) e2 G v x:=by
 have drop:∀{v:AV} {x:Value},keep=false->VD w (UE e1) v x->VD w (UE e2) v x:=fun hk hv=>hv.mono (lR _) (fun b _ hb=>hU hk b hb) (fun _ _ _=>rfl);cases v with
 |l id g' off len=>obtain⟨h1,h2,h3⟩:=hv.slO_inv;exact .l _ _ _ _ _ h1 h2 fun ee he=>h3 ee ((hm id h).symm.trans he)
 |p id g' n i off=>obtain⟨h1,h2,h3⟩:=hv.ptO_inv;exact .p _ _ _ _ _ _ h1 h2 fun ee he=>h3 ee ((hm id h).symm.trans he)
 |mpO id g'=>obtain⟨h1,h2,h3⟩:=hv.mpO_inv;exact .mpO _ _ _ h1 h2 fun ee he=>h3 ee ((hm id h).symm.trans he)
 |lit v=>obtain⟨rfl,h1⟩:=hv.lit_inv;exact .dat _ _ (.lit _ h1)
 |gl g'=>rw[hv.gl_inv];exact .dat _ _ (.gl _)|ifn=>cases hv with|dat _ _ hv=>cases hv;exact .dat _ _ (.ifn _ _)
 |anyI k=>cases hv with|dat _ _ hv=>cases hv;exact .dat _ _ (.anyI _ _)
 |sl es full=>
  rcases h with hk|⟨rfl,rfl⟩
  .exact .dat _ _ (drop hk hv.sl_inv)
  obtain⟨a,cap,rfl,_,hc⟩:=hv.slice_cap;rw[hc rfl];exact .dat _ _ (.nil _ _)
 |kid t k es=>exact hv.kid_no.elim|bad=>exact .dat _ _ (.bad _)|P cs=>exact .dat _ _ (drop h hv.ptI_inv)|fn f cs=>
  obtain⟨hk,h⟩:=h;obtain⟨vs,rfl,q1,q2⟩:=Rq hv;refine .fn _ _ _ q1 fun i hi=>?_;have h1:=h _ (gM hi);have h2:=q2 i hi;generalize cs[i]=c at h1 h2;generalize vs.getD i undef=x at h2;cases c with
  |l id g' off len=>obtain⟨k1,k2,k3⟩:=h2.slO_inv;exact .l _ _ _ _ _ k1 k2 fun ee he=>k3 ee ((hm id h1).symm.trans he)
  |p id g' n i off=>obtain⟨k1,k2,k3⟩:=h2.ptO_inv;exact .p _ _ _ _ _ _ k1 k2 fun ee he=>k3 ee ((hm id h1).symm.trans he)
  |lit v=>obtain⟨rfl,k1⟩:=h2.lit_inv;exact .dat _ _ (.lit _ k1)
  |gl g'=>rw[h2.gl_inv];exact .dat _ _ (.gl _)|sl es full=>exact .dat _ _ (drop hk h2.sl_inv)|P cs=>exact .dat _ _ (drop hk h2.ptI_inv)|_=>exact h1.elim
 |_=>exact h.elim
theorem kE {w:World} {e1 e2:An} {G:Nat->Prop} {keep:Bool} {L:List Nat} (hU:keep=false->∀b,UE e1 b->UE e2 b) (hm:∀id∈L,e2 id=e1 id) {v:AV} {x:Value} (hv:VR w (UE e1) e1 G v x) (h:S8 keep L v):
  VR w (UE e2) e2 G v x:=by
 cases v with
 |agg cs=>obtain⟨vs,rfl,hl,q1,q2⟩:=hv.agg_inv;exact .agg _ _ hl q1 fun i hi=>Vt hU hm (q2 i hi) (h _ (gM hi))
 |_=>exact Vt hU hm hv (h _ mS)
theorem Qgx {w:World} {e1 e2:An} {G:Nat->Prop} {keep:Bool} {L:List Nat} (hU:keep=false->∀b,UE e1 b->UE e2 b) (hm:∀id∈L,e2 id=e1 id) {v:AV} {x:Value} (hv:VR w (UE e1) e1 G v x) (h:FA keep L v):
  VR w (UE e2) e2 G v x:=by
 cases v with
 |tup cs=>obtain⟨vs,rfl,q1,q3⟩:=hv.tup_inv;exact .tup _ _ q1 fun i hi=>kE hU hm (q3 i hi) (h _ (gM hi))
 |_=>exact kE hU hm hv h
theorem Qgw {w:World} {e1 e2:An} {G:Nat->Prop} {keep:Bool} {L:List Nat} (hU:keep=false->∀b,UE e1 b->UE e2 b) (hm:∀id∈L,e2 id=e1 id) {ob:Ob} {ee:EE} (ho:Gh w e1 G ob ee) (h:Px keep L ob)
  (hk:∀b c b' c',ee.blk=some (b,c)->e1.kid b'=some (b,c')->e2.kid b'=some (b,c')):Gh w e2 G ob ee:=by
 cases ob with
 |own t k es=>
  obtain⟨h1,h2,h3,h4,h5,h6⟩:=ho;refine⟨h1,h2,h3,h4,h5,?_⟩;cases Al:ee.blk with
  |none=>rw[Al] at h6;exact h6|some p=>
   obtain⟨b,bcap⟩:=p;rw[Al] at h6;obtain⟨h7,h8,cs,h9,C8,C9⟩:=h6;refine⟨h7,h8,cs,h9,C8,fun i hi j hj=>?_⟩;have CI:=C9 i hi j hj;have ht:=h _ (gM hi) _ (gM hj);generalize es[i].cells[j]=c at CI ht;generalize cs.getD (i*k+j) undef=x at CI;cases CI with
   |val _ _ FO=>exact .val _ _ (Vt hU hm FO ht)|kid0 _ _ a h0=>exact .kid0 _ _ a h0|kid t' k' xs b' cap AO k1 k2 k3 k4 k5 k6 k7 k8 k9=>
    refine .kid _ _ _ b' cap AO (hk b bcap b' _ Al k1) k2 k3 k4 k5 k6 k7 k8 fun a ha c hc=>?_;rcases ht with ht|ht
    .exact(k9 a ha c hc).mono (lR _) (fun b _ hb=>hU ht b hb) (fun _ _ _=>rfl)
    exact xX (ht _ (gM ha) _ (gM hc)) (k9 a ha c hc)
 |box cs=>obtain⟨h1,h2,b,c,vs,t,h3,h4,h5,h6⟩:=ho;exact⟨h1,h2,b,c,vs,t,h3,h4,h5,fun j hj=>Vt hU hm (h6 j hj) (h _ (gM hj))⟩
 |mp es=>exact ho|ms es=>obtain⟨q1,b,c,vs,cl,q3,q4,q5,q6⟩:=ho;exact⟨q1,b,c,vs,cl,q3,q4,q5,fun i m p hm hp=>⟨(q6 i m p hm hp).1,(q6 i m p hm hp).2.1,LX.vr h hp (q6 i m p hm hp).2.2⟩⟩
 |bd t e bs=>obtain⟨q1,b,c,p,v,q3,q4,q5,q6⟩:=ho;exact⟨q1,b,c,p,v,q3,q4,q5,q6.ext fun g hg=>⟨rfl,hk b c g _ q3 hg⟩⟩
section
open Classical in
noncomputable def eJ (e e1:An) (L:List Nat):An:=
 ⟨fun id=>if id∈L then e1 id else e id,e.z,
  fun b=>match e1.kid b with
  |some q=>some q|none=>match e.kid b with
   |some (B,c)=>if ∃id,id∉L/\∃ee cc,e id=some ee/\ee.blk=some (B,cc) then some (B,c) else none
   |none=>none⟩
end
theorem yj (p:Bt C e G g hp w) {w':World} {e0 e1:An} {hp1 hp2:Hp} {L D:List Nat} {keep:Bool} {τ:Nm} (BJ:AU w' e1 (gadd G g) hp1) (FH:∀b,AQ e0 b->∃id,lk τ id≠none/\D7 e id b)
  (FP:∀b,e.z b->e1.z b) (HK:∀id b,id∉D->lk τ id=none->D7 e id b->e1.z b) (DS:∀b,AQ e1 b->w.heap.size<=b\/AQ e0 b) (Mo:∀b B c,e1.kid b=some (B,c)->BN e1 B) (B8:PD e0 w w')
  (RZ:∀id Au,e1 id=some Au->G Au.g->∃ee,e id=some ee/\ee.g=Au.g/\ee.k=Au.k/\((ee.n=Au.n/\ee.blk=Au.blk)\/ee.n<Au.n))
  (hLτ:∀id,lk τ id≠none->id∈L) (Kx:∀id,e1 id≠none->id∈L) (tc:keep=false->∀id∈D,id∈L) (DP:∀id,hp2.get id=if id∈L then hp1.get id else hp.get id) (wT:LR keep L hp1):
  ∃e2,AU w' e2 (gadd G g) hp2/\AB w e G w' e2 (gadd G g)/\Ew C w' e2 (gadd G g)/\HU C w'/\(∀v x,FA keep L v->VR w' (UE e1) e1 (gadd G g) v x->VR w' (UE e2) e2 (gadd G g) v x):=by
 have eL:∀id,id∈L->eJ e e1 L id=e1 id:=fun id h=>by simp only[eJ,iP h]
 have eR:∀id,id∉L->eJ e e1 L id=e id:=fun id h=>by simp only[eJ,iN h]
 have kd1:∀b q,e1.kid b=some q->(eJ e e1 L).kid b=some q:=fun b q h=>by simp only[eJ,h]
 have kd2:∀b B c,(eJ e e1 L).kid b=some (B,c)->e1.kid b=some (B,c)\/(e.kid b=some (B,c)/\∃id,id∉L/\∃ee cc,e id=some ee/\ee.blk=some (B,cc)):=by
  intro b B c h;simp only[eJ] at h;split at h
  .rename_i q hq;cases h;exact .inl hq
  split at h
  .rename_i B' c' hk;split at h
   .rename_i hx;cases h;exact .inr ⟨hk,hx⟩
   cases h
  cases h
 have L0:∀b,b<w.heap.size->AQ e1 b->∃id,id∈L/\D7 e id b:=by
  intro b Aa ho;rcases DS b ho with h|h
  .omega
  obtain⟨id,h1,h2⟩:=FH b h;exact⟨id,hLτ id h1,h2⟩
 have kd3:∀b B c,e.kid b=some (B,c)->(∃id,id∉L/\∃ee cc,e id=some ee/\ee.blk=some (B,cc))->(eJ e e1 L).kid b=some (B,c):=by
  rintro b B c hk ⟨id,hid,ee,cc,h1,h2⟩;cases h3:e1.kid b with
  |some q=>obtain⟨Br,h4,h5⟩:=L0 b (p.hr.kl _ _ _ hk).1 (.inr ⟨q.1,q.2,h3,Mo _ _ q.2 h3⟩);have:=D7.uniq p.hr h5 (.inr ⟨B,c,ee,cc,hk,h1,h2⟩);subst this;exact absurd h4 hid
  |none=>simp only[eJ,h3,hk];rw[iP ⟨id,hid,ee,cc,h1,h2⟩]
 have objJ:∀b,BN (eJ e e1 L) b->(∃id∈L,∃ee c,e1 id=some ee/\ee.blk=some (b,c))\/(∃id,id∉L/\∃ee c,e id=some ee/\ee.blk=some (b,c)):=by
  rintro b ⟨id,ee,c,h1,h2⟩;by_cases h:id∈L
  .rw[eL id h] at h1;exact .inl ⟨id,h,ee,c,h1,h2⟩
  rw[eR id h] at h1;exact .inr ⟨id,h,ee,c,h1,h2⟩
 have ownJ:∀b,AQ (eJ e e1 L) b->AQ e1 b\/(∃id,id∉L/\D7 e id b):=by
  rintro b (ho|⟨B,c,hk,ho⟩)
  .rcases objJ b ho with ⟨id,_,ee,c,h1,h2⟩|⟨id,h0,ee,c,h1,h2⟩
   .exact .inl (.inl ⟨id,ee,c,h1,h2⟩)
   exact .inr ⟨id,h0, .inl ⟨ee,c,h1,h2⟩⟩
  rcases kd2 _ _ _ hk with h|⟨h,id,h0,ee,cc,h1,h2⟩
  .exact .inl (.inr ⟨B,c,h,Mo _ _ _ h⟩)
  exact .inr ⟨id,h0, .inr ⟨B,c,ee,cc,h,h1,h2⟩⟩
 have ownJe:∀b,b<w.heap.size->AQ (eJ e e1 L) b->AQ e b:=by
  intro b Aa ho;rcases ownJ b ho with h|⟨id,_,h⟩
  .obtain⟨id,_,h⟩:=L0 b Aa h;exact h.own
  exact h.own
 have same:∀b,b<w.heap.size->¬AQ e b->w'.heap[b]?=w.heap[b]?:=fun b Aa hn=>B8.same b Aa fun ho=>by obtain⟨id,_,h⟩:=FH b ho;exact hn h.own
 have sameR:∀id b,id∉L->D7 e id b->w'.heap[b]?=w.heap[b]?:=fun id b hid ho=>B8.same b (p.hr.own_lt ho.own) fun HF=>by obtain⟨Br,h1,h⟩:=FH b HF;have:=D7.uniq p.hr ho h;subst this;exact hid (hLτ _ h1)
 have ext:AB w e G w' (eJ e e1 L) (gadd G g):=by
  refine AB.mk' B8.size (fun _ h=> .inl h) rfl ownJe same fun id Au AP hG=>?_;by_cases h:id∈L
  .rw[eL id h] at AP;exact RZ id Au AP hG
  rw[eR id h] at AP;exact⟨Au,AP,rfl,rfl, .inl ⟨rfl,rfl⟩⟩
 have hU:keep=false->∀b,UE e1 b->UE (eJ e e1 L) b:=by
  intro hk b hb;refine⟨fun hz=>hb.1 (FP b hz),fun ho=>?_⟩;rcases ownJ b ho with h|⟨id,h0,h⟩
  .exact hb.2 h
  refine hb.1 (HK id b (fun hd=>h0 (tc hk id hd)) ?_ h);cases hl:lk τ id with
  |none=>rfl|some q=>exact absurd (hLτ id (by rw[hl];simp)) h0
 have koJ:∀b,BN (eJ e e1 L) b->(eJ e e1 L).kid b=none:=by
  intro b ho;cases hk:(eJ e e1 L).kid b with
  |none=>rfl|some q=>
   exfalso;rcases kd2 b q.1 q.2 hk with h|⟨h,Br,Ry,Au,pf,ET,GR⟩<;>rcases objJ b ho with ⟨id,hid,ee,c,h1,h2⟩|⟨id,h0,ee,c,h1,h2⟩
   .have:=BJ.ko b ⟨id,ee,c,h1,h2⟩;rw[h] at this;cases this
   .have Aa:=p.hr.lt _ _ _ _ h1 h2;obtain⟨id2,h3,h4⟩:=L0 b Aa (.inr ⟨q.1,q.2,h,Mo _ _ q.2 h⟩);have:=D7.uniq p.hr h4 (.inl ⟨ee,c,h1,h2⟩);subst this;exact h0 h3
   .obtain⟨id2,h3,h4⟩:=L0 b (p.hr.kl _ _ _ h).1 (.inl ⟨id,ee,c,h1,h2⟩);have:=D7.uniq p.hr h4 (.inr ⟨q.1,q.2,Au,pf,h,ET,GR⟩);subst this;exact Ry h3
   have:=p.hr.ko b ⟨id,ee,c,h1,h2⟩;rw[h] at this;cases this
 have hm:∀id∈L,eJ e e1 L id=e1 id:=eL;have ltn:∀id ee b c,e1 id=some ee->ee.blk=some (b,c)->∀Br,Br∉L->∀Au c',e Br=some Au->Au.blk=some (b,c')->False:=by intro id ee b c h1 h2 Br h0 Au c' ET GR;obtain⟨id2,h3,h4⟩:=L0 b (p.hr.lt _ _ _ _ ET GR) (.inl ⟨id,ee,c,h1,h2⟩);have:=D7.uniq p.hr h4 (.inl ⟨Au,c',ET,GR⟩);subst this;exact h0 h3
 refine⟨eJ e e1 L,?_,ext,p.ln.step p.fr.size ext rfl ownJe,p.fr.step p.ln B8.os B8.tape B8.output B8.size same B8.drawn,fun v x ht hv=>Qgx hU hm hv ht⟩;constructor
 .intro id hid;rw[DP] at hid;by_cases h:id∈L
  .rw[iP h] at hid;rw[eL id h];exact BJ.dead id hid
  rw[iN h] at hid;rw[eR id h];exact p.hr.dead id hid
 .intro id g' ob hid;rw[DP] at hid;by_cases h:id∈L
  .rw[iP h] at hid;obtain⟨ee,h1,h2,h3,h4⟩:=BJ.live id g' ob hid;exact⟨ee,(eL id h).trans h1,h2,h3,Qgw hU hm h4 (ZS wT hid) fun b c b' c' hb hk=>kd1 _ _ hk⟩
  rw[iN h] at hid;obtain⟨ee,h1,h2,h3,h4⟩:=p.hr.live id g' ob hid;refine⟨ee,(eR id h).trans h1,h2, .inl h3,h4.ext ext fun b c hb=>⟨sameR id b h (.inl ⟨ee,c,h1,hb⟩),fun b' c' hk=>⟨sameR id b' h (.inr ⟨b,c',ee,c,hk,h1,hb⟩),kd3 _ _ _ hk ⟨id,h,ee,c,h1,hb⟩⟩⟩⟩
 .intro i j ei ej b c c' hi hj Ht BG;by_cases h1:i∈L<;>by_cases h2:j∈L
  .rw[eL i h1] at hi;rw[eL j h2] at hj;exact BJ.inj _ _ _ _ _ _ _ hi hj Ht BG
  .rw[eL i h1] at hi;rw[eR j h2] at hj;exact(ltn _ _ _ _ hi Ht _ h2 _ _ hj BG).elim
  .rw[eR i h1] at hi;rw[eL j h2] at hj;exact(ltn _ _ _ _ hj BG _ h1 _ _ hi Ht).elim
  rw[eR i h1] at hi;rw[eR j h2] at hj;exact p.hr.inj _ _ _ _ _ _ _ hi hj Ht BG
 .intro i ei b c hi hb;by_cases h1:i∈L
  .rw[eL i h1] at hi;exact BJ.lt _ _ _ _ hi hb
  rw[eR i h1] at hi;exact tL (p.hr.lt _ _ _ _ hi hb) B8.size
 .intro i ei b c hi hb;by_cases h1:i∈L
  .rw[eL i h1] at hi;exact fun hz=>BJ.nz _ _ _ _ hi hb (FP b hz)
  rw[eR i h1] at hi;exact p.hr.nz _ _ _ _ hi hb
 .intro b B c hk;rcases kd2 _ _ _ hk with h|⟨h,_⟩
  .obtain⟨q1,q2,q3⟩:=BJ.kl _ _ _ h;exact⟨q1,q2,fun hz=>q3 (FP b hz)⟩
  obtain⟨q1,q2,q3⟩:=p.hr.kl _ _ _ h;exact⟨tL q1 B8.size,tL q2 B8.size,q3⟩
 .exact koJ
 intro b B c hk;rcases kd2 _ _ _ hk with h|⟨h,id,h0,ee,cc,h1,h2⟩
 .obtain⟨id,ee,cc,h1,h2⟩:=Mo _ _ _ h;exact koJ B ⟨id,ee,cc,(eL id (Kx id (by rw[h1];simp))).trans h1,h2⟩
 exact koJ B ⟨id,ee,cc,(eR id h0).trans h1,h2⟩
end
open Go Go.Great
def Em (τ σ:Nm) (D:List Nat) (keep:Bool):List Nat:=τ.map (·.2.2.1)++(σ.map (·.1)++(if keep then[] else D))
structure PA (P:Program) (T:AE) (f:FuncId) (g:Nat) (hp:Hp) (vs:List AV) (τ σ:Nm) (D:List Nat) (keep:Bool) (hp1:Hp) (rc:AV):Prop where
 nmτ:CR τ
 gτ:∀q∈τ,q.2.1=0
 hpP:A9 true τ hp τ
 hpR:∀d∈AT true τ hp τ,d∈D
 vsP:∀v∈vs,B7 true τ hp v
 vsR:∀v∈vs,∀d∈Bl true τ hp v,d∈D
 dis:∀d∈D,lk τ d=none
 sat:Ag P T f (A7 true τ hp) (vs.map (Bw true τ hp)) hp1 rc
 nmσ:CR σ
 gσ:∀q∈σ,(q.2.2.2=0/\(q.2.2.1,0,q.1,q.2.1)∈τ)\/(q.2.2.2=1/\q.2.1=g)
 bP:A9 false σ hp1 σ
 bR:∀d∈AT false σ hp1 σ,False
 rP:B7 false σ hp1 rc
 rR:∀d∈Bl false σ hp1 rc,False
 trh:LR keep (Em τ σ D keep) (A7 false σ hp1)
 trr:FA keep (Em τ σ D keep) (Bw false σ hp1 rc)
def Wd (σ:Nm) (hp1:Hp) (rc:AV):AV:=Bw false σ hp1 rc
def Q8 (τ σ:Nm) (D:List Nat) (keep:Bool) (hp1:Hp):List Up:=A7 false σ hp1++drops ((Em τ σ D keep).filter fun i=>!(σ.map (·.1)).contains i)
theorem sh {l1 l2:Hp} {id:Nat}:(∃q∈l1,q.1=id)->Hp.get (l1++l2) id=Hp.get l1 id:=by
 induction l1 with
 |nil=>rintro⟨q,hq,_⟩;cases hq
 |cons p l1 ih=>
  obtain⟨j,x⟩:=p;rintro⟨q,hq,rfl⟩;simp only[List.cons_append,Hp.get];split
  .rfl
  rename_i Bj;refine ih ?_;rcases List.mem_cons.1 hq with rfl|hq
  .exact absurd rfl Bj
  exact⟨q,hq,rfl⟩
theorem sg {l1 l2:Hp} {id:Nat}:(∀q∈l1,q.1≠id)->Hp.get (l1++l2) id=Hp.get l2 id/\Hp.get l1 id=none:=by
 induction l1 with
 |nil=>exact fun _=>⟨rfl,rfl⟩|cons p l1 ih=>obtain⟨j,x⟩:=p;intro h;have h1:=h (j,x) mS;simp only[List.cons_append,Hp.get,iN h1];exact ih fun q hq=>h q (mC _ hq)
section
variable {C:Cx} {e:An} {G:Nat->Prop} {g:Nat} {hp:Hp} {w:World} {T:AE}
theorem bA (p:Bt C e G g hp w) (hC:Cn C T) {f:FuncId} {vs:List AV} {vals:Array Value} (Be:vs.length=vals.size) (EL:∀i (h:i<vs.length),VR w (UE e) e G vs[i] (vals.getD i undef))
  {τ σ:Nm} {D:List Nat} {keep:Bool} {hp1:Hp} {rc:AV} (h:PA C.P T f g hp vs τ σ D keep hp1 rc):
  Enters C.P f/\Calls C.P f vals w fun en w'=>∃v,en= .returned v/\Bb C e G g hp w (True,Wd σ hp1 rc,Q8 τ σ D keep hp1) (.ok (.value v) w'):=by
 let z':Nat->Prop:=fun b=>e.z b\/∃id,id∉D/\lk τ id=none/\D7 e id b
 have rk:Ff true e hp (Az 1) τ D z':=⟨h.nmτ,h.hpP,h.hpR,h.dis,fun q hq=>by rw[h.gτ q hq];exact Nat.zero_lt_one,fun b hb=> .inl hb,fun b hb=>hb⟩;have Mu:=rk.rel p.hr;have I8:=rk.frz p.hr;have e0z:(eN τ e z').z=z':=rfl;refine⟨h.sat.1,(h.sat.2 w (eN τ e z') vals Mu ?_ ?_ (by simpa using Be) ?_).mono ?_⟩
 .rintro b (hb|⟨id,_,_,ho⟩)
  .rw[p.ln.zeq] at hb;exact tL (p.ln.zlt b hb) p.fr.size
  exact p.hr.own_lt ho.own
 .exact(hC.gl.mono p.ln.ext.size p.ln.ext.un p.ln.ext.same).mono (lR _) (fun b _ hb=>I8.un b hb) (fun _ _ _=>rfl)
 .intro i hi;have Ar:i<vs.length:=vv5;simp only[List.getElem_map];exact rk.vrt p.hr (EL i Ar) (h.vsP _ (gM Ar)) (h.vsR _ (gM Ar))
 rintro en w' ⟨v,e1,rfl,BJ,Jg,G7,FP,Qo,C1⟩;refine⟨v,rfl,?_⟩;have live:∀q∈τ,∃ee,e q.2.2.1=some ee/\ee.g=q.2.2.2/\G q.2.2.2:=by intro q hq;obtain⟨ob,h1,_⟩:=Hg h.hpP (show(q.1,q.2.1,q.2.2.1,q.2.2.2)∈τ from hq);obtain⟨ee,h2,h3,h4,_⟩:=p.hr.live _ _ _ h1;exact⟨ee,h2,h3,h4⟩
 have rk1:Ff false e1 hp1 (gadd G g) σ [] e1.z:=by
  refine⟨h.nmσ,h.bP,fun d hd=>(h.bR d hd).elim,fun d hd=>(by cases hd),fun q hq=>?_,fun b hb=>hb,fun b hb=> .inl hb⟩;rcases h.gσ q hq with ⟨_,h2⟩|⟨_,h2⟩
  .obtain⟨_,_,_,h3⟩:=live _ h2;exact .inl h3
  exact .inr h2
 have BE:=rk1.rel BJ;have Gy:=rk1.vrt BJ Jg h.rP fun d hd=>(h.rR d hd).elim;have memL:∀id,id∈Em τ σ D keep↔(∃q∈τ,q.2.2.1=id)\/(∃q∈σ,q.1=id)\/(keep=false/\id∈D):=by intro id;simp only[Em,List.mem_append,List.mem_map];cases keep<;>simp
 have lkmem:∀id,lk τ id≠none->∃q∈τ,q.2.2.1=id:=by
  intro id hn;cases hl:lk τ id with
  |none=>exact absurd hl hn|some q=>exact⟨_,SO (show lk τ id=some (q.1,q.2.1,q.2.2) from hl),rfl⟩
 obtain⟨e2,k1,k2,k3,k4,k5⟩:=yj p (w':=w') (e0:=eN τ e z') (e1:=eN σ e1 e1.z) (hp1:=A7 false σ hp1) (hp2:=Q8 τ σ D keep hp1++hp) (L:=Em τ σ D keep) (D:=D) (keep:=keep) (τ:=τ) BE
  (fun b ho=>by
   obtain⟨q,hq,h1⟩:=Km ho;exact⟨_,by rw[CR.lk h.nmτ.n2 (show(q.1,q.2.1,q.2.2.1,q.2.2.2)∈τ from hq)];simp,h1⟩)
  (fun b hb=>by show e1.z b;rw[FP];exact .inl hb)
  (fun id b h1 h2 h3=>by show e1.z b;rw[FP];exact .inr ⟨id,h1,h2,h3⟩)
  (fun b ho=>by
   obtain⟨q,hq,h1⟩:=Km ho;exact Qo b h1.own)
  (fun b B c hk=>by
   obtain⟨_,q,hq,ee,cc,h1,h2⟩:=PY hk;exact⟨q.1,_,cc,cA h.nmσ (show(q.1,q.2.1,q.2.2.1,q.2.2.2)∈σ from hq) h1,h2⟩)
  C1
  (fun id Au AP hG=>by
   obtain⟨g',i,gi,ee1,hm,h1,rfl⟩:=Gm AP;rcases h.gσ _ hm with ⟨h2,h3⟩|⟨h2,h3⟩
   ·simp only at h2 h3;obtain⟨ob,h4,_⟩:=Hg h.bP hm;obtain⟨ee1',h5,h6,_⟩:=BJ.live _ _ _ h4;rw[h1] at h5;cases h5;rw[h2] at h6;obtain⟨ee0,h7,h8,h9,C8⟩:=G7.ent i ee1 h1 (by rw[h6];exact Nat.zero_lt_one);obtain⟨Lj,a,ga,ee,C9,F1,rfl⟩:=Gm h7;have Ll:=CR.bw h.nmτ.n1 C9;rw[CR.bw h.nmτ.n1 h3] at Ll;cases Ll
    obtain⟨Au,On,Nn,_⟩:=live _ C9;simp only at On Nn;rw[F1] at On;cases On;exact⟨ee,F1,Nn,h9,C8⟩
   simp only at h3;subst h3;exact absurd hG p.ng)
  (fun id hn=>(memL id).2 (.inl (lkmem id hn)))
  (fun id hn=>by
   cases he:eN σ e1 e1.z id with
   |none=>exact absurd he hn|some ee=>
    obtain⟨g',i,gi,ee1,hm,_,_⟩:=Gm he;exact(memL id).2 (.inr (.inl ⟨_,hm,rfl⟩)))
  (fun hk id hd=>(memL id).2 (.inr (.inr ⟨hk,hd⟩)))
  (fun id=>by
   unfold Q8;rw[List.append_assoc];by_cases hs:∃q∈A7 false σ hp1,q.1=id
   ·rw[sh hs];obtain⟨q,hq,rfl⟩:=hs;simp only[A7,List.mem_map] at hq;obtain⟨q',wz,rfl⟩:=hq;rw[iP ((memL _).2 (.inr (.inl ⟨q',wz,rfl⟩)))]
   obtain⟨h1,h2⟩:=sg (l1:=A7 false σ hp1) (l2:=drops ((Em τ σ D keep).filter fun i=>!(σ.map (·.1)).contains i)++hp) (id:=id) fun q hq heq=>hs ⟨q,hq,heq⟩;rw[h1,h2];unfold drops;rw[Nl];have Dm:¬∃q∈σ,q.1=id:=by rintro⟨q,hq,rfl⟩;exact hs ⟨_,List.mem_map.2 ⟨q,hq,rfl⟩,rfl⟩
   have hc:(σ.map (·.1)).contains id=false:=by rw[Bool.eq_false_iff];intro hc;simp only[List.contains_iff_mem,List.mem_map] at hc;exact Dm hc
   by_cases hL:id∈Em τ σ D keep
   ·rw[iP (List.mem_filter.2 ⟨hL,by simp only[hc,Bool.not_false]⟩),iP hL]
   rw[iN (fun h=>hL (List.mem_filter.1 h).1),iN hL])
  h.trh
 exact⟨_,w',e2,rfl,k1,k2,k3,k4, .inl ⟨v,rfl,k5 _ _ h.trr Gy⟩⟩
end
open Go Go.Great
def Gp (rd:Option Nat):Fence:={Fence.wide with round:=rd}
theorem qI {rd:Option Nat} {P:Program} {f:FuncId} {args:Array Value} {w:World} {R:Ending->World->Prop} (h:Calls P f args w R):CallsIn (Gp rd) 0 P f args w R:=
 (callsIn_wide (n:=0)).2 h
theorem cT {rd:Option Nat} {P:Program} {o:Oper} {a:Act} {next:Act->World->Prop} {Q:Exit->Act->World->Prop} {f:FuncId} {args:Array Value} {w:World}
  (h:Calls P f args w fun
   | .returned v,w''=>next (a.put o.dst v) w''| .panicked chain,w''=>Q (.panic chain) a w''
   | .outgrown,_=>LetsOut Q):o.uponIn (Gp rd) 0 P a next Q (.ok (.enter f args) w):=by
 rw[Oper.uponIn_enter];exact⟨fun h=>vx0,qI h⟩
def BS (C:Cx) (s:St) (a:Act) (w:World):Prop:=GJ C (Az s.ck) s.tm s.hp a w
def St.put (s:St) (dst:Option Nat) (v:AV) (ups:List Up):St:=
 ⟨match dst with|some d=>(d,v)::s.tm|none=>s.tm,ups++s.hp,s.ck+1⟩
def Mf (s:St) (xs:Array Operand):List AV:=xs.toList.map s.ev
def IR (P:Program) (T:AE) (f:FuncId) (g:Nat) (hp:Hp) (vs:List AV) (K:AV->List Up->List Nat->Prop):Prop:=
 ∃τ σ D keep hp1 rc,PA P T f g hp vs τ σ D keep hp1 rc/\K (Wd σ hp1 rc) (Q8 τ σ D keep hp1) (τ.map (·.2.2.1)++D)
@[congr] theorem Qhj {P:Program} {T:AE} {f:FuncId} {g g':Nat} {hp hp':Hp} {vs LU:List AV} {K:AV->List Up->List Nat->Prop} (hg:g=g') (hh:hp=hp') (h':vs=LU):IR P T f g hp vs K=IR P T f g' hp' LU K:=by rw[hg,hh,h']
def GK (b want:Bool) (A B:Prop):Prop:=(b=want->A)/\(b≠want->B)
@[congr] theorem Qhk {b b' want:Bool} {A B:Prop} (h:b=b'):GK b want A B=GK b' want A B:=xv5
def GM (x:Option AV) (want:Bool) (A B:Prop):Prop:=
 match x with
 |some (.lit (.bool b))=>GK b want A B|some (.tup [])=>B|_=>False
@[congr] theorem Qhl {x x':Option AV} {want:Bool} {A B:Prop} (h:x=x'):GM x want A B=GM x' want A B:=xv5
def KW (P:Program) (T:AE) (o:Oper) (s:St) (K:St->Prop):Prop:=
 match o.op with
 | .call {callee:= .value f,args,argTypes:=_}=>match Nh (s.ev f) (Mf s args) with
  |some (fid,vs)=>IR P T fid s.ck s.hp vs fun v ups _=>K (s.put o.dst v ups)|none=>False
 |_=>(Bu T o s.ev s.hp s.ck).1/\K (s.put o.dst (Bu T o s.ev s.hp s.ck).2.1 (Bu T o s.ev s.hp s.ck).2.2)
def IX (ops:List Oper) (j:Nat):Option Nat:=(ops[j]?).bind (·.dst)
def DX (P:Program) (T:AE) (all:List Oper):List Oper->St->(St->Prop)->Prop
 |[],s,K=>K s|o::Ae,s,K=>
  match o.guard with
  |none=>KW P T o s fun s'=>DX P T all Ae s' K|some (j,want)=>GM ((IX all j).map (AC s.tm)) want (KW P T o s fun s'=>DX P T all Ae s' K) (DX P T all Ae (s.put o.dst (.tup []) []) K)
theorem i6 {T:AE} {o:Oper} {ev:Operand->AV} {hp:Hp} {g:Nat} (h:(Bu T o ev hp g).1):∀c,o.op≠ .defer c:=by intro c hc;obtain⟨dst,op,type,pos,after,guard⟩:=o;simp only at hc;subst hc;exact h.elim
section
variable {C:Cx} {T:AE}
theorem I1 (n:Nat):gadd (Az n) n=Az (n+1):=by
 funext g
 simp only[gadd,Az,eq_iff_iff];omega
theorem Me {e:An} {G:Nat->Prop} {w:World} {s:St} {a:Act} (h:∀t,VR w (UE e) e G (AC s.tm t) (a.tmps.getD t undef)):∀x,VR w (UE e) e G (s.ev x) (a.eval x):=by
 intro x;cases x with
 |tmp t=>exact h t|const v=>exact .dat _ _ (VD.ofV v)
 |func f=>exact .dat _ _ (.fn f [] #[] rfl (fun i hi=>vy6))
 |global g=>exact .dat _ _ (.gl g)
theorem QN {s:St} {a:Act} {w w':World} (hrel:BS C s a w) {e e':An} (hv:∀t,VR w (UE e) e (Az s.ck) (AC s.tm t) (a.tmps.getD t undef)) {ups:List Up} {v:AV} {xv:Value} {dst:Option Nat} (Hx:dst.getD 0<C.N)
  (h1:AU w' e' (Az (s.ck+1)) (ups++s.hp)) (h2:AB w e (Az s.ck) w' e' (Az (s.ck+1))) (h3:Ew C w' e' (Az (s.ck+1))) (h4:HU C w') (h5:VR w' (UE e') e' (Az (s.ck+1)) v xv):
  BS C (s.put dst v ups) (a.put dst xv) w':=by
 refine⟨?_,?_,h4,e',h1,h3,fun t=>?_⟩
 .cases dst<;>exact hrel.defers
 .cases dst with
  |none=>exact hrel.size|some d=>simp only[Act.put,Array.size_setIfInBounds];exact hrel.size
 cases dst with
 |none=>exact(hv t).ext h2|some d=>
  simp only[St.put,AC,Act.put];by_cases h:d=t
  .subst h;rw[iP rfl];have hd:d<a.tmps.size:=by rw[hrel.size];exact Hx
   rw[gA,Array.getElem?_setIfInBounds_self_of_lt hd];exact h5
  rw[iN h];have:(a.tmps.setIfInBounds d xv).getD t undef=a.tmps.getD t undef:=by rw[gA,gA,Array.getElem?_setIfInBounds_ne h]
  rw[this];exact(hv t).ext h2
theorem dC {e:An} {G:Nat->Prop} {w:World} {f:AV} {xf:Value} {us vs:List AV} {xs:Array Value} {fid:FuncId} (hf:Nh f us=some (fid,vs)) (Uj:VR w (UE e) e G f xf) (hl:us.length=xs.size)
  (O2:∀i (h:i<us.length),VR w (UE e) e G us[i] (xs.getD i undef)):
  ∃fst cap:Array Value,xf= .func (.func fid) fst cap/\vs.length=(fst++xs++cap).size/\∀i (h:i<vs.length),VR w (UE e) e G vs[i] ((fst++xs++cap).getD i undef):=by
 have app:∀{az bs:List AV} {x y:Array Value},az.length=x.size->(∀i (h:i<az.length),VR w (UE e) e G az[i] (x.getD i undef))->(∀i (h:i<bs.length),VR w (UE e) e G bs[i] (y.getD i undef))->
   ∀i (h:i<(az++bs).length),VR w (UE e) e G (az++bs)[i] ((x++y).getD i undef):=by
  intro az bs x y hx h1 h2 i h;by_cases hi:i<az.length
  .have e2:(x++y).getD i undef=x.getD i undef:=by rw[gA,Array.getElem?_append_left oM,gA]
   rw[List.getElem_append_left hi,e2];exact h1 i hi
  have Dw:i - az.length<bs.length:=xx0;have e2:(x++y).getD i undef=y.getD (i - az.length) undef:=by rw[gA,Array.getElem?_append_right oM,gA,hx]
  rw[List.getElem_append_right oM,e2];exact h2 _ Dw
 cases f with
 |fn f caps=>
  cases hf
  have OB:∃cs:Array Value,xf= .func (.func fid) #[] cs/\caps.length=cs.size/\∀i (h:i<caps.length),VR w (UE e) e G caps[i] (cs.getD i undef):=by
   cases Uj with
   |dat _ _ h=>cases h with|fn _ _ vs h1 h2=>exact⟨vs,rfl,h1,fun i hi=> .dat _ _ (h2 i hi)⟩
   |fn _ _ vs h1 h2=>exact⟨vs,rfl,h1,h2⟩
  obtain⟨cs,rfl,h1,h2⟩:=OB;refine⟨#[],cs,rfl,by simp[hl,h1],?_⟩
  rw[Array.empty_append];exact app hl O2 h2
 |bfn f first=>
  cases hf
  cases Uj with
  |dat _ _ h=>cases h
  |bfn _ _ cs h1 h2=>
   refine⟨cs,#[],rfl,by simp[hl,h1],?_⟩
   rw[Array.append_empty];exact app h1 h2 O2
 |_=>cases hf
theorem iY (hC:Cn C T) {o:Oper} (Hx:o.dst.getD 0<C.N) {s:St} {a:Act} {w:World} (hrel:BS C s a w) {K:St->Prop} (h:KW C.P T o s K) {Q:Exit->Act->World->Prop}
  {next:Act->World->Prop} (hn:∀s' a' w',BS C s' a' w'->K s'->next a' w'):o.wpIn (Gp C.rd) 0 C.P a w next Q:=by
 obtain⟨e,hr,AK,hv⟩:=hrel.body;have p:Bt C e (Az s.ck) s.ck s.hp w:=⟨hr,AK,hrel.frm,by simp[Az]⟩;have H7:=Me (s:=s) hv;have main:∀(P:Prop) (v:AV) (ups:List Up) (res:Result Next),Bb C e (Az s.ck) s.ck s.hp w (P,v,ups) res->K (s.put o.dst v ups)->
   (∃xv w',res= .ok (.value xv) w'/\next (a.put o.dst xv) w')\/(∃w',res= .ok .skip w'/\next (a.put o.dst undef) w'):=by
  rintro P v ups res ⟨nx,w',e',r1,r2,r3,r4,r5,r6⟩ hK;rw[I1] at r2 r3 r4 r6;rcases r6 with ⟨xv,rfl,r6⟩|⟨rfl,rfl⟩
  .exact .inl ⟨xv,w',r1,hn _ _ _ (QN hrel hv Hx r2 r3 r4 r5 r6) hK⟩
  exact .inr ⟨w',r1,hn _ _ _ (QN hrel hv Hx r2 r3 r4 r5 (.dat _ _ (.bad _))) hK⟩
 have plain:(Bu T o s.ev s.hp s.ck).1/\K (s.put o.dst (Bu T o s.ev s.hp s.ck).2.1 (Bu T o s.ev s.hp s.ck).2.2)->o.wpIn (Gp C.rd) 0 C.P a w next Q:=by
  rintro⟨h1,h2⟩;have:=i7 p hC o H7 h1;refine⟨fun _ _=>trivial,?_⟩;rw[Oper.semAt_eq _ _ _ (i6 h1)];rcases main _ _ _ _ this h2 with ⟨xv,w',E1,Dn⟩|⟨w',E1,Dn⟩
  .rw[E1,Oper.uponIn_value];exact Dn
  rw[E1,Oper.uponIn_skip];exact Dn
 unfold KW at h;split at h
 .rename_i f args at_ HG;split at h
  .rename_i fid vs hf;obtain⟨τ,σ,D,keep,hp1,rc,hc,hK⟩:=h;obtain⟨fst,cap,JL,Mx,NJ⟩:=dC (xs:=args.map a.eval) hf (H7 f) (by simp[Mf]) fun i hi=>by
    have Ar:i<args.size:=by simpa[Mf] using hi
    have e1:(Mf s args)[i]=s.ev args[i]:=by simp[Mf]
    have e2:(args.map a.eval).getD i undef=a.eval args[i]:=by rw[gA];simp[Ar]
    rw[e1,e2];exact H7 _
   obtain⟨⟨fn,OC,OD,OE⟩,Xq⟩:=bA p hC (vs:=vs) (vals:=fst++args.map a.eval++cap) Mx NJ hc;have AL:(execOp a.eval o).run C.P w= .ok (.enter fid (fst++args.map a.eval++cap)) w:=by unfold execOp;simp only[HG,resolve,JL,Deferred.ofValue,invoke,callFunc,Sem.run_bind,Sem.run_pure,Result.andThen_ok,run_program,OC,OD,OE,Bool.false_eq_true,if_false,Array.empty_append]
   refine⟨fun _ _=>trivial,?_⟩;rw[Oper.semAt_eq _ _ _ (by intro c hc;rw[HG] at hc;cases hc),AL];refine cT (Xq.mono ?_);rintro en w' ⟨xv,rfl,AI⟩;rcases main _ _ _ _ AI hK with ⟨xv',w'',E1,Dn⟩|⟨w'',E1,Dn⟩
   .cases E1;exact Dn
   cases E1
  exact h.elim
 exact plain h
theorem BS.skip {s:St} {a:Act} {w:World} (hrel:BS C s a w) {dst:Option Nat} (Hx:dst.getD 0<C.N):BS C (s.put dst (.tup []) []) (a.put dst undef) w:=by
 obtain⟨e,hr,AK,hv⟩:=hrel.body;have x:=AB.wide w e (Az s.ck) s.ck;rw[I1] at x;exact QN hrel hv Hx (by rw[<-I1];exact hr.wide) x (by rw[<-I1];exact AK.wide _) hrel.frm (.dat _ _ (.tup [] #[] rfl (fun i hi=>vy6)))
theorem kZ {a:Act} {d:Nat} {w:World} {U:Nat->Prop} {e:An} {G:Nat->Prop} {all:List Oper} {j:Nat} (GW:IX all j=some d) (De:VR w U e G (.tup []) (a.tmps.getD d undef)):yielded all.toArray a.tmps j=none:=by
 obtain⟨vs,De,_⟩:=De.tup_inv;unfold yielded;have e1:(all.toArray[j]?).bind (·.dst)=some d:=by simpa[IX] using GW
 rw[e1];rw[gA] at De;cases hx:a.tmps[d]? with
 |none=>simp[hx]|some v=>rw[hx] at De;simp at De;subst De;simp[hx]
theorem N0 {o:Oper} (h:o.guard=none) (y:Nat->Option Bool):Region.wanted o y=true:=by simp[Region.wanted,h]
theorem Tw (hC:Cn C T) {all:List Oper} (Q:Exit->Act->World->Prop) {K:St->Prop} (hQ:∀s' a' w',BS C s' a' w'->K s'->Q .normal a' w'):
  ∀(Ae:List Oper),(∀o∈Ae,o.dst.getD 0<C.N)->∀(s:St) (a:Act) (w:World),BS C s a w->DX C.P T all Ae s K->wpListIn (Gp C.rd) 0 C.P all.toArray Q Ae a w
 |[],_,s,a,w,hrel,h=>hQ s a w hrel h|o::Ae,hd,s,a,w,hrel,h=>by
  have ih:=Tw hC (all:=all) Q hQ Ae (fun o' ho=>hd o' (mC _ ho));have Ug:=hd o mS;unfold DX at h;unfold wpListIn;cases hg:o.guard with
  |none=>simp only[hg] at h;rw[iP (N0 hg _)];exact iY hC Ug hrel h fun s' a' w' h1 h2=>ih s' a' w' h1 h2|some q=>
   obtain⟨j,want⟩:=q;simp only[hg] at h;cases GW:IX all j with
   |none=>simp only[GW,Option.map_none,GM] at h|some d=>
    simp only[GW,Option.map_some,GM] at h;split at h
    .rename_i b hb;obtain⟨e,hr,AK,hv⟩:=hrel.body;have De:=hv d;simp only[Option.some.injEq] at hb;rw[hb] at De;obtain⟨De,_⟩:=De.lit_inv;have hy:yielded all.toArray a.tmps j=some b:=by
      unfold yielded;have e1:(all.toArray[j]?).bind (·.dst)=some d:=by simpa[IX] using GW
      rw[e1];rw[gA] at De;cases hx:a.tmps[d]? with
      |none=>rw[hx] at De;cases De
      |some v=>rw[hx] at De;simp at De;subst De;simp[hx]
     by_cases I3:b=want
     .rw[iP vq4];exact iY hC Ug hrel (h.1 I3) fun s' a' w' h1 h2=>ih s' a' w' h1 h2
     rw[iN vq4];exact⟨fun _ _=>trivial,ih _ _ _ (hrel.skip Ug) (h.2 I3)⟩
    .rename_i hb;obtain⟨e,hr,AK,hv⟩:=hrel.body;have De:=hv d;simp only[Option.some.injEq] at hb;rw[hb] at De;rw[iN (by simp[Region.wanted,hg,kZ GW De])];exact⟨fun _ _=>trivial,ih _ _ _ (hrel.skip Ug) h⟩
    exact h.elim
def BD (C:Cx) (c:Code) (Q:Exit->St->Prop) (s:St):Prop:=
 ∀a w,BS C s a w->c.wpIn (Gp C.rd) 0 C.P (fun ex a' w'=>(∃s',BS C s' a' w'/\Q ex s')\/(ex= .ret/\C.esc a' w')) a w
def N4 (next:St->Prop) (Q:Exit->St->Prop):Exit->St->Prop
 | .normal,s=>next s|e,s=>Q e s
def ax (id:Nat) (Q:Exit->St->Prop):Exit->St->Prop
 | .exit Br,s=>if Br=id then Q .normal s else Q (.exit Br) s|e,s=>Q e s
theorem aW {c:Code} {Q Q':Exit->St->Prop} {s:St} (h:BD C c Q s) (hq:∀e s,Q e s->Q' e s):BD C c Q' s:=
 fun a w hr=>wpIn_mono (h a w hr) fun e a' w' h=>h.imp (fun⟨s',h1,h2⟩=>⟨s',h1,hq e s' h2⟩) id
theorem A5 {x y:Code} {Q:Exit->St->Prop} {s:St} (h:BD C x (N4 (BD C y Q) Q) s):BD C (.seq x y) Q s:=by
 intro a w hr;refine wpIn_seq (wpIn_mono (h a w hr) ?_);rintro e a' w' (⟨s',h1,h2⟩|⟨rfl,h⟩)
 .cases e<;>first|exact h2 a' w' h1|exact .inl ⟨s',h1,h2⟩
 exact .inr ⟨rfl,h⟩
theorem BQ {Q:Exit->St->Prop} {s:St} (h:Q .normal s):BD C .skip Q s:=fun _ _ hr=>wpIn_skip (.inl ⟨s,hr,h⟩)
theorem Ay {Q:Exit->St->Prop} {s:St} (h:Q .ret s):BD C .ret Q s:=fun _ _ hr=>wpIn_ret (.inl ⟨s,hr,h⟩)
theorem At {id:Nat} {Q:Exit->St->Prop} {s:St} (h:Q (.exit id) s):BD C (.exit id) Q s:=fun _ _ hr=>wpIn_exit (.inl ⟨s,hr,h⟩)
theorem B5 {id:Nat} {c:Code} {Q:Exit->St->Prop} {s:St} (h:BD C c (ax id Q) s):BD C (.block id c) Q s:=by
 intro a w hr;refine wpIn_block (wpIn_mono (h a w hr) ?_);rintro e a' w' (⟨s',h1,h2⟩|⟨rfl,h⟩)
 .cases e with
  |exit Br=>
   simp only[Exit.inBlock,ax] at h2 ⊢;by_cases hid:Br=id
   .rw[iP hid] at h2 ⊢;exact .inl ⟨s',h1,h2⟩
   rw[iN hid] at h2 ⊢;exact .inl ⟨s',h1,h2⟩
  |_=>exact .inl ⟨s',h1,h2⟩
 exact .inr ⟨rfl,h⟩
theorem V5 {c:Operand} {x y:Code} {Q:Exit->St->Prop} {s:St} (b:Bool) (hc:s.ev c= .lit (.bool b)) (ht:b=true->BD C x Q s) (hf:b=false->BD C y Q s):BD C (.cond c x y) Q s:=by
 intro a w hr;obtain⟨e,_,_,hv⟩:=hr.body;have:=Me (s:=s) hv c;rw[hc] at this;obtain⟨he,_⟩:=this.lit_inv;refine wpIn_cond he ?_;cases b
 .exact hf rfl a w hr
 exact ht rfl a w hr
theorem Ep {id:Nat} {l:List Oper} {Q:Exit->St->Prop} {s:St} (hC:Cn C T) (hd:(l.all fun o=>decide (o.dst.getD 0<C.N))=true)
  (h:∀K:St->Prop,(∀s',Q .normal s'->K s')->DX C.P T l l s K):BD C (.region id l.toArray false) Q s:=by
 intro a w hr;refine wpIn_region_lit ?_;rw[List.all_eq_true] at hd;exact Tw (K:=fun s'=>Q .normal s') hC _ (fun s' _ _ h1 h2=> .inl ⟨s',h1,h2⟩) l (fun o ho=>by simpa using hd o ho) s a w hr (h _ fun _ h=>h)
theorem least (p:Nat->Prop):∀n,p n->∃k,p k/\∀j,p j->k<=j:=by
 intro n;induction n using Nat.strongRecOn with
 |_ n ih=>
  intro hn;by_cases h:∃j,j<n/\p j
  .obtain⟨j,hj,hp⟩:=h;exact ih j hj hp
  refine⟨n,hn,fun j hj=>?_⟩;by_cases Aa:j<n
  .exact absurd ⟨j,Aa,hj⟩ h
  omega
theorem nY {ι:Type} {c:Code} {Q:Exit->St->Prop} (inv:ι->St) (ok:ι->Prop) (m:ι->Nat) (i0:ι) (h0:ok i0)
  (round:∀i,ok i->BD C c (N4 (fun s'=>∃j,ok j/\m j<m i/\∀a w,BS C s' a w->BS C (inv j) a w) Q) (inv i)):BD C (.loop c) Q (inv i0):=by
 intro a w hr;have hex:∃μ:Act->World->Nat,∀a w,(∃i,ok i/\BS C (inv i) a w)->(∃i,ok i/\BS C (inv i) a w/\m i=μ a w)/\∀i,ok i->BS C (inv i) a w->μ a w<=m i:=by
  have h1:∀a w,∃n,(∃i,ok i/\BS C (inv i) a w)->(∃i,ok i/\BS C (inv i) a w/\m i=n)/\∀i,ok i->BS C (inv i) a w->n<=m i:=by
   intro a w;by_cases h:∃i,ok i/\BS C (inv i) a w
   .obtain⟨i,D0,Dw⟩:=h;obtain⟨k,⟨i',h1,h2,h3⟩,h4⟩:=least (fun n=>∃i,ok i/\BS C (inv i) a w/\m i=n) (m i) ⟨i,D0,Dw,rfl⟩;exact⟨k,fun _=>⟨⟨i',h1,h2,h3⟩,fun i hi hr=>h4 _ ⟨i,hi,hr,rfl⟩⟩⟩
   exact⟨0,fun h'=>absurd h' h⟩
  exact⟨fun a w=>Classical.choose (h1 a w),fun a w=>Classical.choose_spec (h1 a w)⟩
 obtain⟨μ,hμ⟩:=hex;refine wpIn_loop (fun a w=>∃i,ok i/\BS C (inv i) a w) μ ⟨i0,h0,hr⟩ ?_;intro a w hI;obtain⟨⟨i,hi,OW,hm⟩,_⟩:=hμ a w hI;refine wpIn_mono (round i hi a w OW) ?_;rintro e a' w' (⟨s',h1,h2⟩|⟨rfl,h⟩)
 .cases e with
  |normal=>obtain⟨j,hj,Aa,hs⟩:=h2;have Qb:∃i,ok i/\BS C (inv i) a' w':=⟨j,hj,hs a' w' h1⟩;refine⟨Qb,?_⟩;have:=(hμ a' w' Qb).2 j hj (hs a' w' h1);omega
  |_=>exact .inl ⟨s',h1,h2⟩
 exact .inr ⟨rfl,h⟩
def Rt (hp:Hp):AV->AV
 | .kid t k es=> .kid t k es|v=>fz 3 hp v
def Ru (hp:Hp):AV->Prop
 | .kid _ _ _=>True|v=>fzP 3 hp v
def dK (hp:Hp):AV->List Nat
 | .kid _ _ _=>[]|v=>fzR 3 hp v
inductive FV (hp hp':Hp):Ob->Ob->Prop
 |same (ob:Ob):FV hp hp' ob ob|own (t k:Nat) (es:List AV):(∀e∈es,∀c∈e.cells,Ru hp c)->(∀i∈es.flatMap (fun e=>e.cells.flatMap (dK hp)),hp'.get i=none)->FV hp hp' (.own t k es) (.own t k (es.map (AH (Rt hp))))|box (cs AO:List AV):AO.length=cs.length->(∀j (h:j<cs.length) (h':j<AO.length),AO[j]=cs[j]\/(fzP 4 hp cs[j]/\AO[j]=fz 4 hp cs[j]/\∀i∈fzR 4 hp cs[j],hp'.get i=none))->FV hp hp' (.box cs) (.box AO)
structure Jy (s s':St):Prop where
 ck:s.ck<=s'.ck
 hp:∀id,s'.hp.get id=none\/∃g ob Gc,s.hp.get id=some (g,ob)/\s'.hp.get id=some (g,Gc)/\FV s.hp s'.hp ob Gc
 tm:∀t,AC s'.tm t= .bad\/AC s'.tm t=AC s.tm t\/
  (Nj s.hp (AC s.tm t)/\AC s'.tm t=Ni s.hp (AC s.tm t)/\∀i∈P3 s.hp (AC s.tm t),s'.hp.get i=none)
noncomputable def Iq (e:An) (hp:Hp):An:=⟨fun i=>match hp.get i with|none=>none|some _=>e i,e.z,e.kid⟩
theorem Nc {e:An} {hp:Hp} {i:Nat} {ee:EE} (h:Iq e hp i=some ee):e i=some ee/\hp.get i≠none:=by
 simp only[Iq] at h;cases hg:hp.get i with
 |none=>rw[hg] at h;cases h
 |some q=>rw[hg] at h;exact⟨h,sM⟩
theorem qr {e:An} {hp:Hp} {i:Nat} (h:hp.get i≠none):Iq e hp i=e i:=by
 simp only[Iq];cases hg:hp.get i with
 |none=>exact absurd hg h|some q=>rfl
theorem Wt {e:An} {hp:Hp} {b:Nat} (h:BN (Iq e hp) b):BN e b:=by obtain⟨id,ee,c,h1,h2⟩:=h;exact⟨id,ee,c,(Nc h1).1,h2⟩
theorem Wu {e:An} {hp:Hp} {b:Nat} (h:AQ (Iq e hp) b):AQ e b:=by
 rcases h with h|⟨B,c,h1,h2⟩
 .exact .inl (Wt h)
 exact .inr ⟨B,c,h1,Wt h2⟩
theorem AB.pick (w:World) (e:An) (hp:Hp) {n m:Nat} (h:n<=m):AB w e (Az n) w (Iq e hp) (Az m):=
 AB.mk' (lR _) (fun g (hg:g<n)=>(tL hg h:g<m)) rfl (fun _ _ ho=>Wu ho) (fun _ _ _=>rfl) fun _ Au hi _=>⟨Au,(Nc hi).1,rfl,rfl, .inl ⟨rfl,rfl⟩⟩
theorem Jt.pick {e:An} {w:World} {hp:Hp} {G:Nat->Prop} (hr:AU w e G hp) (hp':Hp):Jt e (Iq e hp') (fun i=>hp'.get i=none):=by
 have key:∀id b,hp'.get id=none->D7 e id b->UE (Iq e hp') b:=by
  intro id b hid ho;refine⟨fun hz=>hr.own_nz ho.own hz,?_⟩;rintro(⟨Br,ee,c,h1,h2⟩|⟨B,c,hk,Br,ee,c',h1,h2⟩)
  .obtain⟨h3,h4⟩:=Nc h1;have:=D7.uniq hr ho (.inl ⟨ee,c,h3,h2⟩);subst this;exact h4 hid
  obtain⟨h3,h4⟩:=Nc h1;have:=D7.uniq hr ho (.inr ⟨B,c,ee,c',hk,h3,h2⟩);subst this;exact h4 hid
 exact⟨fun b hb=>⟨hb.1,fun ho=>hb.2 (Wu ho)⟩,fun id ee b c hid he hb=>⟨key id b hid (.inl ⟨ee,c,he,hb⟩),fun b' c' hk=>key id b' hid (.inr ⟨b,c',ee,c,hk,he,hb⟩)⟩⟩
theorem YX {hp:Hp} {el:AV} (hc:∀c∈el.cells,c.one=true) (hP:∀c∈el.cells,Ru hp c):(AH (Rt hp) el).cells=el.cells.map (Rt hp):=by
 have h1:∀c,Ru hp c->(Rt hp c).one=true:=by
  intro c h;cases c with
  |kid=>rfl|_=>exact It (n:=3) h
 cases el with
 |agg cs=>rfl|bad=>have:=hc .bad vz6;cases this
 |tup cs=>have:=hc (.tup cs) vz6;cases this
 |_=>exact iV (h1 _ (hP _ mS))
theorem rQ {hp:Hp} {c:AV} (h:Ru hp c):(Rt hp c).one=true:=by
 cases c with
 |kid=>rfl|_=>exact It (n:=3) h
theorem FV.rel {e:An} {w:World} {hp hp':Hp} {n m:Nat} (hr:AU w e (Az n) hp) (FN:n<=m) {ob Gc:Ob} (h:FV hp hp' ob Gc) {ee:EE} (ho:Gh w e (Az n) ob ee):Gh w (Iq e hp') (Az m) Gc ee:=by
 have x:=AB.pick w e hp' FN;have fr:=Jt.pick hr hp';cases h with
 |same=>exact ho.ext x fun _ _ _=>⟨rfl,fun _ _ h=>⟨rfl,h⟩⟩|own t k es hP hD=>
  obtain⟨h1,h2,h3,h4,h5,h6⟩:=ho;have Cq:∀i (hi:i<es.length),∀c∈es[i].cells,c.one=true:=by intro i hi c hc;obtain⟨j,hj,rfl⟩:=List.getElem_of_mem hc;exact h5 i hi j hj
  have RG:∀i (hi:i<es.length),∀c∈es[i].cells,Ru hp c:=fun i hi c hc=>hP _ (gM hi) c hc;refine⟨h1,vz7,h3,?_,?_,?_⟩
  .intro i hi;have Ar:i<es.length:=vv5;simp only[List.getElem_map];rw[YX (Cq i Ar) (RG i Ar),List.length_map];exact h4 _ _
  .intro i hi j hj;have Ar:i<es.length:=vv5;simp only[List.getElem_map,YX (Cq i Ar) (RG i Ar)] at hj ⊢;exact rQ (RG i Ar _ (gM _))
  cases Al:ee.blk with
  |none=>rw[Al] at h6;subst h6;rfl|some q=>
   obtain⟨b,bcap⟩:=q;rw[Al] at h6;obtain⟨q7,q8,cs,q9,q10,q11⟩:=h6;refine⟨q7,by simpa using q8,cs,q9,q10,fun i hi j hj=>?_⟩;have Ar:i<es.length:=vv5;simp only[List.getElem_map,YX (Cq i Ar) (RG i Ar)] at hj ⊢;have Ah:j<es[i].cells.length:=vx2;have CI:=q11 i Ar j Ah;have Kz:=RG i Ar _ (gM Ah);have Kw:∀d∈dK hp es[i].cells[j],hp'.get d=none:=fun d hd=>hD d (List.mem_flatMap.2 ⟨_,gM Ar,List.mem_flatMap.2 ⟨_,gM Ah,hd⟩⟩);generalize es[i].cells[j]=c at CI Kz Kw;generalize cs.getD (i*k+j) undef=u at CI;cases CI with
   |val _ _ FO=>
    cases c with
    |kid=>exact FO.kid_no.elim|_=>exact .val _ _ (.dat _ _ (H2 hr fr 3 FO Kz Kw))
   |kid0 t' k' a h0=>exact .kid0 _ _ a h0|kid t' k' xs b' cap AO k1 k2 k3 k4 k5 k6 k7 k8 k9=>exact .kid _ _ _ b' cap AO k1 k2 k3 k4 k5 k6 k7 k8 fun i hi j hj=>(k9 i hi j hj).mono (lR _) (fun b _ hb=>fr.un b hb) (fun _ _ _=>rfl)
 |box cs AO hl Dt=>
  obtain⟨q1,q2,b,c,vs,t,q3,q4,q5,q6⟩:=ho;refine⟨q1,?_,b,c,vs,t,q3,q4,oM,fun j hj=>?_⟩
  .intro j hj;rcases Dt j oM hj with h|⟨h1,h2,_⟩
   .rw[h];exact q2 _ _
   rw[h2];exact It h1
  rcases Dt j oM hj with h|⟨h1,h2,h3⟩
  .rw[h];exact(q6 j oM).ext x
  rw[h2];exact .dat _ _ (H2 hr fr 4 (q6 j oM) h1 h3)
section
variable {C:Cx} {T:AE}
theorem Jy.hrel {s s':St} (h:Jy s s') {w:World} {e:An} (h1:AU w e (Az s.ck) s.hp):AU w (Iq e s'.hp) (Az s'.ck) s'.hp:=by
 have R9:∀{id},s'.hp.get id≠none->∃g ob Gc,s.hp.get id=some (g,ob)/\s'.hp.get id=some (g,Gc)/\FV s.hp s'.hp ob Gc:=fun hn=>(h.hp _).resolve_left hn;constructor
 .intro id hid;simp only[Iq,hid]
 .intro id g Gc hid;obtain⟨g',ob,ob2,q1,q2,q3⟩:=R9 (id:=id) (by rw[hid];simp);rw[hid] at q2;cases q2;obtain⟨ee,k1,k2,k3,k4⟩:=h1.live id _ ob q1;exact⟨ee,by rw[qr (by rw[hid];simp)];exact k1,k2,tL k3 h.ck,q3.rel h1 h.ck k4⟩
 .intro i j ei ej b c c' hi hj;exact h1.inj i j ei ej b c c' (Nc hi).1 (Nc hj).1
 .intro i ei b c hi;exact h1.lt i ei b c (Nc hi).1
 .intro i ei b c hi;exact h1.nz i ei b c (Nc hi).1
 .exact h1.kl
 .intro b ho;exact h1.ko b (Wt ho)
 exact h1.kk
theorem Ew.pick {w:World} {e:An} {n m:Nat} (h:Ew C w e (Az n)) (hp:Hp) (FN:n<=m):Ew C w (Iq e hp) (Az m):=
 ⟨h.zeq,h.zlt,h.ext.trans (AB.pick w e hp FN),fun b hb=>h.mine b (Wu hb)⟩
theorem Jy.rel {s s':St} (h:Jy s s') {a:Act} {w:World} (hr:BS C s a w):BS C s' a w:=by
 obtain⟨e,h1,h2,h3⟩:=hr.body;refine⟨hr.defers,hr.size,hr.frm,Iq e s'.hp,h.hrel h1,h2.pick _ h.ck,fun t=>?_⟩;rcases h.tm t with ht|ht|⟨JY,Ih,Jf⟩
 .rw[ht];exact .dat _ _ (.bad _)
 .rw[ht];exact(h3 t).ext (AB.pick w e _ h.ck)
 rw[Ih];exact .dat _ _ (rY h1 (Jt.pick h1 s'.hp) (h3 t) JY Jf)
theorem L3 {c:Code} {Q:Exit->St->Prop} {s s':St} (hw:Jy s s') (h:BD C c Q s'):BD C c Q s:=fun a w hr=>h a w (hw.rel hr)
end
end
open Go Go.Great
section
variable {C:Cx} {e:An} {G:Nat->Prop} {hp:Hp} {w:World} {T:AE}
def Zc (ti:TI) (hp:Hp):AV->Prop×AV
 | .P cs=>((E7 ti cs).1,(E7 ti cs).2.1)| .p id g n i off=>match hp.get id with
  |some (g', .box cs)=>(g'=g/\n=0/\i=0/\(E7 ti (cs.drop off)).1,(E7 ti (cs.drop off)).2.1)|_=>(False, .bad)
 |_=>(False, .bad)
def BK (T:AE) (s:St):ResultVar->Prop×AV
 | .tmp t=>(True,AC s.tm t)| .cell t ty=>Zc (tl T ty) s.hp (AC s.tm t)
def Bv (T:AE) (s:St):List ResultVar->Prop×AV
 |[x]=>BK T s x|xs=>(∀x∈xs,(BK T s x).1, .tup (xs.map fun x=>(BK T s x).2))
def Pk (tmps:Array Value):ResultVar->Sem Value
 | .tmp t=>pure (tmps.getD t undef)| .cell ad t=>do loadVar t (<-asAddr (tmps.getD ad undef))
theorem Qcf (fn:Func) (tmps:Array Value):results fn tmps=(do let vs<-fn.results.mapM (Pk tmps);pure (if h:vs.size=1 then vs[0] else .tuple vs)):=by unfold results;congr 1
theorem Qcc (hT:B4 C.P T) {s:St} {a:Act} (hr:AU w e G s.hp) (hv:∀t,VR w (UE e) e G (AC s.tm t) (a.tmps.getD t undef)) (x:ResultVar) (h:(BK T s x).1):
  ∃xv,(Pk a.tmps x).run C.P w= .ok xv w/\VR w (UE e) e G (BK T s x).2 xv:=by
 cases x with
 |tmp t=>exact⟨_,rfl,hv t⟩|cell ad t=>
  simp only[BK] at h ⊢;have hx:=hv ad;have key:∀{b off:Nat} {cs:List AV} {f:Nat->Value},a.tmps.getD ad undef= .pointer (some ⟨b,off,none⟩)->(∀j,j<cs.length->w.cell? ⟨b,off+j,none⟩=some (f j))->(∀i (h:i<cs.length),cs[i].one=true)->
    (∀i (h:i<cs.length),VR w (UE e) e G cs[i] (f i))->(E7 (tl T t) cs).1->∃xv,(Pk a.tmps (.cell ad t)).run C.P w= .ok xv w/\VR w (UE e) e G (E7 (tl T t) cs).2.1 xv:=by
   intro b off cs f hp hc h1 hv h;obtain⟨xv,h2,h3⟩:=UU (C:=C) (hT.fits (t:=t) h.1) hc h1 hv h;refine⟨xv,?_,h3⟩;rw[<-h2];unfold Instr.loadAt;simp only[Pk,hp];rfl
  generalize Hr:AC s.tm ad=av at h hx ⊢;cases av with
  |P cs=>obtain⟨b,off,f,he,h1,h2,h3,h4,h5⟩:=hx.ptI_inv.ptI_inv;exact key he h3 h4 (fun i hi=> .dat _ _ (h5 i hi)) h
  |p id g' n i off=>
   simp only[Zc] at h ⊢;cases hg:s.hp.get id with
   |none=>simp only[hg] at h|some q=>
    obtain⟨g'',ob⟩:=q;cases ob with
    |own t k es=>simp only[hg] at h|mp _=>simp only[hg] at h|ms _=>simp only[hg] at h|bd _ _ _=>simp only[hg] at h|box cs=>simp only[hg] at h ⊢;obtain⟨rfl,rfl,rfl,h⟩:=h;obtain⟨_,_,hi⟩:=hx.ptO_inv;obtain⟨ee,he,Bo,_,A8⟩:=hr.live id _ _ hg;obtain⟨hn,h1,b,c,vs,T',hb,hh,hs,EL⟩:=A8;obtain⟨_,hi⟩:=hi ee he Bo;have Qx:=hi hn b c hb;rw[Nat.zero_mul,Nat.zero_add] at Qx;exact key Qx (cs:=cs.drop off) (f:=fun j=>vs.getD (off+j) undef) (fun j hj=>by rw[cell_of_heap hh vx8]) (U4 h1 off) (fun j hj=>by simp only[List.getElem_drop];exact EL _ _) h
  |_=>exact h.elim
theorem jG {P:Program} {α:Type} (g:α->Sem Value):∀(xs:List α) (f:α->Value),(∀x∈xs,(g x).run P w= .ok (f x) w)->(xs.mapM g).run P w= .ok (xs.map f) w
 |[],_,_=>sM|x::xs,f,h=>by rw[List.mapM_cons,Sem.run_bind,h x mS,Result.andThen_ok,Sem.run_bind,jG g xs f fun y hy=>h y (mC _ hy),Result.andThen_ok];rfl
theorem Qcg (hT:B4 C.P T) {s:St} {a:Act} (hr:AU w e G s.hp) (hv:∀t,VR w (UE e) e G (AC s.tm t) (a.tmps.getD t undef)) {fn:Func} (h:(Bv T s fn.results.toList).1):
  ∃xv,(results fn a.tmps).run C.P w= .ok xv w/\VR w (UE e) e G (Bv T s fn.results.toList).2 xv:=by
 have DZ:∀x∈fn.results.toList,(BK T s x).1:=by
  unfold Bv at h;split at h
  .rename_i x hx;intro y hy;rw[hx] at hy;simp at hy;subst hy;exact h
  exact h
 have tZ:∃f:ResultVar->Value,∀x∈fn.results.toList,(Pk a.tmps x).run C.P w= .ok (f x) w/\
   VR w (UE e) e G (BK T s x).2 (f x):=by
  have h1:∀x,∃v,x∈fn.results.toList->(Pk a.tmps x).run C.P w= .ok v w/\VR w (UE e) e G (BK T s x).2 v:=by
   intro x;by_cases hx:x∈fn.results.toList
   .obtain⟨v,h2,h3⟩:=Qcc hT hr hv x (DZ x hx);exact⟨v,fun _=>⟨h2,h3⟩⟩
   exact⟨undef,fun h=>absurd h hx⟩
  exact⟨fun x=>Classical.choose (h1 x),fun x=>Classical.choose_spec (h1 x)⟩
 obtain⟨f,hf⟩:=tZ;have AL:=jG (P:=C.P) (w:=w) (Pk a.tmps) fn.results.toList f fun x hx=>(hf x hx).1;have E1:(results fn a.tmps).run C.P w= .ok (if h:(fn.results.toList.map f).toArray.size=1 then(fn.results.toList.map f).toArray[0] else .tuple (fn.results.toList.map f).toArray) w:=by rw[Qcf,Sem.run_bind,Array.mapM_eq_mapM_toList,Sem.run_map];rw[AL];rfl
 refine⟨_,E1,?_⟩;unfold Bv;split
 .rename_i x hx;have hm:=hf x (by rw[hx];simp);simp only[hx,List.map_cons,List.map_nil,List.size_toArray,List.length_cons,List.length_nil];simpa using hm.2
 rename_i Bj;rw[dif_neg]
 .refine .tup _ _ sM fun i hi=>?_;have Ar:i<fn.results.toList.length:=vv5;simp only[List.getElem_map];have:(fn.results.toList.map f).toArray.getD i undef=f fn.results.toList[i]:=by rw[gA,List.getElem?_toArray,List.getElem?_map,gG Ar];rfl
  rw[this];exact(hf _ (gM Ar)).2
 intro Be;have:fn.results.toList.length=1:=by simpa using Be
 match hl:fn.results.toList,this with
 |[x],_=>exact Bj x hl
def QU (az:List AV):List (Nat×AV):=(az.zipIdx 0).map fun p=>(p.2,p.1)
theorem Qi9:∀(az:List AV) (k t:Nat),AC ((az.zipIdx k).map fun p=>(p.2,p.1)) (k+t)=az.getD t .bad
 |[],_,_=>rfl|a::az,k,t=>by
  simp only[List.zipIdx_cons,List.map_cons,AC];cases t with
  |zero=>simp|succ t=>rw[iN oM];have:=Qi9 az (k+1) t;rw[show k+1+t=k+(t+1) from by omega] at this;rw[this];rfl
theorem Qf8 (az:List AV) (t:Nat):AC (QU az) t=az.getD t .bad:=by have:=Qi9 az 0 t;rwa[Nat.zero_add] at this
structure IT (T:AE) (rs:List ResultVar) (σ:Nm) (D:List Nat) (hp':Hp) (r:AV) (s:St):Prop where
 res:(Bv T s rs).1
 nm:CR σ
 gen:∀q∈σ,(q.2.1=0/\q.2.2.1=q.1/\q.2.2.2=0)\/q.2.1=1
 hpP:A9 true σ s.hp σ
 hpR:∀d∈AT true σ s.hp σ,d∈D
 vP:B7 true σ s.hp (Bv T s rs).2
 vR:∀d∈Bl true σ s.hp (Bv T s rs).2,d∈D
 dis:∀d∈D,lk σ d=none
 val:Bw true σ s.hp (Bv T s rs).2=r
 hp:A7 true σ s.hp=hp'
def mW (T:AE) (rs:List ResultVar) (hp':Hp) (r:AV):Exit->St->Prop
 | .ret,s| .normal,s=>∃σ D,IT T rs σ D hp' r s|_,_=>False
def Ends (P:Program) (w:World) (e:An) (hp':Hp) (r:AV) (v:Value) (w':World):Prop:=
 ∃e',AU w' e' (Az 2) hp'/\VR w' (UE e') e' (Az 2) r v/\AB w e (Az 1) w' e' (Az 2)/\e'.z=e.z/\(∀b,AQ e' b->w.heap.size<=b\/AQ e b)/\PD e w w'
def J3 (D:Nat):Deferred:={target:= .collected D,args:=#[]}
def Kg (P:Program) (fn:Func) (w:World) (e:An) (hp':Hp) (r:AV) (a':Act) (w':World):Prop:=
 ∃D,a'.defers=[J3 D]/\w'.heap[D]?=some (.deferred (some []))/\∃v,(results fn a'.tmps).run P (w'.putObj D (.deferred none))= .ok v (w'.putObj D (.deferred none))/\Ends P w e hp' r v (w'.putObj D (.deferred none))
abbrev TJ (P:Program) (fn:Func) (w:World) (e:An) (X:Act->World->Prop):Cx:=⟨P,fn.ntmps,w,e,none,[],X⟩
theorem Z9 {P:Program} {C:Cx} (hP:C.P=P) {fn:Func} {T:AE} (hT:B4 P T) {w:World} {e:An} (hw:C.w0=w) (he:C.e0=e) {hp':Hp} {r:AV} {s:St} {a':Act} {w':World} (hr:BS C s a' w')
  (hq:∃σ D,IT T fn.results.toList σ D hp' r s):∃v,(results fn a'.tmps).run P w'= .ok v w'/\Ends P w e hp' r v w':=by
 subst hP hw he;obtain⟨σ,D,JW⟩:=hq;obtain⟨e1,BJ,AK,hv⟩:=hr.body;obtain⟨xv,AL,Gz⟩:=Qcg (C:=C) (s:=s) hT BJ hv JW.res;have rk:Ff true e1 s.hp (Az 2) σ D e1.z:=⟨JW.nm,JW.hpP,JW.hpR,JW.dis,fun q hq=>by
  rcases JW.gen q hq with ⟨h,_⟩|h
  ·rw[h];exact(by decide:(0:Nat)<2)
  rw[h];exact(by decide:(1:Nat)<2),fun _ h=>h,fun _ h=> .inl h⟩
 have BE:=rk.rel BJ;have Gy:=rk.vrt BJ Gz JW.vP JW.vR;have fz:=rk.frz BJ;have L0:∀b,AQ (eN σ e1 e1.z) b->AQ e1 b:=fun b ho=>by obtain⟨q,_,h⟩:=Km ho;exact h.own
 rw[JW.hp] at BE;rw[JW.val] at Gy;refine⟨xv,AL,eN σ e1 e1.z,BE,Gy,?_,AK.zeq,fun b ho=>AK.mine b (L0 b ho),⟨hr.frm.os,hr.frm.tape,hr.frm.output,hr.frm.size,hr.frm.same,hr.frm.drawn⟩⟩;refine⟨AK.ext.size,fun g (hg:g<1)=>(by show g<2;omega),fun b hb hu=>fz.un b (AK.ext.un b hb hu),AK.ext.same,fun id Au AP hg=>?_⟩;obtain⟨gi,a,ga,ee,hm,h6,rfl⟩:=Gm AP;rcases JW.gen _ hm with ⟨h7,h8,h9⟩|h7
 .simp only at h7 h8 h9;subst h7 h8 h9;obtain⟨ob,C8,_⟩:=Hg JW.hpP hm;obtain⟨ee2,C9,F1,_⟩:=BJ.live _ _ _ C8;rw[h6] at C9;cases C9;obtain⟨ee0,k1,k2,k3,k4⟩:=AK.ext.ent a ee h6 vk8;exact⟨ee0,k1,k2.trans F1,k3,k4⟩
 simp only at h7;subst h7;exact absurd hg (by simp[Az])
theorem VS {P:Program} {f:FuncId} {fn:Func} {c:Code} {hp hp':Hp} {az:List AV} {r:AV} (hT:B4 P T) (hf:P.funcs[f]?=some fn) (hb:fn.body=some c)
  (vZ:(fn.name== "runtime.NumGoroutine")=false) (hN:az.length<=fn.ntmps)
  (h:∀(w:World) (e:An) (X:Act->World->Prop),(∀a' w',Kg P fn w e hp' r a' w'->X a' w')->Cn ⟨P,fn.ntmps,w,e,none,[],X⟩ T->BD ⟨P,fn.ntmps,w,e,none,[],X⟩ c (mW T fn.results.toList hp' r) ⟨QU az,hp,1⟩):Ag P T f hp az hp' r:=by
 refine⟨⟨fn,hf,vZ,by rw[hb];rfl⟩,fun w e vals h1 h2 h3 h4 h5=>?_⟩;have hC:Cn (TJ P fn w e (Kg P fn w e hp' r)) T:=⟨hT,h3⟩;have hrel:BS (TJ P fn w e (Kg P fn w e hp' r)) ⟨QU az,hp,1⟩ {tmps:=vals++Array.replicate (fn.ntmps - vals.size) undef,defers:=[]} w:=by
  refine⟨rfl,vv2,⟨rfl,rfl,rfl,lR _,fun _ _ _=>rfl,lR _⟩,e,h1,⟨rfl,h2,AB.refl _ _ _,fun _ h=> .inr h⟩,fun t=>?_⟩;simp only[Qf8];by_cases ht:t<az.length
  .have e1:az.getD t .bad=az[t]:=by rw[gE,gG ht];rfl
   have e2:(vals++Array.replicate (fn.ntmps - vals.size) undef).getD t undef=vals.getD t undef:=by rw[gA,Array.getElem?_append_left oM,gA]
   rw[e1,e2];exact h5 t ht
  have e1:az.getD t .bad= .bad:=by rw[gE,List.getElem?_eq_none oM];rfl
  rw[e1];exact .dat _ _ (.bad _)
 refine(callsIn_wide (n:=0)).1 (callsIn_of_wp_marks (F:=Fence.wide) hf hb trivial (wpIn_mono (h w e _ (fun _ _ h=>h) hC _ w hrel) ?_));have fin:∀a' w',((∃s',BS (TJ P fn w e (Kg P fn w e hp' r)) s' a' w'/\∃σ D,IT T fn.results.toList σ D hp' r s')\/Kg P fn w e hp' r a' w')->LeavesInM Fence.wide 0 P fn a'.tmps (fun en w'=>∃v e',en= .returned v/\AU w' e' (Az 2) hp'/\VR w' (UE e') e' (Az 2) r v/\AB w e (Az 1) w' e' (Az 2)/\e'.z=e.z/\
   (∀b,AQ e' b->w.heap.size<=b\/AQ e b)/\PD e w w') a'.defers .returning w':=by
  rintro a' w' (⟨s,hr,hq⟩|⟨D,hd,hD,v,AL,e',k1,k2,k3,k4,k5,k6⟩)
  .have hd:a'.defers=[]:=hr.defers;obtain⟨v,AL,e',k1,k2,k3,k4,k5,k6⟩:=Z9 (C:=TJ P fn w e (Kg P fn w e hp' r)) rfl hT rfl rfl hr hq;rw[hd];exact⟨v,AL,v,e',rfl,k1,k2,k3,k4,k5,k6⟩
  rw[hd];exact⟨sM, .inl ⟨D,_,rfl,run_takeDeferred hD,v,AL,v,e',rfl,k1,k2,k3,k4,k5,k6⟩⟩
 rintro ex a' w' (⟨s,hr,hq⟩|⟨rfl,h⟩)
 .cases ex with
  |ret=>exact fin a' w' (.inl ⟨s,hr,hq⟩)|normal=>exact fin a' w' (.inl ⟨s,hr,hq⟩)|_=>exact hq.elim
 exact fin a' w' (.inr h)
end
open Go Go.Great
def ZT:Ty->TypeDesc->Bool
 | .int k, .int k'=>decide (k=k')| .bool, .bool=>true| .str, .string=>true| .slice e, .slice e'=>e==e'| .array n e, .array n' e'=>n==n'&&e==e'| .struct fs, .struct a=>a.toList.map (fun f=>(f.offset,f.type))==fs| .ptr e, .pointer e'=>e==e'| .map k e, .map k' e'=>k==k'&&e==e'| .other,_=>true| .iface, .interface _=>true| .bld _,_=>true|_,_=>false
def zB:ZC->Value->Bool
 | .int k, .int k' n=>decide (k=k')&&decide (n=0)| .bool, .bool b=>!b| .str, .string s=>s.data.toList.isEmpty| .sl, .slice none 0 0=>true| .ptr, .pointer none=>true| .map, .map none=>true| .fn, .nilFunc=>true| .iface, .nilIface=>true|_,_=>false
def Th:List ZC->List Value->Bool
 |[],[]=>true|z::zs,v::vs=>zB z v&&Th zs vs|_,_=>false
def lc:ZC->TypeDesc->Bool
 | .int _, .int _=>true| .bool, .bool=>true| .str, .string=>true|_,_=>false
def Md (P:Program):Nat->Nat->List Field->List ZC->Bool
 |_,_,[],[]=>true|0,_,_,_=>false| m + 1, o, f :: fs, zs => f.name != "_" && f.offset == o && match P.underlying f.type with
  |some (.struct _)=>match P.info? f.type with
   |some i=>!P.stoodInHeld f.type&&i.size<=zs.length&&Md P m 0 (P.fieldsOf f.type).toList (zs.take i.size)&&Md P m (o+i.size) fs (zs.drop i.size)|none=>false
  |some d=>match zs with
   |z::zs=>lc z d&&Md P m (o+1) fs zs|[]=>false
  |none=>false
 |_,_,_,_=>false
def Lc (P:Program) (t:Nat) (zs:List ZC):Bool:=
 (match P.underlying t with|some (.struct _)=>true|_=>false)&&!P.stoodInHeld t&&!P.eqGuardType P.depth t&&Md P 40 0 (P.fieldsOf t).toList zs
theorem qw {P:Program} {n o:Nat} {fs:List Field} {zs:List ZC} (h:Im P n o fs zs):Im P (n+1) o fs zs:=by
 induction h with
 |nil n o=>exact .nil _ _|one n o f fs z zs d f1 f2 f3 f4 _ ih=>exact .one _ _ _ _ _ _ d f1 f2 f3 f4 ih|sub n o f fs z1 z2 i f1 f2 f3 f4 f5 f6 _ _ ih1 ih2=>exact .sub _ _ _ _ _ _ i f1 f2 f3 f4 f5 f6 ih1 ih2
theorem Ww {P:Program} {n n' o:Nat} {fs:List Field} {zs:List ZC} (h:Im P n o fs zs) (hn:n<=n'):Im P n' o fs zs:=by
 induction n' with
 |zero=>obtain rfl:n=0:=oM;exact h
 |succ m ih=>
  by_cases hm:n=m+1
  .subst hm;exact h
  exact qw (ih oM)
theorem qJ {P:Program} {t:Nat} {a:Array Field} (h:P.underlying t=some (.struct a)):P.fieldsOf t=a:=by unfold Program.fieldsOf;rw[h]
theorem TQ {P:Program}:∀{m o:Nat} {fs:List Field} {zs:List ZC},Md P m o fs zs=true->∃n,n<=m/\Im P n o fs zs
 |_,_,[],[],_=>⟨0,zL _, .nil _ _⟩|m+1,o,f::fs,zs,h=>by
  simp only[Md,Bool.and_eq_true,bne_iff_ne,ne_eq,beq_iff_eq] at h;obtain⟨⟨h1,h2⟩,h3⟩:=h;split at h3
  .rename_i a hu;split at h3
   .rename_i i hi;simp only[Bool.and_eq_true,Bool.not_eq_true',decide_eq_true_eq] at h3;obtain⟨⟨⟨q1,q2⟩,q3⟩,q4⟩:=h3;obtain⟨n1,l1,k1⟩:=TQ q3;obtain⟨n2,l2,k2⟩:=TQ q4;have hf:=qJ hu;have e1:=Im.sub (max n1 n2) o f fs (zs.take i.size) (zs.drop i.size) i h1 h2 (by rw[hf];exact hu) q1 hi vv2 (Ww k1 oM) (by
     rw[List.length_take,Nat.min_eq_left q2];exact Ww k2 oM)
    rw[List.take_append_drop] at e1;exact⟨_,oM,e1⟩
   cases h3
  .rename_i d Dm hu;split at h3
   .rename_i z zs';simp only[Bool.and_eq_true] at h3;obtain⟨q1,q2⟩:=h3;obtain⟨n2,l2,k2⟩:=TQ q2;refine⟨n2,oM, .one _ _ _ _ _ _ d h1 h2 hu ?_ k2⟩;unfold lc at q1;split at q1<;>first|exact⟨_,rfl⟩|rfl|cases q1
   cases h3
  cases h3
 |0,_,_::_,_,h=>by simp[Md] at h|0,_,[],_::_,h=>by simp[Md] at h|_+1,_,[],_::_,h=>by simp[Md] at h
theorem qt {P:Program} {t:Nat} {zs:List ZC} (h:Lc P t zs=true):aa P t zs:=by
 simp only[Lc,Bool.and_eq_true,Bool.not_eq_true'] at h;obtain⟨⟨⟨h1,h2⟩,h3⟩,h4⟩:=h;obtain⟨n,l1,k1⟩:=TQ h4;refine⟨?_,h2,h3,Ww k1 oM⟩;unfold Program.fieldsOf;cases hu:P.underlying t with
 |none=>simp[hu] at h1|some d=>cases d<;>simp_all
def Vs (P:Program) (t:Nat) (ti:TI):Bool:=
 match P.info? t,P.underlying t with
 |some i,some d=>
  i.size==ti.size&&i.bytes==ti.bytes&&ZT ti.ty d&&(ti.agg==(match d with| .struct _| .array _ _=>true|_=>false))&&ti.zs.length==ti.size&&(ti.agg||ti.size==1)&&(!ti.eq||Lc P t ti.zs)&&
  (match d with| .struct a=>a.all fun f=>(P.info? f.type).isSome|_=>true)&&
  (match i.zero with
   |some (.agg cs)=>ti.agg&&Th ti.zs cs.toList|some v=>!ti.agg&&Th ti.zs [v]
   |none=>false)
 |_,_=>false
theorem QgJ {ty:Ty} {d:TypeDesc} (h:ZT ty d=true):ty.fits d:=by cases ty<;>cases d<;>simp[ZT,Ty.fits] at h ⊢<;>first|exact h|(simp_all;done)|skip
theorem Qhd {z:ZC} {v:Value} (h:zB z v=true):v=z.val:=by
 unfold zB at h;split at h<;>simp_all [ZC.val]
 rename_i s;cases s with
 |mk d=>cases d with|mk l=>simp at h;subst h;rfl
theorem Z7:∀{zs:List ZC} {vs:List Value},Th zs vs=true->vs=zs.map ZC.val
 |[],[],_=>rfl|z::zs,v::vs,h=>by simp only[Th,Bool.and_eq_true] at h;rw[Qhd h.1,Z7 h.2];rfl|[],_::_,h=>vx0|_::_,[],h=>vx0
theorem Qgc {P:Program} {t:Nat} {ti:TI} (h:Vs P t ti=true):Di P t ti:=by
 unfold Vs at h;split at h
 .rename_i i d hi hd;simp only[Bool.and_eq_true,beq_iff_eq,Bool.or_eq_true] at h;obtain⟨⟨⟨⟨⟨⟨⟨⟨h1,h2⟩,h3⟩,h4⟩,h5⟩,h6⟩,h9⟩,h7⟩,h8⟩:=h;refine⟨⟨i,hi,h1,h2,?_⟩,⟨d,hd,QgJ h3,?_⟩,h5,?_,?_,?_⟩
  .split at h8
   .rename_i cs hz;simp only[Bool.and_eq_true] at h8;rw[hz];unfold TI.zval;rw[iP h8.1,<-Z7 h8.2]
   .rename_i v Bj hz;simp only[Bool.and_eq_true,Bool.not_eq_true'] at h8;rw[hz];unfold TI.zval;rw[iN (by simp[h8.1])];have:=Z7 h8.2
    match NO:ti.zs with
    |[z]=>rw[NO] at this;simp at this;rw[this]|[]=>rw[NO] at this;simp at this|_::_::_=>rw[NO] at this;simp at this
   cases h8
  .exact h4.trans (by cases d<;>rfl)
  .intro a ha f hf;rw[hd] at ha;cases ha
   rw[Array.all_eq_true_iff_forall_mem] at h7;exact h7 f hf
  .intro Fl;rcases h6 with h6|h6
   .rw[Fl] at h6;cases h6
   exact h6
  intro he;rcases h9 with h9|h9
  .rw[he] at h9;cases h9
  exact qt h9
 cases h
theorem mY {P:Program} {T:AE} (h:(T.ty.all fun p=>Vs P p.1 p.2)=true):B4 P T:=by
 intro t;have key:∀T:List (Nat×TI),(T.all fun p=>Vs P p.1 p.2)=true->S7 T t= .none\/Di P t (S7 T t):=by
  intro T;induction T with
  |nil=>exact fun _=> .inl rfl|cons p T ih=>
   intro h;simp only[List.all_cons,Bool.and_eq_true] at h;obtain⟨i,x⟩:=p;simp only[S7];by_cases hi:i=t
   .subst hi;rw[iP rfl];exact .inr (Qgc h.1)
   rw[iN hi];exact ih h.2
 exact key T.ty h
open Go Go.Great
def E4:AV->List Nat
 | .l id _ _ _=>[id]| .p id _ _ _ _=>[id]| .mpO id _=>[id]|_=>[]
def E5:AV->List Nat
 | .fn _ cs=>cs.flatMap E4| .bfn _ cs=>cs.flatMap E4|v=>E4 v
def Fr:AV->List Nat
 | .agg cs=>cs.flatMap E5|v=>E5 v
def B6:AV->List Nat
 | .tup cs=>cs.flatMap Fr|v=>Fr v
theorem nH {c:AV} {i:Nat} (h:i∈Dj c):i∈E5 c:=by
 cases c<;>simp[Dj] at h
 subst h;simp[E5,E4]
theorem nI {v:AV} {i:Nat} (h:i∈v.cells.flatMap Dj):i∈B6 v:=by
 cases v with
 |agg cs=>simp only[AV.cells,List.mem_flatMap] at h;obtain⟨c,hc,h⟩:=h;simp only[B6,Fr,List.mem_flatMap];exact⟨c,hc,nH h⟩
 |l id g off len=>simpa[AV.cells,Dj,B6,Fr,E5,E4] using h|_=>simp[AV.cells,Dj] at h
def Pr (hp:Hp) (v:AV):List Nat:=match Hj hp v with|some ys=>esR ys|none=>[]
def Q3:Op->List Operand
 | .move _=>[]| .extract _ _=>[]|op=>op.operands.toList
theorem m6 {op:Op} {x:Operand} (h:x∈Q3 op):x∈op.operands:=by cases op<;>first|exact Array.mem_toList_iff.1 h|cases h
def To (o:Oper) (ev:Operand->AV) (hp:Hp):List Nat:=
 ((Q3 o.op).flatMap fun x=>B6 (ev x))++
  match o.op with
  | .call {callee:= .builtin .append,args,argTypes:=_}=>match args.toList with
   |[_,x]=>Pr hp (ev x)|_=>[]
  |_=>[]
theorem iv {hp hp':Hp} {v:AV} (h:∀i∈v.cells.flatMap Dj,hp'.get i=hp.get i):AH (att hp') v=AH (att hp) v/\((∀c∈v.cells,attP hp' c)↔∀c∈v.cells,attP hp c):=by
 have h1:∀c∈v.cells,att hp' c=att hp c/\(attP hp' c↔attP hp c):=fun c hc=>V2 fun i hi=>h i (List.mem_flatMap.2 ⟨c,hc,hi⟩);refine⟨?_,⟨fun h2 c hc=>(h1 c hc).2.1 (h2 c hc),fun h2 c hc=>(h1 c hc).2.2 (h2 c hc)⟩⟩;cases v with
 |agg cs=>have h2:∀c∈cs,att hp' c=att hp c:=fun c hc=>(h1 c hc).1;simp only[AH];rw[List.map_congr_left h2]|_=>exact(h1 _ mS).1
theorem Vj {hp hp':Hp} {v:AV} (h:∀i∈B6 v,hp'.get i=hp.get i):Hj hp' v=Hj hp v/\Jo hp' v=Jo hp v:=by
 cases v with
 |l id g off len=>simp only[Hj,Jo,h id vx6,and_self]|_=>exact⟨rfl,rfl⟩
section
variable {T:AE} {t:Nat} {hp hp':Hp} {v:AV} (h2:∀i∈B6 v,hp'.get i=hp.get i)
include h2
theorem QaS {u:AV}:ML T t hp' v u=ML T t hp v u:=by
 unfold ML;generalize (tl T t).ty=ty;cases v with
 |mpO id g=>have h6:=h2 id vx6;cases ty<;>first|rfl|(cases u<;>first|rfl|(rename_i u;cases u<;>first|rfl|(rename_i kk _;cases kk<;>first|rfl|simp only[h6])))
 |_=>cases ty<;>rfl
theorem QaR {u:AV}:MM T t hp' v u=MM T t hp v u:=by
 unfold MM;generalize (tl T t).ty=ty;cases v with
 |mpO id g=>have h6:=h2 id vx6;cases ty<;>first|rfl|(cases u<;>first|rfl|(rename_i u;cases u<;>first|rfl|simp only[h6]))
 |_=>cases ty<;>rfl
theorem QaT {u y:AV}:LM T t hp' v u y=LM T t hp v u y:=by
 unfold LM;generalize (tl T t).ty=ty;cases v with
 |mpO id g=>have h6:=h2 id vx6;cases ty<;>first|rfl|(cases u<;>first|rfl|(rename_i u;cases u<;>first|rfl|(rename_i kk _;cases kk<;>first|rfl|(cases y<;>first|rfl|(rename_i y;cases y<;>first|rfl|(rename_i kk _;cases kk<;>first|rfl|simp only[h6]))))))
 |_=>cases ty<;>rfl
theorem iZ {u y:AV}:KY T t hp' v u y=KY T t hp v u y:=by
 unfold KY;generalize (tl T t).ty=ty;cases v with
 |mpO id g=>have h6:=h2 id vx6;cases ty<;>first|rfl|(cases u<;>first|rfl|(rename_i u;cases u<;>first|rfl|simp only[h6]))
 |_=>cases ty<;>rfl
end
theorem Qa1 {T:AE} (o:Oper) {ev ev':Operand->AV} {hp hp':Hp} (g:Nat) (he:∀x∈o.op.operands,ev' x=ev x)
  (NA:∀i∈To o ev hp,hp'.get i=hp.get i):Bu T o ev' hp' g=Bu T o ev hp g:=by
 obtain⟨dst,op,type,pos,after,guard⟩:=o;by_cases hm:∃x,op= .move x
 .obtain⟨x,rfl⟩:=hm;simp only[Bu,he x vv3]
 by_cases HE:∃x i,op= .extract x i
 .obtain⟨x,i,rfl⟩:=HE;simp only[Bu,he x vv3]
 have tG:Q3 op=op.operands.toList:=by cases op<;>first|rfl|exact absurd ⟨_,rfl⟩ hm|exact absurd ⟨_,_,rfl⟩ HE
 have hh:∀x∈op.operands,∀i∈B6 (ev x),hp'.get i=hp.get i:=fun x hx i hi=>NA i (List.mem_append_left _ (List.mem_flatMap.2 ⟨x,by show x∈Q3 op;rw[tG];simpa using hx,hi⟩));cases op with
 |move x=>simp only[Bu,he x vv3]|assign x=>have:=he x vv3;simp only[Bu,this]|pick c a b=>simp only[Bu,he c vv3,he a vv3,he b vv3]|binOp op t x y yt=>simp only[Bu,he x vv3,he y vv3]|unOp op t x=>have:=he x vv3;cases op<;>simp only[Bu,this]
 |nilCheck x=>
  have h1:=he x vv3;have h2:=hh x vv3;simp only[Bu,h1];generalize ev x=v at h2;cases v with
  |p id g n i off=>simp only[Hp.has,h2 id vx6]|_=>rfl
 |extract x i=>simp only[Bu,he x vv3]|load t x=>
  have h1:=he x vv3;have h2:=hh x vv3;simp only[Bu,h1];generalize ev x=v at h2;cases v with
  |p id g n i off=>simp only[glob,NW,h2 id vx6]|gl n=>simp only[glob];cases JE T.gl n<;>rfl
  |_=>rfl
 |store t x y=>
  have h1:=he x vv3;have h2:=hh x vv3;have h3:=he y vv3;have h4:=hh y vv3;simp only[Bu,h1,h3];generalize ev x=v at h2;generalize ev y=u at h4;cases v with
  |p id g n i off=>have hs:=iv (hp:=hp) (hp':=hp') (v:=u) fun i hi=>h4 i (nI hi);simp only[NX,h2 id vx6,hs.1,hs.2]|_=>rfl
 |indexAddr t x i=>
  have h1:=he x vv3;have h2:=hh x vv3;have h3:=he i vv3;simp only[Bu,h1,h3];generalize ev x=v at h2;generalize ev i=u;cases v with
  |p id g n i off=>cases u<;>first|rfl|(rename_i u;cases u<;>first|rfl|simp only[glob,Fx,Hp.has,h2 id vx6])
  |l id g off len=>cases u<;>first|rfl|(rename_i u;cases u<;>first|rfl|simp only[glob,Fx,h2 id vx6])
  |gl n=>simp only[glob];cases JE T.gl n<;>(cases u<;>first|rfl|(rename_i u;cases u<;>rfl))
  |_=>cases u<;>first|rfl|(rename_i u;cases u<;>rfl)
 |fieldAddr t x f=>
  have h1:=he x vv3;have h2:=hh x vv3;simp only[Bu,h1];generalize ev x=v at h2;cases v with
  |p id g n i off=>simp only[glob,MK,Hp.has,h2 id vx6]|gl n=>simp only[glob];cases JE T.gl n<;>rfl
  |_=>rfl
 |field t x f=>simp only[Bu,he x vv3]|index t x i=>simp only[Bu,he x vv3,he i vv3]|slice t x lo hi mx=>
  have h1:=he x vv3;have h2:=hh x vv3;have e1:lo.map ev'=lo.map ev:=by cases lo<;>simp_all [Op.operands]
  have e2:hi.map ev'=hi.map ev:=by cases hi<;>simp_all [Op.operands]
  have e3:mx.map ev'=mx.map ev:=by cases mx<;>simp_all [Op.operands]
  simp only[Bu,h1,e1,e2,e3];generalize ev x=v at h2;cases v with
  |l id g off len=>simp only[Ka,Pg,MN,h2 id vx6]|p id g n i off=>
   have hf:fz 0 hp'=fz 0 hp:=funext fun c=>by cases c<;>rfl
   have hP:fzP 0 hp'=fzP 0 hp:=funext fun c=>by cases c<;>rfl
   simp only[Ka,Pg,MN,h2 id vx6,hf,hP]
  |_=>rfl
 |makeSlice t l c=>simp only[Bu,he l vv3,he c vv3]|buildSlice t n ps=>have hm:ps.toList.map (fun p=>ev' p.2)=ps.toList.map fun p=>ev p.2:=List.map_congr_left fun p hp=>he p.2 (by simp[Op.operands];exact⟨p.1,by simpa using hp⟩);simp only[Bu,hm]|build t ps=>
  have AP:∀p∈ps.toList,ev' p.2=ev p.2:=fun p hp=>he p.2 (by simp[Op.operands];exact⟨p.1,by simpa using hp⟩);simp only[Bu];split
  .rename_i fs Bf;have e1:(∀p∈ps.toList,p.1<fs.length/\(tl T (fs.getD p.1 (0,0)).2).size≠0/\(ev' p.2).cells.length=(tl T (fs.getD p.1 (0,0)).2).size/\(fs.getD p.1 (0,0)).1+(tl T (fs.getD p.1 (0,0)).2).size<=(tl T t).size/\(∀c∈(ev' p.2).cells,c.one=true))=
     (∀p∈ps.toList,p.1<fs.length/\(tl T (fs.getD p.1 (0,0)).2).size≠0/\(ev p.2).cells.length=(tl T (fs.getD p.1 (0,0)).2).size/\(fs.getD p.1 (0,0)).1+(tl T (fs.getD p.1 (0,0)).2).size<=(tl T t).size/\(∀c∈(ev p.2).cells,c.one=true)):=
    propext ⟨fun h p hp=>by have:=h p hp;rw[AP p hp] at this;exact this,fun h p hp=>by rw[AP p hp];exact h p hp⟩
   have e2:∀(l:List (Nat×Operand)) (z:List AV),(∀p∈l,ev' p.2=ev p.2)->l.foldl (fun cs p=>DL cs (fs.getD p.1 (0,0)).1 (ev' p.2).cells) z=l.foldl (fun cs p=>DL cs (fs.getD p.1 (0,0)).1 (ev p.2).cells) z:=by
    intro l;induction l with
    |nil=>intro z _;rfl|cons p l ih=>intro z h;simp only[List.foldl_cons,h p mS];exact ih _ fun q hq=>h q (mC _ hq)
   rw[e1,e2 _ _ AP]
  .rename_i n el Bf;have e1:(∀p∈ps.toList,p.1<n/\(tl T el).size≠0/\(ev' p.2).cells.length=(tl T el).size/\p.1*(tl T el).size+(tl T el).size<=(tl T t).size/\(∀c∈(ev' p.2).cells,c.one=true))=
     (∀p∈ps.toList,p.1<n/\(tl T el).size≠0/\(ev p.2).cells.length=(tl T el).size/\p.1*(tl T el).size+(tl T el).size<=(tl T t).size/\(∀c∈(ev p.2).cells,c.one=true)):=
    propext ⟨fun h p hp=>by have:=h p hp;rw[AP p hp] at this;exact this,fun h p hp=>by rw[AP p hp];exact h p hp⟩
   have e2:∀(l:List (Nat×Operand)) (z:List AV),(∀p∈l,ev' p.2=ev p.2)->l.foldl (fun cs p=>DL cs (p.1*(tl T el).size) (ev' p.2).cells) z=l.foldl (fun cs p=>DL cs (p.1*(tl T el).size) (ev p.2).cells) z:=by
    intro l;induction l with
    |nil=>intro z _;rfl|cons p l ih=>intro z h;simp only[List.foldl_cons,h p mS];exact ih _ fun q hq=>h q (mC _ hq)
   rw[e1,e2 _ _ AP]
  rfl
 |alloc t=>rfl|box t x=>simp only[Bu,he x vv3]|convert a b x=>
  have h1:=he x vv3;have h2:=Vj (hp:=hp) (hp':=hp') (hh x vv3);simp only[Bu,h1];generalize ev x=v at h2;split
  .rfl
  .rfl
  .simp only[h2.1,h2.2]
  rfl
 |makeFunc fn first caps=>
  have:caps.toList.map ev'=caps.toList.map ev:=List.map_congr_left fun x hx=>he x (by simp[Op.operands];exact .inr vk9);have h2:∀x∈first.toList,ev' x=ev x:=fun x hx=>he x (by simp[Op.operands];exact .inl vk9);simp only[Bu,this];generalize first.toList=l at h2;cases fn with
  |func f=>cases l with
   |nil=>rfl|cons x xs=>simp only[List.map_congr_left h2]
  |_=>rfl
 |call c=>
  obtain⟨callee,args,argTypes⟩:=c;cases callee with
  |builtin b=>
   simp only[Bu];split
   .rename_i x t ha ht;have hx:x∈args:=vv7;have h1:=he x vv8;have h2:=hh x vv8;rw[h1];generalize ev x=v at h2;cases v with
    |l id g off len=>simp only[KX,h2 id vx6]|_=>rfl
   .rename_i d x t t' ha ht;have hd:d∈args:=vv7;have hx:x∈args:=vv7;have h1:=he x vv8;have h2:=Vj (hp:=hp) (hp':=hp') (hh x vv8);have h3:=he d vy2;have h4:=hh d vy2;have h5:∀i∈Pr hp (ev x),hp'.get i=hp.get i:=fun i hi=>NA i (List.mem_append_right _ (by simp only[ha];exact hi));rw[h1,h3];have:J9 T t (100+dst.getD 0) g hp' (ev d) (ev x)=J9 T t (100+dst.getD 0) g hp (ev d) (ev x):=by
     unfold J9;rw[h2.1,h2.2];unfold Pr at h5;cases Bq:Hj hp (ev x) with
     |none=>rfl|some ys=>
      rw[Bq] at h5;have YD:∀y∈ys,AH (att hp') y=AH (att hp) y/\((∀c∈y.cells,attP hp' c)↔∀c∈y.cells,attP hp c):=fun y hy=>iv fun i hi=>h5 i (List.mem_flatMap.2 ⟨y,hy,hi⟩);have e1:ys.map (AH (att hp'))=ys.map (AH (att hp)):=List.map_congr_left fun y hy=>(YD y hy).1;have e2:(∀y∈ys,∀c∈y.cells,attP hp' c)=(∀y∈ys,∀c∈y.cells,attP hp c):=propext ⟨fun h y hy=>(YD y hy).2.1 (h y hy),fun h y hy=>(YD y hy).2.2 (h y hy)⟩;simp only[e1,e2];generalize ev d=u at h4;cases u with
      |l id g off len=>simp only[h4 id vx6]|sl es full=>cases full<;>rfl
      |_=>rfl
    rw[this]
   .rename_i d x t t' ha ht;have hd:d∈args:=vv7;have hx:x∈args:=vv7;have h1:=he x vv8;have h2:=Vj (hp:=hp) (hp':=hp') (hh x vv8);have h3:=he d vy2;have h4:=hh d vy2;rw[h1,h3];unfold SS;rw[h2.1,h2.2];have hf:∀c,fzP 0 hp' c=fzP 0 hp c:=vk7;simp only[hf];generalize ev d=u at h4;generalize Hj hp (ev x)=ox;generalize (tl T t).ty=ty;cases u with
    |l id g off len=>have h6:=h4 id vx6;cases ty<;>first|rfl|(cases ox<;>first|rfl|simp only[h6])
    |_=>cases ty<;>rfl
   .rename_i d t ha ht;have hd:d∈args:=vv7;have h3:=he d vy2;have h4:=hh d vy2;rw[h3];unfold Pf;generalize ev d=u at h4;generalize (tl T t).ty=ty;cases u with
    |l id g off len=>have h6:=h4 id vx6;cases ty<;>first|rfl|simp only[h6]
    |_=>cases ty<;>rfl
   .rename_i x y t t' ha ht;have hx:x∈args:=vv7;have hy:y∈args:=vv7;rw[he x vv8,he y (by simpa[Op.operands,Call.operands] using hy)]
   .rename_i x y t t' ha ht;have hx:x∈args:=vv7;have hy:y∈args:=vv7;rw[he x vv8,he y (by simpa[Op.operands,Call.operands] using hy)]
   rfl
  |_=>rfl
 |makeMap t r=>cases r<;>rfl
 |lookup t m k ok=>
  have h1:=he m vv3;have h2:=hh m vv3;have h3:=he k vv3;cases ok with
  |true=>simp only[Bu,h1,h3];exact QaR h2|false=>simp only[Bu,h1,h3];exact QaS h2
 |mapUpdate t m k x=>have h1:=he m vv3;have h2:=hh m vv3;have h3:=he k vv3;have h4:=he x vv3;simp only[Bu,h1,h3,h4];rw[QaT h2,iZ h2]|insert t m k x=>have h1:=he m vv3;have h2:=hh m vv3;have h3:=he k vv3;have h4:=he x vv3;simp only[Bu,h1,h3,h4];exact iZ h2|_=>rfl
theorem Rs {hp hp':Hp}:∀(n:Nat) {v:AV},(∀i∈fzR n hp v,hp'.get i=hp.get i)->fz n hp' v=fz n hp v/\(fzP n hp' v↔fzP n hp v)/\fzR n hp' v=fzR n hp v
 |0,v,_=>by cases v<;>exact⟨rfl,Iff.rfl,rfl⟩
 |n+1,v,h=>by
  cases v with
  |l id g off len=>
   have h1:=h id (by simp[fzR]);simp only[fz,fzP,fzR,h1];cases hg:hp.get id with
   |none=>exact⟨rfl,Iff.rfl,rfl⟩|some q=>
    obtain⟨g',ob⟩:=q;cases ob with
    |box cs=>exact⟨rfl,Iff.rfl,rfl⟩|mp _=>exact⟨rfl,Iff.rfl,rfl⟩|ms _=>exact⟨rfl,Iff.rfl,rfl⟩|bd _ _ _=>exact⟨rfl,Iff.rfl,rfl⟩|own t k es=>
     simp only[fzR,hg] at h;have h2:∀e∈es,∀c∈e.cells,fz n hp' c=fz n hp c/\(fzP n hp' c↔fzP n hp c)/\fzR n hp' c=fzR n hp c:=fun e he c hc=>Rs n fun i hi=>h i (mC _ (List.mem_flatMap.2 ⟨e,he,List.mem_flatMap.2 ⟨c,hc,hi⟩⟩));refine⟨?_,⟨fun⟨a,b,c⟩=>⟨a,b,fun e he y hy=>(h2 e he y hy).2.1.1 (c e he y hy)⟩,fun⟨a,b,c⟩=>⟨a,b,fun e he y hy=>(h2 e he y hy).2.1.2 (c e he y hy)⟩⟩,?_⟩
     .simp only;congr 1
      refine List.map_congr_left fun e he=>?_;have AP:=List.mem_of_mem_drop he;cases e with
      |agg cs=>have h3:∀c∈cs,fz n hp' c=fz n hp c:=fun c hc=>(h2 _ AP c hc).1;simp only[AH];rw[List.map_congr_left h3]|_=>exact(h2 _ AP _ mS).1
     simp only;congr 1
     have:∀(l:List AV),(∀e∈l,e∈es)->l.flatMap (fun e=>e.cells.flatMap (fzR n hp'))=l.flatMap fun e=>e.cells.flatMap (fzR n hp):=by
      intro l;induction l with
      |nil=>intro _;rfl|cons e l ih=>
       intro hl;simp only[List.flatMap_cons];rw[ih fun x hx=>hl x (mC _ hx)];congr 1
       have h3:=h2 e (hl e mS);generalize e.cells=cs at h3;clear hl ih;induction cs with
       |nil=>rfl|cons c cs ih=>simp only[List.flatMap_cons,(h3 c mS).2.2,ih fun x hx=>h3 x (mC _ hx)]
     exact this es fun _ h=>h
  |p id g m i off=>
   have h1:=h id (by simp[fzR]);simp only[fz,fzP,fzR,h1];have fm:∀{cs:List AV},(∀c∈cs,fz n hp' c=fz n hp c/\(fzP n hp' c↔fzP n hp c)/\fzR n hp' c=fzR n hp c)->cs.flatMap (fzR n hp')=cs.flatMap (fzR n hp):=by
    intro cs h3;induction cs with
    |nil=>rfl|cons c cs ih=>simp only[List.flatMap_cons,(h3 c mS).2.2,ih fun x hx=>h3 x (mC _ hx)]
   cases hg:hp.get id with
   |none=>exact⟨rfl,Iff.rfl,rfl⟩|some q=>
    obtain⟨g',ob⟩:=q;cases ob with
    |mp _=>exact⟨rfl,Iff.rfl,rfl⟩|ms _=>exact⟨rfl,Iff.rfl,rfl⟩|bd _ _ _=>exact⟨rfl,Iff.rfl,rfl⟩|box cs=>
     simp only[fzR,hg] at h;have h2:∀c∈cs,fz n hp' c=fz n hp c/\(fzP n hp' c↔fzP n hp c)/\fzR n hp' c=fzR n hp c:=fun c hc=>Rs n fun i hi=>h i (mC _ (List.mem_flatMap.2 ⟨c,hc,hi⟩));refine⟨?_,⟨fun⟨a,b,c,d⟩=>⟨a,b,c,fun y hy=>(h2 y hy).2.1.1 (d y hy)⟩,fun⟨a,b,c,d⟩=>⟨a,b,c,fun y hy=>(h2 y hy).2.1.2 (d y hy)⟩⟩,?_⟩
     .simp only;rw[List.map_congr_left fun c hc=>(h2 c (List.mem_of_mem_drop hc)).1]
     simp only;rw[fm h2]
    |own t k es=>
     simp only[fzR,hg] at h;have h2:∀c∈(es.getD i .bad).cells,fz n hp' c=fz n hp c/\(fzP n hp' c↔fzP n hp c)/\fzR n hp' c=fzR n hp c:=fun c hc=>Rs n fun j hj=>h j (mC _ (List.mem_flatMap.2 ⟨c,hc,hj⟩));refine⟨?_,⟨fun⟨a,b,c,d⟩=>⟨a,b,c,fun y hy=>(h2 y hy).2.1.1 (d y hy)⟩,fun⟨a,b,c,d⟩=>⟨a,b,c,fun y hy=>(h2 y hy).2.1.2 (d y hy)⟩⟩,?_⟩
     .simp only;rw[List.map_congr_left fun c hc=>(h2 c (List.mem_of_mem_drop hc)).1]
     simp only;rw[fm h2]
  |fn f cs=>
   simp only[fzR] at h;have h2:∀c∈cs,fz n hp' c=fz n hp c/\(fzP n hp' c↔fzP n hp c)/\fzR n hp' c=fzR n hp c:=fun c hc=>Rs n fun i hi=>h i (List.mem_flatMap.2 ⟨c,hc,hi⟩);refine⟨?_,⟨fun d y hy=>(h2 y hy).2.1.1 (d y hy),fun d y hy=>(h2 y hy).2.1.2 (d y hy)⟩,?_⟩
   .simp only[fz];rw[List.map_congr_left fun c hc=>(h2 c hc).1]
   simp only[fzR];induction cs with
   |nil=>rfl|cons c cs ih=>simp only[List.flatMap_cons,(h2 c mS).2.2];rw[ih (fun i hi=>h i (by simp only[List.flatMap_cons,List.mem_append];exact .inr hi)) fun x hx=>h2 x (mC _ hx)]
  |_=>exact⟨rfl,Iff.rfl,rfl⟩
section
variable {hp hp':Hp} {τ:Nm} {D:List Nat}
structure IU (hp hp':Hp) (τ:Nm) (D:List Nat):Prop where
 t:∀q∈τ,hp'.get q.2.2.1=hp.get q.2.2.1
 d:∀i∈D,hp'.get i=hp.get i
theorem IU.A (h:IU hp hp' τ D) {v:AV} (hR:∀d∈Cr true τ hp v,d∈D):Cd true τ hp' v=Cd true τ hp v/\(Ce true τ hp' v↔Ce true τ hp v)/\Cr true τ hp' v=Cr true τ hp v:=by
 have key:∀{v:AV},(∀d∈fzR 4 hp v,d∈D)->fz 4 hp' v=fz 4 hp v/\(fzP 4 hp' v↔fzP 4 hp v)/\fzR 4 hp' v=fzR 4 hp v:=fun h1=>Rs 4 fun i hi=>h.d i (h1 i hi);cases v with
 |l a g off len=>
  simp only[Cd,Ce,Cr] at hR ⊢;cases hl:lk τ a with
  |none=>simp only[hl] at hR;exact key hR|some q=>exact⟨rfl,Iff.rfl,rfl⟩
 |p a g n j off=>
  simp only[Cd,Ce,Cr] at hR ⊢;cases hl:lk τ a with
  |none=>simp only[hl] at hR;exact key hR|some q=>exact⟨rfl,Iff.rfl,rfl⟩
 |mpO a g=>
  simp only[Cd,Ce,Cr] at hR ⊢;cases hl:lk τ a with
  |none=>simp only[hl] at hR;exact key hR|some q=>exact⟨rfl,Iff.rfl,rfl⟩
 |_=>exact key hR
theorem Nf {α β:Type} {f g:α->List β}:∀{l:List α},(∀x∈l,f x=g x)->l.flatMap f=l.flatMap g
 |[],_=>rfl|x::l,h=>by simp only[List.flatMap_cons,h x mS,Nf (l:=l) fun y hy=>h y (mC _ hy)]
theorem IU.B (h:IU hp hp' τ D) {v:AV} (hR:∀d∈BT true τ hp v,d∈D):BL true τ hp' v=BL true τ hp v/\(B9 true τ hp' v↔B9 true τ hp v)/\BT true τ hp' v=BT true τ hp v:=by
 cases v with
 |fn f cs=>have h2:∀c∈cs,_:=fun c hc=>h.A (v:=c) fun d hd=>hR d (List.mem_flatMap.2 ⟨c,hc,hd⟩);refine⟨?_,⟨fun d y hy=>(h2 y hy).2.1.1 (d y hy),fun d y hy=>(h2 y hy).2.1.2 (d y hy)⟩,Nf fun c hc=>(h2 c hc).2.2⟩;simp only[BL];rw[List.map_congr_left fun c hc=>(h2 c hc).1]|_=>(simp only[BL,B9,BT] at hR ⊢;exact h.A hR)
theorem IU.K (h:IU hp hp' τ D) {v:AV} (hR:∀d∈rnKR true τ hp v,d∈D):rnK true τ hp' v=rnK true τ hp v/\(rnKP true τ hp' v↔rnKP true τ hp v)/\rnKR true τ hp' v=rnKR true τ hp v:=by
 cases v with
 |kid=>exact⟨rfl,Iff.rfl,rfl⟩|_=>(simp only[rnK,rnKP,rnKR] at hR ⊢;exact h.B hR)
theorem IU.v (h:IU hp hp' τ D) {v:AV} (hR:∀d∈Po true τ hp v,d∈D):Pn true τ hp' v=Pn true τ hp v/\(QP true τ hp' v↔QP true τ hp v)/\Po true τ hp' v=Po true τ hp v:=by
 have h2:∀c∈v.cells,_:=fun c hc=>h.B (v:=c) fun d hd=>hR d (List.mem_flatMap.2 ⟨c,hc,hd⟩);refine⟨?_,⟨fun d y hy=>(h2 y hy).2.1.1 (d y hy),fun d y hy=>(h2 y hy).2.1.2 (d y hy)⟩,Nf fun c hc=>(h2 c hc).2.2⟩;cases v with
 |agg cs=>have h3:∀c∈cs,BL true τ hp' c=BL true τ hp c:=fun c hc=>(h2 c hc).1;simp only[Pn,AH];rw[List.map_congr_left h3]|_=>exact(h2 _ mS).1
theorem IU.tt (h:IU hp hp' τ D) {v:AV} (hR:∀d∈Bl true τ hp v,d∈D):Bw true τ hp' v=Bw true τ hp v/\(B7 true τ hp' v↔B7 true τ hp v)/\Bl true τ hp' v=Bl true τ hp v:=by
 cases v with
 |tup vs=>have h2:∀c∈vs,_:=fun c hc=>h.v (v:=c) fun d hd=>hR d (List.mem_flatMap.2 ⟨c,hc,hd⟩);refine⟨?_,⟨fun d y hy=>(h2 y hy).2.1.1 (d y hy),fun d y hy=>(h2 y hy).2.1.2 (d y hy)⟩,Nf fun c hc=>(h2 c hc).2.2⟩;simp only[Bw];rw[List.map_congr_left fun c hc=>(h2 c hc).1]|_=>(simp only[Bw,B7,Bl] at hR ⊢;exact h.v hR)
theorem IU.O (h:IU hp hp' τ D) {ob:Ob} (hR:∀d∈BM true τ hp ob,d∈D):BZ true τ hp' ob=BZ true τ hp ob/\(BR true τ hp' ob↔BR true τ hp ob)/\BM true τ hp' ob=BM true τ hp ob:=by
 cases ob with
 |own t k es=>
  have h2:∀e∈es,∀c∈e.cells,_:=fun e he c hc=>h.K (v:=c) fun d hd=>hR d (List.mem_flatMap.2 ⟨e,he,List.mem_flatMap.2 ⟨c,hc,hd⟩⟩);refine⟨?_,⟨fun d e he y hy=>(h2 e he y hy).2.1.1 (d e he y hy),fun d e he y hy=>(h2 e he y hy).2.1.2 (d e he y hy)⟩,Nf fun e he=>Nf fun c hc=>(h2 e he c hc).2.2⟩;simp only[BZ];congr 1
  refine List.map_congr_left fun e he=>?_;cases e with
  |agg cs=>have h3:∀c∈cs,rnK true τ hp' c=rnK true τ hp c:=fun c hc=>(h2 _ he c hc).1;simp only[AH];rw[List.map_congr_left h3]|_=>exact(h2 _ he _ mS).1
 |box cs=>have h2:∀c∈cs,_:=fun c hc=>h.B (v:=c) fun d hd=>hR d (List.mem_flatMap.2 ⟨c,hc,hd⟩);refine⟨?_,⟨fun d y hy=>(h2 y hy).2.1.1 (d y hy),fun d y hy=>(h2 y hy).2.1.2 (d y hy)⟩,Nf fun c hc=>(h2 c hc).2.2⟩;simp only[BZ];rw[List.map_congr_left fun c hc=>(h2 c hc).1]|mp es=>exact⟨rfl,Iff.rfl,rfl⟩|ms es=>exact⟨rfl,Iff.rfl,rfl⟩|bd t e bs=>exact⟨rfl,Iff.rfl,rfl⟩
theorem PA.congr {P:Program} {T:AE} {f:FuncId} {g:Nat} {vs:List AV} {σ:Nm} {keep:Bool} {hp1:Hp} {rc:AV} (h:PA P T f g hp vs τ σ D keep hp1 rc) (hh:∀i∈τ.map (·.2.2.1)++D,hp'.get i=hp.get i):
  PA P T f g hp' vs τ σ D keep hp1 rc:=by
 have s:IU hp hp' τ D:=⟨fun q hq=>hh _ (List.mem_append_left _ (List.mem_map.2 ⟨q,hq,rfl⟩)),fun i hi=>hh i (List.mem_append_right _ hi)⟩;have e1:∀(l:Nm),(∀q∈l,q∈τ)->A9 true τ hp l->(∀d∈AT true τ hp l,d∈D)->A9 true τ hp' l/\(∀d∈AT true τ hp' l,d∈D)/\
   l.map (fun q=>(q.1,(hp'.get q.2.2.1).map fun x=>(q.2.1,BZ true τ hp' x.2)))=l.map (fun q=>(q.1,(hp.get q.2.2.1).map fun x=>(q.2.1,BZ true τ hp x.2))):=by
  intro l;induction l with
  |nil=>intro _ _ _;exact⟨trivial,fun d hd=>(by simp[AT] at hd),rfl⟩|cons q l ih=>
   obtain⟨i,gi,a,ga⟩:=q;intro hl h1 h2;obtain⟨h3,h4⟩:=h1;obtain⟨k1,k2,k3⟩:=ih (fun q hq=>hl q (mC _ hq)) h4 fun d hd=>h2 d (List.mem_append_right _ hd);have hg:=s.t _ (hl _ mS);simp only at hg;simp only[A9,AT,List.map_cons,hg,k3];cases XB:hp.get a with
   |none=>simp only[XB] at h3|some x=>
    obtain⟨g',ob⟩:=x;simp only[XB] at h3 ⊢;simp only[AT,XB] at h2;obtain⟨o1,o2,o3⟩:=s.O (ob:=ob) fun d hd=>h2 d (List.mem_append_left _ hd);refine⟨⟨⟨h3.1,o2.2 h3.2⟩,k1⟩,fun d hd=>?_,?_⟩
    .rw[o3] at hd;rcases List.mem_append.1 hd with hd|hd
     .exact h2 d (List.mem_append_left _ hd)
     exact k2 d hd
    simp only[Option.map_some,o1]
 obtain⟨k1,k2,k3⟩:=e1 τ (fun _ h=>h) h.hpP h.hpR;have e2:∀v∈vs,_:=fun v hv=>s.tt (v:=v) (h.vsR v hv);refine⟨h.nmτ,h.gτ,k1,k2,fun v hv=>(e2 v hv).2.1.2 (h.vsP v hv),fun v hv d hd=>h.vsR v hv d (by rw[<-(e2 v hv).2.2];exact hd),h.dis,?_,h.nmσ,h.gσ,h.bP,h.bR,h.rP,h.rR,h.trh,h.trr⟩;have e3:A7 true τ hp'=A7 true τ hp:=k3;rw[e3,List.map_congr_left fun v hv=>(e2 v hv).1];exact h.sat
end
open Go Go.Great
theorem GJ.congr {C:Cx} {G G':Nat->Prop} {tm kA:List (Nat×AV)} {hp hp':Hp} {a:Act} {w:World} (h:GJ C G tm hp a w) (hg:∀g,G g↔G' g)
  (ht:∀t,AC kA t=AC tm t) (hh:∀i,hp'.get i=hp.get i):GJ C G' kA hp' a w:=by
 have:G=G':=funext fun g=>propext (hg g);subst this;obtain⟨h1,h2,h3,e,h4,h5,h6⟩:=h;exact⟨h1,h2,h3,e,h4.congr (fun _=>Iff.rfl) hh,h5,fun t=>by rw[ht t];exact h6 t⟩
def KZ (P:Program) (T:AE) (o:Oper) (ev:Operand->AV) (hp:Hp) (g:Nat) (v:AV) (ups:List Up) (acc:List Nat):Prop:=
 match o.op with
 | .call {callee:= .value f,args,argTypes:=_}=>match Nh (ev f) (args.toList.map ev) with
  |some (fid,vs)=>∃τ σ D keep hp1 rc,PA P T fid g hp vs τ σ D keep hp1 rc/\v=Wd σ hp1 rc/\ups=Q8 τ σ D keep hp1/\acc=τ.map (·.2.2.1)++D|none=>False
 |_=>(Bu T o ev hp g).1/\v=(Bu T o ev hp g).2.1/\ups=(Bu T o ev hp g).2.2/\acc=To o ev hp
def LL (P:Program) (T:AE) (o:Oper) (s:St) (K:AV->List Up->List Nat->Prop):Prop:=
 match o.op with
 | .call {callee:= .value f,args,argTypes:=_}=>match Nh (s.ev f) (args.toList.map s.ev) with
  |some (fid,vs)=>IR P T fid s.ck s.hp vs K|none=>False
 |_=>(Bu T o s.ev s.hp s.ck).1/\K (Bu T o s.ev s.hp s.ck).2.1 (Bu T o s.ev s.hp s.ck).2.2 (To o s.ev s.hp)
theorem iX {P:Program} {T:AE} {o:Oper} {s:St} {K:AV->List Up->List Nat->Prop} (h:LL P T o s K):
  ∃v ups acc,KZ P T o s.ev s.hp s.ck v ups acc/\K v ups acc:=by
 unfold LL at h;split at h
 .rename_i f args at_ HG;split at h
  .rename_i fid vs hf;obtain⟨τ,σ,D,keep,hp1,rc,h1,h2⟩:=h;refine⟨_,_,_,?_,h2⟩;unfold KZ;simp only[HG,hf];exact⟨τ,σ,D,keep,hp1,rc,h1,rfl,rfl,rfl⟩
  exact h.elim
 rename_i HG;refine⟨_,_,_,?_,h.2⟩;unfold KZ;split
 .rename_i f args at_ Ux;exact absurd Ux (HG _ _ _)
 exact⟨h.1,rfl,rfl,rfl⟩
theorem QaU {P:Program} {T:AE} {o:Oper} {ev ev':Operand->AV} {hp hp':Hp} {g:Nat} {v:AV} {ups:List Up} {acc:List Nat} (h:KZ P T o ev hp g v ups acc)
  (he:∀x∈o.op.operands,ev' x=ev x) (hh:∀i∈acc,hp'.get i=hp.get i):KZ P T o ev' hp' g v ups acc:=by
 unfold KZ at h ⊢;split at h
 .rename_i f args at_ HG;simp only[HG,Op.operands,Call.operands] at he;have e1:ev' f=ev f:=he f sM;have e2:args.toList.map ev'=args.toList.map ev:=List.map_congr_left fun x hx=>he x (by simp only[Array.mem_append,Array.mem_toList_iff] at*;simp[Array.mem_toList_iff] at hx ⊢;exact .inr hx);split at h
  .rename_i fid vs hf;simp only[e1,hf,e2];obtain⟨τ,σ,D,keep,hp1,rc,h1,h2,h3,h4⟩:=h;subst h4;exact⟨τ,σ,D,keep,hp1,rc,h1.congr hh,h2,h3,rfl⟩
  exact h.elim
 obtain⟨h1,h2,h3,h4⟩:=h;have:=Qa1 (T:=T) o (hp:=hp) (hp':=hp') g he fun i hi=>hh i (by rw[h4];exact hi);rw[this];refine⟨h1,h2,h3,?_⟩;rw[h4];unfold To;congr 1
 .exact Nf fun x hx=>by rw[he x (m6 hx)]
 obtain⟨dst,op,type,pos,after,guard⟩:=o;cases op with
 |call c=>
  obtain⟨callee,args,argTypes⟩:=c;cases callee with
  |builtin b=>
   cases b with
   |append=>
    simp only;split
    .rename_i d x ha;have hx:x∈args:=vv7;have e1:=he x vv8;have e2:=Vj (hp:=hp) (hp':=hp') (v:=ev x) fun i hi=>hh i (by
      rw[h4];exact List.mem_append_left _ (List.mem_flatMap.2 ⟨x,by simpa[Q3,Op.operands,Call.operands] using hx,hi⟩))
     rw[e1];unfold Pr;rw[e2.1]
    rfl
   |_=>rfl
  |_=>rfl
 |_=>rfl
open Go Go.Great
structure En where
 d:Option Nat
 v:AV
 ups:List Up
 acc:List Nat
def sS (s:St) (e:Nat->En) (S:Nat->Bool):Nat->St
 |0=>s|n+1=>if S n then(sS s e S n).put (e n).d (e n).v (e n).ups else⟨(sS s e S n).tm,(sS s e S n).hp,(sS s e S n).ck+1⟩
section
variable {s:St} {e:Nat->En} {S S':Nat->Bool}
theorem jM {n:Nat} (h:S n=true):sS s e S (n+1)=(sS s e S n).put (e n).d (e n).v (e n).ups:=by rw[sS,iP h]
theorem jL {n:Nat} (h:¬S n=true):sS s e S (n+1)=⟨(sS s e S n).tm,(sS s e S n).hp,(sS s e S n).ck+1⟩:=by rw[sS,iN h]
theorem Vc:∀n,(sS s e S n).ck=s.ck+n
 |0=>rfl|n+1=>by
  unfold sS;split
  .simp only[St.put,Vc n];omega
  simp only[Vc n];omega
theorem Pu (s:St) (d:Option Nat) (v:AV) (ups:List Up) (t:Nat):AC (s.put d v ups).tm t=if d=some t then v else AC s.tm t:=by
 cases d with
 |none=>simp[St.put]|some d=>simp only[St.put,AC,Option.some.injEq]
def DP:List Up->Nat->Option (Option (Nat×Ob))
 |[],_=>none|(i,x)::h,n=>if i=n then some x else DP h n
theorem sf (ups:List Up) (hp:Hp) (i:Nat):Hp.get (ups++hp) i=(DP ups i).getD (hp.get i):=by
 induction ups with
 |nil=>rfl|cons p ups ih=>
  obtain⟨j,x⟩:=p;simp only[List.cons_append,Hp.get,DP];split
  .rfl
  exact ih
theorem XD {ups:List Up} {i:Nat} (h:i∉ups.map (·.1)):DP ups i=none:=by
 induction ups with
 |nil=>rfl|cons p ups ih=>obtain⟨j,x⟩:=p;simp only[List.map_cons,List.mem_cons,not_or] at h;simp only[DP,iN (Ne.symm h.1),ih h.2]
theorem Om (s:St) (d:Option Nat) (v:AV) (ups:List Up) (i:Nat):(s.put d v ups).hp.get i=(DP ups i).getD (s.hp.get i):=sf ups s.hp i
theorem Ve {t:Nat}:∀n,(∀j,j<n->(e j).d=some t->S j=S' j)->AC (sS s e S n).tm t=AC (sS s e S' n).tm t
 |0,_=>rfl|n+1,h=>by
  have ih:=Ve n fun j hj=>h j oM;have hn:=h n oM;unfold sS;by_cases hd:(e n).d=some t
  .rw[hn hd];split
   .rw[Pu,Pu,iP hd,iP hd]
   exact ih
  split<;>split<;>simp only[Pu,iN hd]<;>exact ih
theorem Vd {i:Nat}:∀n,(∀j,j<n->i∈(e j).ups.map (·.1)->S j=S' j)->(sS s e S n).hp.get i=(sS s e S' n).hp.get i
 |0,_=>rfl|n+1,h=>by
  have ih:=Vd n fun j hj=>h j oM;have hn:=h n oM;unfold sS;by_cases hd:i∈(e n).ups.map (·.1)
  .rw[hn hd];split
   .rw[Om,Om,ih]
   exact ih
  split<;>split<;>simp only[Om,XD hd,Option.getD_none]<;>exact ih
theorem jK {k:Nat}:∀n,k<=n->(sS s e (fun j=>decide (j<k)) n).tm=(sS s e (fun _=>true) k).tm/\(sS s e (fun j=>decide (j<k)) n).hp=(sS s e (fun _=>true) k).hp:=by
 intro n hk;have base:∀m,m<=k->sS s e (fun j=>decide (j<k)) m=sS s e (fun _=>true) m:=by
  intro m;induction m with
  |zero=>intro _;rfl|succ m ih=>intro hm;unfold sS;rw[ih oM];simp[show m<k by omega]
 induction n with
 |zero=>have:k=0:=oM;subst this;exact⟨rfl,rfl⟩|succ n ih=>
  by_cases h:k=n+1
  .subst h;rw[base _ (lR _)];exact⟨rfl,rfl⟩
  have hn:¬n<k:=oM;have:=ih oM;rw[jL xx5];exact this
theorem jJ {i:Nat} (hi:S i=false):∀n,i<n->
  ((∀t,(∀k,i<k->k<n->S k=true->(e i).d=some t->(e k).d≠some t)->
   AC (sS s e (fun j=>S j||decide (j=i)) n).tm t=if(e i).d=some t then(e i).v else AC (sS s e S n).tm t)/\
   (∀id,(∀k,i<k->k<n->S k=true->id∈(e i).ups.map (·.1)->id∉(e k).ups.map (·.1))->
   (sS s e (fun j=>S j||decide (j=i)) n).hp.get id=(DP (e i).ups id).getD ((sS s e S n).hp.get id)))
 |0,h=>oM|n+1,h=>by
  by_cases X3:n=i
  .subst X3;have e1:∀t,AC (sS s e (fun j=>S j||decide (j=n)) n).tm t=AC (sS s e S n).tm t:=fun t=>Ve n fun j hj _=>by simp[show j≠n by omega]
   have e2:∀t,(sS s e (fun j=>S j||decide (j=n)) n).hp.get t=(sS s e S n).hp.get t:=fun t=>Vd n fun j hj _=>by simp[show j≠n by omega]
   unfold sS;simp only[hi,decide_true,Bool.or_true,if_true,Bool.false_eq_true,if_false];exact⟨fun t _=>by rw[Pu,e1],fun id _=>by rw[Om,e2]⟩
  obtain⟨ih1,ih2⟩:=jJ (i:=i) hi n oM;unfold sS;simp only[X3,decide_false,Bool.or_false];cases hS:S n with
  |false=>simp only[Bool.false_eq_true,if_false];exact⟨fun t ht=>ih1 t fun k h1 h2=>ht k h1 oM,fun id ht=>ih2 id fun k h1 h2=>ht k h1 oM⟩|true=>
   simp only[if_true];refine⟨fun t ht=>?_,fun id ht=>?_⟩
   .rw[Pu,Pu,ih1 t fun k h1 h2=>ht k h1 oM];have:=ht n oM oM hS;by_cases h1:(e i).d=some t
    .rw[iN (this h1),iP h1,iP h1]
    simp only[iN h1]
   rw[Om,Om,ih2 id fun k h1 h2=>ht k h1 oM];have:=ht n oM oM hS;by_cases h1:id∈(e i).ups.map (·.1)
   .rw[XD (this h1)];rfl
   rw[XD h1];rfl
end
def Ti (P:Program) (T:AE) (all:List Oper) (o:Oper) (s:St) (en:En):Prop:=
 en.d=o.dst/\match o.guard with
  |none=>KZ P T o s.ev s.hp s.ck en.v en.ups en.acc|some (j,want)=>∃d,IX all j=some d/\((∃b,AC s.tm d= .lit (.bool b)/\((b=want/\KZ P T o s.ev s.hp s.ck en.v en.ups en.acc)\/(b≠want/\en.v= .tup []/\en.ups=[])))\/(AC s.tm d= .tup []/\en.v= .tup []/\en.ups=[]))
abbrev Eo:=List Nat×List Nat
def Ho (P:Program) (T:AE) (all:List Oper):List Oper->St->(St->List Eo->Prop)->Prop
 |[],s,K=>K s []|o::Ae,s,K=>
  match o.guard with
  |none=>LL P T o s fun v ups acc=>Ho P T all Ae (s.put o.dst v ups) fun s' rs=>K s' ((ups.map (·.1),acc)::rs)|some (j,want)=>
   GM ((IX all j).map (AC s.tm)) want (LL P T o s fun v ups acc=>Ho P T all Ae (s.put o.dst v ups) fun s' rs=>K s' ((ups.map (·.1),acc)::rs))
     (Ho P T all Ae (s.put o.dst (.tup []) []) fun s' rs=>K s' (([],[])::rs))
def K0 (e:Nat->En) (n:Nat):List Eo:=(List.range n).map fun k=>((e k).ups.map (·.1),(e k).acc)
theorem Zx (s:St) (en:En) (e:Nat->En):∀k,sS s (fun|0=>en|k+1=>e k) (fun _=>true) (k+1)=sS (s.put en.d en.v en.ups) e (fun _=>true) k
 |0=>rfl|k+1=>by rw[jM (n:=k+1) rfl,Zx s en e k];exact(jM (n:=k) (S:=fun _=>true) rfl).symm
theorem aV {P:Program} {T:AE} {all:List Oper}:∀(Ae:List Oper) (s:St) (K:St->List Eo->Prop),Ho P T all Ae s K->
  ∃e:Nat->En,(∀k (h:k<Ae.length),Ti P T all Ae[k] (sS s e (fun _=>true) k) (e k))/\K (sS s e (fun _=>true) Ae.length) (K0 e Ae.length)
 |[],s,K,h=>⟨fun _=>⟨none, .bad,[],[]⟩,fun k h=>vz3,h⟩|o::Ae,s,K,h=>by
  have key:∃en:En,Ti P T all o s en/\Ho P T all Ae (s.put en.d en.v en.ups) fun s' rs=>K s' ((en.ups.map (·.1),en.acc)::rs):=by
   unfold Ho at h;cases hg:o.guard with
   |none=>simp only[hg] at h;obtain⟨v,ups,acc,h1,h2⟩:=iX h;exact⟨⟨o.dst,v,ups,acc⟩,⟨rfl,by simp only[hg];exact h1⟩,h2⟩
   |some q=>
    obtain⟨j,want⟩:=q;simp only[hg] at h;cases GW:IX all j with
    |none=>simp only[GW,Option.map_none,GM] at h|some d=>
     simp only[GW,Option.map_some,GM] at h;split at h
     .rename_i b hb;simp only[Option.some.injEq] at hb;by_cases I3:b=want
      .obtain⟨v,ups,acc,h1,h2⟩:=iX (h.1 I3);exact⟨⟨o.dst,v,ups,acc⟩,⟨rfl,by simp only[hg];exact⟨d,GW, .inl ⟨b,hb, .inl ⟨I3,h1⟩⟩⟩⟩,h2⟩
      exact⟨⟨o.dst, .tup [],[],[]⟩,⟨rfl,by rw[hg];exact⟨d,GW, .inl ⟨b,hb, .inr ⟨I3,rfl,rfl⟩⟩⟩⟩,h.2 I3⟩
     .rename_i hb;simp only[Option.some.injEq] at hb;exact⟨⟨o.dst, .tup [],[],[]⟩,⟨rfl,by rw[hg];exact⟨d,GW, .inr ⟨hb,rfl,rfl⟩⟩⟩,h⟩
     exact h.elim
  obtain⟨en,h1,h2⟩:=key;obtain⟨e,h3,h4⟩:=aV Ae _ _ h2;refine⟨(fun|0=>en|k+1=>e k),fun k hk=>?_,?_⟩
  .cases k with
   |zero=>exact h1|succ k=>rw[Zx];exact h3 k (by simpa using hk)
  simp only[List.length_cons];rw[Zx];have:K0 (fun|0=>en|k+1=>e k) (Ae.length+1)=(en.ups.map (·.1),en.acc)::K0 e Ae.length:=by simp only[K0,List.range_succ_eq_map,List.map_cons,List.map_map];rfl
  rw[this];exact h4
def KS:List Oper->List Nat->List Nat
 |[],acc=>acc|o::Ae,acc=>KS Ae (acc++[(o.after.toList.filter (Region.binds .any)).foldl (fun m e=>m ||| ((1 <<< e.on) ||| acc.getD e.on 0)) 0])
def QL (all:List Oper) (o:Oper):List Nat:=
 (o.op.operands.toList.filterMap fun| .tmp t=>some t|_=>none)++(match o.guard with|some (j,_)=>(IX all j).toList|none=>[])
def UP (d:Option Nat) (l:List Nat):Bool:=match d with|some d=>l.contains d|none=>false
def MT (l:List Oper):Bool:=
 let ms:=KS l []
 (List.range l.length).all (fun j=>match l[j]? with
  |none=>true|some y=>y.after.toList.all (fun e=>!Region.binds .any e||decide (e.on<j))&&
   (List.range j).all (fun i=>(ms.getD j 0).testBit i||match l[i]? with
    |none=>true
    | some x => !UP x.dst (QL l y) && !UP y.dst (QL l x) && (match x.dst with | some d => y.dst != some d | none => true)))
def TL (a b:List Nat):Bool:=a.all fun x=>!b.contains x
def M7 (ms:List Nat) (rs:List Eo):Bool:=
 rs.all (fun r=>r.1.isEmpty)||
 (List.range rs.length).all (fun j=>(List.range j).all fun i=>(ms.getD j 0).testBit i||
  (TL (rs.getD i ([],[])).1 ((rs.getD j ([],[])).1++(rs.getD j ([],[])).2)&&TL (rs.getD j ([],[])).1 (rs.getD i ([],[])).2))
open Go Go.Great
def PB (l:List Oper) (S:Nat->Bool) (i:Nat):Prop:=∀o,l[i]?=some o->∀e∈o.after,Region.binds .any e=true->S e.on=true
def au (l:List Oper) (acc:List Nat):Prop:=
 ∀j,j<acc.length->∀i,(acc.getD j 0).testBit i=true->∀S:Nat->Bool,(∀k,S k=true->PB l S k)->PB l S j->S i=true
theorem dE {acc:List Nat} {i:Nat}:∀(es:List Edge) (m:Nat),(es.foldl (fun m e=>m ||| ((1 <<< e.on) ||| acc.getD e.on 0)) m).testBit i=true->
  m.testBit i=true\/∃e∈es,e.on=i\/(acc.getD e.on 0).testBit i=true
 |[],m,h=> .inl h|e::es,m,h=>by
  rcases dE es _ h with h|⟨e',h1,h2⟩
  .rw[Nat.testBit_or,Nat.testBit_or,Nat.one_shiftLeft,Nat.testBit_two_pow] at h;simp only[Bool.or_eq_true,decide_eq_true_eq] at h;rcases h with h|h
   .exact .inl h
   exact .inr ⟨e,mS,h⟩
  exact .inr ⟨e',mC _ h1,h2⟩
theorem iy {l:List Oper}:∀(Ae pre:List Oper) (acc:List Nat),l=pre++Ae->acc.length=pre.length->au l acc->
  au l (KS Ae acc)/\(KS Ae acc).length=l.length
 |[],pre,acc,h,hl,hm=>⟨hm,by simp[KS,h,hl]⟩|o::Ae,pre,acc,h,hl,hm=>by
  unfold KS;refine iy Ae (pre++[o]) _ (by simp[h]) (by simp[hl]) ?_;intro j hj i hi S hS hC;by_cases Aa:j<acc.length
  .refine hm j Aa i ?_ S hS hC;rw[gE,List.getElem?_append_left Aa,<-gE] at hi;exact hi
  have XN:j=pre.length:=vx8;subst XN;rw[gE,List.getElem?_append_right oM] at hi;simp only[hl,Nat.sub_self,List.getElem?_cons_zero,Option.getD_some] at hi;have ho:l[pre.length]?=some o:=by simp[h]
  rcases dE _ _ hi with h0|⟨e,h1,h2⟩
  .simp at h0
  rw[List.mem_filter] at h1;have hb:=hC o ho e (by simpa using h1.1) h1.2;rcases h2 with rfl|h2
  .exact hb
  by_cases OL:e.on<acc.length
  .exact hm e.on OL i h2 S hS (hS _ hb)
  rw[gE,List.getElem?_eq_none oM] at h2;simp at h2
section
variable {C:Cx} {T:AE}
theorem Zl {G:Nat->Prop} {g:Nat} {s:St} {a:Act} {w w':World} (hrel:GJ C G s.tm s.hp a w) {e e':An} (hv:∀t,VR w (UE e) e G (AC s.tm t) (a.tmps.getD t undef)) {ups:List Up} {v:AV} {xv:Value} {dst:Option Nat} (Hx:dst.getD 0<C.N)
  (h1:AU w' e' (gadd G g) (ups++s.hp)) (h2:AB w e G w' e' (gadd G g)) (h3:Ew C w' e' (gadd G g)) (h4:HU C w') (h5:VR w' (UE e') e' (gadd G g) v xv):
  GJ C (gadd G g) (s.put dst v ups).tm (s.put dst v ups).hp (a.put dst xv) w':=by
 refine⟨?_,?_,h4,e',h1,h3,fun t=>?_⟩
 .cases dst<;>exact hrel.defers
 .cases dst with
  |none=>exact hrel.size|some d=>simp only[Act.put,Array.size_setIfInBounds];exact hrel.size
 cases dst with
 |none=>exact(hv t).ext h2|some d=>
  simp only[St.put,AC,Act.put];by_cases h:d=t
  .subst h;rw[iP rfl];have hd:d<a.tmps.size:=by rw[hrel.size];exact Hx
   rw[gA,Array.getElem?_setIfInBounds_self_of_lt hd];exact h5
  rw[iN h];have:(a.tmps.setIfInBounds d xv).getD t undef=a.tmps.getD t undef:=by rw[gA,gA,Array.getElem?_setIfInBounds_ne h]
  rw[this];exact(hv t).ext h2
theorem QaV (hC:Cn C T) {o:Oper} (Hx:o.dst.getD 0<C.N) {G:Nat->Prop} {g:Nat} (hg:¬G g) {s:St} {a:Act} {w:World} (hrel:GJ C G s.tm s.hp a w)
  {v:AV} {ups:List Up} {acc:List Nat} (h:KZ C.P T o s.ev s.hp g v ups acc) {Q:Exit->Act->World->Prop}
  {next:Act->World->Prop} (hn:∀a' w',GJ C (gadd G g) (s.put o.dst v ups).tm (s.put o.dst v ups).hp a' w'->next a' w'):o.wpIn (Gp C.rd) 0 C.P a w next Q:=by
 obtain⟨e,hr,AK,hv⟩:=hrel.body;have p:Bt C e G g s.hp w:=⟨hr,AK,hrel.frm,hg⟩;have H7:∀x,VR w (UE e) e G (s.ev x) (a.eval x):=Me (s:=s) hv;have main:∀(P:Prop) (res:Result Next),Bb C e G g s.hp w (P,v,ups) res->
   (∃xv w',res= .ok (.value xv) w'/\next (a.put o.dst xv) w')\/(∃w',res= .ok .skip w'/\next (a.put o.dst undef) w'):=by
  rintro P res ⟨nx,w',e',r1,r2,r3,r4,r5,r6⟩;rcases r6 with ⟨xv,rfl,r6⟩|⟨rfl,SC⟩
  .exact .inl ⟨xv,w',r1,hn _ _ (Zl hrel hv Hx r2 r3 r4 r5 r6)⟩
  refine .inr ⟨w',r1,hn _ _ (Zl hrel hv Hx r2 r3 r4 r5 ?_)⟩;simp only at SC;rw[SC];exact .dat _ _ (.bad _)
 unfold KZ at h;split at h
 .rename_i f args at_ HG;split at h
  .rename_i fid vs hf;obtain⟨τ,σ,D,keep,hp1,rc,hc,rfl,rfl,_⟩:=h;obtain⟨fst,cap,JL,Mx,NJ⟩:=dC (xs:=args.map a.eval) hf (H7 f) sM fun i hi=>by
    have Ar:i<args.size:=vv5;have e1:(args.toList.map s.ev)[i]=s.ev args[i]:=sM;have e2:(args.map a.eval).getD i undef=a.eval args[i]:=by rw[gA];simp[Ar]
    rw[e1,e2];exact H7 _
   obtain⟨⟨fn,OC,OD,OE⟩,Xq⟩:=bA p hC (vs:=vs) (vals:=fst++args.map a.eval++cap) Mx NJ hc;have AL:(execOp a.eval o).run C.P w= .ok (.enter fid (fst++args.map a.eval++cap)) w:=by unfold execOp;simp only[HG,resolve,JL,Deferred.ofValue,invoke,callFunc,Sem.run_bind,Sem.run_pure,Result.andThen_ok,run_program,OC,OD,OE,Bool.false_eq_true,if_false,Array.empty_append]
   refine⟨fun _ _=>trivial,?_⟩;rw[Oper.semAt_eq _ _ _ (by intro c hc;rw[HG] at hc;cases hc),AL];refine cT (Xq.mono ?_);rintro en w' ⟨xv,rfl,AI⟩;rcases main _ _ AI with ⟨xv',w'',E1,Dn⟩|⟨w'',E1,Dn⟩
   .cases E1;exact Dn
   cases E1
  exact h.elim
 obtain⟨h1,rfl,rfl,_⟩:=h;have:=i7 p hC o H7 h1;refine⟨fun _ _=>trivial,?_⟩;rw[Oper.semAt_eq _ _ _ (i6 h1)];rcases main _ _ this with ⟨xv,w',E1,Dn⟩|⟨w',E1,Dn⟩
 .rw[E1,Oper.uponIn_value];exact Dn
 rw[E1,Oper.uponIn_skip];exact Dn
theorem js {G:Nat->Prop} (g:Nat) {s:St} {a:Act} {w:World} (hrel:GJ C G s.tm s.hp a w) {dst:Option Nat} (Hx:dst.getD 0<C.N):
  GJ C (gadd G g) (s.put dst (.tup []) []).tm (s.put dst (.tup []) []).hp (a.put dst undef) w:=by
 obtain⟨e,hr,AK,hv⟩:=hrel.body;have x:=AB.wide w e G g;exact Zl hrel hv Hx hr.wide x (AK.wide g) hrel.frm (.dat _ _ (.tup [] #[] rfl (fun i hi=>vy6)))
theorem gU {d:Option Nat} {l:List Nat} {t:Nat} (h:UP d l=false) (hd:d=some t):t∉l:=by subst hd;simpa[UP] using h
theorem QeW {l:List Oper} (h:MT l=true) {j:Nat} {o:Oper} (ho:l[j]?=some o):∀e∈o.after,Region.binds .any e=true->e.on<j:=by intro e he hb;unfold MT at h;rw[List.all_eq_true] at h;have hj:j<l.length:=(List.getElem?_eq_some_iff.1 ho).1;have:=h j vx2;simp only[ho,Bool.and_eq_true,List.all_eq_true] at this;have:=this.1 e (by simpa using he);simpa[hb] using this
theorem jV {l:List Oper} (h:MT l=true) {i j:Nat} (Da:i<j) {x y:Oper} (hx:l[i]?=some x) (hy:l[j]?=some y):
  ((KS l []).getD j 0).testBit i=true\/(∀t,x.dst=some t->t∉QL l y/\y.dst≠some t)/\(∀t,y.dst=some t->t∉QL l x):=by
 unfold MT at h;rw[List.all_eq_true] at h;have hj:j<l.length:=(List.getElem?_eq_some_iff.1 hy).1;have:=h j vx2;simp only[hy,Bool.and_eq_true,List.all_eq_true] at this;have:=this.2 i (by simpa using Da);simp only[Bool.or_eq_true,hx,Bool.and_eq_true,Bool.not_eq_true'] at this;rcases this with h1|⟨⟨h1,h2⟩,h3⟩
 .exact .inl h1
 refine .inr ⟨fun t ht=>⟨gU h1 ht,?_⟩,fun t ht=>gU h2 ht⟩;rw[ht] at h3;simpa using h3
theorem Wp {a b:List Nat} (h:TL a b=true) {i:Nat} (ha:i∈a):i∉b:=by unfold TL at h;rw[List.all_eq_true] at h;simpa using h i ha
def GS (s:St) (n:Nat) (S:Nat->Bool):Nat->Prop:=fun g=>g<s.ck\/∃j,j<n/\S j=true/\g=s.ck+j
theorem Qe8 (hC:Cn C T) {l:List Oper} (hd:∀o∈l,o.dst.getD 0<C.N) (hs:MT l=true) {s:St} {e:Nat->En}
  (he:∀k (h:k<l.length),Ti C.P T l l[k] (sS s e (fun _=>true) k) (e k)) (hc:M7 (KS l []) (K0 e l.length)=true)
  {S:Nat->Bool} (hS:∀k,S k=true->PB l S k) {i:Nat} (hi:i<l.length) (Mj:S i=false) (RA:PB l S i) {a:Act} {w:World}
  (hrel:GJ C (GS s l.length S) (sS s e S l.length).tm (sS s e S l.length).hp a w) {Q:Exit->Act->World->Prop} {K:Act->World->Prop}
  (hK:∀a' w',GJ C (GS s l.length fun j=>S j||decide (j=i)) (sS s e (fun j=>S j||decide (j=i)) l.length).tm (sS s e (fun j=>S j||decide (j=i)) l.length).hp a' w'->K a' w'):
  wpOpIn (Gp C.rd) 0 C.P l.toArray Q i K a w:=by
 obtain⟨hm,Gw⟩:=iy (l:=l) l [] [] sM rfl (by intro j hj;simp at hj);have IC:l[i]?=some l[i]:=gG hi;obtain⟨Mm,Du⟩:=he i hi;have slot:∀t,(t∈QL l l[i]\/l[i].dst=some t)->∀j,j<l.length->(e j).d=some t->S j=decide (j<i):=by
  intro t ht j hj KH;have EB:l[j].dst=some t:=(he j hj).1.symm.trans KH;have JO:l[j]?=some l[j]:=gG hj;by_cases AF:j=i
  .subst AF;simpa using Mj
  by_cases Aa:j<i
  .simp only[Aa,decide_true];rcases jV hs Aa JO IC with h|⟨h1,h2⟩
   .exact hm i oM j h S hS RA
   obtain⟨h3,h4⟩:=h1 t EB;rcases ht with ht|ht
   .exact absurd ht h3
   exact absurd ht h4
  have Da:i<j:=oM;simp only[Aa,decide_false];rcases jV hs Da IC JO with h|⟨h1,h2⟩
  .cases W9:S j with
   |false=>rfl|true=>have:=hm j oM i h S hS (hS j W9);rw[Mj] at this;cases this
  rcases ht with ht|ht
  .exact absurd ht (h2 t EB)
  exact absurd EB (h1 t ht).2
 have heap:∀id,(id∈(e i).acc\/id∈(e i).ups.map (·.1))->∀j,j<l.length->id∈(e j).ups.map (·.1)->S j=decide (j<i):=by
  intro id hid j hj KH;by_cases AF:j=i
  .subst AF;simpa using Mj
  unfold M7 at hc;rw[Bool.or_eq_true] at hc;have hr:∀k,k<l.length->(K0 e l.length).getD k ([],[])=((e k).ups.map (·.1),(e k).acc):=by intro k hk;simp[K0,hk]
  rcases hc with hc|hc
  .rw[List.all_eq_true] at hc;have:=hc ((e j).ups.map (·.1),(e j).acc) (by simp only[K0,List.mem_map,List.mem_range];exact⟨j,hj,rfl⟩);simp only[List.isEmpty_iff] at this;rw[this] at KH;cases KH
  rw[List.all_eq_true] at hc;have Ej:(K0 e l.length).length=l.length:=by simp[K0]
  rw[Ej] at hc;by_cases Aa:j<i
  .simp only[Aa,decide_true];have:=hc i vv5;rw[List.all_eq_true] at this;have:=this j (by simpa using Aa);rw[hr i hi,hr j hj] at this;simp only[Bool.or_eq_true,Bool.and_eq_true] at this;rcases this with h|⟨h1,h2⟩
   .exact hm i oM j h S hS RA
   have:=Wp h1 KH;rw[List.mem_append] at this;exact absurd (hid.symm) this
  have Da:i<j:=oM;simp only[Aa,decide_false];have:=hc j vx2;rw[List.all_eq_true] at this;have:=this i (by simpa using Da);rw[hr i hi,hr j hj] at this;simp only[Bool.or_eq_true,Bool.and_eq_true] at this;rcases this with h|⟨h1,h2⟩
  .cases W9:S j with
   |false=>rfl|true=>have:=hm j oM i h S hS (hS j W9);rw[Mj] at this;cases this
  rcases hid with hid|hid
  .exact absurd hid (Wp h2 KH)
  exact absurd (List.mem_append_left _ KH) (Wp h1 hid)
 have tmeq:∀t∈QL l l[i],AC (sS s e S l.length).tm t=AC (sS s e (fun _=>true) i).tm t:=by intro t ht;rw[Ve (S':=fun j=>decide (j<i)) l.length fun j hj KH=>slot t (.inl ht) j hj KH,(jK l.length (Nat.le_of_lt hi)).1]
 have wv:∀id,(id∈(e i).acc\/id∈(e i).ups.map (·.1))->(sS s e S l.length).hp.get id=(sS s e (fun _=>true) i).hp.get id:=by intro id hid;rw[Vd (S':=fun j=>decide (j<i)) l.length fun j hj KH=>heap id hid j hj KH,(jK l.length (Nat.le_of_lt hi)).2]
 have evq:∀x∈l[i].op.operands,(sS s e S l.length).ev x=(sS s e (fun _=>true) i).ev x:=by
  intro x hx;cases x with
  |tmp t=>exact tmeq t (List.mem_append_left _ (List.mem_filterMap.2 ⟨.tmp t,vk9,rfl⟩))|_=>rfl
 have uQ:¬GS s l.length S (s.ck+i):=by
  rintro(h|⟨j,_,h1,h2⟩)
  .omega
  have:j=i:=oM;subst this;rw[Mj] at h1;cases h1
 obtain⟨ins1,ins2⟩:=jJ (s:=s) (e:=e) Mj l.length hi;have fin:∀a' w',GJ C (gadd (GS s l.length S) (s.ck+i)) ((sS s e S l.length).put l[i].dst (e i).v (e i).ups).tm ((sS s e S l.length).put l[i].dst (e i).v (e i).ups).hp a' w'->K a' w':=by
  intro a' w' h;refine hK a' w' (h.congr ?_ ?_ ?_)
  .intro g;constructor
   .rintro((h|⟨j,h1,h2,h3⟩)|h)
    .exact .inl h
    .exact .inr ⟨j,h1,by simp[h2],h3⟩
    exact .inr ⟨i,hi,sM,h⟩
   rintro(h|⟨j,h1,h2,h3⟩)
   .exact .inl (.inl h)
   simp only[Bool.or_eq_true,decide_eq_true_eq] at h2;rcases h2 with h2|rfl
   .exact .inl (.inr ⟨j,h1,h2,h3⟩)
   exact .inr h3
  .intro t;rw[Pu,<-Mm];refine ins1 t fun k h1 h2 h3 h4 h5=>?_;have:=slot t (.inr (Mm.symm.trans h4)) k h2 h5;rw[h3] at this;simp at this;omega
  intro id;rw[Om];refine ins2 id fun k h1 h2 h3 h4 h5=>?_;have:=heap id (.inr h4) k h2 h5;rw[h3] at this;simp at this;omega
 have sem:KZ C.P T l[i] (sS s e (fun _=>true) i).ev (sS s e (fun _=>true) i).hp (sS s e (fun _=>true) i).ck (e i).v (e i).ups (e i).acc->l[i].wpIn (Gp C.rd) 0 C.P a w K Q:=by intro h;rw[Vc] at h;have h':=QaU h (ev':=(sS s e S l.length).ev) (hp':=(sS s e S l.length).hp) evq (fun id hid=>wv id (.inl hid));exact QaV hC (hd _ (gM hi)) uQ hrel h' fin
 unfold wpOpIn;have ve:l.toArray[i]?=some l[i]:=sM;rw[ve];simp only;cases hg:l[i].guard with
 |none=>simp only[hg] at Du;rw[iP (N0 hg _)];exact sem Du|some q=>
  obtain⟨j,want⟩:=q;simp only[hg] at Du;obtain⟨d,GW,Du⟩:=Du;rcases Du with ⟨b,hb,Du⟩|⟨hb,hv,hu⟩
  .have hy:yielded l.toArray a.tmps j=some b:=by
    obtain⟨e',hr,AK,hv⟩:=hrel.body;have De:=hv d;rw[tmeq d (List.mem_append_right _ (by simp[hg,GW])),hb] at De;obtain⟨De,_⟩:=De.lit_inv;unfold yielded;have e1:(l.toArray[j]?).bind (·.dst)=some d:=by simpa[IX] using GW
    rw[e1];rw[gA] at De;cases hx:a.tmps[d]? with
    |none=>rw[hx] at De;cases De
    |some v=>rw[hx] at De;simp at De;subst De;simp[hx]
   rcases Du with ⟨I3,Du⟩|⟨I3,hv,hu⟩
   .rw[iP vq4];exact sem Du
   rw[iN vq4];rw[hv,hu] at fin;exact⟨fun _ _=>trivial,fin _ _ (js _ hrel (hd _ (gM hi)))⟩
  have hy:yielded l.toArray a.tmps j=none:=by obtain⟨e',hr,AK,hv⟩:=hrel.body;have De:=hv d;rw[tmeq d (List.mem_append_right _ (by simp[hg,GW])),hb] at De;exact kZ GW De
  rw[iN (by simp[Region.wanted,hg,hy])];rw[hv,hu] at fin;exact⟨fun _ _=>trivial,fin _ _ (js _ hrel (hd _ (gM hi)))⟩
end
open Go Go.Great
section
variable {C:Cx} {T:AE}
def Pw (n:Nat) (S:Nat->Bool):Nat:=(List.range n).countP fun j=>!S j
theorem Qgf {n i:Nat} {S S':Nat->Bool} (hi:i<n) (hS:S i=false) (W8:S' i=true) (hh:∀j,j≠i->S' j=S j):Pw n S'+1=Pw n S:=by
 induction n with
 |zero=>omega|succ n ih=>
  unfold Pw at*;rw[List.range_succ,List.countP_append,List.countP_append];by_cases h:i=n
  .subst h;have:(List.range i).countP (fun j=>!S' j)=(List.range i).countP fun j=>!S j:=by refine List.countP_congr fun j hj=>?_;rw[hh j vx8]
   rw[this];simp[hS,W8]
  have:=ih oM;simp only[List.countP_cons,List.countP_nil,hh n (Ne.symm h)];omega
theorem nX (hC:Cn C T) {l:List Oper} (hd:∀o∈l,o.dst.getD 0<C.N) (hs:MT l=true) {s:St} {e:Nat->En}
  (he:∀k (h:k<l.length),Ti C.P T l l[k] (sS s e (fun _=>true) k) (e k)) (hc:M7 (KS l []) (K0 e l.length)=true)
  {Q:Exit->Act->World->Prop} (hQ:∀a w,BS C (sS s e (fun _=>true) l.length) a w->Q .normal a w):
  ∀(fuel:Nat) (listed:Array Bool) (a:Act) (w:World),listed.size=l.length->(∀k,listed.getD k false=true->PB l (fun j=>listed.getD j false) k)->
   Pw l.length (fun j=>listed.getD j false)<=fuel->
   GJ C (GS s l.length fun j=>listed.getD j false) (sS s e (fun j=>listed.getD j false) l.length).tm (sS s e (fun j=>listed.getD j false) l.length).hp a w->
   wpAnyIn (Gp C.rd) 0 C.P .any l.toArray Q fuel listed a w:=by
 have fin:∀(listed:Array Bool) (a:Act) (w:World),listed.size=l.length->Region.ready .any l.toArray listed=[]->
   GJ C (GS s l.length fun j=>listed.getD j false) (sS s e (fun j=>listed.getD j false) l.length).tm (sS s e (fun j=>listed.getD j false) l.length).hp a w->Q .normal a w:=by
  intro listed a w Be hr hrel;have all:∀j,j<l.length->listed.getD j false=true:=by
   intro j;induction j using Nat.strongRecOn with
   |_ j ih=>
    intro hj;cases Co:listed.getD j false with
    |true=>rfl|false=>
     have:j∈Region.ready .any l.toArray listed:=by
      rw[mem_ready];have Lr:j<listed.size:=oM;refine⟨?_,l[j],sM,fun ed Mm hb=>?_⟩
      .simp[Lr] at Co ⊢;exact Co
      have:=QeW hs (gG hj) ed Mm hb;exact ih _ this oM
     rw[hr] at this;cases this
  refine hQ a w (hrel.congr ?_ ?_ ?_)
  .intro g;rw[Vc];simp only[GS,Az];constructor
   .rintro(h|⟨j,h1,_,h3⟩)<;>omega
   intro h;by_cases h':g<s.ck
   .exact .inl h'
   exact .inr ⟨g - s.ck,oM,all _ oM,oM⟩
  .intro t;exact Ve _ fun j hj _=>(all j hj).symm
  intro id;exact Vd _ fun j hj _=>(all j hj).symm
 intro fuel;induction fuel with
 |zero=>
  intro listed a w Be Cy ht hrel;have hr:Region.ready .any l.toArray listed=[]:=by
   apply List.eq_nil_iff_forall_not_mem.2
   intro j hj;obtain⟨h1,o,h2,_⟩:=mem_ready.1 hj;have Co:j<l.length:=by simpa using(Array.getElem?_eq_some_iff.1 h2).1
   have h0:Pw l.length (fun j=>listed.getD j false)=0:=oM;unfold Pw at h0;rw[List.countP_eq_zero] at h0;have:=h0 j (by simpa using Co);have Lr:j<listed.size:=oM;simp[Lr] at this h1;rw[this] at h1;cases h1
  exact⟨hr,fin listed a w Be hr hrel⟩
 |succ fuel ih=>
  intro listed a w Be Cy ht hrel;refine⟨fun hr=>fin listed a w Be hr hrel,fun i hi=>?_⟩;obtain⟨h1,o,h2,h3⟩:=mem_ready.1 hi;have DQ:i<l.length:=by simpa using(Array.getElem?_eq_some_iff.1 h2).1
  have Ul:i<listed.size:=oM;have Mj:listed.getD i false=false:=by simp[Ul] at h1 ⊢;exact h1
  have RA:PB l (fun j=>listed.getD j false) i:=by
   intro o' HF ed Mm hb;have:o'=o:=by rw[List.getElem?_toArray,HF] at h2;exact(Option.some.inj h2)
   subst this;exact h3 ed Mm hb
  have DH:(fun j=>(listed.setIfInBounds i true).getD j false)=fun j=>listed.getD j false||decide (j=i):=by
   funext j
   by_cases AF:j=i
   .subst AF;simp[Ul]
   rw[getD_set_ne false (Ne.symm AF)];simp[AF]
  refine Qe8 hC hd hs he hc Cy DQ Mj RA hrel fun a' w' wC=>?_;refine ih _ a' w' (by simpa using Be) ?_ ?_ ?_
  .rw[DH];intro k hk o' HF ed Mm hb;by_cases Mn:k=i
   .subst Mn;simp only[RA o' HF ed Mm hb,Bool.true_or]
   have CV:listed.getD k false=true:=by rw[getD_set_ne false (Ne.symm Mn)] at hk;exact hk
   simp only[Cy k CV o' HF ed Mm hb,Bool.true_or]
  .have:=Qgf (n:=l.length) (S:=fun j=>listed.getD j false) (S':=fun j=>(listed.setIfInBounds i true).getD j false) DQ Mj (by simp[Ul]) (fun j hj=>getD_set_ne false (Ne.symm hj));omega
  rw[DH];exact wC
theorem aX {id:Nat} {l:List Oper} {Q:Exit->St->Prop} {s:St} (hC:Cn C T) (hm:C.P.follows .mixedOrders=true)
  (hs:MT l=true) (hd:(l.all fun o=>decide (o.dst.getD 0<C.N))=true)
  (h:∀K:St->Prop,(∀s',Q .normal s'->K s')->Ho C.P T l l s (fun s' rs=>M7 (KS l []) rs=true/\K s')):BD C (.region id l.toArray true) Q s:=by
 intro a w hr;refine wpIn_region_any hm ?_;rw[List.all_eq_true] at hd;obtain⟨e,he,hc,hK⟩:=aV _ _ _ (h (fun s'=>Q .normal s') fun _ h=>h);refine nX hC (fun o ho=>by simpa using hd o ho) hs he hc (fun a' w' E0=> .inl ⟨_,E0,hK⟩) _ _ a _ sM ?_ ?_ ?_
 .intro k hk;by_cases A3:k<l.length<;>simp[A3] at hk
 .unfold Pw;exact Nat.le_trans (List.countP_le_length) sM
 have h0:(fun j=>(Array.replicate l.toArray.size false).getD j false)=fun _=>false:=by
  funext j
  by_cases hj:j<l.length<;>simp[hj]
 rw[h0];have:∀n,(sS s e (fun _=>false) n).tm=s.tm/\(sS s e (fun _=>false) n).hp=s.hp:=by
  intro n;induction n with
  |zero=>exact⟨rfl,rfl⟩|succ n ih=>rw[jL sM];exact ih
 rw[(this _).1,(this _).2];have BJ:GJ C (Az s.ck) s.tm s.hp a {w with drawn:=w.drawn+1}:=by
  have hr:GJ C (Az s.ck) s.tm s.hp a w:=hr;obtain⟨h1,h2,h3,e',h4,h5,h6⟩:=hr;have x:AB w e' (Az s.ck) {w with drawn:=w.drawn+1} e' (Az s.ck):=⟨lR _,fun _ h=>h,fun _ _ h=>h,fun _ _ _=>rfl,fun _ Au h _=>⟨Au,h,rfl,rfl, .inl ⟨rfl,rfl⟩⟩⟩;refine⟨h1,h2,⟨h3.os,h3.tape,h3.output,h3.size,h3.same,Nat.le_succ_of_le h3.drawn⟩,e',?_,⟨h5.zeq,h5.zlt,h5.ext.trans x,h5.mine⟩,fun t=>(h6 t).ext x⟩;exact⟨h4.dead,fun id g ob hi=>by
   obtain⟨ee,k1,k2,k3,k4⟩:=h4.live id g ob hi;exact⟨ee,k1,k2,k3,k4.ext x fun _ _ _=>⟨rfl,fun _ _ h=>⟨rfl,h⟩⟩⟩,h4.inj,h4.lt,h4.nz,h4.kl,h4.ko,h4.kk⟩
 refine BJ.congr ?_ (fun _=>rfl) (fun _=>rfl);intro g;simp[GS,Az]
end
open Go Go.Great
abbrev I (x:Int):AV:= .lit (.int .i64 x)
abbrev B (x:Bool):AV:= .lit (.bool x)
abbrev S (x:ByteArray):AV:= .lit (.string x)
def As (l:List Int):List AV:=l.map I
abbrev IS (l:List Int):AV:= .sl (As l) false
def Ij (l:List (List Int)):List AV:=l.map IS
abbrev RS (l:List (List Int)):AV:= .sl (Ij l) false
def BI (t:Nat) (l:List (List Int)):List AV:=l.map fun r=> .kid t 1 (As r)
def PC:AV->Prop
 | .lit _| .gl _=>True| .sl _ full=>full=false|_=>False
def PE (es:List AV):Prop:=∀e∈es,∀c∈e.cells,PC c
theorem PC.fz {c:AV} (h:PC c) (n:Nat) (hp:Hp):fz n hp c=c/\fzP n hp c/\fzR n hp c=[]:=by
 cases c with
 |lit v=>cases n<;>exact⟨rfl,trivial,rfl⟩
 |gl g=>cases n<;>exact⟨rfl,trivial,rfl⟩
 |sl es full=>cases h;cases n<;>exact⟨rfl,trivial,rfl⟩
 |_=>exact h.elim
theorem PC.att {c:AV} (h:PC c) (hp:Hp):att hp c=c/\attP hp c/\Dj c=[]:=by cases c<;>first|exact⟨rfl,trivial,rfl⟩|exact h.elim
theorem PC.rnK {c:AV} (h:PC c) (m:Bool) (τ:Nm) (hp:Hp):rnK m τ hp c=c/\rnKP m τ hp c/\rnKR m τ hp c=[]:=by
 cases c with
 |lit v=>cases m<;>exact⟨rfl,trivial,rfl⟩
 |gl g=>cases m<;>exact⟨rfl,trivial,rfl⟩
 |sl es full=>cases h;cases m<;>exact⟨rfl,trivial,rfl⟩
 |_=>exact h.elim
theorem YW {f:AV->AV} {e:AV} (h:∀c∈e.cells,f c=c):AH f e=e:=by
 cases e with
 |agg cs=>have h2:∀c∈cs,f c=c:=h;simp only[AH];rw[List.map_congr_left h2,List.map_id']|_=>exact h _ mS
theorem YV {α:Type} {f:α->α} {l:List α} (h:∀x∈l,f x=x):l.map f=l:=by rw[List.map_congr_left h,List.map_id']
theorem Ng {α β:Type} {f:α->List β} {l:List α} (h:∀x∈l,f x=[]):l.flatMap f=[]:=by rw[List.flatMap_eq_nil_iff];exact h
section
variable {es:List AV} (h:PE es)
include h
theorem PE.fz (n:Nat) (hp:Hp):es.map (AH (fz n hp))=es:=YV fun e he=>YW fun c hc=>((h e he c hc).fz n hp).1
theorem PE.fzP (n:Nat) (hp:Hp):∀e∈es,∀c∈e.cells,fzP n hp c:=fun e he c hc=>((h e he c hc).fz n hp).2.1
theorem PE.fzR (n:Nat) (hp:Hp):(es.flatMap fun e=>e.cells.flatMap (fzR n hp))=[]:=Ng fun e he=>Ng fun c hc=>((h e he c hc).fz n hp).2.2
theorem PE.att (hp:Hp):es.map (AH (att hp))=es:=YV fun e he=>YW fun c hc=>((h e he c hc).att hp).1
theorem PE.attP (hp:Hp):∀e∈es,∀c∈e.cells,attP hp c:=fun e he c hc=>((h e he c hc).att hp).2.1
theorem PE.esR:esR es=[]:=Ng fun e he=>Ng fun c hc=>((h e he c hc).att []).2.2
theorem PE.rnK (m:Bool) (τ:Nm) (hp:Hp):es.map (AH (rnK m τ hp))=es:=YV fun e he=>YW fun c hc=>((h e he c hc).rnK m τ hp).1
theorem PE.rnKP (m:Bool) (τ:Nm) (hp:Hp):∀e∈es,∀c∈e.cells,rnKP m τ hp c:=fun e he c hc=>((h e he c hc).rnK m τ hp).2.1
theorem PE.rnKR (m:Bool) (τ:Nm) (hp:Hp):(es.flatMap fun e=>e.cells.flatMap (rnKR m τ hp))=[]:=Ng fun e he=>Ng fun c hc=>((h e he c hc).rnK m τ hp).2.2
theorem PE.append {fs:List AV} (h':PE fs):PE (es++fs):=fun e he=>by
 rcases List.mem_append.1 he with he|he
 .exact h e he
 exact h' e he
theorem PE.tr (L:List Nat):∀e∈es,S8 false L e:=fun e he c hc=>by have:=h e he c hc;cases c<;>first|trivial|exact this.elim|exact .inl rfl
end
theorem mQ:PE []:=fun e he=>by cases he
theorem mK {e:AV} {es:List AV}:PE (e::es)↔(∀c∈e.cells,PC c)/\PE es:=by simp[PE]
theorem mF {es fs:List AV}:PE (es++fs)↔PE es/\PE fs:=by
 constructor
 .intro h;exact⟨fun e he=>h e (List.mem_append_left _ he),fun e he=>h e (List.mem_append_right _ he)⟩
 intro h;exact h.1.append h.2
theorem mN (l:List Int):PE (As l):=by intro e he c hc;simp only[As,List.mem_map] at he;obtain⟨x,_,rfl⟩:=he;simp only[AV.cells,List.mem_singleton] at hc;subst hc;trivial
theorem HL (l:List Int):(As l).length=l.length:=xv6
theorem Qer (l:List (List Int)):(Ij l).length=l.length:=by simp[Ij]
theorem Ao {l:List Int} {n:Nat} (h:n<l.length):(As l).getD n .bad=I (l.getD n 0):=by simp[As,h]
theorem BF {l:List (List Int)} {n:Nat} (h:n<l.length):(Ij l).getD n .bad=IS (l.getD n []):=by simp[Ij,h]
theorem xT (l r:List Int):As l++As r=As (l++r):=xv6
theorem xU {l:List Int}:∀y∈As l,y.cells.length=1:=by intro y hy;simp only[As,List.mem_map] at hy;obtain⟨x,_,rfl⟩:=hy;rfl
section
variable {C:Cx} {T:AE}
@[congr] theorem Qho {P:Program} {T:AE} {all Ae:List Oper} {s s':St} {K:St->Prop} (h:s=s'):DX P T all Ae s K=DX P T all Ae s' K:=xv5
@[congr] theorem Qhn {P:Program} {T:AE} {all Ae:List Oper} {s s':St} {K:St->List Eo->Prop} (h:s=s'):Ho P T all Ae s K=Ho P T all Ae s' K:=xv5
@[congr] theorem Qio {P:Program} {T:AE} {o:Oper} {s s':St} {K:St->Prop} (h:s=s'):KW P T o s K=KW P T o s' K:=xv5
@[congr] theorem Qin {P:Program} {T:AE} {o:Oper} {s s':St} {K:AV->List Up->List Nat->Prop} (h:s=s'):LL P T o s K=LL P T o s' K:=xv5
@[congr] theorem Qip {T:AE} {o:Oper} {ev:Operand->AV} {hp:Hp} {g:Nat}:Bu T o ev hp g=Bu T o ev hp g:=rfl
@[congr] theorem Qhq {ms:List Nat} {rs:List Eo}:M7 ms rs=M7 ms rs:=rfl
inductive BA (s:St) (hp':Hp):List (Nat×AV)->Prop
 |nil:BA s hp' []|cons {t:Nat} {v:AV} {l:List (Nat×AV)}:AC s.tm t=v->BA s hp' l->BA s hp' ((t,v)::l)|snap {t:Nat} {v:AV} {l:List (Nat×AV)}:Nj s.hp (AC s.tm t)->Ni s.hp (AC s.tm t)=v->(∀i∈P3 s.hp (AC s.tm t),hp'.get i=none)->BA s hp' l->BA s hp' ((t,v)::l)
inductive AX (s:St) (hp':Hp):Hp->Prop
 |nil:AX s hp' []|cons {i g:Nat} {ob:Ob} {l:Hp}:s.hp.get i=some (g,ob)->AX s hp' l->AX s hp' ((i,some (g,ob))::l)|less {i g:Nat} {ob Gc:Ob} {l:Hp}:s.hp.get i=some (g,ob)->FV s.hp hp' ob Gc->AX s hp' l->AX s hp' ((i,some (g,Gc))::l)|gone {i:Nat} {l:Hp}:AX s hp' l->AX s hp' ((i,none)::l)|opt {i:Nat} {o:Option (Nat×Ob)} {l:Hp}:s.hp.get i=o->AX s hp' l->AX s hp' ((i,o)::l)
theorem AX.get {s:St} {hp' l:Hp} (h:AX s hp' l):∀id,l.get id=none\/∃g ob Gc,s.hp.get id=some (g,ob)/\l.get id=some (g,Gc)/\FV s.hp hp' ob Gc:=by
 induction h with
 |nil=>exact fun _=> .inl rfl|@cons i g ob l h _ ih=>
  intro id;simp only[Hp.get];by_cases hi:i=id
  .subst hi;rw[iP rfl];exact .inr ⟨g,ob,ob,h,rfl, .same ob⟩
  rw[iN hi];exact ih id
 |@less i g ob Gc l h h2 _ ih=>
  intro id;simp only[Hp.get];by_cases hi:i=id
  .subst hi;rw[iP rfl];exact .inr ⟨g,ob,Gc,h,rfl,h2⟩
  rw[iN hi];exact ih id
 |@gone i l _ ih=>
  intro id;simp only[Hp.get];by_cases hi:i=id
  .subst hi;rw[iP rfl];exact .inl rfl
  rw[iN hi];exact ih id
 |@opt i o l h _ ih=>
  intro id;simp only[Hp.get];by_cases hi:i=id
  .subst hi;rw[iP rfl];cases o with
   |none=>exact .inl rfl|some q=>exact .inr ⟨q.1,q.2,q.2,h,rfl, .same _⟩
  rw[iN hi];exact ih id
theorem BA.get {s:St} {hp':Hp} {l:List (Nat×AV)} (h:BA s hp' l):∀t,AC l t= .bad\/AC l t=AC s.tm t\/
  (Nj s.hp (AC s.tm t)/\AC l t=Ni s.hp (AC s.tm t)/\∀i∈P3 s.hp (AC s.tm t),hp'.get i=none):=by
 induction h with
 |nil=>exact fun _=> .inl rfl|@cons i x l h _ ih=>
  intro id;simp only[AC];by_cases hi:i=id
  .subst hi;rw[iP rfl];exact .inr (.inl h.symm)
  rw[iN hi];exact ih id
 |@snap i x l h1 h2 h3 _ ih=>
  intro id;simp only[AC];by_cases hi:i=id
  .subst hi;rw[iP rfl];exact .inr (.inr ⟨h1,h2.symm,h3⟩)
  rw[iN hi];exact ih id
theorem Jy.of {s s':St} (hc:s.ck<=s'.ck) (hh:AX s s'.hp s'.hp) (ht:BA s s'.hp s'.tm):Jy s s':=⟨hc,hh.get,ht.get⟩
theorem Aw {ι:Type} {c:Code} {Q:Exit->St->Prop} {s:St} (inv:ι->St) (ok:ι->Prop) (m:ι->Nat) (i0:ι) (h0:ok i0) (hw:Jy s (inv i0))
  (round:∀i,ok i->BD C c (N4 (fun s'=>∃j,ok j/\m j<m i/\Jy s' (inv j)) Q) (inv i)):BD C (.loop c) Q s:=by
 refine L3 hw (nY inv ok m i0 h0 fun i hi=>aW (round i hi) ?_);intro e s' h;cases e with
 |normal=>obtain⟨j,h1,h2,h3⟩:=h;exact⟨j,h1,h2,fun a w hr=>h3.rel hr⟩
 |_=>exact h
theorem Aj {c:Operand} {x y:Code} {Q:Exit->St->Prop} {s:St} (p:Prop) [Decidable p] (hc:s.ev c= .lit (.bool (decide p))) (ht:p->BD C x Q s) (hf:¬p->BD C y Q s):
  BD C (.cond c x y) Q s:=
 V5 (decide p) hc (fun h=>ht vy0) fun h=>hf vy0
end
open Go Go.Great
def fin (r:R) (dst:Option Nat) (s:St) (K:St->Prop):Prop:=r.1/\K (s.put dst r.2.1 r.2.2)
def cX (r:R) (acc:List Nat) (K:AV->List Up->List Nat->Prop):Prop:=r.1/\K r.2.1 r.2.2 acc
@[congr] theorem Qht {r r':R} {dst:Option Nat} {s:St} {K:St->Prop} (h:r=r'):fin r dst s K=fin r' dst s K:=xv5
@[congr] theorem Qhs {r r':R} {acc:List Nat} {K:AV->List Up->List Nat->Prop} (h:r=r'):cX r acc K=cX r' acc K:=xv5
def Cj (P:Program) (T:AE) (all:List Oper) (o:Oper) (Ae:List Oper) (s:St) (K:St->Prop):Prop:=KW P T o s fun s'=>DX P T all Ae s' K
def C0 (P:Program) (T:AE) (r:R) (dst:Option Nat) (all Ae:List Oper) (s:St) (K:St->Prop):Prop:=r.1/\DX P T all Ae (s.put dst r.2.1 r.2.2) K
def QX (P:Program) (T:AE) (f:FuncId) (g:Nat) (hp:Hp) (vs:List AV) (dst:Option Nat) (all Ae:List Oper) (s:St) (K:St->Prop):Prop:=
 IR P T f g hp vs fun v ups _=>DX P T all Ae (s.put dst v ups) K
def VK (P:Program) (T:AE) (v:AV) (g:Nat) (hp:Hp) (vs:List AV) (dst:Option Nat) (all Ae:List Oper) (s:St) (K:St->Prop):Prop:=
 match Nh v vs with
 |some (fid,vs)=>QX P T fid g hp vs dst all Ae s K|none=>False
theorem lh {P:Program} {T:AE} {fid g:Nat} {caps:List AV} {hp:Hp} {vs:List AV} {dst:Option Nat} {all Ae:List Oper} {s:St} {K:St->Prop}:
  VK P T (.fn fid caps) g hp vs dst all Ae s K=QX P T fid g hp (vs++caps) dst all Ae s K:=propext ⟨fun h=>h,fun h=>h⟩
def Io (P:Program) (T:AE) (all Ae:List Oper) (s:St) (acc:List Eo) (K:St->List Eo->Prop):Prop:=Ho P T all Ae s fun s' rs=>K s' (acc++rs)
def Dk (P:Program) (T:AE) (all:List Oper) (o:Oper) (Ae:List Oper) (s:St) (acc:List Eo) (K:St->List Eo->Prop):Prop:=
 LL P T o s fun v ups a=>Io P T all Ae (s.put o.dst v ups) (acc++[(ups.map (·.1),a)]) K
def EA (P:Program) (T:AE) (r:R) (a:List Nat) (dst:Option Nat) (all Ae:List Oper) (s:St) (acc:List Eo) (K:St->List Eo->Prop):Prop:=
 r.1/\Io P T all Ae (s.put dst r.2.1 r.2.2) (acc++[(r.2.2.map (·.1),a)]) K
def Z8 (P:Program) (T:AE) (f:FuncId) (g:Nat) (hp:Hp) (vs:List AV) (dst:Option Nat) (all Ae:List Oper) (s:St) (acc:List Eo) (K:St->List Eo->Prop):Prop:=
 IR P T f g hp vs fun v ups a=>Io P T all Ae (s.put dst v ups) (acc++[(ups.map (·.1),a)]) K
theorem c9 {P:Program} {T:AE} {p:Prop} {v:AV} {ups:List Up} {dst:Option Nat} {all Ae:List Oper} {s:St} {K:St->Prop}:C0 P T (p,v,ups) dst all Ae s K=(p/\DX P T all Ae (s.put dst v ups) K):=propext ⟨fun h=>h,fun h=>h⟩
theorem cY {P:Program} {T:AE} {p:Prop} {v:AV} {ups:List Up} {a:List Nat} {dst:Option Nat} {all Ae:List Oper} {s:St} {acc:List Eo} {K:St->List Eo->Prop}:EA P T (p,v,ups) a dst all Ae s acc K=(p/\Io P T all Ae (s.put dst v ups) (acc++[(ups.map (·.1),a)]) K):=propext ⟨fun h=>h,fun h=>h⟩
def gv (tm:List (Nat×AV)):Option Nat->Option AV
 |some d=>some (AC tm d)|none=>none
theorem eg {tm:List (Nat×AV)} {d:Nat}:gv tm (some d)=some (AC tm d):=rfl
theorem ec (tm:List (Nat×AV)):∀o:Option Nat,o.map (AC tm)=gv tm o
 |some _=>rfl|none=>rfl
def GO (P:Program) (T:AE) (x:Option AV) (want:Bool) (all:List Oper) (o:Oper) (Ae:List Oper) (s:St) (K:St->Prop):Prop:=
 GM x want (Cj P T all o Ae s K) (DX P T all Ae (s.put o.dst (.tup []) []) K)
def K6 (P:Program) (T:AE) (x:Option AV) (want:Bool) (all:List Oper) (o:Oper) (Ae:List Oper) (s:St) (acc:List Eo) (K:St->List Eo->Prop):Prop:=
 GM x want (Dk P T all o Ae s acc K) (Io P T all Ae (s.put o.dst (.tup []) []) (acc++[([],[])]) K)
section
variable {P:Program} {T:AE} {all Ae:List Oper} {o:Oper} {s:St} {K:St->Prop} {acc:List Eo} {KD:St->List Eo->Prop} {want:Bool}
theorem am:GO P T (some (.lit (.bool true))) true all o Ae s K=Cj P T all o Ae s K:=by simp[GO,GM,GK]
theorem ah:GO P T (some (.lit (.bool false))) false all o Ae s K=Cj P T all o Ae s K:=by simp[GO,GM,GK]
theorem al:GO P T (some (.lit (.bool true))) false all o Ae s K=DX P T all Ae (s.put o.dst (.tup []) []) K:=by simp[GO,GM,GK]
theorem ak:GO P T (some (.lit (.bool false))) true all o Ae s K=DX P T all Ae (s.put o.dst (.tup []) []) K:=by simp[GO,GM,GK]
theorem an:GO P T (some (.tup [])) want all o Ae s K=DX P T all Ae (s.put o.dst (.tup []) []) K:=propext ⟨fun h=>h,fun h=>h⟩
theorem ag:K6 P T (some (.lit (.bool true))) true all o Ae s acc KD=Dk P T all o Ae s acc KD:=by simp[K6,GM,GK]
theorem ac:K6 P T (some (.lit (.bool false))) false all o Ae s acc KD=Dk P T all o Ae s acc KD:=by simp[K6,GM,GK]
theorem af:K6 P T (some (.lit (.bool true))) false all o Ae s acc KD=Io P T all Ae (s.put o.dst (.tup []) []) (acc++[([],[])]) KD:=by simp[K6,GM,GK]
theorem ae:K6 P T (some (.lit (.bool false))) true all o Ae s acc KD=Io P T all Ae (s.put o.dst (.tup []) []) (acc++[([],[])]) KD:=by simp[K6,GM,GK]
end
section
variable {P:Program} {T:AE} {dst:Option Nat} {type:TypeId} {pos:String} {after:Array Edge} {guard:Option (Nat×Bool)} {s:St} {all Ae:List Oper} {K:St->Prop} {acc:List Eo} {KD:St->List Eo->Prop}
theorem mq (x:Operand):Cj P T all ⟨dst, .move x,type,pos,after,guard⟩ Ae s K=C0 P T (.val True (s.ev x)) dst all Ae s K:=propext ⟨fun h=>h,fun h=>h⟩
theorem lI (x:Operand):Dk P T all ⟨dst, .move x,type,pos,after,guard⟩ Ae s acc KD=EA P T (.val True (s.ev x)) ([]++[]) dst all Ae s acc KD:=propext ⟨fun h=>h,fun h=>h⟩
theorem my (c a b:Operand):Cj P T all ⟨dst, .pick c a b,type,pos,after,guard⟩ Ae s K=C0 P T ((match s.ev c with| .lit (.bool c)=> .val True (if c then s.ev a else s.ev b)|_=> .no)) dst all Ae s K:=propext ⟨fun h=>h,fun h=>h⟩
theorem lL (c a b:Operand):Dk P T all ⟨dst, .pick c a b,type,pos,after,guard⟩ Ae s acc KD=EA P T ((match s.ev c with| .lit (.bool c)=> .val True (if c then s.ev a else s.ev b)|_=> .no)) (((Op.operands (.pick c a b)).toList.flatMap fun x=>B6 (s.ev x))++[]) dst all Ae s acc KD:=propext ⟨fun h=>h,fun h=>h⟩
theorem lW (op:BinOp) (t:TypeId) (x y:Operand) (u:TypeId):Cj P T all ⟨dst, .binOp op t x y u,type,pos,after,guard⟩ Ae s K=C0 P T (N9 (Jh y) op (tl T t) (s.ev x) (La (IL y) op (tl T t) (s.ev x) (s.ev y))) dst all Ae s K:=propext ⟨fun h=>h,fun h=>h⟩
theorem lr (op:BinOp) (t:TypeId) (x y:Operand) (u:TypeId):Dk P T all ⟨dst, .binOp op t x y u,type,pos,after,guard⟩ Ae s acc KD=EA P T (N9 (Jh y) op (tl T t) (s.ev x) (La (IL y) op (tl T t) (s.ev x) (s.ev y))) (((Op.operands (.binOp op t x y u)).toList.flatMap fun x=>B6 (s.ev x))++[]) dst all Ae s acc KD:=propext ⟨fun h=>h,fun h=>h⟩
theorem mj (t:TypeId):Cj P T all ⟨dst, .makeMap t none,type,pos,after,guard⟩ Ae s K=C0 P T ((True, .mpO (100+dst.getD 0) s.ck,[((100+dst.getD 0),some (s.ck,if QB T t then .ms [] else .mp []))])) dst all Ae s K:=propext ⟨fun h=>h,fun h=>h⟩
theorem mg (t:TypeId) (m k:Operand):Cj P T all ⟨dst, .lookup t m k false,type,pos,after,guard⟩ Ae s K=C0 P T (ML T t s.hp (s.ev m) (s.ev k)) dst all Ae s K:=propext ⟨fun h=>h,fun h=>h⟩
theorem mh (t:TypeId) (m k:Operand):Cj P T all ⟨dst, .lookup t m k true,type,pos,after,guard⟩ Ae s K=C0 P T (MM T t s.hp (s.ev m) (s.ev k)) dst all Ae s K:=propext ⟨fun h=>h,fun h=>h⟩
theorem mn (t:TypeId) (m k v:Operand):Cj P T all ⟨dst, .mapUpdate t m k v,type,pos,after,guard⟩ Ae s K=C0 P T ((if QB T t then KY T t s.hp (s.ev m) (s.ev k) (s.ev v) else LM T t s.hp (s.ev m) (s.ev k) (s.ev v))) dst all Ae s K:=propext ⟨fun h=>h,fun h=>h⟩
theorem lG (t:TypeId) (m k v:Operand):Dk P T all ⟨dst, .mapUpdate t m k v,type,pos,after,guard⟩ Ae s acc KD=EA P T ((if QB T t then KY T t s.hp (s.ev m) (s.ev k) (s.ev v) else LM T t s.hp (s.ev m) (s.ev k) (s.ev v))) (((Op.operands (.mapUpdate t m k v)).toList.flatMap fun x=>B6 (s.ev x))++[]) dst all Ae s acc KD:=propext ⟨fun h=>h,fun h=>h⟩
theorem mw (t:TypeId) (x:Operand):Cj P T all ⟨dst, .unOp .not t x,type,pos,after,guard⟩ Ae s K=C0 P T ((match s.ev x with| .lit (.bool b)=> .val True (.lit (.bool (!b)))|_=> .no)) dst all Ae s K:=propext ⟨fun h=>h,fun h=>h⟩
theorem lK (t:TypeId) (x:Operand):Dk P T all ⟨dst, .unOp .not t x,type,pos,after,guard⟩ Ae s acc KD=EA P T ((match s.ev x with| .lit (.bool b)=> .val True (.lit (.bool (!b)))|_=> .no)) (((Op.operands (.unOp .not t x)).toList.flatMap fun x=>B6 (s.ev x))++[]) dst all Ae s acc KD:=propext ⟨fun h=>h,fun h=>h⟩
theorem mr (t:TypeId) (x:Operand):Cj P T all ⟨dst, .unOp .neg t x,type,pos,after,guard⟩ Ae s K=C0 P T ((match s.ev x with| .lit (.int k n)=>LZ k (0 - n)|_=> .no)) dst all Ae s K:=propext ⟨fun h=>h,fun h=>h⟩
theorem mu (x:Operand):Cj P T all ⟨dst, .nilCheck x,type,pos,after,guard⟩ Ae s K=C0 P T ((match s.ev x with| .gl n=> .val True (.gl n)| .P cs=> .val True (.P cs)| .p id g n i off=> .val (s.hp.has id g n) (.p id g n i off)|_=> .no)) dst all Ae s K:=propext ⟨fun h=>h,fun h=>h⟩
theorem lJ (x:Operand):Dk P T all ⟨dst, .nilCheck x,type,pos,after,guard⟩ Ae s acc KD=EA P T ((match s.ev x with| .gl n=> .val True (.gl n)| .P cs=> .val True (.P cs)| .p id g n i off=> .val (s.hp.has id g n) (.p id g n i off)|_=> .no)) (((Op.operands (.nilCheck x)).toList.flatMap fun x=>B6 (s.ev x))++[]) dst all Ae s acc KD:=propext ⟨fun h=>h,fun h=>h⟩
theorem ma (x:Operand) (i:Nat):Cj P T all ⟨dst, .extract x i,type,pos,after,guard⟩ Ae s K=C0 P T ((match s.ev x with| .tup vs=> .val (i<vs.length) (vs.getD i .bad)|_=> .no)) dst all Ae s K:=propext ⟨fun h=>h,fun h=>h⟩
theorem lz (x:Operand) (i:Nat):Dk P T all ⟨dst, .extract x i,type,pos,after,guard⟩ Ae s acc KD=EA P T ((match s.ev x with| .tup vs=> .val (i<vs.length) (vs.getD i .bad)|_=> .no)) ([]++[]) dst all Ae s acc KD:=propext ⟨fun h=>h,fun h=>h⟩
theorem mf (t:TypeId) (x:Operand):Cj P T all ⟨dst, .load t x,type,pos,after,guard⟩ Ae s K=C0 P T (NW (tl T t) (100+dst.getD 0) s.ck s.hp (glob T (s.ev x))) dst all Ae s K:=propext ⟨fun h=>h,fun h=>h⟩
theorem lD (t:TypeId) (x:Operand):Dk P T all ⟨dst, .load t x,type,pos,after,guard⟩ Ae s acc KD=EA P T (NW (tl T t) (100+dst.getD 0) s.ck s.hp (glob T (s.ev x))) (((Op.operands (.load t x)).toList.flatMap fun x=>B6 (s.ev x))++[]) dst all Ae s acc KD:=propext ⟨fun h=>h,fun h=>h⟩
theorem mA (t:TypeId) (x y:Operand):Cj P T all ⟨dst, .store t x y,type,pos,after,guard⟩ Ae s K=C0 P T (NX (tl T t) s.hp (s.ev y) (s.ev x)) dst all Ae s K:=propext ⟨fun h=>h,fun h=>h⟩
theorem lN (t:TypeId) (x y:Operand):Dk P T all ⟨dst, .store t x y,type,pos,after,guard⟩ Ae s acc KD=EA P T (NX (tl T t) s.hp (s.ev y) (s.ev x)) (((Op.operands (.store t x y)).toList.flatMap fun x=>B6 (s.ev x))++[]) dst all Ae s acc KD:=propext ⟨fun h=>h,fun h=>h⟩
theorem md (t:TypeId) (x y:Operand):Cj P T all ⟨dst, .indexAddr t x y,type,pos,after,guard⟩ Ae s K=C0 P T (Fx (tl T t) (tl T (Sym.elemOf T t)) s.hp (glob T (s.ev x)) (s.ev y)) dst all Ae s K:=propext ⟨fun h=>h,fun h=>h⟩
theorem lB (t:TypeId) (x y:Operand):Dk P T all ⟨dst, .indexAddr t x y,type,pos,after,guard⟩ Ae s acc KD=EA P T (Fx (tl T t) (tl T (Sym.elemOf T t)) s.hp (glob T (s.ev x)) (s.ev y)) (((Op.operands (.indexAddr t x y)).toList.flatMap fun x=>B6 (s.ev x))++[]) dst all Ae s acc KD:=propext ⟨fun h=>h,fun h=>h⟩
theorem mb (t:TypeId) (x:Operand) (i:Nat):Cj P T all ⟨dst, .fieldAddr t x i,type,pos,after,guard⟩ Ae s K=C0 P T (MK T t i s.hp (glob T (s.ev x))) dst all Ae s K:=propext ⟨fun h=>h,fun h=>h⟩
theorem lA (t:TypeId) (x:Operand) (i:Nat):Dk P T all ⟨dst, .fieldAddr t x i,type,pos,after,guard⟩ Ae s acc KD=EA P T (MK T t i s.hp (glob T (s.ev x))) (((Op.operands (.fieldAddr t x i)).toList.flatMap fun x=>B6 (s.ev x))++[]) dst all Ae s acc KD:=propext ⟨fun h=>h,fun h=>h⟩
theorem mc (t:TypeId) (x y:Operand):Cj P T all ⟨dst, .index t x y,type,pos,after,guard⟩ Ae s K=C0 P T (NV T t (s.ev x) (s.ev y)) dst all Ae s K:=propext ⟨fun h=>h,fun h=>h⟩
theorem mz (t:TypeId) (x:Operand) (lo hi mx:Option Operand):Cj P T all ⟨dst, .slice t x lo hi mx,type,pos,after,guard⟩ Ae s K=C0 P T (Ka T t s.ck s.hp (lo.map s.ev) (hi.map s.ev) (mx.map s.ev) (s.ev x)) dst all Ae s K:=propext ⟨fun h=>h,fun h=>h⟩
theorem lM (t:TypeId) (x:Operand) (lo hi mx:Option Operand):Dk P T all ⟨dst, .slice t x lo hi mx,type,pos,after,guard⟩ Ae s acc KD=EA P T (Ka T t s.ck s.hp (lo.map s.ev) (hi.map s.ev) (mx.map s.ev) (s.ev x)) (((Op.operands (.slice t x lo hi mx)).toList.flatMap fun x=>B6 (s.ev x))++[]) dst all Ae s acc KD:=propext ⟨fun h=>h,fun h=>h⟩
theorem mi (f:FuncId) (caps:Array Operand):Cj P T all ⟨dst, .makeFunc (.func f) #[] caps,type,pos,after,guard⟩ Ae s K=C0 P T (.val True (.fn f (caps.toList.map s.ev))) dst all Ae s K:=propext ⟨fun h=>h,fun h=>h⟩
theorem lE (f:FuncId) (caps:Array Operand):Dk P T all ⟨dst, .makeFunc (.func f) #[] caps,type,pos,after,guard⟩ Ae s acc KD=EA P T (.val True (.fn f (caps.toList.map s.ev))) (((Op.operands (.makeFunc (.func f) #[] caps)).toList.flatMap fun x=>B6 (s.ev x))++[]) dst all Ae s acc KD:=propext ⟨fun h=>h,fun h=>h⟩
theorem mm (t:TypeId) (l c:Operand):Cj P T all ⟨dst, .makeSlice t l c,type,pos,after,guard⟩ Ae s K=C0 P T ((match (tl T t).ty,s.ev l,s.ev c with
  | .slice e, .lit (.int _ l), .lit (.int _ c)=>(0<=l/\l<=c/\c*(tl T e).bytes<=140737488355328/\c<=9223372036854775807/\(tl T e).size≠0, .l (100+dst.getD 0) s.ck 0 l.toNat,[((100+dst.getD 0),some (s.ck, .own e (tl T e).size (List.replicate l.toNat (tl T e).zav)))])
  |_,_,_=> .no)) dst all Ae s K:=propext ⟨fun h=>h,fun h=>h⟩
theorem lF (t:TypeId) (l c:Operand):Dk P T all ⟨dst, .makeSlice t l c,type,pos,after,guard⟩ Ae s acc KD=EA P T ((match (tl T t).ty,s.ev l,s.ev c with
  | .slice e, .lit (.int _ l), .lit (.int _ c)=>(0<=l/\l<=c/\c*(tl T e).bytes<=140737488355328/\c<=9223372036854775807/\(tl T e).size≠0, .l (100+dst.getD 0) s.ck 0 l.toNat,[((100+dst.getD 0),some (s.ck, .own e (tl T e).size (List.replicate l.toNat (tl T e).zav)))])
  |_,_,_=> .no)) (((Op.operands (.makeSlice t l c)).toList.flatMap fun x=>B6 (s.ev x))++[]) dst all Ae s acc KD:=propext ⟨fun h=>h,fun h=>h⟩
theorem lZ (t:TypeId) (n:Nat) (ps:Array (Nat×Operand)):Cj P T all ⟨dst, .buildSlice t n ps,type,pos,after,guard⟩ Ae s K=C0 P T ((match (tl T t).ty with
  | .slice el=>
  (Jl n ps.toList=true/\(tl T el).size≠0/\n*(tl T el).size<=16777216/\(∀v∈ps.toList.map fun p=>s.ev p.2,v.cells.length=(tl T el).size/\∀c∈v.cells,c.one=true/\c.noKid=true),
   .l (100+dst.getD 0) s.ck 0 n,[((100+dst.getD 0),some (s.ck, .own el (tl T el).size (ps.toList.map fun p=>s.ev p.2)))])
  |_=> .no)) dst all Ae s K:=propext ⟨fun h=>h,fun h=>h⟩
theorem lx (t:TypeId) (n:Nat) (ps:Array (Nat×Operand)):Dk P T all ⟨dst, .buildSlice t n ps,type,pos,after,guard⟩ Ae s acc KD=EA P T ((match (tl T t).ty with
  | .slice el=>
  (Jl n ps.toList=true/\(tl T el).size≠0/\n*(tl T el).size<=16777216/\(∀v∈ps.toList.map fun p=>s.ev p.2,v.cells.length=(tl T el).size/\∀c∈v.cells,c.one=true/\c.noKid=true),
   .l (100+dst.getD 0) s.ck 0 n,[((100+dst.getD 0),some (s.ck, .own el (tl T el).size (ps.toList.map fun p=>s.ev p.2)))])
  |_=> .no)) (((Op.operands (.buildSlice t n ps)).toList.flatMap fun x=>B6 (s.ev x))++[]) dst all Ae s acc KD:=propext ⟨fun h=>h,fun h=>h⟩
theorem lQ (t:TypeId):Cj P T all ⟨dst, .alloc t,type,pos,after,guard⟩ Ae s K=C0 P T ((match (tl T t).ty with
  | .bld e=>((tl T t).size≠0/\(tl T t).zs=[.ptr, .sl]/\(tl T t).agg=true, .p (100+dst.getD 0) s.ck 0 0 0,[((100+dst.getD 0),some (s.ck, .bd t e []))])
  |_=>((tl T t).size≠0, .p (100+dst.getD 0) s.ck 0 0 0,[((100+dst.getD 0),some (s.ck, .box (tl T t).zav.cells))]))) dst all Ae s K:=propext ⟨fun h=>h,fun h=>h⟩
theorem li (t:TypeId):Dk P T all ⟨dst, .alloc t,type,pos,after,guard⟩ Ae s acc KD=EA P T ((match (tl T t).ty with
  | .bld e=>((tl T t).size≠0/\(tl T t).zs=[.ptr, .sl]/\(tl T t).agg=true, .p (100+dst.getD 0) s.ck 0 0 0,[((100+dst.getD 0),some (s.ck, .bd t e []))])
  |_=>((tl T t).size≠0, .p (100+dst.getD 0) s.ck 0 0 0,[((100+dst.getD 0),some (s.ck, .box (tl T t).zav.cells))]))) (((Op.operands (.alloc t)).toList.flatMap fun x=>B6 (s.ev x))++[]) dst all Ae s acc KD:=propext ⟨fun h=>h,fun h=>h⟩
theorem lX (t:TypeId) (x:Operand):Cj P T all ⟨dst, .box t x,type,pos,after,guard⟩ Ae s K=C0 P T ((((s.ev x).cells.length=(tl T t).size/\∀c∈(s.ev x).cells,c.one=true/\c.noKid=true), .p (100+dst.getD 0) s.ck 0 0 0,[((100+dst.getD 0),some (s.ck, .box (s.ev x).cells))])) dst all Ae s K:=propext ⟨fun h=>h,fun h=>h⟩
theorem lu (t:TypeId) (x:Operand):Dk P T all ⟨dst, .box t x,type,pos,after,guard⟩ Ae s acc KD=EA P T ((((s.ev x).cells.length=(tl T t).size/\∀c∈(s.ev x).cells,c.one=true/\c.noKid=true), .p (100+dst.getD 0) s.ck 0 0 0,[((100+dst.getD 0),some (s.ck, .box (s.ev x).cells))])) (((Op.operands (.box t x)).toList.flatMap fun x=>B6 (s.ev x))++[]) dst all Ae s acc KD:=propext ⟨fun h=>h,fun h=>h⟩
theorem lY (t:TypeId) (ps:Array (Nat×Operand)):Cj P T all ⟨dst, .build t ps,type,pos,after,guard⟩ Ae s K=C0 P T ((match (tl T t).ty with
  | .struct fs=>
   (∀p∈ps.toList,p.1<fs.length/\(tl T (fs.getD p.1 (0,0)).2).size≠0/\(s.ev p.2).cells.length=(tl T (fs.getD p.1 (0,0)).2).size/\(fs.getD p.1 (0,0)).1+(tl T (fs.getD p.1 (0,0)).2).size<=(tl T t).size/\(∀c∈(s.ev p.2).cells,c.one=true),
    .agg (ps.toList.foldl (fun cs p=>DL cs (fs.getD p.1 (0,0)).1 (s.ev p.2).cells) ((tl T t).zs.map ZC.av)),[])
  | .array n el=>
   (ps.toList≠[]/\∀p∈ps.toList,p.1<n/\(tl T el).size≠0/\(s.ev p.2).cells.length=(tl T el).size/\p.1*(tl T el).size+(tl T el).size<=(tl T t).size/\(∀c∈(s.ev p.2).cells,c.one=true),
    .agg (ps.toList.foldl (fun cs p=>DL cs (p.1*(tl T el).size) (s.ev p.2).cells) ((tl T t).zs.map ZC.av)),[])
  |_=> .no)) dst all Ae s K:=propext ⟨fun h=>h,fun h=>h⟩
theorem lw (t:TypeId) (ps:Array (Nat×Operand)):Dk P T all ⟨dst, .build t ps,type,pos,after,guard⟩ Ae s acc KD=EA P T ((match (tl T t).ty with
  | .struct fs=>
   (∀p∈ps.toList,p.1<fs.length/\(tl T (fs.getD p.1 (0,0)).2).size≠0/\(s.ev p.2).cells.length=(tl T (fs.getD p.1 (0,0)).2).size/\(fs.getD p.1 (0,0)).1+(tl T (fs.getD p.1 (0,0)).2).size<=(tl T t).size/\(∀c∈(s.ev p.2).cells,c.one=true),
    .agg (ps.toList.foldl (fun cs p=>DL cs (fs.getD p.1 (0,0)).1 (s.ev p.2).cells) ((tl T t).zs.map ZC.av)),[])
  | .array n el=>
   (ps.toList≠[]/\∀p∈ps.toList,p.1<n/\(tl T el).size≠0/\(s.ev p.2).cells.length=(tl T el).size/\p.1*(tl T el).size+(tl T el).size<=(tl T t).size/\(∀c∈(s.ev p.2).cells,c.one=true),
    .agg (ps.toList.foldl (fun cs p=>DL cs (p.1*(tl T el).size) (s.ev p.2).cells) ((tl T t).zs.map ZC.av)),[])
  |_=> .no)) (((Op.operands (.build t ps)).toList.flatMap fun x=>B6 (s.ev x))++[]) dst all Ae s acc KD:=propext ⟨fun h=>h,fun h=>h⟩
theorem l9 (t u:TypeId) (x:Operand):Cj P T all ⟨dst, .convert t u x,type,pos,after,guard⟩ Ae s K=C0 P T ((match (tl T t).ty,(tl T u).ty,s.ev x with
  | .int _, .int k, .lit (.int _ n)=> .val True (.lit (.int k (k.wrap n)))| .str, .slice e, .lit (.string b)=>match (tl T e).ty with
   | .int .u8=>(b.data.toList.length<=9223372036854775807/\e=5, .l (100+dst.getD 0) s.ck 0 b.data.toList.length,[((100+dst.getD 0),some (s.ck, .own e 1 (b.data.toList.map Dr)))])|_=> .no
  | .slice e, .str,v=>match (tl T e).ty,Hj s.hp v with
   | .int .u8,some ys=>match bytesOf ys with
    |some bs=> .val (Jo s.hp v) (.lit (.string (strOf bs)))|none=> .no
   |_,_=> .no
  |_,_,_=> .no)) dst all Ae s K:=propext ⟨fun h=>h,fun h=>h⟩
theorem me (x:Operand) (t:TypeId):Cj P T all ⟨dst, .call {callee:= .builtin .len,args:=#[x],argTypes:=#[t]},type,pos,after,guard⟩ Ae s K=C0 P T (KX T t s.hp (s.ev x)) dst all Ae s K:=propext ⟨fun h=>h,fun h=>h⟩
theorem lC (x:Operand) (t:TypeId):Dk P T all ⟨dst, .call {callee:= .builtin .len,args:=#[x],argTypes:=#[t]},type,pos,after,guard⟩ Ae s acc KD=EA P T (KX T t s.hp (s.ev x)) (((Op.operands (.call {callee:= .builtin .len,args:=#[x],argTypes:=#[t]})).toList.flatMap fun x=>B6 (s.ev x))++[]) dst all Ae s acc KD:=propext ⟨fun h=>h,fun h=>h⟩
theorem lS (d x:Operand) (t u:TypeId):Cj P T all ⟨dst, .call {callee:= .builtin .append,args:=#[d,x],argTypes:=#[t,u]},type,pos,after,guard⟩ Ae s K=C0 P T ((match (tl T t).ty with| .slice _=>(u=t/\(J9 T t (100+dst.getD 0) s.ck s.hp (s.ev d) (s.ev x)).1,(J9 T t (100+dst.getD 0) s.ck s.hp (s.ev d) (s.ev x)).2)|_=> .no)) dst all Ae s K:=propext ⟨fun h=>h,fun h=>h⟩
theorem lj (d x:Operand) (t u:TypeId):Dk P T all ⟨dst, .call {callee:= .builtin .append,args:=#[d,x],argTypes:=#[t,u]},type,pos,after,guard⟩ Ae s acc KD=EA P T ((match (tl T t).ty with| .slice _=>(u=t/\(J9 T t (100+dst.getD 0) s.ck s.hp (s.ev d) (s.ev x)).1,(J9 T t (100+dst.getD 0) s.ck s.hp (s.ev d) (s.ev x)).2)|_=> .no)) (((Op.operands (.call {callee:= .builtin .append,args:=#[d,x],argTypes:=#[t,u]})).toList.flatMap fun x=>B6 (s.ev x))++Pr s.hp (s.ev x)) dst all Ae s acc KD:=propext ⟨fun h=>h,fun h=>h⟩
theorem l8 (d:Operand) (t:TypeId):Cj P T all ⟨dst, .call {callee:= .builtin .clear,args:=#[d],argTypes:=#[t]},type,pos,after,guard⟩ Ae s K=C0 P T (Pf T t s.hp (s.ev d)) dst all Ae s K:=propext ⟨fun h=>h,fun h=>h⟩
theorem Qhm (d x:Operand) (t u:TypeId):Cj P T all ⟨dst, .call {callee:= .builtin .min,args:=#[d,x],argTypes:=#[t,u]},type,pos,after,guard⟩ Ae s K=C0 P T ((match s.ev d,s.ev x with| .lit (.int k a), .lit (.int _ b)=> .val True (.lit (.int k (if b<a then b else a)))|_,_=> .no)) dst all Ae s K:=propext ⟨fun h=>h,fun h=>h⟩
theorem lH (d x:Operand) (t u:TypeId):Dk P T all ⟨dst, .call {callee:= .builtin .min,args:=#[d,x],argTypes:=#[t,u]},type,pos,after,guard⟩ Ae s acc KD=EA P T ((match s.ev d,s.ev x with| .lit (.int k a), .lit (.int _ b)=> .val True (.lit (.int k (if b<a then b else a)))|_,_=> .no)) (((Op.operands (.call {callee:= .builtin .min,args:=#[d,x],argTypes:=#[t,u]})).toList.flatMap fun x=>B6 (s.ev x))++[]) dst all Ae s acc KD:=propext ⟨fun h=>h,fun h=>h⟩
theorem mo (d x:Operand) (t u:TypeId):Cj P T all ⟨dst, .call {callee:= .builtin .max,args:=#[d,x],argTypes:=#[t,u]},type,pos,after,guard⟩ Ae s K=C0 P T ((match s.ev d,s.ev x with| .lit (.int k a), .lit (.int _ b)=> .val True (.lit (.int k (if a<b then b else a)))|_,_=> .no)) dst all Ae s K:=propext ⟨fun h=>h,fun h=>h⟩
theorem lV (t:Nat):Cj P T all ⟨dst, .assign (.tmp t),type,pos,after,guard⟩ Ae s K=C0 P T (.val True (s.ev (.tmp t))) dst all Ae s K:=propext ⟨fun h=>h,fun h=>h⟩
theorem lq (t:Nat):Dk P T all ⟨dst, .assign (.tmp t),type,pos,after,guard⟩ Ae s acc KD=EA P T (.val True (s.ev (.tmp t))) (((Op.operands (.assign (.tmp t))).toList.flatMap fun x=>B6 (s.ev x))++[]) dst all Ae s acc KD:=propext ⟨fun h=>h,fun h=>h⟩
theorem lU (t:Nat):Cj P T all ⟨dst, .assign (.func t),type,pos,after,guard⟩ Ae s K=C0 P T (.val True (s.ev (.func t))) dst all Ae s K:=propext ⟨fun h=>h,fun h=>h⟩
theorem lT (v:Value):Cj P T all ⟨dst, .assign (.const v),type,pos,after,guard⟩ Ae s K=
  C0 P T (match Operand.const v,(tl T type).ty with
  | .const (.slice none 0 0), .slice e=>((tl T e).size≠0, .l (100+dst.getD 0) s.ck 0 0,[((100+dst.getD 0),some (s.ck, .own e (tl T e).size []))])
  |_,_=> .val True (s.ev (.const v))) dst all Ae s K:=propext ⟨fun h=>h,fun h=>h⟩
theorem lm (v:Value):Dk P T all ⟨dst, .assign (.const v),type,pos,after,guard⟩ Ae s acc KD=
  EA P T (match Operand.const v,(tl T type).ty with
  | .const (.slice none 0 0), .slice e=>((tl T e).size≠0, .l (100+dst.getD 0) s.ck 0 0,[((100+dst.getD 0),some (s.ck, .own e (tl T e).size []))])
  |_,_=> .val True (s.ev (.const v))) (((Op.operands (.assign (.const v))).toList.flatMap fun x=>B6 (s.ev x))++[]) dst all Ae s acc KD:=propext ⟨fun h=>h,fun h=>h⟩
theorem l6 (f:FuncId) (args:Array Operand) (at_:Array TypeId):Cj P T all ⟨dst, .call {callee:= .value (.func f),args:=args,argTypes:=at_},type,pos,after,guard⟩ Ae s K=
  QX P T f s.ck s.hp (args.toList.map s.ev) dst all Ae s K:=by
 simp only[Cj,QX,KW,St.ev,Mf,Nh,List.append_nil]
theorem l7 (t:Nat) (args:Array Operand) (at_:Array TypeId):Cj P T all ⟨dst, .call {callee:= .value (.tmp t),args:=args,argTypes:=at_},type,pos,after,guard⟩ Ae s K=
  VK P T (s.ev (.tmp t)) s.ck s.hp (args.toList.map s.ev) dst all Ae s K:=by
 simp only[Cj,VK,QX,KW,Mf]<;>(cases s.ev (.tmp t)<;>rfl)
theorem ly (f:FuncId) (args:Array Operand) (at_:Array TypeId):Dk P T all ⟨dst, .call {callee:= .value (.func f),args:=args,argTypes:=at_},type,pos,after,guard⟩ Ae s acc KD=
  Z8 P T f s.ck s.hp (args.toList.map s.ev) dst all Ae s acc KD:=by
 simp only[Dk,Z8,LL,St.ev,Nh,List.append_nil]
theorem QbY {tm:List (Nat×AV)} {hp:Hp} {ck d:Nat} {v:AV} {ups:List Up}:St.put ⟨tm,hp,ck⟩ (some d) v ups=⟨(d,v)::tm,ups++hp,ck+1⟩:=rfl
theorem QbW {tm:List (Nat×AV)} {hp:Hp} {ck:Nat} {v:AV} {ups:List Up}:St.put ⟨tm,hp,ck⟩ none v ups=⟨tm,ups++hp,ck+1⟩:=rfl
theorem qD {tm:List (Nat×AV)} {hp:Hp} {ck t:Nat}:St.ev ⟨tm,hp,ck⟩ (.tmp t)=AC tm t:=rfl
theorem qA {s:St} {v:Value}:St.ev s (.const v)=ofV v:=rfl
theorem qC {s:St} {n:Nat}:St.ev s (.global n)= .gl n:=rfl
theorem qB {s:St} {f:Nat}:St.ev s (.func f)= .fn f []:=rfl
theorem Qau {k:IntKind} {n:Int}:ofV (.int k n)= .lit (.int k n):=rfl
theorem Qat {b:Bool}:ofV (.bool b)= .lit (.bool b):=rfl
theorem Qax {b:ByteArray}:ofV (.string b)= .lit (.string b):=rfl
theorem Qav:ofV (.slice none 0 0)= .sl [] true:=rfl
theorem Qaw:ofV (.pointer none)= .lit (.pointer none):=rfl
theorem Qa8:DX P T all [] s K=K s:=propext ⟨fun h=>h,fun h=>h⟩
theorem Qa6 {op:Op}:DX P T all (⟨dst,op,type,pos,after,none⟩::Ae) s K=Cj P T all ⟨dst,op,type,pos,after,none⟩ Ae s K:=propext ⟨fun h=>h,fun h=>h⟩
theorem Qa7 {op:Op} {j:Nat} {want:Bool}:DX P T all (⟨dst,op,type,pos,after,some (j,want)⟩::Ae) s K=
  GO P T (gv s.tm (IX all j)) want all ⟨dst,op,type,pos,after,some (j,want)⟩ Ae s K:=by
 rw[<-ec];rfl
theorem Qa5:Io P T all [] s acc KD=KD s acc:=by simp only[Io,Ho,List.append_nil]
theorem Qa3 {op:Op}:Io P T all (⟨dst,op,type,pos,after,none⟩::Ae) s acc KD=Dk P T all ⟨dst,op,type,pos,after,none⟩ Ae s acc KD:=by simp only[Io,Dk,Ho,List.append_assoc,List.singleton_append]
theorem Qa4 {op:Op} {j:Nat} {want:Bool}:Io P T all (⟨dst,op,type,pos,after,some (j,want)⟩::Ae) s acc KD=
  K6 P T (gv s.tm (IX all j)) want all ⟨dst,op,type,pos,after,some (j,want)⟩ Ae s acc KD:=by
 simp only[<-ec,K6,Io,Dk,Ho,List.append_assoc,List.singleton_append]
end
end Go.Sym
